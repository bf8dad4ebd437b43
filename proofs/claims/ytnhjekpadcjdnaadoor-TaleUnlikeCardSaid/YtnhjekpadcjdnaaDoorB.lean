/- Commands and their lines: numbers of words, bytes of words. -/
import Derived.Test.YtnhjekpadcjdnaaDoorShelf
import Derived.Test.YtnhjekpadcjdnaaDoorA
import Derived.WalkKit
import Derived.BigCall
import Derived.BigQuiet
import Derived.Deep.QuietTactic
import Derived.Lib.Hide
import Derived.Lib.ConvBytes
import Derived.Lib.ParseIntBTie
import Derived.Laws.OwnMore
import Derived.Laws.BitsLemmas
import Derived.OneCell
namespace Go.Proofs.YtnhjekpadcjdnaaDoor.T
open Go Go.RowKit
set_option linter.unusedVariables false
set_option linter.unusedSimpArgs false
set_option maxRecDepth 100000

/-! ### what the library's variables hold -/
theorem var_below {P : Program} {w w1 : World} (hb : Below w.heap.size w w1) {n : String} {cs : Array Value} (h : w.var? P n = some cs) : w1.var? P n = some cs := by
  unfold World.var? at h ⊢
  cases hg : P.globalNamed n with
  | none => simp [hg] at h
  | some g =>
    simp only [hg, Option.bind_some] at h ⊢
    have hlt : g < w.heap.size := by
      rcases Nat.lt_or_ge g w.heap.size with h' | h'
      · exact h'
      · simp [Array.getElem?_eq_none h'] at h
    rw [hb.block g hlt]
    exact h
structure Env (w : World) : Prop where
  tab : Lib.TabIs Tryd.prog w "internal/strconv.uint64pow10" .u64 Lib.pow10Tab
  syn : ∃ tp p, w.var? Tryd.prog "strconv.ErrSyntax" = some #[.iface tp p]
  rng : ∃ tp p, w.var? Tryd.prog "strconv.ErrRange" = some #[.iface tp p]
  ml : ∃ m, w.cell? ⟨1, 0, none⟩ = some (.int .i64 m)
theorem Env.below {w w1 : World} (h : Env w) (hb : Below w.heap.size w w1) : Env w1 where
  tab := var_below hb h.tab
  syn := let ⟨tp, p, e⟩ := h.syn; ⟨tp, p, var_below hb e⟩
  rng := let ⟨tp, p, e⟩ := h.rng; ⟨tp, p, var_below hb e⟩
  ml := by
    obtain ⟨m, hm⟩ := h.ml
    exact ⟨m, by rw [hb.cell (p := ⟨1, 0, none⟩) (World.block_lt_of_cell? _ _ hm)]; exact hm⟩

/-! ### Below, step by step -/
theorem bl_alloc {B : Nat} {w W : World} (h : Below B w W) (hw : B ≤ w.heap.size) (o : Obj) : Below B w (W.alloc o) := h.alloc (Nat.le_trans hw h.size) o
theorem bl_a {w W : World} {o : Obj} (h : Below w.heap.size w W) : Below w.heap.size w (W.alloc o) := h.alloc h.size o
theorem bl_d {w W : World} (h : Below w.heap.size w W) : Below w.heap.size w W.drew := h.drew
theorem bl_t {w W W1 : World} (h : Below w.heap.size w W) (k : Below W.heap.size W W1) : Below w.heap.size w W1 := h.trans (k.mono h.size)
theorem bl_s {w W : World} {p : Addr} {u : Value} (h : Below w.heap.size w W) (hp : w.heap.size ≤ p.block) : Below w.heap.size w (W.setCell p u) := h.setCell hp u
theorem bl_n {B : Nat} {a w : World} (h : Below B a w) (n : Nat) : Below B a (w.drewN n) := h.trans ⟨rfl, rfl, rfl, Nat.le_refl _, fun _ _ => rfl⟩
theorem bl_g {w w1 : World} (h : ∃ k os, w1 = Sort.grow (w.drewN k) os) : Below w.heap.size w w1 := by
  obtain ⟨k, os, rfl⟩ := h
  refine ⟨rfl, rfl, rfl, by simp [Sort.grow], fun i hi => ?_⟩
  simp only [Sort.grow]
  rw [Array.getElem?_append_left (by simpa using hi)]
  rfl

/-! ### a number of a word -/
set_option maxHeartbeats 1000000 in
theorem number64_calls (s : ByteArray) (w : World) (E : Env w) (hs : s.size ≤ 281474976710656) :
    Calls Tryd.prog 24 #[.string s, .int .i64 64] w fun e w' => e = .returned (.tuple #[.int .i64 (numV 64 s.data.toList), .bool (numB 64 s.data.toList)]) ∧ Below w.heap.size w w' := by
  unfold numV numB
  cases h : Lib.parseIntB 64 s.data.toList with
  | ok v =>
    have hv := Lib.parseIntB_bounds h
    replace h := Lib.hid h
    go_enter Tryd.func24, Tryd.ntmps24
    go_wp2_with fail
    refine (Tryd.strconv_ParseInt_10_at64_ok s (by omega) v h.out _).mono ?_
    rintro e w1 ⟨rfl, hw⟩
    have hb1 : Below w.heap.size w w1 := by
      rcases hw with rfl | ⟨t, rfl⟩
      · exact Below.refl _ _
      · exact Lib.bytesWorld_below _ _ _
    have E1 := E.below hb1
    clear hw E
    have hv1 : -9223372036854775808 ≤ v := by have := hv.1; simp at this; omega
    have hv2 : v ≤ 9223372036854775807 := by have := hv.2; simp at this; omega
    clear hv
    go_wp2_with fail
    refine (Tryd.strconv_FormatInt_10 v hv1 hv2 _ E1.tab).mono ?_
    rintro e w2 ⟨rfl, hg⟩
    have hb2 := bl_g hg
    clear hg
    go_wp2
    go_ret2
    exact ⟨by simp only [Lib.toList_data]; rfl, bl_t hb1 hb2⟩
  | range =>
    obtain ⟨tp, p, hE⟩ := E.rng
    replace hE := Lib.hid hE
    replace h := Lib.hid h
    go_enter Tryd.func24, Tryd.ntmps24
    go_wp2_with fail
    refine (Tryd.strconv_ParseInt_10_at64_range_var s hs h.out tp p _ hE.out).mono ?_
    rintro e w1 ⟨N, rfl, h1, h2, hb⟩
    go_wp2
    go_ret2
    exact ⟨rfl, hb⟩
  | _ =>
    obtain ⟨tp, p, hE⟩ := E.syn
    replace hE := Lib.hid hE
    replace h := Lib.hid h
    go_enter Tryd.func24, Tryd.ntmps24
    go_wp2_with fail
    refine (Tryd.strconv_ParseInt_10_at64_syntax_var s hs h.out tp p _ hE.out).mono ?_
    rintro e w1 ⟨N, rfl, h1, h2, hb⟩
    go_wp2
    go_ret2
    exact ⟨rfl, hb⟩
set_option maxHeartbeats 1000000 in
theorem number32_calls (s : ByteArray) (w : World) (E : Env w) (hs : s.size ≤ 281474976710656) :
    Calls Tryd.prog 24 #[.string s, .int .i64 32] w fun e w' => e = .returned (.tuple #[.int .i64 (numV 32 s.data.toList), .bool (numB 32 s.data.toList)]) ∧ Below w.heap.size w w' := by
  unfold numV numB
  cases h : Lib.parseIntB 32 s.data.toList with
  | ok v =>
    have hv := Lib.parseIntB_bounds h
    replace h := Lib.hid h
    go_enter Tryd.func24, Tryd.ntmps24
    go_wp2_with fail
    refine (Tryd.strconv_ParseInt_10_at32_ok s (by omega) v h.out _).mono ?_
    rintro e w1 ⟨rfl, hw⟩
    have hb1 : Below w.heap.size w w1 := by
      rcases hw with rfl | ⟨t, rfl⟩
      · exact Below.refl _ _
      · exact Lib.bytesWorld_below _ _ _
    have E1 := E.below hb1
    clear hw E
    have hv1 : -9223372036854775808 ≤ v := by have := hv.1; simp at this; omega
    have hv2 : v ≤ 9223372036854775807 := by have := hv.2; simp at this; omega
    clear hv
    go_wp2_with fail
    refine (Tryd.strconv_FormatInt_10 v hv1 hv2 _ E1.tab).mono ?_
    rintro e w2 ⟨rfl, hg⟩
    have hb2 := bl_g hg
    clear hg
    go_wp2
    go_ret2
    exact ⟨by simp only [Lib.toList_data]; rfl, bl_t hb1 hb2⟩
  | range =>
    obtain ⟨tp, p, hE⟩ := E.rng
    replace hE := Lib.hid hE
    replace h := Lib.hid h
    go_enter Tryd.func24, Tryd.ntmps24
    go_wp2_with fail
    refine (Tryd.strconv_ParseInt_10_at32_range_var s hs h.out tp p _ hE.out).mono ?_
    rintro e w1 ⟨N, rfl, h1, h2, hb⟩
    go_wp2
    go_ret2
    exact ⟨rfl, hb⟩
  | _ =>
    obtain ⟨tp, p, hE⟩ := E.syn
    replace hE := Lib.hid hE
    replace h := Lib.hid h
    go_enter Tryd.func24, Tryd.ntmps24
    go_wp2_with fail
    refine (Tryd.strconv_ParseInt_10_at32_syntax_var s hs h.out tp p _ hE.out).mono ?_
    rintro e w1 ⟨N, rfl, h1, h2, hb⟩
    go_wp2
    go_ret2
    exact ⟨rfl, hb⟩

/-! ### signs of bytes -/
/-- a row of cells that is read -/
def Rd (w : World) (A : Option Addr) (xs : List Value) : Prop := ∀ (k : Nat) (v : Value), xs[k]? = some v → ∃ a, A = some a ∧ a.block < w.heap.size ∧ w.cell? (a.add k) = some v
theorem Rd.below {w w1 : World} {A : Option Addr} {xs : List Value} (h : Rd w A xs) (hb : Below w.heap.size w w1) : Rd w1 A xs := by
  intro k v hk
  obtain ⟨a, ha, hl, hc⟩ := h k v hk
  have hab : (a.add k).block = a.block := by unfold Addr.add; split <;> rfl
  exact ⟨a, ha, Nat.lt_of_lt_of_le hl hb.size, by rw [hb.cell (p := a.add k) (by rw [hab]; exact hl)]; exact hc⟩
def byteI (c : Int) : Value := .int .u8 c
theorem hexP_take {b : List Int} {k : Nat} (h : k < b.length) : hexP (b.take (k + 1)) = hexP (b.take k) ++ [sg (b.getD k 0 / 16), sg (b.getD k 0 % 16)] := by
  unfold hexP
  rw [List.take_succ_eq_append_getElem h, List.flatMap_append]
  simp only [List.flatMap_cons, List.flatMap_nil, List.append_nil, List.getD_eq_getElem?_getD, List.getElem?_eq_getElem h, Option.getD_some]
theorem hexP_len (b : List Int) : (hexP b).length = 2 * b.length := by
  induction b with
  | nil => rfl
  | cons a b ih => simp only [hexP, List.flatMap_cons, List.length_append, List.length_cons] at ih ⊢; simp at ih ⊢; omega
theorem sg_get (d : Int) (h : d.toNat < ({ data := #[48, 49, 50, 51, 52, 53, 54, 55, 56, 57, 97, 98, 99, 100, 101, 102] } : ByteArray).size) : (({ data := #[48, 49, 50, 51, 52, 53, 54, 55, 56, 57, 97, 98, 99, 100, 101, 102] } : ByteArray)[d.toNat]'h) = sg d := by
  unfold sg
  rw [List.getD_eq_getElem?_getD, List.getElem?_eq_getElem (by exact h)]
  rfl
theorem cells_snoc (l : List UInt8) (c : UInt8) : Lib.byteCells l ++ [.int .u8 c.toNat] = Lib.byteCells (l ++ [c]) := by simp [Lib.byteCells]
theorem cells_len (l : List UInt8) : (Lib.byteCells l).length = l.length := by simp [Lib.byteCells]
set_option maxHeartbeats 1000000 in
theorem hex_calls (A : Option Addr) (cp : Nat) (b : List Int) (w : World) (h : Rd w A (b.map byteI)) (hl : b.length ≤ 1000000) (hb : ∀ c ∈ b, 0 ≤ c ∧ c < 256) :
    Calls Tryd.prog 11 #[.slice A b.length cp] w fun e w' => e = .returned (.string ⟨(hexL b).toArray⟩) ∧ Below w.heap.size w w' := by
  replace hb := Lib.hid hb
  go_enter Tryd.func11, Tryd.ntmps11
  go_wp2_with fail
  refine (Tryd.Builder_WriteByte_k w.heap.size w.heap.size [] 120 _ (Lib.IsBuilderF.of (Lib.fresh_isBuilder 52 5 w)) (by simp) (by simp)).mono ?_
  rintro e w1 ⟨rfl, h1, hb1, _⟩
  have hb1 : Below w.heap.size w w1 := (bl_a (Below.refl _ _)).trans hb1
  have hI1 : Lib.IsBuilderF 52 5 w.heap.size w.heap.size (Lib.byteCells (120 :: hexP (b.take 0))) w1 := Or.inr h1
  clear h1
  go_wp2
  go_loopw [9] (fun i wr => ∃ k : Nat, i = .int .i64 k ∧ k ≤ b.length ∧ Lib.IsBuilderF 52 5 w.heap.size w.heap.size (Lib.byteCells (120 :: hexP (b.take k))) wr ∧ Below w.heap.size w wr) (fun i _ => b.length - (intOf i).toNat)
  case atStart => exact ⟨0, rfl, by omega, hI1, hb1⟩
  case round =>
    clear hb1 hI1
    obtain ⟨k, rfl, hk, hI, hbw⟩ := hrel
    by_cases hlt : k < b.length
    · obtain ⟨ad, rfl, hab, hc⟩ := (h.below hbw) k (byteI (b.getD k 0)) (by simp [List.getD_eq_getElem?_getD, hlt])
      obtain ⟨c0, c1⟩ := hb.out (b.getD k 0) (by simp [List.getD_eq_getElem?_getD, hlt])
      have ht := Lib.hid (hexP_take hlt)
      have hln := Lib.hid (hexP_len (b.take k))
      generalize b.getD k 0 = c at *
      unfold byteI at hc
      go_wp2_with fail
      rw [sg_get]
      refine (Tryd.Builder_WriteByte_k w.heap.size w.heap.size _ _ _ hI (by have := hln.out; rw [cells_len, List.length_cons, this, List.length_take]; omega) hbw.size).mono ?_
      rintro e w2 ⟨rfl, h2, hb2, _⟩
      rw [cells_snoc] at h2
      go_wp2_with fail
      rw [sg_get]
      refine (Tryd.Builder_WriteByte_k w.heap.size w.heap.size _ _ _ (Or.inr h2) (by have := hln.out; rw [cells_len, List.length_append, List.length_cons, this, List.length_take]; simp; omega) (Nat.le_trans hbw.size hb2.size)).mono ?_
      rintro e w3 ⟨rfl, h3, hb3, _⟩
      rw [cells_snoc] at h3
      have h3 : Lib.IsBuilderF 52 5 w.heap.size w.heap.size (Lib.byteCells (120 :: hexP (b.take (k + 1)))) w3 := Or.inr (by rw [ht.out]; simpa using h3)
      have hb3 := (hbw.trans hb2).trans hb3
      clear h2 hb2 hI hc hab
      go_wp2
      go_roundw
      case rel => exact ⟨k + 1, by go_num, by omega, h3, hb3⟩
      case measure => simp [intOf]; omega
    · have hkk : b.take k = b := List.take_of_length_le (by omega)
      rw [hkk] at hI
      clear hkk
      go_wp2_with fail
      refine (Tryd.Builder_String_any_k w.heap.size w.heap.size _ _ hI hbw.size).mono ?_
      rintro e w2 ⟨rfl, _, hb2, _⟩
      go_wp2
      go_ret
      exact ⟨rfl, hbw.trans hb2⟩
end Go.Proofs.YtnhjekpadcjdnaaDoor.T

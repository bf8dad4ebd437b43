/- Commands and their lines: words that are joined; a command as a line, kind by kind. -/
import Derived.Test.YtnhjekpadcjdnaaDoorF
namespace Go.Proofs.YtnhjekpadcjdnaaDoor.T
open Go Go.RowKit
set_option linter.unusedVariables false
set_option linter.unusedSimpArgs false
set_option maxRecDepth 100000
attribute [local go_sem] rdOp InK
def strV (l : List UInt8) : Value := .string ⟨l.toArray⟩
theorem nDigits_le : ∀ (k u : Nat), u < 10 ^ (k + 1) → Lib.nDigits u ≤ k + 1
  | 0, u, h => by rw [Lib.nDigits_small (by simpa using h)]; omega
  | k + 1, u, h => by
    by_cases hu : u < 10
    · rw [Lib.nDigits_small hu]; omega
    · rw [Lib.nDigits_big hu]
      have := nDigits_le k (u / 10) (by rw [Nat.pow_succ] at h; omega)
      omega
theorem itoa_len {n : Int} (h0 : -9223372036854775808 ≤ n) (h1 : n ≤ 9223372036854775807) : (Lib.itoa n).length ≤ 21 := by
  have hd : ∀ u : Nat, u ≤ 9223372036854775808 → (Lib.decDigits u).length ≤ 20 := by
    intro u hu
    rw [Lib.decDigits_eq, List.length_map, List.length_range]
    exact nDigits_le 19 u (by omega)
  unfold Lib.itoa
  split
  · rw [List.length_cons]; have := hd n.natAbs (by omega); omega
  · have := hd n.toNat (by omega); omega
theorem lens_le {l : List (List UInt8)} {b : Nat} (h : ∀ x ∈ l, x.length ≤ b) : Lib.lens l ≤ b * l.length := by
  induction l with
  | nil => simp [Lib.lens]
  | cons a l ih =>
    have h1 := h a (by simp)
    have h2 := ih (fun x hx => h x (by simp [hx]))
    simp only [Lib.lens, List.map_cons, List.sum_cons, List.length_cons, Nat.mul_succ] at h2 ⊢
    omega
theorem join_le {l : List (List UInt8)} {b : Nat} (h : ∀ x ∈ l, x.length ≤ b) : (Lib.join l [32]).length ≤ (b + 1) * l.length := by
  cases l with
  | nil => simp [Lib.join_nil]
  | cons a l =>
    rw [Lib.join_length]
    have h1 := lens_le h
    simp only [List.length_cons, List.length_nil, Nat.add_mul, Nat.mul_succ, Nat.zero_mul, Nat.zero_add, Nat.one_mul] at h1 ⊢
    omega
/-- words that the call has made, joined -/
theorem join_calls {w W : World} {v : Value} {ws : List (List UInt8)} {b : Nat} (HO : Own w W 9 v (ws.map strV)) (hb : ∀ x ∈ ws, x.length ≤ b) (hl : (b + 1) * ws.length ≤ 140737488355328) (hm : ws.length ≤ 140737488355328) :
    Calls Tryd.prog 13 #[v, .string ⟨#[32]⟩] W fun e w' => e = .returned (.string ⟨(Lib.join ws [32]).toArray⟩) ∧ Below W.heap.size W w' := by
  have hws : (ws.map (fun l => (⟨l.toArray⟩ : ByteArray))).map (·.data.toList) = ws := by rw [List.map_map]; simp [Function.comp_def]
  have hjl := join_le hb
  rcases HO.2 with ⟨rfl, hn⟩ | ⟨g, cap, cur, rfl, hg, hgg, hc, hm2, hs, ht⟩
  · have : ws = [] := by cases ws with
      | nil => rfl
      | cons a l => simp at hn
    subst this
    exact (Tryd.strings_Join_none none 0 ⟨#[32]⟩ W).mono fun e w' ⟨he, hw⟩ => ⟨by rw [he, Lib.join_nil], by subst hw; exact Below.refl _ _⟩
  · have h := Tryd.strings_Join g 0 cap (ws.map (fun l => (⟨l.toArray⟩ : ByteArray))) ⟨#[32]⟩ W ?_ (Array.getElem?_eq_some_iff.1 hgg).1 (by rw [List.length_map]; omega) (by rw [List.length_map]; simpa using hc) (by rw [hws]; exact Nat.le_trans hjl hl)
    · rw [hws, List.length_map] at h
      rw [List.length_map]
      exact h
    · intro j x hx
      have hx' : (ws.map strV)[j]? = some (.string x) := by
        rw [List.getElem?_map] at hx ⊢
        cases hw : ws[j]? with
        | none => rw [hw] at hx; simp at hx
        | some l => rw [hw] at hx; simp at hx; subst hx; rfl
      have := World.ownsRow.cells HO (g := g) (by simp [Value.ownBlock]) j _ hx'
      simp only [Addr.add] at this
      split at this
      · rename_i h0; subst h0; simpa using this
      · simpa using this
theorem own_lit1 {w W : World} (hle : w.heap.size ≤ W.heap.size) (l : List UInt8) : Own w (W.alloc (.cells #[strV l] 9)) 9 (.slice (some ⟨W.heap.size, 0, none⟩) 1 1) ([l].map strV) :=
  World.ownsRow_lit W #[strV l] 1 hle (by unfold maxLen; omega) rfl
/-- the words of a command's line are no longer than this -/
def Wd (ws : List (List UInt8)) : Prop := ∀ x ∈ ws, x.length ≤ 100000
theorem box_cells {w W : World} {cs : Array Value} {t g : Nat} (h : w.heap[g]? = some (.cells cs t (0, 0))) (hb : Below w.heap.size w W) (j : Nat) : W.cell? ⟨g, j, none⟩ = cs[j]? := by
  rw [hb.cell (p := ⟨g, j, none⟩) (Array.getElem?_eq_some_iff.1 h).1]
  simp [World.cell?, h]
set_option maxHeartbeats 2000000 in
theorem line_5 (A D : Option Addr) (ca cd : Nat) (n f : Int) (args data : List Int) (w : World) (E : Env w) (C : Cv w ⟨5, n, f, args, data⟩ A D) (la : args.length ≤ 1000) (ld : data.length ≤ 10000) (hf : fitsB ⟨5, n, f, args, data⟩ = true) :
    Calls Tryd.prog 5 #[.agg #[.int .i64 5, .int .i64 n, .int .i64 f, .slice A args.length ca, .slice D data.length cd]] w fun e w' => e = .returned (.tuple #[strV (lineL ⟨5, n, f, args, data⟩), .int .i64 0]) ∧ Below w.heap.size w w' := by
  replace hf := Lib.hid hf
  go_enter Tryd.func5, Tryd.ntmps5
  go_wp2_with fail
  refine (names_calls _).mono ?_
  rintro e w1 ⟨rfl, rfl⟩
  have hBx : ((w.alloc (.cells #[.int .i64 5, .int .i64 n, .int .i64 f, .slice A args.length ca, .slice D data.length cd] 25)).alloc (.cells namesV 9)).heap[w.heap.size]? = some (.cells #[.int .i64 5, .int .i64 n, .int .i64 f, .slice A args.length ca, .slice D data.length cd] 25 (0, 0)) := by
    rw [Below.heap_alloc _ _ _ (by simp)]; exact heap_alloc_new w _
  have hNm : ((w.alloc (.cells #[.int .i64 5, .int .i64 n, .int .i64 f, .slice A args.length ca, .slice D data.length cd] 25)).alloc (.cells namesV 9)).heap[w.heap.size + 1]? = some (.cells namesV 9 (0, 0)) := by
    have := heap_alloc_new (w.alloc (.cells #[.int .i64 5, .int .i64 n, .int .i64 f, .slice A args.length ca, .slice D data.length cd] 25)) (.cells namesV 9)
    simpa using this
  have hbw : Below w.heap.size w ((w.alloc (.cells #[.int .i64 5, .int .i64 n, .int .i64 f, .slice A args.length ca, .slice D data.length cd] 25)).alloc (.cells namesV 9)) := (by repeat (first | exact Below.refl _ _ | assumption | with_reducible apply bl_a | with_reducible apply bl_d))
  have hsz : (w.alloc (.cells #[.int .i64 5, .int .i64 n, .int .i64 f, .slice A args.length ca, .slice D data.length cd] 25)).heap.size = w.heap.size + 1 := by simp
  rw [hsz]
  clear hsz
  generalize (w.alloc (.cells #[.int .i64 5, .int .i64 n, .int .i64 f, .slice A args.length ca, .slice D data.length cd] 25)).alloc (.cells namesV 9) = W0 at *
  have q0 := fun j => box_cells hBx (Below.refl _ _) j
  go_wp2_with fail
  refine (fits_calls ⟨5, n, f, args, data⟩ A D ca cd W0).mono ?_
  rintro e W ⟨rfl, hbf⟩
  rw [hf.out]
  clear q0 hf
  have q := fun j => box_cells hBx hbf j
  have qn : W.cell? ⟨w.heap.size + 1, 4, none⟩ = some (strV wReset) := box_cells hNm hbf 4
  replace hbw := hbw.trans (hbf.mono hbw.size)
  clear hBx hNm hbf
  have hlt1 : w.heap.size + 1 < W.heap.size := World.block_lt_of_cell? _ _ qn
  have hlt : w.heap.size < W.heap.size := by omega
  unfold strV at qn
  go_wp2_with fail
  have hO : Own w (W.alloc (.cells #[.string ⟨wReset.toArray⟩] 9)) 9 (.slice (some ⟨W.heap.size, 0, none⟩) 1 1) ([wReset].map strV) := own_lit1 hbw.size wReset
  have hbw1 : Below w.heap.size w (W.alloc (.cells #[.string ⟨wReset.toArray⟩] 9)) := bl_a hbw
  have q1 : ∀ j, (W.alloc (.cells #[.string ⟨wReset.toArray⟩] 9)).cell? ⟨w.heap.size, j, none⟩ = #[.int .i64 5, .int .i64 n, .int .i64 f, .slice A args.length ca, .slice D data.length cd][j]? := fun j => by
    rw [(bl_a (o := .cells #[.string ⟨wReset.toArray⟩] 9) (Below.refl W.heap.size W)).cell (p := ⟨w.heap.size, j, none⟩) hlt]; exact q j
  clear q qn hlt hlt1
  generalize hv : Value.slice (some ⟨W.heap.size, 0, none⟩) 1 1 = v at *
  generalize W.alloc (.cells #[.string ⟨wReset.toArray⟩] 9) = W1 at *
  clear hv
  have hw : Hid (wordsL ⟨5, n, f, args, data⟩ = [wReset]) := Lib.hid (by simp [wordsL, nameL, restL])
  refine (join_calls (ws := [wReset]) (b := 100000) hO (by decide) (by simp) (by simp)).mono ?_
  rintro e w2 ⟨rfl, hb2⟩
  go_wp2
  go_ret2
  exact ⟨by unfold lineL; rw [hw.out]; rfl, bl_t hbw1 hb2⟩
set_option maxHeartbeats 2000000 in
theorem line_2 (A D : Option Addr) (ca cd : Nat) (n f : Int) (args data : List Int) (w : World) (E : Env w) (C : Cv w ⟨2, n, f, args, data⟩ A D) (la : args.length ≤ 1000) (ld : data.length ≤ 10000) (hf : fitsB ⟨2, n, f, args, data⟩ = true) :
    Calls Tryd.prog 5 #[.agg #[.int .i64 2, .int .i64 n, .int .i64 f, .slice A args.length ca, .slice D data.length cd]] w fun e w' => e = .returned (.tuple #[strV (lineL ⟨2, n, f, args, data⟩), .int .i64 0]) ∧ Below w.heap.size w w' := by
  replace hf := Lib.hid hf
  go_enter Tryd.func5, Tryd.ntmps5
  go_wp2_with fail
  refine (names_calls _).mono ?_
  rintro e w1 ⟨rfl, rfl⟩
  have hBx : ((w.alloc (.cells #[.int .i64 2, .int .i64 n, .int .i64 f, .slice A args.length ca, .slice D data.length cd] 25)).alloc (.cells namesV 9)).heap[w.heap.size]? = some (.cells #[.int .i64 2, .int .i64 n, .int .i64 f, .slice A args.length ca, .slice D data.length cd] 25 (0, 0)) := by
    rw [Below.heap_alloc _ _ _ (by simp)]; exact heap_alloc_new w _
  have hNm : ((w.alloc (.cells #[.int .i64 2, .int .i64 n, .int .i64 f, .slice A args.length ca, .slice D data.length cd] 25)).alloc (.cells namesV 9)).heap[w.heap.size + 1]? = some (.cells namesV 9 (0, 0)) := by
    have := heap_alloc_new (w.alloc (.cells #[.int .i64 2, .int .i64 n, .int .i64 f, .slice A args.length ca, .slice D data.length cd] 25)) (.cells namesV 9)
    simpa using this
  have hbw : Below w.heap.size w ((w.alloc (.cells #[.int .i64 2, .int .i64 n, .int .i64 f, .slice A args.length ca, .slice D data.length cd] 25)).alloc (.cells namesV 9)) := (by repeat (first | exact Below.refl _ _ | assumption | with_reducible apply bl_a | with_reducible apply bl_d))
  have hsz : (w.alloc (.cells #[.int .i64 2, .int .i64 n, .int .i64 f, .slice A args.length ca, .slice D data.length cd] 25)).heap.size = w.heap.size + 1 := by simp
  rw [hsz]
  clear hsz
  generalize (w.alloc (.cells #[.int .i64 2, .int .i64 n, .int .i64 f, .slice A args.length ca, .slice D data.length cd] 25)).alloc (.cells namesV 9) = W0 at *
  have q0 := fun j => box_cells hBx (Below.refl _ _) j
  go_wp2_with fail
  refine (fits_calls ⟨2, n, f, args, data⟩ A D ca cd W0).mono ?_
  rintro e W ⟨rfl, hbf⟩
  rw [hf.out]
  clear q0 hf
  have q := fun j => box_cells hBx hbf j
  have qn : W.cell? ⟨w.heap.size + 1, 1, none⟩ = some (strV wDelete) := box_cells hNm hbf 1
  replace hbw := hbw.trans (hbf.mono hbw.size)
  clear hBx hNm hbf
  have hlt1 : w.heap.size + 1 < W.heap.size := World.block_lt_of_cell? _ _ qn
  have hlt : w.heap.size < W.heap.size := by omega
  unfold strV at qn
  go_wp2_with fail
  have hO : Own w (W.alloc (.cells #[.string ⟨wDelete.toArray⟩] 9)) 9 (.slice (some ⟨W.heap.size, 0, none⟩) 1 1) ([wDelete].map strV) := own_lit1 hbw.size wDelete
  have hbw1 : Below w.heap.size w (W.alloc (.cells #[.string ⟨wDelete.toArray⟩] 9)) := bl_a hbw
  have q1 : ∀ j, (W.alloc (.cells #[.string ⟨wDelete.toArray⟩] 9)).cell? ⟨w.heap.size, j, none⟩ = #[.int .i64 2, .int .i64 n, .int .i64 f, .slice A args.length ca, .slice D data.length cd][j]? := fun j => by
    rw [(bl_a (o := .cells #[.string ⟨wDelete.toArray⟩] 9) (Below.refl W.heap.size W)).cell (p := ⟨w.heap.size, j, none⟩) hlt]; exact q j
  clear q qn hlt hlt1
  generalize hv : Value.slice (some ⟨W.heap.size, 0, none⟩) 1 1 = v at *
  generalize W.alloc (.cells #[.string ⟨wDelete.toArray⟩] 9) = W1 at *
  clear hv
  have hw : Hid (wordsL ⟨2, n, f, args, data⟩ = [wDelete, Lib.itoa n]) := Lib.hid (by simp [wordsL, nameL, restL])
  have E1 := E.below hbw1
  refine (Tryd.strconv_Itoa n C.n0 C.n1 _ E1.tab).mono ?_
  rintro e W2 ⟨rfl, hg⟩
  have hb2 := bl_g hg
  clear hg E1
  have hO2 := hO.kept hb2
  have hbw2 := bl_t hbw1 hb2
  clear hO hbw1 hb2 q1
  go_wp2_with (at_builtin; refine apk Tryd.underlying37 infoStr rfl rfl (.tmp 44) (.tmp 48) rfl _ ([wDelete].map strV) (strV (Lib.itoa n)) rfl rfl rfl hO2 hbw2 (by decide) (by decide) ?_; intro v1 W3 hO3 hbw3; clear hO2 hbw2)
  have hle : ∀ x ∈ [wDelete, Lib.itoa n], x.length ≤ 100000 := by
    intro x hx
    simp only [List.mem_cons, List.not_mem_nil, or_false] at hx
    rcases hx with rfl | rfl
    · decide
    · have := itoa_len C.n0 C.n1; simp only at this; omega
  refine (join_calls (ws := [wDelete, Lib.itoa n]) (b := 100000) hO3 hle (by simp) (by simp)).mono ?_
  rintro e w2 ⟨rfl, hb2⟩
  go_wp2
  go_ret2
  exact ⟨by unfold lineL; rw [hw.out]; rfl, bl_t hbw3 hb2⟩
set_option maxHeartbeats 2000000 in
theorem line_3 (A D : Option Addr) (ca cd : Nat) (n f : Int) (args data : List Int) (w : World) (E : Env w) (C : Cv w ⟨3, n, f, args, data⟩ A D) (la : args.length ≤ 1000) (ld : data.length ≤ 10000) (hf : fitsB ⟨3, n, f, args, data⟩ = true) :
    Calls Tryd.prog 5 #[.agg #[.int .i64 3, .int .i64 n, .int .i64 f, .slice A args.length ca, .slice D data.length cd]] w fun e w' => e = .returned (.tuple #[strV (lineL ⟨3, n, f, args, data⟩), .int .i64 0]) ∧ Below w.heap.size w w' := by
  replace hf := Lib.hid hf
  go_enter Tryd.func5, Tryd.ntmps5
  go_wp2_with fail
  refine (names_calls _).mono ?_
  rintro e w1 ⟨rfl, rfl⟩
  have hBx : ((w.alloc (.cells #[.int .i64 3, .int .i64 n, .int .i64 f, .slice A args.length ca, .slice D data.length cd] 25)).alloc (.cells namesV 9)).heap[w.heap.size]? = some (.cells #[.int .i64 3, .int .i64 n, .int .i64 f, .slice A args.length ca, .slice D data.length cd] 25 (0, 0)) := by
    rw [Below.heap_alloc _ _ _ (by simp)]; exact heap_alloc_new w _
  have hNm : ((w.alloc (.cells #[.int .i64 3, .int .i64 n, .int .i64 f, .slice A args.length ca, .slice D data.length cd] 25)).alloc (.cells namesV 9)).heap[w.heap.size + 1]? = some (.cells namesV 9 (0, 0)) := by
    have := heap_alloc_new (w.alloc (.cells #[.int .i64 3, .int .i64 n, .int .i64 f, .slice A args.length ca, .slice D data.length cd] 25)) (.cells namesV 9)
    simpa using this
  have hbw : Below w.heap.size w ((w.alloc (.cells #[.int .i64 3, .int .i64 n, .int .i64 f, .slice A args.length ca, .slice D data.length cd] 25)).alloc (.cells namesV 9)) := (by repeat (first | exact Below.refl _ _ | assumption | with_reducible apply bl_a | with_reducible apply bl_d))
  have hsz : (w.alloc (.cells #[.int .i64 3, .int .i64 n, .int .i64 f, .slice A args.length ca, .slice D data.length cd] 25)).heap.size = w.heap.size + 1 := by simp
  rw [hsz]
  clear hsz
  generalize (w.alloc (.cells #[.int .i64 3, .int .i64 n, .int .i64 f, .slice A args.length ca, .slice D data.length cd] 25)).alloc (.cells namesV 9) = W0 at *
  have q0 := fun j => box_cells hBx (Below.refl _ _) j
  go_wp2_with fail
  refine (fits_calls ⟨3, n, f, args, data⟩ A D ca cd W0).mono ?_
  rintro e W ⟨rfl, hbf⟩
  rw [hf.out]
  clear q0 hf
  have q := fun j => box_cells hBx hbf j
  have qn : W.cell? ⟨w.heap.size + 1, 2, none⟩ = some (strV wSelect) := box_cells hNm hbf 2
  replace hbw := hbw.trans (hbf.mono hbw.size)
  clear hBx hNm hbf
  have hlt1 : w.heap.size + 1 < W.heap.size := World.block_lt_of_cell? _ _ qn
  have hlt : w.heap.size < W.heap.size := by omega
  unfold strV at qn
  go_wp2_with fail
  have hO : Own w (W.alloc (.cells #[.string ⟨wSelect.toArray⟩] 9)) 9 (.slice (some ⟨W.heap.size, 0, none⟩) 1 1) ([wSelect].map strV) := own_lit1 hbw.size wSelect
  have hbw1 : Below w.heap.size w (W.alloc (.cells #[.string ⟨wSelect.toArray⟩] 9)) := bl_a hbw
  have q1 : ∀ j, (W.alloc (.cells #[.string ⟨wSelect.toArray⟩] 9)).cell? ⟨w.heap.size, j, none⟩ = #[.int .i64 3, .int .i64 n, .int .i64 f, .slice A args.length ca, .slice D data.length cd][j]? := fun j => by
    rw [(bl_a (o := .cells #[.string ⟨wSelect.toArray⟩] 9) (Below.refl W.heap.size W)).cell (p := ⟨w.heap.size, j, none⟩) hlt]; exact q j
  clear q qn hlt hlt1
  generalize hv : Value.slice (some ⟨W.heap.size, 0, none⟩) 1 1 = v at *
  generalize W.alloc (.cells #[.string ⟨wSelect.toArray⟩] 9) = W1 at *
  clear hv
  have hw : Hid (wordsL ⟨3, n, f, args, data⟩ = [wSelect, Lib.itoa n]) := Lib.hid (by simp [wordsL, nameL, restL])
  have E1 := E.below hbw1
  refine (Tryd.strconv_Itoa n C.n0 C.n1 _ E1.tab).mono ?_
  rintro e W2 ⟨rfl, hg⟩
  have hb2 := bl_g hg
  clear hg E1
  have hO2 := hO.kept hb2
  have hbw2 := bl_t hbw1 hb2
  clear hO hbw1 hb2 q1
  go_wp2_with (at_builtin; refine apk Tryd.underlying37 infoStr rfl rfl (.tmp 44) (.tmp 48) rfl _ ([wSelect].map strV) (strV (Lib.itoa n)) rfl rfl rfl hO2 hbw2 (by decide) (by decide) ?_; intro v1 W3 hO3 hbw3; clear hO2 hbw2)
  have hle : ∀ x ∈ [wSelect, Lib.itoa n], x.length ≤ 100000 := by
    intro x hx
    simp only [List.mem_cons, List.not_mem_nil, or_false] at hx
    rcases hx with rfl | rfl
    · decide
    · have := itoa_len C.n0 C.n1; simp only at this; omega
  refine (join_calls (ws := [wSelect, Lib.itoa n]) (b := 100000) hO3 hle (by simp) (by simp)).mono ?_
  rintro e w2 ⟨rfl, hb2⟩
  go_wp2
  go_ret2
  exact ⟨by unfold lineL; rw [hw.out]; rfl, bl_t hbw3 hb2⟩
set_option maxHeartbeats 2000000 in
theorem line_1 (A D : Option Addr) (ca cd : Nat) (n f : Int) (args data : List Int) (w : World) (E : Env w) (C : Cv w ⟨1, n, f, args, data⟩ A D) (la : args.length ≤ 1000) (ld : data.length ≤ 10000) (hf : fitsB ⟨1, n, f, args, data⟩ = true) :
    Calls Tryd.prog 5 #[.agg #[.int .i64 1, .int .i64 n, .int .i64 f, .slice A args.length ca, .slice D data.length cd]] w fun e w' => e = .returned (.tuple #[strV (lineL ⟨1, n, f, args, data⟩), .int .i64 0]) ∧ Below w.heap.size w w' := by
  replace hf := Lib.hid hf
  go_enter Tryd.func5, Tryd.ntmps5
  go_wp2_with fail
  refine (names_calls _).mono ?_
  rintro e w1 ⟨rfl, rfl⟩
  have hBx : ((w.alloc (.cells #[.int .i64 1, .int .i64 n, .int .i64 f, .slice A args.length ca, .slice D data.length cd] 25)).alloc (.cells namesV 9)).heap[w.heap.size]? = some (.cells #[.int .i64 1, .int .i64 n, .int .i64 f, .slice A args.length ca, .slice D data.length cd] 25 (0, 0)) := by
    rw [Below.heap_alloc _ _ _ (by simp)]; exact heap_alloc_new w _
  have hNm : ((w.alloc (.cells #[.int .i64 1, .int .i64 n, .int .i64 f, .slice A args.length ca, .slice D data.length cd] 25)).alloc (.cells namesV 9)).heap[w.heap.size + 1]? = some (.cells namesV 9 (0, 0)) := by
    have := heap_alloc_new (w.alloc (.cells #[.int .i64 1, .int .i64 n, .int .i64 f, .slice A args.length ca, .slice D data.length cd] 25)) (.cells namesV 9)
    simpa using this
  have hbw : Below w.heap.size w ((w.alloc (.cells #[.int .i64 1, .int .i64 n, .int .i64 f, .slice A args.length ca, .slice D data.length cd] 25)).alloc (.cells namesV 9)) := (by repeat (first | exact Below.refl _ _ | assumption | with_reducible apply bl_a | with_reducible apply bl_d))
  have hsz : (w.alloc (.cells #[.int .i64 1, .int .i64 n, .int .i64 f, .slice A args.length ca, .slice D data.length cd] 25)).heap.size = w.heap.size + 1 := by simp
  rw [hsz]
  clear hsz
  generalize (w.alloc (.cells #[.int .i64 1, .int .i64 n, .int .i64 f, .slice A args.length ca, .slice D data.length cd] 25)).alloc (.cells namesV 9) = W0 at *
  have q0 := fun j => box_cells hBx (Below.refl _ _) j
  go_wp2_with fail
  refine (fits_calls ⟨1, n, f, args, data⟩ A D ca cd W0).mono ?_
  rintro e W ⟨rfl, hbf⟩
  rw [hf.out]
  clear q0 hf
  have q := fun j => box_cells hBx hbf j
  have qn : W.cell? ⟨w.heap.size + 1, 0, none⟩ = some (strV wInstall) := box_cells hNm hbf 0
  replace hbw := hbw.trans (hbf.mono hbw.size)
  clear hBx hNm hbf
  have hlt1 : w.heap.size + 1 < W.heap.size := World.block_lt_of_cell? _ _ qn
  have hlt : w.heap.size < W.heap.size := by omega
  unfold strV at qn
  go_wp2_with fail
  have hO : Own w (W.alloc (.cells #[.string ⟨wInstall.toArray⟩] 9)) 9 (.slice (some ⟨W.heap.size, 0, none⟩) 1 1) ([wInstall].map strV) := own_lit1 hbw.size wInstall
  have hbw1 : Below w.heap.size w (W.alloc (.cells #[.string ⟨wInstall.toArray⟩] 9)) := bl_a hbw
  have q1 : ∀ j, (W.alloc (.cells #[.string ⟨wInstall.toArray⟩] 9)).cell? ⟨w.heap.size, j, none⟩ = #[.int .i64 1, .int .i64 n, .int .i64 f, .slice A args.length ca, .slice D data.length cd][j]? := fun j => by
    rw [(bl_a (o := .cells #[.string ⟨wInstall.toArray⟩] 9) (Below.refl W.heap.size W)).cell (p := ⟨w.heap.size, j, none⟩) hlt]; exact q j
  clear q qn hlt hlt1
  generalize hv : Value.slice (some ⟨W.heap.size, 0, none⟩) 1 1 = v at *
  generalize W.alloc (.cells #[.string ⟨wInstall.toArray⟩] 9) = W1 at *
  clear hv
  have hw : Hid (wordsL ⟨1, n, f, args, data⟩ = [wInstall, hexL data]) := Lib.hid (by simp [wordsL, nameL, restL])
  refine (hex_calls D cd data W1 (C.data.below hbw1) (by omega) C.hd).mono ?_
  rintro e W2 ⟨rfl, hb2⟩
  have hO2 := hO.kept hb2
  have hbw2 := bl_t hbw1 hb2
  clear hO hbw1 hb2 q1
  go_wp2_with (at_builtin; refine apk Tryd.underlying37 infoStr rfl rfl (.tmp 35) (.tmp 39) rfl _ ([wInstall].map strV) (strV (hexL data)) rfl rfl rfl hO2 hbw2 (by decide) (by decide) ?_; intro v1 W3 hO3 hbw3; clear hO2 hbw2)
  have hle : ∀ x ∈ [wInstall, hexL data], x.length ≤ 100000 := by
    intro x hx
    simp only [List.mem_cons, List.not_mem_nil, or_false] at hx
    rcases hx with rfl | rfl
    · decide
    · unfold hexL; rw [List.length_cons, hexP_len]; omega
  refine (join_calls (ws := [wInstall, hexL data]) (b := 100000) hO3 hle (by simp) (by simp)).mono ?_
  rintro e w2 ⟨rfl, hb2⟩
  go_wp2
  go_ret2
  exact ⟨by unfold lineL; rw [hw.out]; rfl, bl_t hbw3 hb2⟩
end Go.Proofs.YtnhjekpadcjdnaaDoor.T

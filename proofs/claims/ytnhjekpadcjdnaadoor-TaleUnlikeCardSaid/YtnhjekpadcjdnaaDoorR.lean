/- Commands and their lines: a line with another byte in it. -/
import Derived.Test.YtnhjekpadcjdnaaDoorQ
import Derived.Laws.BytesArg
namespace Go.Proofs.YtnhjekpadcjdnaaDoor.T
open Go Go.RowKit
set_option linter.unusedVariables false
set_option linter.unusedSimpArgs false
set_option maxRecDepth 100000
set_option maxHeartbeats 4000000 in
theorem unlike_big (x : Cm) (A D : Option Addr) (ca cd : Nat) (at' c : Int) (w : World) (E : Env w) (h : 100 < x.data.length ∨ 20 < x.args.length) (hd : x.data.length ≤ 9223372036854775807) (ha : x.args.length ≤ 9223372036854775807) :
    Calls Tryd.prog 3 #[.agg #[.int .i64 x.k, .int .i64 x.n, .int .i64 x.fuel, .slice A x.args.length ca, .slice D x.data.length cd], .int .u8 at', .int .u8 c] w fun e w' => e = .returned (.bool true) ∧ Below w.heap.size w w' := by
  by_cases h1 : 100 < x.data.length
  · have h1' : (100 : Int) < (x.data.length : Int) := by omega
    clear h
    go_enter Tryd.func3, Tryd.ntmps3
    go_wp2_with (first | (go_at_call 4; go_loud (refine (awake_calls _ (E.below (bl_a (Below.refl _ _)))).mono ?_; rintro e w1 ⟨rfl, hb1⟩)))
    go_ret
    exact ⟨rfl, bl_t (bl_a (Below.refl _ _)) hb1⟩
  · have h1' : ¬ (100 : Int) < (x.data.length : Int) := by omega
    have h2' : (20 : Int) < (x.args.length : Int) := by omega
    clear h
    go_enter Tryd.func3, Tryd.ntmps3
    go_wp2_with (first | (go_at_call 4; go_loud (refine (awake_calls _ (E.below (bl_a (Below.refl _ _)))).mono ?_; rintro e w1 ⟨rfl, hb1⟩)))
    go_ret
    exact ⟨rfl, bl_t (bl_a (Below.refl _ _)) hb1⟩
set_option maxHeartbeats 4000000 in
theorem unlike_no (x : Cm) (A D : Option Addr) (ca cd : Nat) (at' c : Int) (w : World) (E : Env w) (C : Cv w x A D) (h1 : ¬ (100 : Int) < (x.data.length : Int)) (h2 : ¬ (20 : Int) < (x.args.length : Int)) (hok : okLine x = false) :
    Calls Tryd.prog 3 #[.agg #[.int .i64 x.k, .int .i64 x.n, .int .i64 x.fuel, .slice A x.args.length ca, .slice D x.data.length cd], .int .u8 at', .int .u8 c] w fun e w' => e = .returned (.bool true) ∧ Below w.heap.size w w' := by
  replace hok := Lib.hid hok
  go_enter Tryd.func3, Tryd.ntmps3
  go_wp2_with (first
    | (go_at_call 5; go_loud (refine (line_no x A D ca cd _ hok.out).mono ?_; rintro e w1 ⟨rfl, hb1⟩))
    | (go_at_call 4; go_loud (refine (awake_calls _ (E.below (bl_t (bl_a (Below.refl _ _)) hb1))).mono ?_; rintro e w2 ⟨rfl, hb2⟩)))
  go_ret
  exact ⟨rfl, bl_t (bl_t (bl_a (Below.refl _ _)) hb1) hb2⟩
theorem pairs_bd : ∀ (l : List UInt8) (b : List Int), pairs l = some b → ∀ c ∈ b, 0 ≤ c ∧ c < 256
  | [], b, h => by simp [pairs] at h; subst h; intro c hc; cases hc
  | [_], b, h => by simp [pairs] at h
  | x :: y :: r, b, h => by
    unfold pairs at h
    split at h
    · rename_i hc
      cases hp : pairs r with
      | none => rw [hp] at h; simp at h
      | some t =>
        rw [hp] at h
        simp only [Option.map_some, Option.some.injEq] at h
        subst h
        have h1 := sg_index x hc.1
        have h2 := sg_index y hc.2
        intro c hm
        rcases List.mem_cons.1 hm with rfl | hm
        · omega
        · exact pairs_bd r t hp c hm
    · simp at h
theorem cmd_parts {s : List UInt8} {y : Cm} (h : cmdL s = some y) : (∀ c ∈ y.data, 0 ≤ c ∧ c < 256) ∧ (y.k = 4 ∨ y.args = []) := by
  unfold cmdL readL at h
  split at h
  · simp at h
  · rename_i a r _
    split at h
    · cases hu : unhexL (r.getD 0 []) with
      | none => rw [hu] at h; simp at h
      | some b =>
        rw [hu] at h
        simp only [Option.map_some, Option.some.injEq] at h
        subst h
        refine ⟨?_, .inr rfl⟩
        unfold unhexL at hu
        split at hu
        · simp at hu
        · split at hu
          · exact pairs_bd _ _ hu
          · simp at hu
    · repeat' split at h
      all_goals first
        | (simp at h; done)
        | (simp only [Option.some.injEq] at h; subst h; exact ⟨fun c hc => by simp at hc, by first | exact .inl rfl | exact .inr rfl⟩)
theorem cmd_args {s : List UInt8} {y : Cm} (h : cmdL s = some y) : y.args.length ≤ s.length := by
  have hl := cmd_line h
  rcases (cmd_parts h).2 with hk | hk
  · have : (restL y).length = y.args.length + 2 := by simp [restL, hk]
    rw [← hl]
    unfold lineL wordsL
    rw [Lib.join_length]
    simp only [List.length_cons, List.length_nil]
    omega
  · rw [hk]; simp
theorem line_len {w : World} {x : Cm} {A D : Option Addr} (C : Cv w x A D) (la : x.args.length ≤ 20) (ld : x.data.length ≤ 100) : (lineL x).length ≤ 300 * 30 := by
  have hall : ∀ y ∈ wordsL x, y.length ≤ 250 := by
    intro y hy
    simp only [wordsL, List.mem_cons] at hy
    rcases hy with rfl | hy
    · unfold nameL
      repeat' split
      all_goals decide
    · unfold restL at hy
      split at hy
      · simp only [List.mem_singleton] at hy
        subst hy
        have := hexP_len x.data
        simp only [hexL, List.length_cons]
        omega
      · split at hy
        · simp only [List.mem_singleton] at hy
          subst hy
          have := itoa_len C.n0 C.n1
          omega
        · split at hy
          · simp only [List.mem_cons, List.mem_map] at hy
            rcases hy with rfl | rfl | ⟨c, hc, rfl⟩
            · have := itoa_len C.n0 C.n1; omega
            · have := itoa_len C.f0 C.f1; omega
            · have h := C.ha c hc
              have := itoa_len (n := c) (by omega) (by omega)
              omega
          · simp at hy
  have hn : (restL x).length ≤ 22 := by
    unfold restL
    repeat' split
    all_goals first | (simp; done) | (simp; omega)
  unfold lineL
  have h2 := lens_le hall
  simp only [wordsL, List.length_cons] at h2 ⊢
  rw [Lib.join_length]
  simp only [List.length_cons, List.length_nil]
  omega
theorem byte_ne {w : World} {x : Cm} {A D : Option Addr} (C : Cv w x A D) (la : x.args.length ≤ 20) (ld : x.data.length ≤ 100) : ∃ b : ByteArray, strV (lineL x) = .string b ∧ b.data.toList = lineL x ∧ 0 < b.size ∧ b.size ≤ 9000 :=
  ⟨⟨(lineL x).toArray⟩, rfl, rfl, line_ne x, line_len C la ld⟩
def bI (b : ByteArray) : List Int := b.data.toList.map (fun u => (u.toNat : Int))
theorem bytes_w (w : World) (b : ByteArray) (i : Nat) (h : i < b.size) : ∃ W, (convert 9 23 (.string b)).run Tryd.prog w = .ok (.slice (some ⟨w.heap.size, 0, none⟩) b.size (grownCap w b.size 0 5)) W
    ∧ W.cell? ⟨w.heap.size, i, none⟩ = some (.int .u8 (b.data.toList.getD i 0).toNat) ∧ W.frozen? ⟨w.heap.size, i, none⟩ = false ∧ Below w.heap.size w W ∧ w.heap.size < W.heap.size
    ∧ ∀ c : Int, Rd (W.setCell ⟨w.heap.size, i, none⟩ (.int .u8 c)) (some ⟨w.heap.size, 0, none⟩) (((bI b).set i c).map byteI) := by
  have hl : b.data.toList.length = b.size := Array.length_toList
  refine ⟨Lib.bytesWorld w 5 b, Lib.run_convert_string_bytes (P := Tryd.prog) w 9 23 5 b Tryd.underlying9 Tryd.underlying23 Tryd.underlying5, Lib.bytesWorld_cell w 5 b i h, ?_, Lib.bytesWorld_below w 5 b, by rw [Lib.bytesWorld_size]; omega, ?_⟩
  · have h1 := Lib.bytesWorld_at_new w 5 b
    simp only [World.frozen?, h1]
    simp [Lib.bytesCells]
    intro h2
    have : b.data.size = b.size := rfl
    omega
  · intro c k v hk
    have hlt : k < b.size := by
      have := (List.getElem?_eq_some_iff.1 hk).1
      simp [bI] at this
      exact this
    refine ⟨_, rfl, by simp [Lib.bytesWorld_size], ?_⟩
    have e : (⟨w.heap.size, 0, none⟩ : Addr).add k = ⟨w.heap.size, k, none⟩ := by
      unfold Addr.add
      split
      · rename_i h0; subst h0; rfl
      · simp
    rw [e]
    have hk' : v = byteI (((bI b).set i c).getD k 0) := by
      rw [List.getElem?_map] at hk
      cases hg : ((bI b).set i c)[k]? with
      | none => rw [hg] at hk; simp at hk
      | some z => rw [hg] at hk; simp only [Option.map_some, Option.some.injEq] at hk; rw [← hk, List.getD_eq_getElem?_getD, hg]; rfl
    subst hk'
    by_cases hki : k = i
    · subst hki
      rw [World.cell?_setCell_same (h := Lib.bytesWorld_cell w 5 b k hlt)]
      simp [byteI, List.getD_eq_getElem?_getD, List.getElem?_set_self, bI, hlt]
    · rw [World.cell?_setCell_other (h := by intro e; injection e with e1 e2; exact hki e2.symm), Lib.bytesWorld_cell w 5 b k hlt]
      have hki' : i ≠ k := fun e => hki e.symm
      have hl2 : k < b.data.toList.length := by omega
      simp only [byteI, List.getD_eq_getElem?_getD, List.getElem?_set_ne hki', bI, List.getElem?_map, List.getElem?_eq_getElem hl2, Option.map_some, Option.getD_some]
theorem set_str (b : ByteArray) (i : Nat) (c : Int) : (strOfNums ((bI b).set i c)).data.toList = b.data.toList.set i (UInt8.ofNat c.toNat) := by
  rw [strOfNums_data, List.map_set, bI, List.map_map]
  congr 1
  conv => rhs; rw [← List.map_id b.data.toList]
  refine List.map_congr_left fun u _ => ?_
  simp
theorem set_len (b : ByteArray) (i : Nat) (c : Int) : ((bI b).set i c).length = b.size := by
  rw [List.length_set, bI, List.length_map]; exact Array.length_toList
theorem un_below {w w1 W : World} {i : Nat} {c : Int} (h1 : Below w.heap.size w w1) (h2 : Below w1.heap.size w1 W) : Below w.heap.size w (W.setCell ⟨w1.heap.size, i, none⟩ (.int .u8 c)) :=
  bl_s (bl_t h1 h2) h1.size
theorem un_blk {w1 W : World} {g i : Nat} {c : Int} {o : Obj} (h : w1.heap[g]? = some o) (h2 : Below w1.heap.size w1 W) : (W.setCell ⟨w1.heap.size, i, none⟩ (.int .u8 c)).heap[g]? = some o := by
  have hl := blk_lt h
  rw [Below.heap_setCell _ _ _ g (by show g ≠ w1.heap.size; omega)]
  exact blk_below h h2
theorem sv_x {w w1 : World} {x : Cm} {A D : Option Addr} (C : Cv w x A D) (hb : Below w.heap.size w w1) : Sv w1 x A D := ⟨C.args.below hb, C.data.below hb, C.hd⟩
theorem sv_y {w0 w w1 : World} {y : Cm} {A D : Option Addr} {a b : Nat} (O : Own w0 w 21 (.slice A y.args.length a) (y.args.map i32V)) (P : Own w0 w 5 (.slice D y.data.length b) (y.data.map byteI)) (hd : ∀ c ∈ y.data, 0 ≤ c ∧ c < 256) (hb : Below w.heap.size w w1) : Sv w1 y A D :=
  ⟨O.rd.below hb, P.rd.below hb, hd⟩
set_option maxHeartbeats 4000000 in
theorem unlike_ok (x : Cm) (A D : Option Addr) (ca cd : Nat) (at' c : Int) (w : World) (E : Env w) (C : Cv w x A D) (h1 : ¬ (100 : Int) < (x.data.length : Int)) (h2 : ¬ (20 : Int) < (x.args.length : Int)) (hok : okLine x = true)
    (ha0 : 0 ≤ at') (ha1 : at' < 256) (hc0 : 0 ≤ c) (hc1 : c < 256) :
    Calls Tryd.prog 3 #[.agg #[.int .i64 x.k, .int .i64 x.n, .int .i64 x.fuel, .slice A x.args.length ca, .slice D x.data.length cd], .int .u8 at', .int .u8 c] w fun e w' => e = .returned (.bool true) ∧ Below w.heap.size w w' := by
  obtain ⟨b, hbs, hbl, hb0, hb9⟩ := byte_ne C (by omega) (by omega)
  have hbe : (b.toList == []) = false := by
    rw [Lib.toList_data]
    have : b.data.toList.length = b.size := Array.length_toList
    cases h : b.data.toList with
    | nil => rw [h] at this; simp at this; omega
    | cons y l => rfl
  obtain ⟨i, hix, hib⟩ : ∃ i : Nat, (wrap64 at').tmod (b.size : Int) = (i : Int) ∧ i < b.size := by
    rw [show wrap64 at' = at' by unfold wrap64; omega]
    refine ⟨at'.toNat % b.size, ?_, Nat.mod_lt _ hb0⟩
    obtain ⟨n, rfl⟩ : ∃ n : Nat, at' = (n : Int) := ⟨at'.toNat, by omega⟩
    rw [Int.toNat_natCast]
    exact (Int.ofNat_tmod n b.size).symm
  have hib2 : (i : Int) < (b.size : Int) := by omega
  obtain ⟨q, hq⟩ : ∃ q : Int, Hid (q = (b.data.toList.getD i 0).toNat) := ⟨_, Lib.hid rfl⟩
  replace hc0 := Lib.hid hc0
  replace hc1 := Lib.hid hc1
  replace ha0 := Lib.hid ha0
  replace ha1 := Lib.hid ha1
  replace hbs := Lib.hid hbs
  replace hbl := Lib.hid hbl
  replace hb9 := Lib.hid hb9
  have hB := blk_new w (.cells #[.int .i64 x.k, .int .i64 x.n, .int .i64 x.fuel, .slice A x.args.length ca, .slice D x.data.length cd] 25)
  replace hok := Lib.hid hok
  cases hqc : (q == c)
  · have hun : ∀ y, cmdL (strOfNums ((bI b).set i c)).data.toList = some y → x ≠ y := by
      intro y hy
      rw [set_str, hbl.out] at hy
      have hlen : (lineL x).length = b.size := by rw [← hbl.out]; exact Array.length_toList
      refine unlike (i := i) (by omega) ?_ hy
      intro hg
      have hqc' : q ≠ c := by simpa using hqc
      have hq2 := hq.out
      have hc4 := hc0.out
      have hc5 := hc1.out
      rw [hbl.out, List.getD_eq_getElem?_getD, hg] at hq2
      apply hqc'
      rw [hq2]
      simp
      omega
    have hsz : (strOfNums ((bI b).set i c)).size ≤ 4000000000 := by
      rw [strOfNums_size, set_len]; have := hb9.out; omega
    obtain ⟨r, hr⟩ : ∃ r, Hid (r = cmdL (strOfNums ((bI b).set i c)).data.toList) := ⟨_, Lib.hid rfl⟩
    replace hun := Lib.hid hun
    replace hsz := Lib.hid hsz
    rcases r with _ | y
    · go_enter Tryd.func3, Tryd.ntmps3
      go_wp2_with (first
        | (go_at_call 5; go_loud (refine (line_ok x A D ca cd _ (E.below (bl_a (Below.refl _ _))) (C.below (bl_a (Below.refl _ _))) (by omega) (by omega) hok.out).mono ?_; rintro e w1 ⟨he, hb1⟩; rw [hbs.out] at he; subst he; have hB1 := blk_below hB hb1; obtain ⟨W2, cv1, q2, f2, hb2, hz2, hR2⟩ := bytes_w w1 b i hib; rw [← hq.out] at q2; have cv2 := conv_rd _ _ (grownCap w1 b.size 0 5) _ (hR2 c); rw [set_len] at cv2; have hbw := un_below (c := c) (i := i) (bl_t (bl_a (Below.refl _ _)) hb1) hb2))
        | (go_at_call 6; go_loud (refine (cmd_calls _ _ (E.below hbw) hsz.out none hr).mono ?_; rintro e w3 ⟨he3, hb3⟩; replace he3 : e = .returned (.tuple #[.agg #[.int .i64 0, .int .i64 0, .int .i64 0, .slice none 0 0, .slice none 0 0], .int .i64 13]) := he3; subst he3))
        | (go_at_call 4; go_loud (refine (awake_calls _ (E.below (bl_a (bl_t hbw hb3)))).mono ?_; rintro e w4 ⟨rfl, hb4⟩)))
      go_ret
      exact ⟨rfl, bl_t (bl_a (bl_t hbw hb3)) hb4⟩
    · have hne : decide (x = y) = false := by rw [decide_eq_false_iff_not]; exact hun.out y hr.out.symm
      have hyd := (cmd_parts hr.out.symm).1
      have hya := cmd_args hr.out.symm
      replace hyd := Lib.hid hyd
      replace hya := Lib.hid hya
      go_enter Tryd.func3, Tryd.ntmps3
      go_wp2_with (first
        | (go_at_call 5; go_loud (refine (line_ok x A D ca cd _ (E.below (bl_a (Below.refl _ _))) (C.below (bl_a (Below.refl _ _))) (by omega) (by omega) hok.out).mono ?_; rintro e w1 ⟨he, hb1⟩; rw [hbs.out] at he; subst he; have hB1 := blk_below hB hb1; obtain ⟨W2, cv1, q2, f2, hb2, hz2, hR2⟩ := bytes_w w1 b i hib; rw [← hq.out] at q2; have cv2 := conv_rd _ _ (grownCap w1 b.size 0 5) _ (hR2 c); rw [set_len] at cv2; have hbw := un_below (c := c) (i := i) (bl_t (bl_a (Below.refl _ _)) hb1) hb2))
        | (go_at_call 6; go_loud (refine (cmd_calls _ _ (E.below hbw) hsz.out (some y) hr).mono ?_; rintro e w3 ⟨⟨B, c5, F, c6, rfl, O1, P1⟩, hb3⟩))
        | (go_at_call 4; go_loud (refine (awake_calls _ (E.below (bl_a (bl_t hbw hb3)))).mono ?_; rintro e w4 ⟨rfl, hb4⟩; have hBx := blk_below (blk_below (blk_below (un_blk (i := i) (c := c) hB1 hb2) hb3) (bl_a (o := .cells #[.int .i64 y.k, .int .i64 y.n, .int .i64 y.fuel, .slice B y.args.length c5, .slice F y.data.length c6] 25) (Below.refl _ _))) hb4; have hBy := blk_below (blk_new w3 (.cells #[.int .i64 y.k, .int .i64 y.n, .int .i64 y.fuel, .slice B y.args.length c5, .slice F y.data.length c6] 25)) hb4; have qx := blk_cell hBx; have qy := blk_cell hBy))
        | (go_at_call 7; go_loud (refine (same_calls x y A B D F ca c5 cd c6 w4 (sv_x C (bl_t (bl_a (bl_t hbw hb3)) hb4)) (sv_y O1 P1 hyd.out (bl_t (bl_a (Below.refl _ _)) hb4)) (by omega) (Nat.le_trans hya.out (Nat.le_trans (Nat.le_of_eq Array.length_toList) (Nat.le_trans hsz.out (by decide))))).mono ?_; rintro e w5 ⟨he5, hb5⟩; rw [hne] at he5; subst he5)))
      go_ret
      exact ⟨rfl, bl_t (bl_t (bl_a (bl_t hbw hb3)) hb4) hb5⟩
  · go_enter Tryd.func3, Tryd.ntmps3
    go_wp2_with (first
      | (go_at_call 5; go_loud (refine (line_ok x A D ca cd _ (E.below (bl_a (Below.refl _ _))) (C.below (bl_a (Below.refl _ _))) (by omega) (by omega) hok.out).mono ?_; rintro e w1 ⟨he, hb1⟩; rw [hbs.out] at he; subst he; have hB1 := blk_below hB hb1; obtain ⟨W2, cv1, q2, f2, hb2, hz2, hR2⟩ := bytes_w w1 b i hib; rw [← hq.out] at q2))
      | (go_at_call 4; go_loud (refine (awake_calls _ (E.below (bl_t (bl_t (bl_a (Below.refl _ _)) hb1) hb2))).mono ?_; rintro e w3 ⟨rfl, hb3⟩)))
    go_ret
    exact ⟨rfl, bl_t (bl_t (bl_t (bl_a (Below.refl _ _)) hb1) hb2) hb3⟩
/-- the law, whatever the command, the place and the byte -/
theorem unlike_all (x : Cm) (A D : Option Addr) (ca cd : Nat) (at' c : Int) (w : World) (E : Env w) (C : Cv w x A D) (ha0 : 0 ≤ at') (ha1 : at' < 256) (hc0 : 0 ≤ c) (hc1 : c < 256)
    (hd : x.data.length ≤ 9223372036854775807) (ha : x.args.length ≤ 9223372036854775807) :
    Calls Tryd.prog 3 #[.agg #[.int .i64 x.k, .int .i64 x.n, .int .i64 x.fuel, .slice A x.args.length ca, .slice D x.data.length cd], .int .u8 at', .int .u8 c] w fun e w' => e = .returned (.bool true) ∧ Below w.heap.size w w' := by
  by_cases h : 100 < x.data.length ∨ 20 < x.args.length
  · exact unlike_big x A D ca cd at' c w E h hd ha
  · cases hok : okLine x with
    | true => exact unlike_ok x A D ca cd at' c w E C (by omega) (by omega) hok ha0 ha1 hc0 hc1
    | false => exact unlike_no x A D ca cd at' c w E C (by omega) (by omega) hok
end Go.Proofs.YtnhjekpadcjdnaaDoor.T

/- Commands and their lines: are two commands one. -/
import Derived.Test.YtnhjekpadcjdnaaDoorK
import Derived.Laws.BytesArg
namespace Go.Proofs.YtnhjekpadcjdnaaDoor.T
open Go Go.RowKit
set_option linter.unusedVariables false
set_option linter.unusedSimpArgs false
set_option maxRecDepth 100000
theorem conv_rd (w : World) (A : Option Addr) (cp : Nat) (xs : List Int) (h : Rd w A (xs.map byteI)) : (convert 23 9 (.slice A xs.length cp)).run Tryd.prog w = .ok (.string (strOfNums xs)) w := by
  cases A with
  | none =>
    cases xs with
    | nil => exact run_convert_bytes_nil w 23 5 Tryd.underlying23 Tryd.underlying5 _ _ 9 Tryd.underlying9
    | cons x xs => obtain ⟨a, ha, _⟩ := h 0 (byteI x) rfl; cases ha
  | some a =>
    have hl : (loadCells a xs.length).run Tryd.prog w = .ok (xs.map (Value.int .u8)).toArray w := by
      have := run_loadCells_list (P := Tryd.prog) w a (xs.map (Value.int .u8)) (fun j v hj => by
        obtain ⟨a', ha, _, hc⟩ := h j v hj
        cases ha
        exact hc)
      simpa using this
    rw [run_convert_bytes_string w 23 9 5 _ xs.length cp Tryd.underlying23 Tryd.underlying5 Tryd.underlying9, run_bytesToString w _ xs.length cp xs hl, foldl_push_bytes]
    simp [strOfNums, ByteArray.empty, ByteArray.emptyWithCapacity]
    rfl
theorem nums_inj : ∀ {xs ys : List Int}, (∀ c ∈ xs, 0 ≤ c ∧ c < 256) → (∀ c ∈ ys, 0 ≤ c ∧ c < 256) → (strOfNums xs).toList = (strOfNums ys).toList → xs = ys
  | [], [], _, _, _ => rfl
  | [], y :: ys, _, _, h => by rw [Lib.toList_data, Lib.toList_data, strOfNums_data, strOfNums_data] at h; simp at h
  | x :: xs, [], _, _, h => by rw [Lib.toList_data, Lib.toList_data, strOfNums_data, strOfNums_data] at h; simp at h
  | x :: xs, y :: ys, hx, hy, h => by
    have h' := h
    rw [Lib.toList_data, Lib.toList_data, strOfNums_data, strOfNums_data, List.map_cons, List.map_cons, List.cons.injEq] at h'
    obtain ⟨x0, x1⟩ := hx x (by simp)
    obtain ⟨y0, y1⟩ := hy y (by simp)
    have hn : (UInt8.ofNat x.toNat).toNat = (UInt8.ofNat y.toNat).toNat := by rw [h'.1]
    rw [UInt8.toNat_ofNat', UInt8.toNat_ofNat', Nat.mod_eq_of_lt (by omega), Nat.mod_eq_of_lt (by omega)] at hn
    have ht : xs = ys := nums_inj (fun c hc => hx c (by simp [hc])) (fun c hc => hy c (by simp [hc])) (by rw [Lib.toList_data, Lib.toList_data, strOfNums_data, strOfNums_data]; exact h'.2)
    rw [ht, show x = y by omega]
set_option maxHeartbeats 1000000 in
theorem same_k (A B D F : Option Addr) (ca cb cd cf la lb ld lf : Nat) (ak an af bk bn bf : Int) (w : World) (h : (ak != bk) = true) :
    Calls Tryd.prog 7 #[.agg #[.int .i64 ak, .int .i64 an, .int .i64 af, .slice A la ca, .slice D ld cd], .agg #[.int .i64 bk, .int .i64 bn, .int .i64 bf, .slice B lb cb, .slice F lf cf]] w fun e w' => e = .returned (.bool false) ∧ Below w.heap.size w w' := by
  go_enter Tryd.func7, Tryd.ntmps7
  go_wp2
  go_ret
  exact ⟨rfl, (by repeat (first | exact Below.refl _ _ | assumption | with_reducible apply bl_a | with_reducible apply bl_d))⟩
set_option maxHeartbeats 1000000 in
theorem same_n (A B D F : Option Addr) (ca cb cd cf la lb ld lf : Nat) (ak an af bk bn bf : Int) (w : World) (h0 : (ak != bk) = false) (h : (an != bn) = true) :
    Calls Tryd.prog 7 #[.agg #[.int .i64 ak, .int .i64 an, .int .i64 af, .slice A la ca, .slice D ld cd], .agg #[.int .i64 bk, .int .i64 bn, .int .i64 bf, .slice B lb cb, .slice F lf cf]] w fun e w' => e = .returned (.bool false) ∧ Below w.heap.size w w' := by
  go_enter Tryd.func7, Tryd.ntmps7
  go_wp2
  go_ret
  exact ⟨rfl, (by repeat (first | exact Below.refl _ _ | assumption | with_reducible apply bl_a | with_reducible apply bl_d))⟩
set_option maxHeartbeats 1000000 in
theorem same_f (A B D F : Option Addr) (ca cb cd cf la lb ld lf : Nat) (ak an af bk bn bf : Int) (w : World) (h0 : (ak != bk) = false) (h1 : (an != bn) = false) (h : (af != bf) = true) :
    Calls Tryd.prog 7 #[.agg #[.int .i64 ak, .int .i64 an, .int .i64 af, .slice A la ca, .slice D ld cd], .agg #[.int .i64 bk, .int .i64 bn, .int .i64 bf, .slice B lb cb, .slice F lf cf]] w fun e w' => e = .returned (.bool false) ∧ Below w.heap.size w w' := by
  go_enter Tryd.func7, Tryd.ntmps7
  go_wp2
  go_ret
  exact ⟨rfl, (by repeat (first | exact Below.refl _ _ | assumption | with_reducible apply bl_a | with_reducible apply bl_d))⟩
set_option maxHeartbeats 1000000 in
theorem same_l (A B D F : Option Addr) (ca cb cd cf la lb ld lf : Nat) (ak an af bk bn bf : Int) (w : World) (h0 : (ak != bk) = false) (h1 : (an != bn) = false) (h2 : (af != bf) = false) (h : ((la : Int) != (lb : Int)) = true) (hm : la ≤ 9223372036854775807) (hm2 : lb ≤ 9223372036854775807) :
    Calls Tryd.prog 7 #[.agg #[.int .i64 ak, .int .i64 an, .int .i64 af, .slice A la ca, .slice D ld cd], .agg #[.int .i64 bk, .int .i64 bn, .int .i64 bf, .slice B lb cb, .slice F lf cf]] w fun e w' => e = .returned (.bool false) ∧ Below w.heap.size w w' := by
  have h' : (la != lb) = true := by simp at h ⊢; omega
  go_enter Tryd.func7, Tryd.ntmps7
  go_wp2
  go_ret
  exact ⟨rfl, (by repeat (first | exact Below.refl _ _ | assumption | with_reducible apply bl_a | with_reducible apply bl_d))⟩
set_option maxHeartbeats 1000000 in
theorem same_d (A B D F : Option Addr) (ca cb cd cf la lb : Nat) (dx dy : List Int) (ak an af bk bn bf : Int) (w : World) (h0 : (ak != bk) = false) (h1 : (an != bn) = false) (h2 : (af != bf) = false) (h3 : ((la : Int) != (lb : Int)) = false)
    (hD : Rd w D (dx.map byteI)) (hF : Rd w F (dy.map byteI)) (h : ((strOfNums dx).toList == (strOfNums dy).toList) = false) (ld lf : Nat) (hld : ld = dx.length) (hlf : lf = dy.length) :
    Calls Tryd.prog 7 #[.agg #[.int .i64 ak, .int .i64 an, .int .i64 af, .slice A la ca, .slice D ld cd], .agg #[.int .i64 bk, .int .i64 bn, .int .i64 bf, .slice B lb cb, .slice F lf cf]] w fun e w' => e = .returned (.bool false) ∧ Below w.heap.size w w' := by
  have h3' : (la != lb) = false := by simp at h3 ⊢; omega
  subst hld hlf
  have g1 := conv_rd ((w.alloc (.cells #[.int .i64 ak, .int .i64 an, .int .i64 af, .slice A la ca, .slice D dx.length cd] 25)).alloc (.cells #[.int .i64 bk, .int .i64 bn, .int .i64 bf, .slice B lb cb, .slice F dy.length cf] 25)) D cd dx (hD.below (by repeat (first | exact Below.refl _ _ | assumption | with_reducible apply bl_a | with_reducible apply bl_d)))
  have g2 := conv_rd ((w.alloc (.cells #[.int .i64 ak, .int .i64 an, .int .i64 af, .slice A la ca, .slice D dx.length cd] 25)).alloc (.cells #[.int .i64 bk, .int .i64 bn, .int .i64 bf, .slice B lb cb, .slice F dy.length cf] 25)) F cf dy (hF.below (by repeat (first | exact Below.refl _ _ | assumption | with_reducible apply bl_a | with_reducible apply bl_d)))
  go_enter Tryd.func7, Tryd.ntmps7
  go_wp2
  go_ret
  exact ⟨rfl, (by repeat (first | exact Below.refl _ _ | assumption | with_reducible apply bl_a | with_reducible apply bl_d))⟩
def sameL : List Int → List Int → Bool
  | a :: l, b :: m => a == b && sameL l m
  | _, _ => true
theorem sameL_eq : ∀ {l m : List Int}, l.length = m.length → (sameL l m = true ↔ l = m)
  | [], [], _ => by simp [sameL]
  | [], _ :: _, h => by simp at h
  | _ :: _, [], h => by simp at h
  | a :: l, b :: m, h => by
    have := sameL_eq (l := l) (m := m) (by simpa using h)
    simp [sameL, this]
set_option maxHeartbeats 2000000 in
theorem same_a (A B D F : Option Addr) (ca cb cd cf : Nat) (ax ay dx dy : List Int) (ak an af bk bn bf : Int) (w : World) (h0 : (ak != bk) = false) (h1 : (an != bn) = false) (h2 : (af != bf) = false) (hla : ax.length = ay.length) (hlm : ax.length ≤ 4294967296)
    (hD : Rd w D (dx.map byteI)) (hF : Rd w F (dy.map byteI)) (h : ((strOfNums dx).toList == (strOfNums dy).toList) = true) (ld lf la lb : Nat) (hld : ld = dx.length) (hlf : lf = dy.length) (hla1 : la = ax.length) (hlb : lb = ay.length)
    (hA : Rd w A (ax.map i32V)) (hB : Rd w B (ay.map i32V)) :
    Calls Tryd.prog 7 #[.agg #[.int .i64 ak, .int .i64 an, .int .i64 af, .slice A la ca, .slice D ld cd], .agg #[.int .i64 bk, .int .i64 bn, .int .i64 bf, .slice B lb cb, .slice F lf cf]] w fun e w' => e = .returned (.bool (sameL ax ay)) ∧ Below w.heap.size w w' := by
  have h3' : (la != lb) = false := by rw [hla1, hlb, hla]; simp
  have h3 : ((la : Int) != (lb : Int)) = false := by rw [hla1, hlb, hla]; simp
  subst hld hlf
  have g1 := conv_rd ((w.alloc (.cells #[.int .i64 ak, .int .i64 an, .int .i64 af, .slice A la ca, .slice D dx.length cd] 25)).alloc (.cells #[.int .i64 bk, .int .i64 bn, .int .i64 bf, .slice B lb cb, .slice F dy.length cf] 25)) D cd dx (hD.below (by repeat (first | exact Below.refl _ _ | assumption | with_reducible apply bl_a | with_reducible apply bl_d)))
  have g2 := conv_rd ((w.alloc (.cells #[.int .i64 ak, .int .i64 an, .int .i64 af, .slice A la ca, .slice D dx.length cd] 25)).alloc (.cells #[.int .i64 bk, .int .i64 bn, .int .i64 bf, .slice B lb cb, .slice F dy.length cf] 25)) F cf dy (hF.below (by repeat (first | exact Below.refl _ _ | assumption | with_reducible apply bl_a | with_reducible apply bl_d)))
  have hb : Below w.heap.size w ((w.alloc (.cells #[.int .i64 ak, .int .i64 an, .int .i64 af, .slice A la ca, .slice D dx.length cd] 25)).alloc (.cells #[.int .i64 bk, .int .i64 bn, .int .i64 bf, .slice B lb cb, .slice F dy.length cf] 25)) := (by repeat (first | exact Below.refl _ _ | assumption | with_reducible apply bl_a | with_reducible apply bl_d))
  have hBA := blk_below (blk_new w (.cells #[.int .i64 ak, .int .i64 an, .int .i64 af, .slice A la ca, .slice D dx.length cd] 25)) (bl_a (o := .cells #[.int .i64 bk, .int .i64 bn, .int .i64 bf, .slice B lb cb, .slice F dy.length cf] 25) (Below.refl _ _))
  have hBB := blk_new (w.alloc (.cells #[.int .i64 ak, .int .i64 an, .int .i64 af, .slice A la ca, .slice D dx.length cd] 25)) (.cells #[.int .i64 bk, .int .i64 bn, .int .i64 bf, .slice B lb cb, .slice F dy.length cf] 25)
  rw [show (w.alloc (.cells #[.int .i64 ak, .int .i64 an, .int .i64 af, .slice A la ca, .slice D dx.length cd] 25)).heap.size = w.heap.size + 1 by simp] at hBB
  replace hla := Lib.hid hla
  replace hla1 := Lib.hid hla1
  replace hlb := Lib.hid hlb
  have hlm2 : la ≤ 4294967296 := by rw [hla1.out]; exact hlm
  go_enter Tryd.func7, Tryd.ntmps7
  go_wp2
  clear g1 g2
  generalize (w.alloc (.cells #[.int .i64 ak, .int .i64 an, .int .i64 af, .slice A la ca, .slice D dx.length cd] 25)).alloc (.cells #[.int .i64 bk, .int .i64 bn, .int .i64 bf, .slice B lb cb, .slice F dy.length cf] 25) = W at *
  go_loopw [5] (fun i wr => ∃ k m : Nat, i = .int .i64 k ∧ k ≤ la ∧ Hid (sameL ax ay = sameL (ax.drop k) (ay.drop k)) ∧ wr = W.drewN m) (fun i _ => la - (intOf i).toNat)
  case atStart => exact ⟨0, 0, rfl, by omega, Lib.hid rfl, rfl⟩
  case round =>
    obtain ⟨k, m, rfl, hk, hs, rfl⟩ := hrel
    have q1 := blk_cell hBA
    have q2 := blk_cell hBB
    by_cases hlt : k < la
    · have e1 : k < ax.length := by rw [← hla1.out]; exact hlt
      have e2 : k < ay.length := by rw [← hla.out]; exact e1
      obtain ⟨a1, rfl, _, c1⟩ := (hA.below hb) k (i32V (ax.getD k 0)) (by simp [List.getD_eq_getElem?_getD, e1])
      obtain ⟨a2, rfl, _, c2⟩ := (hB.below hb) k (i32V (ay.getD k 0)) (by simp [List.getD_eq_getElem?_getD, e2])
      have hd : Hid (sameL (ax.drop k) (ay.drop k) = (ax.getD k 0 == ay.getD k 0 && sameL (ax.drop (k + 1)) (ay.drop (k + 1)))) := Lib.hid (by
        rw [List.drop_eq_getElem_cons e1, List.drop_eq_getElem_cons e2]
        simp [sameL, List.getD_eq_getElem?_getD, e1, e2])
      have hlt2 : k < lb := by rw [hlb.out]; exact e2
      generalize ax.getD k 0 = x at *
      generalize ay.getD k 0 = y at *
      unfold i32V at c1 c2
      clear e1 e2
      cases hxy : (x == y)
      all_goals
        have hxy' : (x != y) = !(x == y) := rfl
        rw [hxy] at hxy'
        simp only [Bool.not_true, Bool.not_false] at hxy'
        go_wp2
        go_quiet (fail)
        go_wp2
      · go_ret
        exact ⟨by rw [hs.out, hd.out, hxy]; rfl, bl_n (bl_n hb _) _⟩
      · go_roundw
        case rel => exact ⟨k + 1, m + nq, by go_num, by omega, Lib.hid (by rw [hs.out, hd.out, hxy]; rfl), by first | rfl | rw [World.drewN_drewN]⟩
        case measure => simp [intOf]; omega
    · go_wp2
      go_ret
      have e1 : ax.length ≤ k := by rw [← hla1.out]; omega
      exact ⟨by rw [hs.out, List.drop_of_length_le e1]; rfl, bl_n hb _⟩
/-- a command's slices, as they lie -/
structure Sv (w : World) (x : Cm) (A D : Option Addr) : Prop where
  args : Rd w A (x.args.map i32V)
  data : Rd w D (x.data.map byteI)
  hd : ∀ c ∈ x.data, 0 ≤ c ∧ c < 256
/-- are two commands one? -/
theorem same_calls (x y : Cm) (A B D F : Option Addr) (ca cb cd cf : Nat) (w : World) (X : Sv w x A D) (Y : Sv w y B F) (lx : x.args.length ≤ 4294967296) (ly : y.args.length ≤ 4294967296) :
    Calls Tryd.prog 7 #[.agg #[.int .i64 x.k, .int .i64 x.n, .int .i64 x.fuel, .slice A x.args.length ca, .slice D x.data.length cd], .agg #[.int .i64 y.k, .int .i64 y.n, .int .i64 y.fuel, .slice B y.args.length cb, .slice F y.data.length cf]] w fun e w' => e = .returned (.bool (decide (x = y))) ∧ Below w.heap.size w w' := by
  have fin {b : Bool} (hb : b = decide (x = y)) : (fun (e : Ending) (w' : World) => e = .returned (.bool b) ∧ Below w.heap.size w w') = (fun (e : Ending) (w' : World) => e = .returned (.bool (decide (x = y))) ∧ Below w.heap.size w w') := by rw [hb]
  by_cases h0 : x.k = y.k
  · by_cases h1 : x.n = y.n
    · by_cases h2 : x.fuel = y.fuel
      · by_cases h3 : x.args.length = y.args.length
        · by_cases h4 : x.data = y.data
          · rw [← fin (b := sameL x.args y.args) (by
              rw [Bool.eq_iff_iff, sameL_eq h3, decide_eq_true_eq]
              obtain ⟨a1, a2, a3, a4, a5⟩ := x
              obtain ⟨b1, b2, b3, b4, b5⟩ := y
              simp only at h0 h1 h2 h4
              subst h0 h1 h2 h4
              simp)]
            exact same_a A B D F ca cb cd cf x.args y.args x.data y.data _ _ _ _ _ _ w (by simp [h0]) (by simp [h1]) (by simp [h2]) h3 lx X.data Y.data (by rw [h4]; simp) _ _ _ _ rfl rfl rfl rfl X.args Y.args
          · rw [← fin (b := false) (by symm; rw [decide_eq_false_iff_not]; intro e; exact h4 (by rw [e]))]
            exact same_d A B D F ca cb cd cf _ _ x.data y.data _ _ _ _ _ _ w (by simp [h0]) (by simp [h1]) (by simp [h2]) (by simp [h3]) X.data Y.data (by rw [beq_eq_false_iff_ne]; intro e; exact h4 (nums_inj X.hd Y.hd e)) _ _ rfl rfl
        · rw [← fin (b := false) (by symm; rw [decide_eq_false_iff_not]; intro e; exact h3 (by rw [e]))]
          exact same_l A B D F ca cb cd cf _ _ _ _ _ _ _ _ _ _ w (by simp [h0]) (by simp [h1]) (by simp [h2]) (by rw [bne_iff_ne]; omega) (by omega) (by omega)
      · rw [← fin (b := false) (by symm; rw [decide_eq_false_iff_not]; intro e; exact h2 (by rw [e]))]
        exact same_f A B D F ca cb cd cf _ _ _ _ _ _ _ _ _ _ w (by simp [h0]) (by simp [h1]) (by simpa using h2)
    · rw [← fin (b := false) (by symm; rw [decide_eq_false_iff_not]; intro e; exact h1 (by rw [e]))]
      exact same_n A B D F ca cb cd cf _ _ _ _ _ _ _ _ _ _ w (by simp [h0]) (by simpa using h1)
  · rw [← fin (b := false) (by symm; rw [decide_eq_false_iff_not]; intro e; exact h0 (by rw [e]))]
    exact same_k A B D F ca cb cd cf _ _ _ _ _ _ _ _ _ _ w (by simpa using h0)
end Go.Proofs.YtnhjekpadcjdnaaDoor.T

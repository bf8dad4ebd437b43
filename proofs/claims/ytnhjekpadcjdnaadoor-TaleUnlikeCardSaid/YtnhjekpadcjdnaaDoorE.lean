/- Commands and their lines: what a command's line is. -/
import Derived.Test.YtnhjekpadcjdnaaDoorD
namespace Go.Proofs.YtnhjekpadcjdnaaDoor.T
open Go Go.RowKit
set_option linter.unusedVariables false
set_option linter.unusedSimpArgs false
set_option maxRecDepth 100000
def i32V (c : Int) : Value := .int .i32 c
/-- a command that is read -/
structure Cv (w : World) (x : Cm) (A D : Option Addr) : Prop where
  args : Rd w A (x.args.map i32V)
  data : Rd w D (x.data.map byteI)
  ha : ∀ c ∈ x.args, -2147483648 ≤ c ∧ c ≤ 2147483647
  hd : ∀ c ∈ x.data, 0 ≤ c ∧ c < 256
  n0 : -9223372036854775808 ≤ x.n
  n1 : x.n ≤ 9223372036854775807
  f0 : -9223372036854775808 ≤ x.fuel
  f1 : x.fuel ≤ 9223372036854775807
theorem Cv.below {w w1 : World} {x : Cm} {A D : Option Addr} (h : Cv w x A D) (hb : Below w.heap.size w w1) : Cv w1 x A D :=
  ⟨h.args.below hb, h.data.below hb, h.ha, h.hd, h.n0, h.n1, h.f0, h.f1⟩
set_option maxHeartbeats 2000000 in
theorem fits_calls (x : Cm) (A D : Option Addr) (ca cd : Nat) (w : World) :
    Calls Tryd.prog 10 #[.agg #[.int .i64 x.k, .int .i64 x.n, .int .i64 x.fuel, .slice A x.args.length ca, .slice D x.data.length cd]] w fun e w' => e = .returned (.bool (fitsB x)) ∧ Below w.heap.size w w' := by
  unfold fitsB
  generalize x.k = k
  generalize x.n = n
  generalize x.fuel = f
  generalize x.args.length = la
  generalize x.data.length = ld
  cases h1 : (k == 1)
  · have h1' : (k != 1) = true := by simp [bne, h1]
    by_cases hd : 0 < ld
    · go_enter Tryd.func10, Tryd.ntmps10
      go_wp2
      go_ret
      exact ⟨by simp [fitsV, *], (by repeat (first | exact Below.refl _ _ | assumption | with_reducible apply bl_a | with_reducible apply bl_d))⟩
    · obtain rfl : ld = 0 := by omega
      clear hd
      cases h4 : (k == 4)
      · have h4' : (k != 4) = true := by simp [bne, h4]
        by_cases ha : 0 < la
        · go_enter Tryd.func10, Tryd.ntmps10
          go_wp2
          go_ret
          exact ⟨by simp [fitsV, *], (by repeat (first | exact Below.refl _ _ | assumption | with_reducible apply bl_a | with_reducible apply bl_d))⟩
        · obtain rfl : la = 0 := by omega
          clear ha
          cases hf : (f == 0)
          · have hf' : (f != 0) = true := by simp [bne, hf]
            go_enter Tryd.func10, Tryd.ntmps10
            go_wp2
            go_ret
            exact ⟨by simp [fitsV, *], (by repeat (first | exact Below.refl _ _ | assumption | with_reducible apply bl_a | with_reducible apply bl_d))⟩
          · have hf' : (f != 0) = false := by simp [bne, hf]
            cases hn : (n == 0) <;> cases h2 : (k == 2) <;> cases h3 : (k == 3)
            all_goals
              go_enter Tryd.func10, Tryd.ntmps10
              go_wp2
              go_ret
              exact ⟨by simp [fitsV, *], (by repeat (first | exact Below.refl _ _ | assumption | with_reducible apply bl_a | with_reducible apply bl_d))⟩
      · have h4' : (k != 4) = false := by simp [bne, h4]
        cases hn : (n == 0) <;> cases h2 : (k == 2) <;> cases h3 : (k == 3)
        all_goals
          go_enter Tryd.func10, Tryd.ntmps10
          go_wp2
          go_ret
          exact ⟨by simp [fitsV, *], (by repeat (first | exact Below.refl _ _ | assumption | with_reducible apply bl_a | with_reducible apply bl_d))⟩
  · have h1' : (k != 1) = false := by simp [bne, h1]
    obtain rfl : k = 1 := by simpa using h1
    by_cases ha : 0 < la
    · go_enter Tryd.func10, Tryd.ntmps10
      go_wp2
      go_ret
      exact ⟨by simp [fitsV, *], (by repeat (first | exact Below.refl _ _ | assumption | with_reducible apply bl_a | with_reducible apply bl_d))⟩
    · obtain rfl : la = 0 := by omega
      clear ha
      cases hf : (f == 0)
      · have hf' : (f != 0) = true := by simp [bne, hf]
        go_enter Tryd.func10, Tryd.ntmps10
        go_wp2
        go_ret
        exact ⟨by simp [fitsV, *], (by repeat (first | exact Below.refl _ _ | assumption | with_reducible apply bl_a | with_reducible apply bl_d))⟩
      · have hf' : (f != 0) = false := by simp [bne, hf]
        cases hn : (n == 0)
        all_goals
          go_enter Tryd.func10, Tryd.ntmps10
          go_wp2
          go_ret
          exact ⟨by simp [fitsV, *], (by repeat (first | exact Below.refl _ _ | assumption | with_reducible apply bl_a | with_reducible apply bl_d))⟩
end Go.Proofs.YtnhjekpadcjdnaaDoor.T

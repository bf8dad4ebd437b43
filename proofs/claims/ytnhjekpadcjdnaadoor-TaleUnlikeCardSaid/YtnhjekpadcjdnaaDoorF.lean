/- Commands and their lines: a command as a line. -/
import Derived.Test.YtnhjekpadcjdnaaDoorO
namespace Go.Proofs.YtnhjekpadcjdnaaDoor.T
open Go Go.RowKit
set_option linter.unusedVariables false
set_option linter.unusedSimpArgs false
set_option maxRecDepth 100000
attribute [local go_sem] rdOp InK
def namesV : Array Value := #[.string ⟨wInstall.toArray⟩, .string ⟨wDelete.toArray⟩, .string ⟨wSelect.toArray⟩, .string ⟨wInvoke.toArray⟩, .string ⟨wReset.toArray⟩]
theorem names_calls (w : World) : Calls Tryd.prog 9 #[] w fun e w' => e = .returned (.slice (some ⟨w.heap.size, 0, none⟩) 5 5) ∧ w' = w.alloc (.cells namesV 9) := by
  go_enter Tryd.func9, Tryd.ntmps9
  go_wp2
  go_ret
  exact ⟨rfl, rfl⟩
set_option maxHeartbeats 1000000 in
theorem line_low (x : Cm) (A D : Option Addr) (ca cd : Nat) (w : World) (h : x.k < 1) :
    Calls Tryd.prog 5 #[.agg #[.int .i64 x.k, .int .i64 x.n, .int .i64 x.fuel, .slice A x.args.length ca, .slice D x.data.length cd]] w fun e w' => e = .returned (.tuple #[.string ⟨#[]⟩, .int .i64 1]) ∧ Below w.heap.size w w' := by
  generalize x.n = n
  generalize x.k = k at *
  generalize x.fuel = f
  generalize x.args.length = la
  generalize x.data.length = ld
  go_enter Tryd.func5, Tryd.ntmps5
  go_wp2_with (go_at_call 9; refine (names_calls _).mono ?_; rintro e w1 ⟨rfl, rfl⟩)
  go_ret2
  exact ⟨rfl, (by repeat (first | exact Below.refl _ _ | assumption | with_reducible apply bl_a | with_reducible apply bl_d))⟩
set_option maxHeartbeats 1000000 in
theorem line_high (x : Cm) (A D : Option Addr) (ca cd : Nat) (w : World) (h : 5 < x.k) :
    Calls Tryd.prog 5 #[.agg #[.int .i64 x.k, .int .i64 x.n, .int .i64 x.fuel, .slice A x.args.length ca, .slice D x.data.length cd]] w fun e w' => e = .returned (.tuple #[.string ⟨#[]⟩, .int .i64 1]) ∧ Below w.heap.size w w' := by
  generalize x.n = n
  generalize x.k = k at *
  generalize x.fuel = f
  generalize x.args.length = la
  generalize x.data.length = ld
  have h0 : ¬ k < 1 := by omega
  go_enter Tryd.func5, Tryd.ntmps5
  go_wp2_with (go_at_call 9; refine (names_calls _).mono ?_; rintro e w1 ⟨rfl, rfl⟩)
  go_ret2
  exact ⟨rfl, (by repeat (first | exact Below.refl _ _ | assumption | with_reducible apply bl_a | with_reducible apply bl_d))⟩
set_option maxHeartbeats 1000000 in
theorem line_unfit (x : Cm) (A D : Option Addr) (ca cd : Nat) (w : World) (h1 : ¬ x.k < 1) (h2 : ¬ 5 < x.k) (hf : fitsB x = false) :
    Calls Tryd.prog 5 #[.agg #[.int .i64 x.k, .int .i64 x.n, .int .i64 x.fuel, .slice A x.args.length ca, .slice D x.data.length cd]] w fun e w' => e = .returned (.tuple #[.string ⟨#[]⟩, .int .i64 1]) ∧ Below w.heap.size w w' := by
  replace hf := Lib.hid hf
  go_enter Tryd.func5, Tryd.ntmps5
  go_wp2_with (first | (go_at_call 9; refine (names_calls _).mono ?_; rintro e w1 ⟨rfl, rfl⟩) | (go_at_call 10; refine (fits_calls x A D ca cd _).mono ?_; rintro e w1 ⟨rfl, hb⟩; rw [hf.out]))
  go_ret2
  exact ⟨rfl, bl_t (by repeat (first | exact Below.refl _ _ | assumption | with_reducible apply bl_a | with_reducible apply bl_d)) hb⟩
end Go.Proofs.YtnhjekpadcjdnaaDoor.T

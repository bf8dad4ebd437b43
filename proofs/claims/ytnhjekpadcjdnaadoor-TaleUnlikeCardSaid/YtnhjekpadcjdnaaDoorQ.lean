/- Commands and their lines: the fixed fact. -/
import Derived.Test.YtnhjekpadcjdnaaDoorP
namespace Go.Proofs.YtnhjekpadcjdnaaDoor.T
open Go Go.RowKit
set_option linter.unusedVariables false
set_option linter.unusedSimpArgs false
set_option maxRecDepth 100000
def aw1 : List UInt8 := [105, 110, 118, 111, 107, 101, 32, 50, 32, 53, 48, 32, 45, 55, 32, 48]
def aw2 : List UInt8 := [105, 110, 115, 116, 97, 108, 108, 32, 120, 48, 49, 102, 102]
def aw3 : List UInt8 := [114, 101, 115, 101, 116, 10, 115, 101, 108, 101, 99, 116, 32, 51]
theorem aw_cmd : cmdL aw1 = some ⟨4, 2, 50, [-7, 0], []⟩ := by kernel_rfl
theorem aw_line : lineL ⟨1, 0, 0, [], [1, 255]⟩ = aw2 := by decide
theorem aw_ok : okLine ⟨1, 0, 0, [], [1, 255]⟩ = true := by decide
theorem aw_lines : linesF 14 ⟨aw3.toArray⟩ = [⟨#[114, 101, 115, 101, 116, 10]⟩, ⟨#[115, 101, 108, 101, 99, 116, 32, 51]⟩] := by kernel_rfl
theorem aw_r1 : cmdL (Lib.trimSuffix [114, 101, 115, 101, 116, 10] [10]) = some ⟨5, 0, 0, [], []⟩ := by decide
theorem aw_r2 : cmdL (Lib.trimSuffix [115, 101, 108, 101, 99, 116, 32, 51] [10]) = some ⟨3, 3, 0, [], []⟩ := by kernel_rfl
theorem aw_str : strV (lineL ⟨1, 0, 0, [], [1, 255]⟩) = .string ⟨#[105, 110, 115, 116, 97, 108, 108, 32, 120, 48, 49, 102, 102]⟩ := by rw [aw_line]; rfl
theorem Own.rd {w W : World} {e : TypeId} {A : Option Addr} {n c : Nat} {xs : List Value} (h : Own w W e (.slice A n c) xs) : Rd W A xs := by
  obtain ⟨A', c', he, _, hr⟩ := h.slice
  injection he with h1 h2 h3
  rw [h1]; exact hr
theorem rd_new (w : World) (cs : Array Value) (t : TypeId) : Rd (w.alloc (.cells cs t)) (some ⟨w.heap.size, 0, none⟩) cs.toList := by
  intro k v hk
  refine ⟨_, rfl, by simp, ?_⟩
  have := blk_cell (blk_new w (.cells cs t)) k
  have e : (⟨w.heap.size, 0, none⟩ : Addr).add k = ⟨w.heap.size, k, none⟩ := by
    unfold Addr.add
    split
    · rename_i h0; subst h0; rfl
    · simp
  rw [e, this, ← hk, Array.getElem?_toList]
theorem aw_cell {w w1 : World} {a : Addr} {v : Value} (h : w.cell? (a.add 0) = some v) (hl : a.block < w.heap.size) (hb : Below w.heap.size w w1) : w1.cell? a = some v := by
  have e : a.add 0 = a := by simp [Addr.add]
  rw [e] at h
  rw [hb.cell hl]; exact h
theorem aw_cv (w : World) (o : Obj) : Cv ((w.alloc o).alloc (.cells #[.int .u8 1, .int .u8 255] 5)) ⟨1, 0, 0, [], [1, 255]⟩ none (some ⟨w.heap.size + 1, 0, none⟩) where
  args := by intro k v hk; simp at hk
  data := by
    have := rd_new (w.alloc o) #[.int .u8 1, .int .u8 255] 5
    rw [World.size_alloc] at this
    exact this
  ha := by intro c hc; cases hc
  hd := by intro c hc; simp at hc; omega
  n0 := by decide
  n1 := by decide
  f0 := by decide
  f1 := by decide
theorem aw_all : ∀ x ∈ linesF (⟨aw3.toArray⟩ : ByteArray).size ⟨aw3.toArray⟩, x.size ≤ 1000000 ∧ ∃ c, cmdL (Lib.trimSuffix x.data.toList [10]) = some c := by
  rw [show (⟨aw3.toArray⟩ : ByteArray).size = 14 from rfl, aw_lines]
  intro x hx
  simp only [List.mem_cons, List.not_mem_nil, or_false] at hx
  rcases hx with rfl | rfl
  · exact ⟨by decide, _, aw_r1⟩
  · exact ⟨by decide, _, aw_r2⟩
theorem aw_len : (linesF (⟨aw3.toArray⟩ : ByteArray).size ⟨aw3.toArray⟩).length = 2 := by
  rw [show (⟨aw3.toArray⟩ : ByteArray).size = 14 from rfl, aw_lines]; rfl
set_option maxHeartbeats 4000000 in
theorem awake_calls (w : World) (E : Env w) : Calls Tryd.prog 4 #[] w fun e w' => e = .returned (.bool true) ∧ Below w.heap.size w w' := by
  go_enter Tryd.func4, Tryd.ntmps4
  go_wp2_with (first
    | (go_at_call 6; go_loud (refine (cmd_calls ⟨aw1.toArray⟩ w E (by decide) _ (Lib.hid aw_cmd.symm)).mono ?_; rintro e w1 ⟨⟨A1, c1, D1, d1, rfl, O1, P1⟩, hb1⟩; obtain ⟨a1, rfl, hal, hac⟩ := O1.rd 0 (.int .i32 (-7)) rfl; replace hal := Lib.hid hal; clear O1 P1))
    | (go_at_call 5; go_loud (refine (line_ok ⟨1, 0, 0, [], [1, 255]⟩ none (some ⟨w1.heap.size + 1, 0, none⟩) 0 2 _ (E.below (bl_a (bl_a hb1))) (aw_cv w1 _) (by decide) (by decide) aw_ok).mono ?_; rintro e w2 ⟨he, hb2⟩; rw [aw_str] at he; subst he; have hB2 := blk_below (blk_below (blk_new w1 (.cells #[.int .i64 4, .int .i64 2, .int .i64 50, .slice (some a1) 2 c1, .slice D1 0 d1] 25)) (bl_a (o := .cells #[.int .u8 1, .int .u8 255] 5) (Below.refl _ _))) hb2))
    | (go_at_call 8; go_loud (refine (read_text ⟨aw3.toArray⟩ w2 (E.below (bl_t (bl_a (bl_a hb1)) hb2)) (by decide) aw_all (by rw [aw_len]; decide)).mono ?_; rintro e w3 ⟨⟨A3, c3, he⟩, hb3⟩; rw [aw_len] at he; subst he; have hB3 := blk_below hB2 hb3; have q3 := blk_cell hB3; have qa := aw_cell hac hal.out (bl_t (bl_t (bl_a (bl_a (Below.refl _ _))) hb2) hb3))))
  go_ret
  exact ⟨rfl, bl_t (bl_t (bl_a (bl_a hb1)) hb2) hb3⟩
end Go.Proofs.YtnhjekpadcjdnaaDoor.T

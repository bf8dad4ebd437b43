/- Commands and their lines: rows of the call's own; the bytes of a word; what fits. -/
import Derived.Test.YtnhjekpadcjdnaaDoorB
import Derived.OwnWalk
import Derived.Laws.AppendOwn
import Derived.Laws.NewBlocks
namespace Go.Proofs.YtnhjekpadcjdnaaDoor.T
open Go Go.RowKit
set_option linter.unusedVariables false
set_option linter.unusedSimpArgs false
set_option maxRecDepth 100000

theorem infoStr : (Tryd.prog.info? 9).map (fun i => (i.zero, i.size, i.bytes)) = some (some (.string ⟨#[]⟩), 1, 16) := by kernel_rfl
theorem infoI32 : (Tryd.prog.info? 21).map (fun i => (i.zero, i.size, i.bytes)) = some (some (.int .i32 0), 1, 4) := by kernel_rfl
theorem infoU8 : (Tryd.prog.info? 5).map (fun i => (i.zero, i.size, i.bytes)) = some (some (.int .u8 0), 1, 1) := by kernel_rfl

/-- a row of the call's own -/
def Own (w0 W : World) (e : TypeId) (v : Value) (xs : List Value) : Prop := W.ownsRow w0.heap.size e 1 v xs.length xs
theorem Own.nil (w0 W : World) (e : TypeId) : Own w0 W e (.slice none 0 0) [] := World.ownsRow_nil _ _ _ _
theorem Own.kept {w0 W W1 : World} {e : TypeId} {v : Value} {xs : List Value} (h : Own w0 W e v xs) (hb : Below W.heap.size W W1) : Own w0 W1 e v xs := by
  refine ⟨h.1, ?_⟩
  rcases h.2 with hn | ⟨g, cap, cur, rfl, hg, hgg, rest⟩
  · exact .inl hn
  · exact .inr ⟨g, cap, cur, rfl, hg, by rw [hb.block g (Array.getElem?_eq_some_iff.1 hgg).1]; exact hgg, rest⟩
theorem Own.older {w w0 W : World} {e : TypeId} {v : Value} {xs : List Value} (h : Own w0 W e v xs) (hle : w.heap.size ≤ w0.heap.size) : Own w W e v xs := by
  refine ⟨h.1, ?_⟩
  rcases h.2 with hn | ⟨g, cap, cur, rfl, hg, hgg, rest⟩
  · exact .inl hn
  · exact .inr ⟨g, cap, cur, rfl, Nat.le_trans hle hg, hgg, rest⟩
theorem Own.slice {w0 W : World} {e : TypeId} {v : Value} {xs : List Value} (h : Own w0 W e v xs) : ∃ A c, v = .slice A xs.length c ∧ xs.length ≤ c ∧ Rd W A xs := by
  rcases h.2 with ⟨rfl, hn⟩ | ⟨g, cap, cur, rfl, hg, hgg, hc, hm, hs, ht⟩
  · have : xs = [] := List.length_eq_zero_iff.1 hn
    subst this
    exact ⟨none, 0, rfl, Nat.le_refl _, fun k v hk => by simp at hk⟩
  · refine ⟨some ⟨g, 0, none⟩, cap, rfl, hc, fun k v hk => ⟨_, rfl, (Array.getElem?_eq_some_iff.1 hgg).1, ?_⟩⟩
    exact World.ownsRow.cells h (by simp [Value.ownBlock]) k v hk
/-- append of one value -/
theorem apk {ops : Array Oper} {rest : List Oper} {o : Oper} {a : Act} {Q : Exit → Act → World → Prop} {e t bytes : Nat} {z : Value} (ht : Tryd.prog.underlying t = some (.slice e))
    (hin : (Tryd.prog.info? e).map (fun i => (i.zero, i.size, i.bytes)) = some (some z, 1, bytes)) (hzs : z.cells.size = 1) (hgd : o.guard = none) (s y : Operand)
    (ho : o.op = .call { callee := .builtin .append, args := #[s, y], argTypes := #[t, t] }) {w0 W : World} (v : Value) (xs : List Value) (u : Value) (hu : u.oneCell' = true) (hs : a.eval s = v) (hy : a.eval y = .slice (some ⟨W.heap.size, 0, none⟩) 1 1)
    (HO : Own w0 W e v xs) (HB : Below w0.heap.size w0 W) (hl : (xs.length + 1) * bytes ≤ 140737488355328) (hm : xs.length + 1 ≤ 9223372036854775807)
    (h : ∀ v1 w1, Own w0 w1 e v1 (xs ++ [u]) → Below w0.heap.size w0 w1 → wpList Tryd.prog ops Q rest (a.put o.dst v1) w1) :
    wpList Tryd.prog ops Q (o :: rest) a (W.alloc (.cells #[u] e)) := by
  obtain ⟨i0, hi, hz0, hz1, hz2⟩ := info_parts hin
  refine wpList_append_own _ hgd s y t ho w0.heap.size e i0 z 1 bytes ht hi hz0 hz1 hz2 hzs (by decide) v xs.length xs hs (World.ownsRow.alloc HO _) ⟨W.heap.size, 0, none⟩ 1 1 [u] hy rfl ?_ ?_ ?_ hl ?_ ?_
  · intro j u' hj
    match j, hj with
    | 0, hj => simp at hj; subst hj; simp [Addr.add]
  · intro u' hu'; simp at hu'; subst hu'; exact hu
  · unfold maxLen; omega
  · have := HB.size; simp; omega
  · intro v' w' hown hg _
    refine h v' w' ?_ ?_
    · unfold Own; rw [List.length_append]; exact hown
    · exact (bl_a HB).grown hg (by have := HB.size; simp; omega) (fun k hk => (World.ownsRow.lt HO k hk).1)
/-- append of two -/
theorem apk2 {ops : Array Oper} {rest : List Oper} {o : Oper} {a : Act} {Q : Exit → Act → World → Prop} {e t bytes : Nat} {z : Value} (ht : Tryd.prog.underlying t = some (.slice e))
    (hin : (Tryd.prog.info? e).map (fun i => (i.zero, i.size, i.bytes)) = some (some z, 1, bytes)) (hzs : z.cells.size = 1) (hgd : o.guard = none) (s y : Operand)
    (ho : o.op = .call { callee := .builtin .append, args := #[s, y], argTypes := #[t, t] }) {w0 W : World} (v : Value) (xs : List Value) (u u2 : Value) (hu : u.oneCell' = true) (hu2 : u2.oneCell' = true) (hs : a.eval s = v) (hy : a.eval y = .slice (some ⟨W.heap.size, 0, none⟩) 2 2)
    (HO : Own w0 W e v xs) (HB : Below w0.heap.size w0 W) (hl : (xs.length + 2) * bytes ≤ 140737488355328) (hm : xs.length + 2 ≤ 9223372036854775807)
    (h : ∀ v1 w1, Own w0 w1 e v1 (xs ++ [u, u2]) → Below w0.heap.size w0 w1 → wpList Tryd.prog ops Q rest (a.put o.dst v1) w1) :
    wpList Tryd.prog ops Q (o :: rest) a (W.alloc (.cells #[u, u2] e)) := by
  obtain ⟨i0, hi, hz0, hz1, hz2⟩ := info_parts hin
  refine wpList_append_own _ hgd s y t ho w0.heap.size e i0 z 1 bytes ht hi hz0 hz1 hz2 hzs (by decide) v xs.length xs hs (World.ownsRow.alloc HO _) ⟨W.heap.size, 0, none⟩ 2 2 [u, u2] hy rfl ?_ ?_ ?_ hl ?_ ?_
  · intro j u' hj
    match j, hj with
    | 0, hj => simp at hj; subst hj; simp [Addr.add]
    | 1, hj => simp at hj; subst hj; simp [Addr.add]
  · intro u' hu'; simp at hu'; rcases hu' with rfl | rfl <;> assumption
  · unfold maxLen; omega
  · have := HB.size; simp; omega
  · intro v' w' hown hg _
    refine h v' w' ?_ ?_
    · unfold Own; rw [List.length_append]; exact hown
    · exact (bl_a HB).grown hg (by have := HB.size; simp; omega) (fun k hk => (World.ownsRow.lt HO k hk).1)

theorem unhex_bad (s : ByteArray) (w : World) (h : Lib.hasPrefix s.data.toList [120] = false) :
    Calls Tryd.prog 23 #[.string s] w fun e w' => e = .returned (.tuple #[.slice none 0 0, .bool false]) ∧ w' = w := by
  replace h := Lib.hid h
  go_enter Tryd.func23, Tryd.ntmps23
  go_wp2_with fail
  refine (Tryd.strings_CutPrefix s ⟨#[120]⟩ _).mono ?_
  rintro e w1 ⟨rfl, rfl⟩
  rw [show Lib.hasPrefix s.data.toList ({ data := #[120] } : ByteArray).data.toList = false from h.out]
  go_wp2
  go_ret2
  exact ⟨rfl, rfl⟩
set_option maxHeartbeats 1000000 in
theorem unhex_odd (s : ByteArray) (w : World) (h : Lib.hasPrefix s.data.toList [120] = true) (hl : s.size ≤ 281474976710656) (h2 : (Lib.trimPrefix s.data.toList [120]).length % 2 = 1) :
    Calls Tryd.prog 23 #[.string s] w fun e w' => e = .returned (.tuple #[.slice none 0 0, .bool false]) ∧ w' = w := by
  replace h := Lib.hid h
  go_enter Tryd.func23, Tryd.ntmps23
  go_wp2_with fail
  refine (Tryd.strings_CutPrefix s ⟨#[120]⟩ _).mono ?_
  rintro e w1 ⟨rfl, rfl⟩
  rw [show Lib.hasPrefix s.data.toList ({ data := #[120] } : ByteArray).data.toList = true from h.out]
  rw [show Lib.trimPrefix s.data.toList ({ data := #[120] } : ByteArray).data.toList = Lib.trimPrefix s.data.toList [120] from rfl]
  generalize hr : Lib.trimPrefix s.data.toList [120] = r at *
  replace hr := Lib.hid hr
  go_wp2
  go_ret2
  exact ⟨rfl, rfl⟩
end Go.Proofs.YtnhjekpadcjdnaaDoor.T

/- The library's iterator over a text's lines. -/
import Derived.Test.YtnhjekpadcjdnaaDoorM
namespace Go.Proofs.YtnhjekpadcjdnaaDoor.T
open Go Go.RowKit Go.Shelf
set_option linter.unusedVariables false
set_option linter.unusedSimpArgs false
set_option maxRecDepth 100000
attribute [local go_sem] Oper.semAt_some
/-- the lines of a text, each with its end -/
def linesF : Nat → ByteArray → List ByteArray
  | 0, _ => []
  | f + 1, t => if 0 < t.size then (if 0 ≤ Lib.indexByte t.data.toList 10 then t.extract 0 ((Lib.indexByte t.data.toList 10).toNat + 1) :: linesF f (t.extract ((Lib.indexByte t.data.toList 10).toNat + 1) t.size) else [t]) else []
theorem linesF_nil (f : Nat) : linesF f ⟨#[]⟩ = [] := by
  cases f with
  | zero => rfl
  | succ f => simp only [linesF]; rw [if_neg (by decide)]
theorem ix10 (l : List UInt8) (c : UInt8) : Lib.indexByte l c < l.length ∨ l = [] := by
  induction l with
  | nil => exact .inr rfl
  | cons a l ih =>
    left
    simp only [Lib.indexByte, List.length_cons]
    split
    · omega
    · split
      · omega
      · rcases ih with h | h
        · omega
        · subst h; simp [Lib.indexByte] at *
def boxSize (bs : Nat) (W : World) : Nat := match W.heap[bs]? with
  | some (Obj.cells cs _ _) => (match cs[0]? with | some (Value.string t) => t.size | _ => 0)
  | _ => 0
theorem boxSize_eq {bs : Nat} {W : World} {t : ByteArray} (h : W.heap[bs]? = some (.cells #[.string t] 9 (0, 0))) : boxSize bs W = t.size := by
  unfold boxSize; rw [h]; rfl
set_option maxHeartbeats 4000000 in
theorem lines_seq (n : Nat) (hn : 1 ≤ n) (bs : Nat) (s : ByteArray) (hs : s.size ≤ 9223372036854775806) (w : World) (hB : w.heap[bs]? = some (.cells #[.string s] 9 (0, 0))) :
    SeqB n Tryd.prog 27 #[.pointer (some ⟨bs, 0, none⟩)] (fun x : ByteArray => #[Value.string x]) bs (linesF s.size s) w := by
  intro l J W hW hJ hY h0
  have hB0 := (hW.block bs (blk_lt hB)).trans hB
  refine callsIn_of_wp Tryd.func27 rfl trivial ?_ rfl
  simp only [Tryd.ntmps27, List.size_toArray, List.length_cons, List.length_nil, Nat.reduceAdd, Nat.reduceSub, Array.replicate_succ, Array.replicate_zero, List.push_toArray, List.append_toArray, List.nil_append, List.cons_append]
  gi_wp2
  gi_loopw [] (fun wr => ∃ (pre : List ByteArray) (t : ByteArray) (f : Nat), wr.heap[bs]? = some (.cells #[.string t] 9 (0, 0)) ∧ Hid (linesF s.size s = pre ++ linesF f t) ∧ t.size ≤ f ∧ t.size ≤ s.size ∧ J pre wr) (fun wr => boxSize bs wr)
  case atStart => exact ⟨[], s, s.size, hB0, Lib.hid rfl, Nat.le_refl _, Nat.le_refl _, h0⟩
  case round =>
    obtain ⟨pre, t, f, hBt, hx, hf, hts, hJp⟩ := hrel
    have q := blk_cell hBt
    have qf := blk_frozen hBt
    by_cases ht : 0 < t.size
    · obtain ⟨f, rfl⟩ : ∃ f', f = f' + 1 := ⟨f - 1, by omega⟩
      have hlx := ix10 t.data.toList 10
      have htl : t.data.toList.length = t.size := Array.length_toList
      rw [htl] at hlx
      by_cases h10 : 0 ≤ Lib.indexByte t.data.toList 10
      · obtain ⟨i, hi⟩ : ∃ i : Nat, Lib.indexByte t.data.toList 10 = (i : Int) := ⟨_, (Int.toNat_of_nonneg h10).symm⟩
        have hilt : i < t.size := by
          rcases hlx with h | h
          · omega
          · rw [h] at htl; simp at htl; omega
        have hx2 : Hid (linesF s.size s = pre ++ (t.extract 0 (i + 1) :: linesF f (t.extract (i + 1) t.size))) := Lib.hid (by
          rw [hx.out]; simp only [linesF]; rw [if_pos ht, if_pos h10, hi]; rfl)
        clear hx hlx htl
        have hi' := Lib.hid hi
        clear hi h10
        have hi1 : (i : Int) + 1 ≤ (t.size : Int) := by omega
        have hi2 : (i : Int) + 1 ≤ 9223372036854775807 := by omega
        gi_wp2_with (refine ⟨trivial, ?_⟩; gi_at_call 28; refine (callsIn_wide.2 (Tryd.strings_IndexByte t 10 _)).mono ?_; rintro e w' ⟨rfl, rfl⟩; rw [show ((10 : Int).toNat.toUInt8) = 10 from rfl, hi'.out])
        gi_region
        have hBn : ((w'.setCell ⟨bs, 0, none⟩ (.string (t.extract (i + 1) t.size))).drew).heap[bs]? = some (.cells #[.string (t.extract (i + 1) t.size)] 9 (0, 0)) := blk_put hBt 0 (.string (t.extract (i + 1) t.size)) rfl
        have hg : w'.grownBy (w'.setCell ⟨bs, 0, none⟩ (.string (t.extract (i + 1) t.size))) (some bs) := grownBy_setCell' _ _ _
        have hJn : J pre ((w'.setCell ⟨bs, 0, none⟩ (.string (t.extract (i + 1) t.size))).drew) := hJ pre w' _ hJp ⟨hg.os, hg.tape, hg.output, hg.size, hg.block⟩
        obtain ⟨fn, tmps, assign, body, hy, hR⟩ := hY pre (t.extract 0 (i + 1)) _ hJn ⟨linesF f (t.extract (i + 1) t.size), by rw [hx2.out]; simp⟩
        have hz1 : (t.extract (i + 1) t.size).size = t.size - (i + 1) := by rw [ByteArray.size_extract]; omega
        replace hz1 := Lib.hid hz1
        have hsz := boxSize_eq hBt
        replace hsz := Lib.hid hsz
        clear q qf hg hJn hJp hBt
        generalize t.extract (i + 1) t.size = t' at *
        generalize t.extract 0 (i + 1) = x at *
        generalize (w'.setCell ⟨bs, 0, none⟩ (.string t')).drew = Wn at *
        gi_wp2
        refine hR.mono ?_
        rintro e W3 ⟨rfl, hJ3, hb3⟩
        have hB3 := hb3.trans hBn
        gi_wp2
        go_roundw
        case rel => exact ⟨pre ++ [x], t', f, hB3, Lib.hid (by rw [hx2.out]; simp), by have := hz1.out; omega, by have := hz1.out; omega, hJ3⟩
        case measure => have := hz1.out; rw [boxSize_eq hB3, hsz.out]; omega
      · have hx2 : Hid (linesF s.size s = pre ++ [t]) := Lib.hid (by
          rw [hx.out]; simp only [linesF]; rw [if_pos ht, if_neg h10])
        have h10' : Lib.indexByte t.data.toList 10 < 0 := by omega
        clear hx hlx htl h10
        generalize hix : Lib.indexByte t.data.toList 10 = ix at *
        replace hix := Lib.hid hix
        have hBn : (wr.setCell ⟨bs, 0, none⟩ (.string ⟨#[]⟩)).heap[bs]? = some (.cells #[.string ⟨#[]⟩] 9 (0, 0)) := blk_put hBt 0 (.string ⟨#[]⟩) rfl
        have hJn : J pre (wr.setCell ⟨bs, 0, none⟩ (.string ⟨#[]⟩)) := hJ pre wr _ hJp (grownBy_setCell' _ _ _)
        obtain ⟨fn, tmps, assign, body, hy, hR⟩ := hY pre t _ hJn ⟨[], by rw [hx2.out]; simp⟩
        have hsz := boxSize_eq hBt
        replace hsz := Lib.hid hsz
        gi_wp2_with (refine ⟨trivial, ?_⟩; gi_at_call 28; refine (callsIn_wide.2 (Tryd.strings_IndexByte t 10 _)).mono ?_; rintro e w' ⟨rfl, rfl⟩; rw [show ((10 : Int).toNat.toUInt8) = 10 from rfl, hix.out])
        refine hR.mono ?_
        rintro e W3 ⟨rfl, hJ3, hb3⟩
        have hB3 := hb3.trans hBn
        clear q qf
        gi_wp2
        go_roundw
        case rel => exact ⟨pre ++ [t], ⟨#[]⟩, f, hB3, Lib.hid (by rw [hx2.out, linesF_nil]; simp), Nat.zero_le _, Nat.zero_le _, hJ3⟩
        case measure => rw [boxSize_eq hB3, hsz.out]; exact ht
    · have hxx := hx.out
      have : linesF f t = [] := by cases f <;> simp [linesF, ht]
      rw [this, List.append_nil] at hxx
      gi_wp2
      go_end0
      exact ⟨⟨_, rfl⟩, by rw [hxx]; exact hJp⟩
end Go.Proofs.YtnhjekpadcjdnaaDoor.T

/- Commands and their lines: the numbers of words. -/
import Derived.Test.YtnhjekpadcjdnaaDoorH
import Derived.Laws.Rows
namespace Go.Proofs.YtnhjekpadcjdnaaDoor.T
open Go Go.RowKit
set_option linter.unusedVariables false
set_option linter.unusedSimpArgs false
set_option maxRecDepth 100000
theorem blk_set {w : World} {g : Nat} {t : TypeId} {cs : Array Value} (h : w.heap[g]? = some (.cells cs t (0, 0))) (i : Nat) (u : Value) : (w.setCell ⟨g, i, none⟩ u).heap[g]? = some (.cells (cs.setIfInBounds i u) t (0, 0)) := by
  simp [World.setCell, Array.getElem?_modify, h]
theorem blk_put {w : World} {g : Nat} {t : TypeId} {cs cs' : Array Value} (h : w.heap[g]? = some (.cells cs t (0, 0))) (i : Nat) (u : Value) (e : cs.setIfInBounds i u = cs') : (w.setCell ⟨g, i, none⟩ u).heap[g]? = some (.cells cs' t (0, 0)) := e ▸ blk_set h i u
theorem blk_cell {w : World} {g : Nat} {t : TypeId} {cs : Array Value} (h : w.heap[g]? = some (.cells cs t (0, 0))) (i : Nat) : w.cell? ⟨g, i, none⟩ = cs[i]? := by simp [World.cell?, h]
theorem blk_frozen {w : World} {g : Nat} {t : TypeId} {cs : Array Value} (h : w.heap[g]? = some (.cells cs t (0, 0))) (i : Nat) : w.frozen? ⟨g, i, none⟩ = false := by simp [World.frozen?, h]
theorem blk_lt {w : World} {g : Nat} {o : Obj} (h : w.heap[g]? = some o) : g < w.heap.size := (Array.getElem?_eq_some_iff.1 h).1
theorem blk_below {w w1 : World} {g : Nat} {o : Obj} (h : w.heap[g]? = some o) (hb : Below w.heap.size w w1) : w1.heap[g]? = some o := (hb.block g (blk_lt h)).trans h
theorem blk_new (w : World) (o : Obj) : (w.alloc o).heap[w.heap.size]? = some o := heap_alloc_new w o

/-- append of one value, to a row that lies from block B on; what else there is stands -/
theorem apg {ops : Array Oper} {rest : List Oper} {o : Oper} {a : Act} {Q : Exit → Act → World → Prop} {e t bytes : Nat} {z : Value} (ht : Tryd.prog.underlying t = some (.slice e))
    (hin : (Tryd.prog.info? e).map (fun i => (i.zero, i.size, i.bytes)) = some (some z, 1, bytes)) (hzs : z.cells.size = 1) (hgd : o.guard = none) (s y : Operand)
    (ho : o.op = .call { callee := .builtin .append, args := #[s, y], argTypes := #[t, t] }) {B : Nat} {W : World} (v : Value) (xs : List Value) (u : Value) (hu : u.oneCell' = true) (hs : a.eval s = v) (hy : a.eval y = .slice (some ⟨W.heap.size, 0, none⟩) 1 1)
    (HO : W.ownsRow B e 1 v xs.length xs) (HB : B ≤ W.heap.size) (hl : (xs.length + 1) * bytes ≤ 140737488355328) (hm : xs.length + 1 ≤ 9223372036854775807)
    (h : ∀ v1 w1, w1.ownsRow B e 1 v1 (xs ++ [u]).length (xs ++ [u]) → Below B W w1 → wpList Tryd.prog ops Q rest (a.put o.dst v1) w1) :
    wpList Tryd.prog ops Q (o :: rest) a (W.alloc (.cells #[u] e)) := by
  obtain ⟨i0, hi, hz0, hz1, hz2⟩ := info_parts hin
  refine wpList_append_own _ hgd s y t ho B e i0 z 1 bytes ht hi hz0 hz1 hz2 hzs (by decide) v xs.length xs hs (World.ownsRow.alloc HO _) ⟨W.heap.size, 0, none⟩ 1 1 [u] hy rfl ?_ ?_ ?_ hl ?_ ?_
  · intro j u' hj
    match j, hj with
    | 0, hj => simp at hj; subst hj; simp [Addr.add]
  · intro u' hu'; simp at hu'; subst hu'; exact hu
  · unfold maxLen; omega
  · simp; omega
  · intro v' w' hown hg _
    refine h v' w' ?_ ?_
    · rw [List.length_append]; exact hown
    · exact ((Below.refl B W).alloc HB _).grown hg (by simp; omega) (fun k hk => (World.ownsRow.lt HO k hk).1)
theorem add_two (ad : Addr) (k : Nat) : ad.add (k + 2) = ⟨ad.block, ad.off + 2 + k, none⟩ := by
  unfold Addr.add
  rw [if_neg (show ¬ k + 2 = 0 by omega)]
  simp only [Nat.add_assoc, Nat.add_comm 2 k]
theorem numV_bd (l : List UInt8) : -2147483648 ≤ numV 32 l ∧ numV 32 l ≤ 2147483647 := by
  unfold numV
  split
  · rename_i v hv
    have := Lib.parseIntB_bounds hv
    simp at this
    omega
  · unfold Lib.intSat
    split <;> simp
  · omega
theorem row_slice {W : World} {B : Nat} {e : TypeId} {v : Value} {n : Nat} {xs : List Value} (h : W.ownsRow B e 1 v n xs) : ∃ A c, v = .slice A n c := by
  rcases h.2 with ⟨rfl, hn⟩ | ⟨g, cap, cur, rfl, _⟩
  · subst hn; exact ⟨none, 0, rfl⟩
  · exact ⟨_, _, rfl⟩
theorem results_cs {P : Program} {fn : Func} {p r : Tmp} {ty : TypeId} (h : fn.results = #[.cell p ty, .tmp r]) (tmps : Array Value) (w : World) (g : Nat) (t : TypeId) (cs : Array Value) (fr : Nat × Nat) (d : TypeDesc) (x : Value)
    (hp : tmps.getD p undef = .pointer (some ⟨g, 0, none⟩)) (hg : w.heap[g]? = some (.cells cs t fr))
    (hu : P.underlying ty = some d) (hd : (match d with | .struct _ | .array _ _ => true | _ => false) = true) (hi : (P.info? ty).map (·.size) = some cs.size) (hr : tmps.getD r undef = x) :
    (results fn tmps).run P w = .ok (.tuple #[.agg cs, x]) w := by
  have hp' : tmps[p]?.getD undef = .pointer (some ⟨g, 0, none⟩) := by simpa using hp
  have hr' : tmps[r]?.getD undef = x := by simpa using hr
  simp [results, h, hp', hr', asAddr, run_loadVar_row w g t ty cs fr d hg hu hd hi]
/-- what 'numbers' gives -/
def NumsPost (bs : List ByteArray) (w w' : World) (e : Ending) : Prop :=
  ∃ v, e = .returned (.tuple #[.agg #[.int .i64 4, .int .i64 (numV 64 (bs.getD 0 default).data.toList), .int .i64 (numV 64 (bs.getD 1 default).data.toList), v, .slice none 0 0],
    .bool (numB 64 (bs.getD 0 default).data.toList && (numB 64 (bs.getD 1 default).data.toList && (bs.drop 2).all (fun b => numB 32 b.data.toList)))]) ∧ Own w w' 21 v ((bs.drop 2).map (fun b => i32V (numV 32 b.data.toList)))
set_option maxHeartbeats 4000000 in
theorem numbers_calls (A : Option Addr) (cp : Nat) (bs : List ByteArray) (w : World) (E : Env w) (hRd : Rd w A (bs.map Value.string)) (h2 : 2 ≤ bs.length) (hl : bs.length ≤ 4294967296) (hcp : bs.length ≤ cp) (hs : ∀ b ∈ bs, b.size ≤ 281474976710656) :
    Calls Tryd.prog 25 #[.slice A bs.length cp] w fun e w' => NumsPost bs w w' e ∧ Below w.heap.size w w' := by
  obtain ⟨ad, rfl, hab, hc0⟩ := hRd 0 (.string (bs.getD 0 default)) (by simp [List.getD_eq_getElem?_getD, show 0 < bs.length by omega])
  obtain ⟨ad', he, _, hc1⟩ := hRd 1 (.string (bs.getD 1 default)) (by simp [List.getD_eq_getElem?_getD, show 1 < bs.length by omega])
  cases he
  have hz : ad.add 0 = ad := by simp [Addr.add]
  rw [hz] at hc0
  clear hz
  have hz1 : ad.add 1 = ⟨ad.block, ad.off + 1, none⟩ := by simp [Addr.add]
  rw [hz1] at hc1
  clear hz1
  have s0 := hs (bs.getD 0 default) (by simp [List.getD_eq_getElem?_getD, show 0 < bs.length by omega])
  have s1 := hs (bs.getD 1 default) (by simp [List.getD_eq_getElem?_getD, show 1 < bs.length by omega])
  replace hs := Lib.hid hs
  have hB := blk_new w (.cells #[.int .i64 0, .int .i64 0, .int .i64 0, .slice none 0 0, .slice none 0 0] 25)
  have hb : Below w.heap.size w (w.alloc (.cells #[.int .i64 0, .int .i64 0, .int .i64 0, .slice none 0 0, .slice none 0 0] 25)) := (by repeat (first | exact Below.refl _ _ | assumption | with_reducible apply bl_a | with_reducible apply bl_d))
  have h12 : (1 : Int) < (bs.length : Int) := by omega
  generalize hg0 : bs.getD 0 default = b0 at *
  generalize hg1 : bs.getD 1 default = b1 at *
  replace hg0 := Lib.hid hg0
  replace hg1 := Lib.hid hg1
  go_enter Tryd.func25, Tryd.ntmps25
  go_wp2_with fail
  generalize w.alloc (.cells #[.int .i64 0, .int .i64 0, .int .i64 0, .slice none 0 0, .slice none 0 0] 25) = W1 at *
  refine (number64_calls b0 _ (E.below hb) s0).mono ?_
  rintro e W2 ⟨rfl, hb2⟩
  have hB2 := blk_below hB hb2
  replace hb := bl_t hb hb2
  replace hc1 : W2.cell? ⟨ad.block, ad.off + 1, none⟩ = some (.string b1) := by rw [hb.cell (p := ⟨ad.block, ad.off + 1, none⟩) hab]; exact hc1
  clear hB hb2 hc0
  go_wp2_with fail
  refine (number64_calls b1 _ (E.below hb) s1).mono ?_
  rintro e W3 ⟨rfl, hb2⟩
  have hB3 := blk_below hB2 hb2
  replace hb := bl_t hb hb2
  clear hB2 hb2 hc1
  have q := blk_cell hB3
  have qf := blk_frozen hB3
  go_wp2
  all_goals
    have hB4 := blk_put (blk_put (blk_put (blk_put (blk_put hB3 0 (.int .i64 4) rfl) 1 (.int .i64 (numV 64 b0.data.toList)) rfl) 2 (.int .i64 (numV 64 b1.data.toList)) rfl) 3 (.slice none 0 0) rfl) 4 (.slice none 0 0) rfl
    have hb4 : Below w.heap.size w (((((W3.setCell ⟨w.heap.size, 0, none⟩ (.int .i64 4)).setCell ⟨w.heap.size, 1, none⟩ (.int .i64 (numV 64 b0.data.toList))).setCell ⟨w.heap.size, 2, none⟩ (.int .i64 (numV 64 b1.data.toList))).setCell ⟨w.heap.size, 3, none⟩ (.slice none 0 0)).setCell ⟨w.heap.size, 4, none⟩ (.slice none 0 0)) := bl_s (bl_s (bl_s (bl_s (bl_s hb (by simp)) (by simp)) (by simp)) (by simp)) (by simp)
    clear q qf hB3 hb
    generalize ((((W3.setCell ⟨w.heap.size, 0, none⟩ (.int .i64 4)).setCell ⟨w.heap.size, 1, none⟩ (.int .i64 (numV 64 b0.data.toList))).setCell ⟨w.heap.size, 2, none⟩ (.int .i64 (numV 64 b1.data.toList))).setCell ⟨w.heap.size, 3, none⟩ (.slice none 0 0)).setCell ⟨w.heap.size, 4, none⟩ (.slice none 0 0) = W4 at *
    go_loopw [6, 31] (fun f i wr => ∃ (k : Nat) (fb : Bool) (v : Value), i = .int .i64 k ∧ k ≤ bs.length - 2 ∧ f = .bool fb ∧ Hid (fb = (numB 64 b1.data.toList && ((bs.drop 2).take k).all (fun b => numB 32 b.data.toList))) ∧ wr.heap[w.heap.size]? = some (.cells #[.int .i64 4, .int .i64 (numV 64 b0.data.toList), .int .i64 (numV 64 b1.data.toList), v, .slice none 0 0] 25 (0, 0)) ∧ Hid (wr.ownsRow (w.heap.size + 1) 21 1 v (((bs.drop 2).take k).map (fun b => i32V (numV 32 b.data.toList))).length (((bs.drop 2).take k).map (fun b => i32V (numV 32 b.data.toList)))) ∧ Below w.heap.size w wr) (fun _ i _ => bs.length - (intOf i).toNat)
    case atStart => exact ⟨0, _, _, rfl, by omega, rfl, Lib.hid (by simp), hB4, Lib.hid (World.ownsRow_nil _ _ _ _), hb4⟩
    case round =>
      clear hB4 hb4
      obtain ⟨k, fb, v, rfl, hk, rfl, hfb, hB, hO, hb⟩ := hrel
      by_cases hlt : k < bs.length - 2
      · first | (exfalso; omega) | skip
        all_goals
          obtain ⟨ad', he, _, hc⟩ := (hRd.below hb) (k + 2) (.string (bs.getD (k + 2) default)) (by simp [List.getD_eq_getElem?_getD, show k + 2 < bs.length by omega])
          cases he
          rw [add_two] at hc
          have sk := hs.out (bs.getD (k + 2) default) (by simp [List.getD_eq_getElem?_getD, show k + 2 < bs.length by omega])
          have htk : Hid ((bs.drop 2).take (k + 1) = (bs.drop 2).take k ++ [bs.getD (k + 2) default]) := Lib.hid (by
            rw [List.take_succ_eq_append_getElem (by rw [List.length_drop]; omega)]
            simp [List.getD_eq_getElem?_getD, show k + 2 < bs.length by omega, Nat.add_comm])
          generalize bs.getD (k + 2) default = bk at *
          go_wp2_with fail
          refine (number32_calls bk _ (E.below hb) sk).mono ?_
          rintro e W5 ⟨rfl, hb5⟩
          have hB5 := blk_below hB hb5
          have hO5 : Hid (W5.ownsRow (w.heap.size + 1) 21 1 v (((bs.drop 2).take k).map (fun b => i32V (numV 32 b.data.toList))).length (((bs.drop 2).take k).map (fun b => i32V (numV 32 b.data.toList)))) := Lib.hid (hO.out.kept ⟨hb5.os, hb5.tape, hb5.output, hb5.size, fun i hi _ => hb5.block i hi⟩ (row := none) (by cases v.ownBlock <;> simp))
          have hbd := numV_bd bk.data.toList
          replace hb := bl_t hb hb5
          have hlt5 : w.heap.size < W5.heap.size := blk_lt hB5
          clear hB hO hb5 hc
          have q := blk_cell hB5
          have qf := blk_frozen hB5
          have hfb2 : Hid ((fb && numB 32 bk.data.toList) = (numB 64 b1.data.toList && ((bs.drop 2).take (k + 1)).all (fun b => numB 32 b.data.toList))) := Lib.hid (by rw [hfb.out, htk.out]; simp [Bool.and_assoc])
          have hmp : Hid (((bs.drop 2).take (k + 1)).map (fun b => i32V (numV 32 b.data.toList)) = ((bs.drop 2).take k).map (fun b => i32V (numV 32 b.data.toList)) ++ [i32V (numV 32 bk.data.toList)]) := Lib.hid (by rw [htk.out]; simp)
          have hln : (((bs.drop 2).take k).map (fun b => i32V (numV 32 b.data.toList))).length ≤ 4294967296 := by rw [List.length_map, List.length_take]; omega
          generalize ((bs.drop 2).take k).map (fun b => i32V (numV 32 b.data.toList)) = xs at *
          generalize numV 32 bk.data.toList = c at *
          obtain ⟨c0, c1⟩ := hbd
          clear htk hfb
          generalize numB 32 bk.data.toList = gb at *
          have hl5 : (xs.length + 1) * 4 ≤ 140737488355328 := by omega
          cases fb
          all_goals
            go_wp2_with (at_builtin; go_loud (refine apg Tryd.underlying22 infoI32 rfl rfl (.tmp 45) (.tmp 48) rfl _ xs (i32V c) rfl rfl rfl hO5.out hlt5 hl5 (by omega) ?_; intro v1 W6 hO6 hb6; obtain ⟨A8, c8, rfl⟩ := row_slice hO6; simp only [List.length_append, List.length_cons, List.length_nil, Nat.zero_add] at hO6; have hB6 : W6.heap[w.heap.size]? = some (.cells #[.int .i64 4, .int .i64 (numV 64 b0.data.toList), .int .i64 (numV 64 b1.data.toList), v, .slice none 0 0] 25 (0, 0)) := (hb6.block _ (Nat.lt_succ_self _)).trans hB5; have q := blk_cell hB6; have qf := blk_frozen hB6; replace hb := hb.trans (hb6.mono (Nat.le_succ _)); replace hO6 := Lib.hid hO6; clear hO5 hB5 hb6 hlt5))
            have hB7 := blk_put hB6 3 (.slice A8 (xs.length + 1) c8) rfl
            have hb7 : Below w.heap.size w (W6.setCell ⟨w.heap.size, 3, none⟩ (.slice A8 (xs.length + 1) c8)) := bl_s hb (by simp)
            have hO7 := ownsRow_setCell_below hO6.out (a := ⟨w.heap.size, 3, none⟩) (by simp) (.slice A8 (xs.length + 1) c8)
            clear q qf hB6 hb hO6
            go_roundw
            case rel => exact ⟨k + 1, _, _, by go_num, by omega, rfl, hfb2, hB7, Lib.hid (by rw [hmp.out]; simpa using hO7), hb7⟩
            case measure => simp [intOf]; omega
      · have hkk : (bs.drop 2).take k = bs.drop 2 := List.take_of_length_le (by rw [List.length_drop]; omega)
        rw [hkk] at hfb hO
        clear hkk
        obtain ⟨A9, c9, rfl⟩ := row_slice hO.out
        have hO9 := hO.out
        simp only [List.length_map, List.length_drop] at hO9 hB
        have q := blk_cell hB
        have qf := blk_frozen hB
        generalize hn0 : numB 64 b0.data.toList = nb0 at *
        replace hn0 := Lib.hid hn0
        have hB9 := blk_put (blk_put (blk_put (blk_put (blk_put hB 0 (.int .i64 4) rfl) 1 (.int .i64 (numV 64 b0.data.toList)) rfl) 2 (.int .i64 (numV 64 b1.data.toList)) rfl) 3 (.slice A9 (bs.length - 2) c9) rfl) 4 (.slice none 0 0) rfl
        have hb9 : Below w.heap.size w (((((wr.setCell ⟨w.heap.size, 0, none⟩ (.int .i64 4)).setCell ⟨w.heap.size, 1, none⟩ (.int .i64 (numV 64 b0.data.toList))).setCell ⟨w.heap.size, 2, none⟩ (.int .i64 (numV 64 b1.data.toList))).setCell ⟨w.heap.size, 3, none⟩ (.slice A9 (bs.length - 2) c9)).setCell ⟨w.heap.size, 4, none⟩ (.slice none 0 0)) := bl_s (bl_s (bl_s (bl_s (bl_s hb (by simp)) (by simp)) (by simp)) (by simp)) (by simp)
        replace hO9 := ownsRow_setCell_below (ownsRow_setCell_below (ownsRow_setCell_below (ownsRow_setCell_below (ownsRow_setCell_below hO9 (a := ⟨w.heap.size, 0, none⟩) (by simp) (.int .i64 4)) (a := ⟨w.heap.size, 1, none⟩) (by simp) (.int .i64 (numV 64 b0.data.toList))) (a := ⟨w.heap.size, 2, none⟩) (by simp) (.int .i64 (numV 64 b1.data.toList))) (a := ⟨w.heap.size, 3, none⟩) (by simp) (.slice A9 (bs.length - 2) c9)) (a := ⟨w.heap.size, 4, none⟩) (by simp) (.slice none 0 0)
        replace hO9 := Lib.hid hO9
        clear hO
        cases nb0
        all_goals
          go_wp2
          clear q qf hB hb
          generalize ((((wr.setCell ⟨w.heap.size, 0, none⟩ (.int .i64 4)).setCell ⟨w.heap.size, 1, none⟩ (.int .i64 (numV 64 b0.data.toList))).setCell ⟨w.heap.size, 2, none⟩ (.int .i64 (numV 64 b1.data.toList))).setCell ⟨w.heap.size, 3, none⟩ (.slice A9 (bs.length - 2) c9)).setCell ⟨w.heap.size, 4, none⟩ (.slice none 0 0) = W9 at *
          have hOw : Own w W9 21 (.slice A9 (bs.length - 2) c9) ((bs.drop 2).map (fun b => i32V (numV 32 b.data.toList))) := Own.older (w0 := w.alloc (.cells #[] 25)) (by unfold Own; simpa using hO9.out) (by simp)
          refine bodyPost_ret (results_cs rfl _ _ w.heap.size 25 _ (0, 0) _ _ rfl hB9 Tryd.underlying25 rfl (by kernel_rfl) rfl) rfl ⟨⟨_, ?_, hOw⟩, hb9⟩
          rw [hg0.out, hg1.out, hn0.out]
          first | rw [hfb.out] | skip
          rfl
end Go.Proofs.YtnhjekpadcjdnaaDoor.T

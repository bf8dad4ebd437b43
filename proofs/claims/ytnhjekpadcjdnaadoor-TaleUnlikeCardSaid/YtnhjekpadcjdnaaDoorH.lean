/- Commands and their lines: an invoke's line. -/
import Derived.Test.YtnhjekpadcjdnaaDoorG
namespace Go.Proofs.YtnhjekpadcjdnaaDoor.T
open Go Go.RowKit
set_option linter.unusedVariables false
set_option linter.unusedSimpArgs false
set_option maxRecDepth 100000
attribute [local go_sem] rdOp InK
theorem apk2_do {ops : Array Oper} {o : Oper} {a : Act} {Q : Exit → Act → World → Prop} {Kc : Act → World → Prop} {e t bytes : Nat} {z : Value} (ht : Tryd.prog.underlying t = some (.slice e))
    (hin : (Tryd.prog.info? e).map (fun i => (i.zero, i.size, i.bytes)) = some (some z, 1, bytes)) (hzs : z.cells.size = 1) (hw : Region.wanted o (yielded ops a.tmps) = true) (s y : Operand)
    (ho : o.op = .call { callee := .builtin .append, args := #[s, y], argTypes := #[t, t] }) {w0 W : World} (v : Value) (xs : List Value) (u u2 : Value) (hu : u.oneCell' = true) (hu2 : u2.oneCell' = true) (hs : a.eval s = v) (hy : a.eval y = .slice (some ⟨W.heap.size, 0, none⟩) 2 2)
    (HO : Own w0 W e v xs) (HB : Below w0.heap.size w0 W) (hl : (xs.length + 2) * bytes ≤ 140737488355328) (hm : xs.length + 2 ≤ 9223372036854775807)
    (h : ∀ v1 w1, Own w0 w1 e v1 (xs ++ [u, u2]) → Below w0.heap.size w0 w1 → W.heap.size ≤ w1.heap.size → (∀ k, k < W.heap.size → some k ≠ v.ownBlock → w1.heap[k]? = W.heap[k]?) → Kc (a.put o.dst v1) w1) :
    if Region.wanted o (yielded ops a.tmps) = true then Oper.wp Tryd.prog o a (W.alloc (.cells #[u, u2] e)) Kc Q else Kc (a.put o.dst undef) (W.alloc (.cells #[u, u2] e)) := by
  rw [if_pos hw]
  obtain ⟨i0, hi, hz0, hz1, hz2⟩ := info_parts hin
  refine wp_append_own _ s y t ho w0.heap.size e i0 z 1 bytes ht hi hz0 hz1 hz2 hzs (by decide) v xs.length xs hs (World.ownsRow.alloc HO _) ⟨W.heap.size, 0, none⟩ 2 2 [u, u2] hy rfl ?_ ?_ ?_ hl ?_ ?_
  · intro j u' hj
    match j, hj with
    | 0, hj => simp at hj; subst hj; simp [Addr.add]
    | 1, hj => simp at hj; subst hj; simp [Addr.add]
  · intro u' hu'; simp at hu'; rcases hu' with rfl | rfl <;> assumption
  · unfold maxLen; omega
  · have := HB.size; simp; omega
  · intro v' w' hown hg _
    refine h v' w' ?_ ?_ ?_ ?_
    · unfold Own; rw [List.length_append]; exact hown
    · exact (bl_a HB).grown hg (by have := HB.size; simp; omega) (fun k hk => (World.ownsRow.lt HO k hk).1)
    · have := hg.size; simp at this; omega
    · intro k hk hne
      rw [hg.block k (by simp; omega) hne]
      exact Below.heap_alloc W _ k hk
set_option maxHeartbeats 2000000 in
theorem line_4 (A D : Option Addr) (ca cd : Nat) (n f : Int) (args data : List Int) (w : World) (E : Env w) (C : Cv w ⟨4, n, f, args, data⟩ A D) (la : args.length ≤ 1000) (ld : data.length ≤ 10000) (hf : fitsB ⟨4, n, f, args, data⟩ = true) :
    Calls Tryd.prog 5 #[.agg #[.int .i64 4, .int .i64 n, .int .i64 f, .slice A args.length ca, .slice D data.length cd]] w fun e w' => e = .returned (.tuple #[strV (lineL ⟨4, n, f, args, data⟩), .int .i64 0]) ∧ Below w.heap.size w w' := by
  replace hf := Lib.hid hf
  go_enter Tryd.func5, Tryd.ntmps5
  go_wp2_with fail
  refine (names_calls _).mono ?_
  rintro e w1 ⟨rfl, rfl⟩
  have hBx : ((w.alloc (.cells #[.int .i64 4, .int .i64 n, .int .i64 f, .slice A args.length ca, .slice D data.length cd] 25)).alloc (.cells namesV 9)).heap[w.heap.size]? = some (.cells #[.int .i64 4, .int .i64 n, .int .i64 f, .slice A args.length ca, .slice D data.length cd] 25 (0, 0)) := by
    rw [Below.heap_alloc _ _ _ (by simp)]; exact heap_alloc_new w _
  have hNm : ((w.alloc (.cells #[.int .i64 4, .int .i64 n, .int .i64 f, .slice A args.length ca, .slice D data.length cd] 25)).alloc (.cells namesV 9)).heap[w.heap.size + 1]? = some (.cells namesV 9 (0, 0)) := by
    have := heap_alloc_new (w.alloc (.cells #[.int .i64 4, .int .i64 n, .int .i64 f, .slice A args.length ca, .slice D data.length cd] 25)) (.cells namesV 9)
    simpa using this
  have hbw : Below w.heap.size w ((w.alloc (.cells #[.int .i64 4, .int .i64 n, .int .i64 f, .slice A args.length ca, .slice D data.length cd] 25)).alloc (.cells namesV 9)) := (by repeat (first | exact Below.refl _ _ | assumption | with_reducible apply bl_a | with_reducible apply bl_d))
  have hsz : (w.alloc (.cells #[.int .i64 4, .int .i64 n, .int .i64 f, .slice A args.length ca, .slice D data.length cd] 25)).heap.size = w.heap.size + 1 := by simp
  rw [hsz]
  clear hsz
  generalize (w.alloc (.cells #[.int .i64 4, .int .i64 n, .int .i64 f, .slice A args.length ca, .slice D data.length cd] 25)).alloc (.cells namesV 9) = W0 at *
  have q0 := fun j => box_cells hBx (Below.refl _ _) j
  go_wp2_with fail
  refine (fits_calls ⟨4, n, f, args, data⟩ A D ca cd W0).mono ?_
  rintro e W ⟨rfl, hbf⟩
  rw [hf.out]
  clear q0 hf
  have q := fun j => box_cells hBx hbf j
  have qn : W.cell? ⟨w.heap.size + 1, 3, none⟩ = some (strV wInvoke) := box_cells hNm hbf 3
  replace hbw := hbw.trans (hbf.mono hbw.size)
  clear hBx hNm hbf
  have hlt1 : w.heap.size + 1 < W.heap.size := World.block_lt_of_cell? _ _ qn
  have hlt : w.heap.size < W.heap.size := by omega
  unfold strV at qn
  go_wp2_with fail
  have hO : Own W (W.alloc (.cells #[.string ⟨wInvoke.toArray⟩] 9)) 9 (.slice (some ⟨W.heap.size, 0, none⟩) 1 1) ([wInvoke].map strV) := own_lit1 (Nat.le_refl _) wInvoke
  have hbW : Below W.heap.size W (W.alloc (.cells #[.string ⟨wInvoke.toArray⟩] 9)) := bl_a (Below.refl _ _)
  have E1 := E.below (bl_t hbw hbW)
  have c1 : W.cell? ⟨w.heap.size, 1, none⟩ = some (.int .i64 n) := q 1
  have c2 : W.cell? ⟨w.heap.size, 2, none⟩ = some (.int .i64 f) := q 2
  have k1 := KeptW.old c1
  have k2 := KeptW.old c2
  have q3 : W.cell? ⟨w.heap.size, 3, none⟩ = some (.slice A args.length ca) := q 3
  clear q qn c1 c2
  generalize hv : Value.slice (some ⟨W.heap.size, 0, none⟩) 1 1 = v at *
  generalize W.alloc (.cells #[.string ⟨wInvoke.toArray⟩] 9) = W1 at *
  clear hv
  refine region_ord (InK W) [(0, true), (1, true), (2, true), (4, true), (5, true), (3, false), (6, false), (7, false), (8, false), (9, true)] (by kernel_rfl) (by kernel_rfl) rfl (by kernel_rfl) (InK.of (bl_d hbW)) ?_
  (repeat (refine ord_read rfl (fun K hK => ?_); go_simp; refine hK _ ?_; clear hK K))
  (refine ord_do rfl (fun K hK => ?_); go_simp)
  refine (Tryd.strconv_Itoa n C.n0 C.n1 _ (E1.below (bl_d (Below.refl _ _))).tab).mono ?_
  rintro e W2 ⟨rfl, hg⟩
  have hb2 : Below W1.heap.size W1 W2 := bl_t (bl_d (Below.refl _ _)) (bl_g hg)
  clear hg
  refine hK _ _ (InK.of (bl_t hbW hb2)) ?_
  clear hK K
  (refine ord_do rfl (fun K hK => ?_); go_simp)
  refine (Tryd.strconv_Itoa f C.f0 C.f1 _ (E1.below hb2).tab).mono ?_
  rintro e W3 ⟨rfl, hg⟩
  have hb3 : Below W1.heap.size W1 W3 := bl_t hb2 (bl_g hg)
  clear hg hb2
  refine hK _ _ (InK.of (bl_t hbW hb3)) ?_
  clear hK K
  (refine ord_do rfl (fun K hK => ?_); go_simp)
  refine hK _ _ (InK.of (bl_a (bl_t hbW hb3))) ?_
  clear hK K
  refine ord_do rfl (fun K hK => ?_)
  have hO3 := hO.kept hb3
  have hbW3 := bl_t hbW hb3
  clear k1 k2
  refine apk2_do Tryd.underlying37 infoStr rfl rfl (.tmp 52) (.tmp 59) rfl v ([wInvoke].map strV) (strV (Lib.itoa n)) (strV (Lib.itoa f)) rfl rfl rfl rfl hO3 hbW3 (by decide) (by decide) ?_
  intro v1 W4 hO4 hbW4 hsz4 hkp4
  refine hK _ _ (InK.of hbW4) ?_
  clear hK K hkp4 hsz4 hO3 hbW3 hO hbW hb3 E1
  (repeat (refine ord_read rfl (fun K hK => ?_); go_simp; refine hK _ ?_; clear hK K))
  refine ord_nil ?_
  have c4 : W4.cell? ⟨w.heap.size, 3, none⟩ = some (.slice A args.length ca) := by rw [hbW4.cell (p := ⟨w.heap.size, 3, none⟩) hlt]; exact q3
  rw [show [wInvoke].map strV ++ [strV (Lib.itoa n), strV (Lib.itoa f)] = ([wInvoke, Lib.itoa n, Lib.itoa f] ++ (args.take 0).map Lib.itoa).map strV from rfl] at hO4
  go_wp2
  have C4 := C.below (bl_t hbw hbW4)
  clear c4 q3
  go_loopw [5, 64] (fun v i wr => ∃ k : Nat, i = .int .i64 k ∧ k ≤ args.length ∧ Hid (Own W wr 9 v (([wInvoke, Lib.itoa n, Lib.itoa f] ++ (args.take k).map Lib.itoa).map strV)) ∧ Below W.heap.size W wr) (fun _ i _ => args.length - (intOf i).toNat)
  case atStart => exact ⟨0, rfl, by omega, Lib.hid hO4, hbW4⟩
  case round =>
    clear hO4 hbW4 C4
    obtain ⟨k, rfl, hk, hO, hb⟩ := hrel
    by_cases hkl : k < args.length
    · obtain ⟨ad, rfl, hab, hc⟩ := (C.args.below (bl_t hbw hb)) k (i32V (args.getD k 0)) (by simp [List.getD_eq_getElem?_getD, hkl])
      obtain ⟨a0, a1⟩ := C.ha (args.getD k 0) (by simp [List.getD_eq_getElem?_getD, hkl])
      have htk : Hid ((args.take (k + 1)).map Lib.itoa = (args.take k).map Lib.itoa ++ [Lib.itoa (args.getD k 0)]) := Lib.hid (by
        rw [List.take_succ_eq_append_getElem hkl, List.map_append]; simp only [List.map_cons, List.map_nil, List.getD_eq_getElem?_getD, List.getElem?_eq_getElem hkl, Option.getD_some])
      generalize args.getD k 0 = c at *
      unfold i32V at hc
      go_wp2_with fail
      refine (Tryd.strconv_Itoa c (by omega) (by omega) _ (E.below (bl_t hbw hb)).tab).mono ?_
      rintro e W5 ⟨rfl, hg⟩
      have hb5 := bl_t hb (bl_g hg)
      have hO5 := hO.out.kept (bl_g hg)
      clear hg hO hb
      have hl5 : ((([wInvoke, Lib.itoa n, Lib.itoa f] ++ (args.take k).map Lib.itoa).map strV).length + 1) * 16 ≤ 140737488355328 := by
        rw [List.length_map, List.length_append, List.length_map, List.length_take]; simp only [List.length_cons, List.length_nil]; omega
      go_wp2_with (at_builtin; refine apk Tryd.underlying37 infoStr rfl rfl (.tmp 68) (.tmp 72) rfl _ (([wInvoke, Lib.itoa n, Lib.itoa f] ++ (args.take k).map Lib.itoa).map strV) (strV (Lib.itoa c)) rfl rfl rfl hO5 hb5 hl5 (by omega) ?_; intro v1 W6 hO6 hb6; clear hO5 hb5)
      go_roundw
      case rel => exact ⟨k + 1, by go_num, by omega, Lib.hid (by rw [htk.out, ← List.append_assoc, List.map_append]; exact hO6), hb6⟩
      case measure => simp [intOf]; omega
    · have htk : args.take k = args := List.take_of_length_le (by omega)
      rw [htk] at hO
      clear htk
      have hw : Hid (wordsL ⟨4, n, f, args, data⟩ = [wInvoke, Lib.itoa n, Lib.itoa f] ++ args.map Lib.itoa) := Lib.hid (by simp [wordsL, nameL, restL])
      have hle : ∀ x ∈ [wInvoke, Lib.itoa n, Lib.itoa f] ++ args.map Lib.itoa, x.length ≤ 1000 := by
        intro x hx
        rcases List.mem_append.1 hx with hx | hx
        · simp only [List.mem_cons, List.not_mem_nil, or_false] at hx
          rcases hx with rfl | rfl | rfl
          · decide
          · have := itoa_len C.n0 C.n1; simp only at this; omega
          · have := itoa_len C.f0 C.f1; simp only at this; omega
        · obtain ⟨c, hc, rfl⟩ := List.mem_map.1 hx
          obtain ⟨a0, a1⟩ := C.ha c hc
          have := itoa_len (n := c) (by omega) (by omega); omega
      have hln : ([wInvoke, Lib.itoa n, Lib.itoa f] ++ args.map Lib.itoa).length = args.length + 3 := by simp
      go_wp2_with fail
      refine (join_calls (ws := [wInvoke, Lib.itoa n, Lib.itoa f] ++ args.map Lib.itoa) (b := 1000) hO.out hle (by rw [hln]; omega) (by rw [hln]; omega)).mono ?_
      rintro e w2 ⟨rfl, hb2⟩
      clear hle hln
      go_wp2
      go_ret2
      exact ⟨by unfold lineL; rw [hw.out]; rfl, bl_t (bl_t hbw hb) hb2⟩

/-- a command as a line, whatever it is -/
theorem line_ok (x : Cm) (A D : Option Addr) (ca cd : Nat) (w : World) (E : Env w) (C : Cv w x A D) (la : x.args.length ≤ 1000) (ld : x.data.length ≤ 10000) (h : okLine x = true) :
    Calls Tryd.prog 5 #[.agg #[.int .i64 x.k, .int .i64 x.n, .int .i64 x.fuel, .slice A x.args.length ca, .slice D x.data.length cd]] w fun e w' => e = .returned (.tuple #[strV (lineL x), .int .i64 0]) ∧ Below w.heap.size w w' := by
  obtain ⟨k, n, f, args, data⟩ := x
  unfold okLine at h
  simp only [Bool.and_eq_true, decide_eq_true_eq] at h
  obtain ⟨⟨h1, h5⟩, hf⟩ := h
  have : k = 1 ∨ k = 2 ∨ k = 3 ∨ k = 4 ∨ k = 5 := by omega
  rcases this with rfl | rfl | rfl | rfl | rfl
  · exact line_1 A D ca cd n f args data w E C la ld hf
  · exact line_2 A D ca cd n f args data w E C la ld hf
  · exact line_3 A D ca cd n f args data w E C la ld hf
  · exact line_4 A D ca cd n f args data w E C la ld hf
  · exact line_5 A D ca cd n f args data w E C la ld hf
theorem line_no (x : Cm) (A D : Option Addr) (ca cd : Nat) (w : World) (h : okLine x = false) :
    Calls Tryd.prog 5 #[.agg #[.int .i64 x.k, .int .i64 x.n, .int .i64 x.fuel, .slice A x.args.length ca, .slice D x.data.length cd]] w fun e w' => e = .returned (.tuple #[.string ⟨#[]⟩, .int .i64 1]) ∧ Below w.heap.size w w' := by
  by_cases h1 : x.k < 1
  · exact line_low x A D ca cd w h1
  · by_cases h5 : 5 < x.k
    · exact line_high x A D ca cd w h5
    · refine line_unfit x A D ca cd w h1 h5 ?_
      unfold okLine at h
      rw [decide_eq_true (show 1 ≤ x.k by omega), decide_eq_true (show x.k ≤ 5 by omega)] at h
      simpa using h
end Go.Proofs.YtnhjekpadcjdnaaDoor.T

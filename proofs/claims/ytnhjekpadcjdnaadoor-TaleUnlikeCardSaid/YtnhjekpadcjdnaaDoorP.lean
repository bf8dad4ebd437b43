/- Commands and their lines: the commands of a text. -/
import Derived.Test.YtnhjekpadcjdnaaDoorN
import Derived.Deep.AppendLies
namespace Go.Proofs.YtnhjekpadcjdnaaDoor.T
open Go Go.RowKit Go.Shelf
set_option linter.unusedVariables false
set_option linter.unusedSimpArgs false
set_option maxRecDepth 100000
attribute [local go_sem] Oper.semAt_some
theorem infoCmd : (Tryd.prog.info? 25).map (fun i => (i.zero, i.size, i.bytes)) = some (some (.agg #[.int .i64 0, .int .i64 0, .int .i64 0, .slice none 0 0, .slice none 0 0]), 5, 72) := by kernel_rfl
theorem lines_calls (n : Nat) (s : ByteArray) (w : World) : CallsIn Fence.wide n Tryd.prog 16 #[.string s] w fun e w' => e = .returned (.func (.func 27) #[] #[.pointer (some ⟨w.heap.size, 0, none⟩)]) ∧ w' = w.alloc (.cells #[.string s] 9) := by
  refine callsIn_of_wp Tryd.func16 rfl trivial ?_ rfl
  simp only [Tryd.ntmps16, List.size_toArray, List.length_cons, List.length_nil, Nat.reduceAdd, Nat.reduceSub, Array.replicate_succ, Array.replicate_zero, List.push_toArray, List.append_toArray, List.nil_append, List.cons_append]
  gi_wp2
  go_ret
  exact ⟨rfl, rfl⟩
theorem boxed_off {A B : World} {row : Option Nat} {g : Nat} {t : TypeId} {v : Value} (h : Boxed A g t v) (hg : A.grownBy B row) (hr : ∀ r, row = some r → ∃ o : Obj, A.heap[r]? = some o ∧ o.isCells = false) : Boxed B g t v :=
  h.kept hg (fun e => by
    obtain ⟨o, ho, hc⟩ := hr g e.symm
    rw [show A.heap[g]? = _ from h] at ho; cases ho; cases hc)
theorem row_off {A B : World} {row : Option Nat} {base size k : Nat} {e : TypeId} {v : Value} {xs : List Value} (h : A.ownsRow base e size v k xs) (hg : A.grownBy B row) (hr : ∀ r, row = some r → ∃ o : Obj, A.heap[r]? = some o ∧ o.isCells = false) : B.ownsRow base e size v k xs := by
  refine h.kept hg ?_
  rcases h.2 with ⟨rfl, _⟩ | ⟨g, cap, cur, rfl, _, hgb, _⟩
  · exact .inl rfl
  · refine .inr fun e' => ?_
    obtain ⟨o, ho, hc⟩ := hr g (by simpa [Value.ownBlock] using e'.symm)
    rw [hgb] at ho; cases ho; cases hc
theorem row_sliceG {W : World} {B size : Nat} {e : TypeId} {v : Value} {n : Nat} {xs : List Value} (h : W.ownsRow B e size v n xs) : ∃ A c, v = .slice A n c := by
  rcases h.2 with ⟨rfl, hn⟩ | ⟨g, cap, cur, rfl, _⟩
  · subst hn; exact ⟨none, 0, rfl⟩
  · exact ⟨_, _, rfl⟩
theorem keeps_below {W W' : World} (h : Below W.heap.size W W') : KeepsOthers W W' := ⟨h.size, fun k o hk _ => (h.block k (Array.getElem?_eq_some_iff.1 hk).1).trans hk⟩
/-- what the function's own cells hold when so many lines have come -/
structure RdI (w : World) (k : Nat) (W : World) (v : Value) (cs : List Value) : Prop where
  r0 : Boxed W w.heap.size 34 (.slice none 0 0)
  r1 : Boxed W (w.heap.size + 1) 3 (.int .i64 0)
  r2 : Boxed W (w.heap.size + 1 + 1) 27 (.int .i64 0)
  ro : Boxed W (w.heap.size + 1 + 1 + 1) 34 v
  own : W.ownsRow (w.heap.size + 1 + 1 + 1 + 1 + 1) 25 5 v k cs
  bel : Below w.heap.size w W
  sz : w.heap.size + 1 + 1 + 1 + 1 + 1 ≤ W.heap.size
theorem results_c3 {fn : Func} {p q r : Tmp} (h : fn.results = #[.cell p 34, .cell q 3, .cell r 27]) (tmps : Array Value) (w : World) (a b c : Addr) (x y z : Value)
    (hp : tmps.getD p undef = .pointer (some a)) (hq : tmps.getD q undef = .pointer (some b)) (hr : tmps.getD r undef = .pointer (some c)) (ha : w.cell? a = some x) (hb : w.cell? b = some y) (hc : w.cell? c = some z) :
    (results fn tmps).run Tryd.prog w = .ok (.tuple #[x, y, z]) w := by
  have hp' : tmps[p]?.getD undef = .pointer (some a) := by simpa using hp
  have hq' : tmps[q]?.getD undef = .pointer (some b) := by simpa using hq
  have hr' : tmps[r]?.getD undef = .pointer (some c) := by simpa using hr
  simp [results, h, hp', hq', hr', asAddr, loadVar, isAgg, underlying, Tryd.underlying34, Tryd.underlying3, Tryd.underlying27, ha, hb, hc, Sem.run_bind, Result.andThen]
theorem boxed_put {A : World} {g D : Nat} {t : TypeId} {v : Value} {o : Obj} (h : Boxed A g t v) (hne : g ≠ D) : Boxed (A.putObj D o) g t v :=
  ((grownBy_putObj' A D o).block g h.lt (fun e => hne (by injection e))).trans h
theorem boxed_set {A : World} {g : Nat} {a : Addr} {t : TypeId} {v x : Value} (h : Boxed A g t v) (hne : g ≠ a.block) : Boxed (A.setCell a x) g t v :=
  (Below.heap_setCell _ _ _ g hne).trans h
theorem app_cmd {F : Fence} {n : Nat} {ops : Array Oper} {rest : List Oper} {o : Oper} {a : Act} {Q : Exit → Act → World → Prop} (hgd : o.guard = none) (s y : Operand)
    (ho : o.op = .call { callee := .builtin .append, args := #[s, y], argTypes := #[34, 34] }) {B k cp g : Nat} {A : Option Addr} {W1 : World} {cs : List Value} (k1 k2 k3 : Int) (A1 A2 : Option Addr) (l1 c1 l2 c2 : Nat)
    (hs : a.eval s = .slice A k cp) (hy : a.eval y = .slice (some ⟨g, 0, none⟩) 1 1) (hg : g = W1.heap.size) (HO : W1.ownsRow B 25 5 (.slice A k cp) k cs) (HB : B ≤ W1.heap.size) (hk : k < 60000)
    (h : ∀ A' cp' w1 cs', w1.ownsRow B 25 5 (.slice A' (k + 1) cp') (k + 1) cs' → (W1.alloc (.cells #[.int .i64 k1, .int .i64 k2, .int .i64 k3, .slice A1 l1 c1, .slice A2 l2 c2] 25)).grownBy w1 (Value.slice A k cp).ownBlock → wpListIn F n Tryd.prog ops Q rest (a.put o.dst (.slice A' (k + 1) cp')) w1) :
    wpListIn F n Tryd.prog ops Q (o :: rest) a (W1.alloc (.cells #[.int .i64 k1, .int .i64 k2, .int .i64 k3, .slice A1 l1 c1, .slice A2 l2 c2] 25)) := by
  obtain ⟨i0, hi, hz0, hz1, hz2⟩ := info_parts infoCmd
  subst hg
  refine wpListIn_append_own _ hgd s y 34 ho B 25 i0 _ 5 72 Tryd.underlying34 hi hz0 hz1 hz2 rfl (by decide) _ k cs hs (HO.alloc _) ⟨W1.heap.size, 0, none⟩ 1 1 [.int .i64 k1, .int .i64 k2, .int .i64 k3, .slice A1 l1 c1, .slice A2 l2 c2] hy rfl
    (World.news_of_block (cs := #[.int .i64 k1, .int .i64 k2, .int .i64 k3, .slice A1 l1 c1, .slice A2 l2 c2]) (t := 25) (fr := (0, 0)) (heap_alloc_new W1 _)) ?_ (by unfold maxLen; omega) (by omega) (by simp; omega) ?_
  · intro u hu
    simp only [List.mem_cons, List.not_mem_nil, or_false] at hu
    rcases hu with rfl | rfl | rfl | rfl | rfl <;> rfl
  · intro v' w1 hown hgr _
    obtain ⟨A', cp', rfl⟩ := row_sliceG hown
    exact h A' cp' w1 _ hown hgr
set_option maxHeartbeats 4000000 in
theorem read_text (s : ByteArray) (w : World) (E : Env w) (hs : s.size ≤ 1000000) (hall : ∀ x ∈ linesF s.size s, x.size ≤ 1000000 ∧ ∃ c, cmdL (Lib.trimSuffix x.data.toList [10]) = some c) (hln : (linesF s.size s).length ≤ 60000) :
    Calls Tryd.prog 8 #[.string s] w fun e w' => (∃ A cp, e = .returned (.tuple #[.slice A (linesF s.size s).length cp, .int .i64 0, .int .i64 0])) ∧ Below w.heap.size w w' := by
  refine (callsIn_wide (n := 5)).1 ?_
  refine callsIn_of_wp_marks Tryd.func8 rfl trivial ?_ rfl
  simp only [Tryd.ntmps8, List.size_toArray, List.length_cons, List.length_nil, Nat.reduceAdd, Nat.reduceSub, Array.replicate_succ, Array.replicate_zero, List.push_toArray, List.append_toArray, List.nil_append, List.cons_append]
  gi_wp2_with (refine ⟨trivial, ?_⟩; gi_at_call 16; refine (lines_calls _ s _).mono ?_; rintro e w' ⟨rfl, rfl⟩)
  have h0 : RdI w 0 (((((w.alloc (.cells #[.slice none 0 0] 34)).alloc (.cells #[.int .i64 0] 3)).alloc (.cells #[.int .i64 0] 27)).alloc (.cells #[.slice none 0 0] 34)).alloc (.cells #[.string s] 9)) (.slice none 0 0) [] := by
    have b0 := Boxed.new w 34 (.slice none 0 0)
    have b1 := Boxed.new (w.alloc (.cells #[.slice none 0 0] 34)) 3 (.int .i64 0)
    have b2 := Boxed.new ((w.alloc (.cells #[.slice none 0 0] 34)).alloc (.cells #[.int .i64 0] 3)) 27 (.int .i64 0)
    have b3 := Boxed.new (((w.alloc (.cells #[.slice none 0 0] 34)).alloc (.cells #[.int .i64 0] 3)).alloc (.cells #[.int .i64 0] 27)) 34 (.slice none 0 0)
    simp only [World.size_alloc] at b1 b2 b3
    exact ⟨(((b0.alloc _).alloc _).alloc _).alloc _, ((b1.alloc _).alloc _).alloc _, (b2.alloc _).alloc _, b3.alloc _, World.ownsRow_nil _ _ _ _, bl_a (bl_a (bl_a (bl_a (bl_a (Below.refl _ _))))), by simp⟩
  have hs9 : (((((w.alloc (.cells #[.slice none 0 0] 34)).alloc (.cells #[.int .i64 0] 3)).alloc (.cells #[.int .i64 0] 27)).alloc (.cells #[.slice none 0 0] 34)).alloc (.cells #[.string s] 9)).heap[w.heap.size + 1 + 1 + 1 + 1]? = some (.cells #[.string s] 9 (0, 0)) := by
    have := blk_new ((((w.alloc (.cells #[.slice none 0 0] 34)).alloc (.cells #[.int .i64 0] 3)).alloc (.cells #[.int .i64 0] 27)).alloc (.cells #[.slice none 0 0] 34)) (.cells #[.string s] 9)
    simpa only [World.size_alloc] using this
  have hsz : (((((w.alloc (.cells #[.slice none 0 0] 34)).alloc (.cells #[.int .i64 0] 3)).alloc (.cells #[.int .i64 0] 27)).alloc (.cells #[.slice none 0 0] 34)).alloc (.cells #[.string s] 9)).heap.size = w.heap.size + 1 + 1 + 1 + 1 + 1 := by simp
  generalize ((((w.alloc (.cells #[.slice none 0 0] 34)).alloc (.cells #[.int .i64 0] 3)).alloc (.cells #[.int .i64 0] 27)).alloc (.cells #[.slice none 0 0] 34)).alloc (.cells #[.string s] 9) = W0 at *
  refine range_box (by omega) (gf := 27) (lb := #[.pointer (some ⟨w.heap.size + 1 + 1 + 1 + 1, 0, none⟩)]) rfl (enters_of Tryd.func27 (by kernel_rfl) rfl)
    (lines_seq _ (by omega) (w.heap.size + 1 + 1 + 1 + 1) s (by omega) W0 hs9) (by omega) (fun _ => rfl)
    (fun pre W => ∃ v cs, RdI w pre.length W v cs) ?_ ?_ ⟨_, _, h0⟩
    (fun x => { tmps := #[.string s, undef, .pointer (some ⟨w.heap.size, 0, none⟩), .pointer (some ⟨w.heap.size + 1, 0, none⟩), .pointer (some ⟨w.heap.size + 1 + 1, 0, none⟩), .pointer (some ⟨w.heap.size + 1 + 1 + 1, 0, none⟩), .string x, undef, undef, .string s, .func (.func 27) #[] #[.pointer (some ⟨w.heap.size + 1 + 1 + 1 + 1, 0, none⟩)], .string x, undef, undef, undef, undef, undef, undef, undef, undef, undef, undef, undef, undef, undef, undef, undef, undef, undef, undef, undef, undef], defers := [] }) ?assign ?body ?done
  · rintro pre A B row ⟨v, cs, h⟩ hg hr
    have hr' : ∀ r, row = some r → ∃ o : Obj, A.heap[r]? = some o ∧ o.isCells = false := fun r e => (hr r e).2
    exact ⟨v, cs, boxed_off h.r0 hg hr', boxed_off h.r1 hg hr', boxed_off h.r2 hg hr', boxed_off h.ro hg hr', row_off h.own hg hr', h.bel.grown hg h.bel.size (fun k e => by have := (hr k e).1; omega), Nat.le_trans h.sz hg.size⟩
  · rintro pre A B ⟨v, cs, h⟩ hg
    exact ⟨v, cs, h.r0.kept hg (by first | (simp; done) | (simp; omega)), h.r1.kept hg (by first | (simp; done) | (simp; omega)), h.r2.kept hg (by first | (simp; done) | (simp; omega)), h.ro.kept hg (by simp), h.own.kept hg (by
      rcases h.own.2 with ⟨rfl, _⟩ | ⟨g, cap, cur, rfl, hgb, _, _⟩
      · exact .inl rfl
      · refine .inr ?_
        simp only [Value.ownBlock, ne_eq, Option.some.injEq]
        omega), h.bel.grown hg h.bel.size (fun k e => by cases e; omega), Nat.le_trans h.sz hg.size⟩
  case assign =>
    intro l x W K hK
    gi_wp2
    exact hK
  case body =>
    rintro l pre x W ⟨v, cs, h⟩ hpx
    obtain ⟨hx1, c, hx2⟩ := hall x (hpx.subset (by simp))
    have hpl : pre.length < 60000 := by have := hpx.length_le; simp at this; omega
    obtain ⟨A, cp, rfl⟩ := row_sliceG h.own
    have hc := h.ro.cell
    have hxs : (⟨(Lib.trimSuffix x.data.toList [10]).toArray⟩ : ByteArray).size ≤ 4000000000 := by
      have : (Lib.trimSuffix x.data.toList [10]).length ≤ x.data.toList.length := by
        unfold Lib.trimSuffix
        split
        · rw [List.length_take]; omega
        · exact Nat.le_refl _
      have h2 : x.data.toList.length = x.size := Array.length_toList
      have h3 : (⟨(Lib.trimSuffix x.data.toList [10]).toArray⟩ : ByteArray).size = (Lib.trimSuffix x.data.toList [10]).length := rfl
      omega
    have hE := E.below h.bel
    have hge : decide ((65536 : Int) ≤ (pre.length : Int)) = false := by rw [decide_eq_false_iff_not]; omega
    have hx0 : Hid (x.size ≤ 9223372036854775807) := Lib.hid (by omega)
    replace hpl := Lib.hid hpl
    replace hxs := Lib.hid hxs
    replace hx2 := Lib.hid hx2
    replace hx1 := Lib.hid hx1
    replace hs := Lib.hid hs
    replace hln := Lib.hid hln
    replace hall := Lib.hid hall
    replace hpx := Lib.hid hpx
    replace hsz := Lib.hid hsz
    gi_wp2_with (first
      | (refine ⟨trivial, ?_⟩; gi_at_call 17; refine (CallsIn.inRound l (callsIn_wide.2 (Tryd.strings_TrimSuffix x ⟨#[10]⟩ _ hx0.out))).mono ?_; rintro e Wr ⟨rfl, rfl⟩)
      | (refine ⟨trivial, ?_⟩; gi_at_call 6; refine (CallsIn.inRound l (callsIn_wide.2 (cmd_calls ⟨(Lib.trimSuffix x.data.toList [10]).toArray⟩ _ hE hxs.out (some c) (Lib.hid hx2.out.symm)))).mono ?_; rintro e w' ⟨⟨B1, c1, B2, c2, rfl, hO1, hO2⟩, hbc⟩; clear hO1 hO2; have HOW := h.own.kept (row := none) ⟨hbc.os, hbc.tape, hbc.output, hbc.size, fun i hi _ => hbc.block i hi⟩ (by cases (Value.slice A pre.length cp).ownBlock <;> simp); have HBW : w.heap.size + 1 + 1 + 1 + 1 + 1 ≤ (w'.alloc (.cells #[.int .i64 c.k, .int .i64 c.n, .int .i64 c.fuel, .slice B1 c.args.length c1, .slice B2 c.data.length c2] 25)).heap.size := (by have h9 := h.sz; have := hbc.size; simp; omega); have hro' : Boxed w' (w.heap.size + 1 + 1 + 1) 34 (.slice A pre.length cp) := blk_below h.ro hbc; have hc' := hro'.cell; have hlt' : w.heap.size + 1 + 1 + 1 < w'.heap.size := hro'.lt)
      | (gi_at_builtin; refine app_cmd rfl (.tmp 27) (.tmp 29) rfl _ _ _ _ _ _ _ _ _ rfl rfl (by simp) (HOW.alloc _) HBW hpl.out ?_; intro A7 cp7 w1 cs7 hO7 hG7; have hvx := ((hro'.alloc (.cells #[.int .i64 c.k, .int .i64 c.n, .int .i64 c.fuel, .slice B1 c.args.length c1, .slice B2 c.data.length c2] 25)).alloc (.cells #[.int .i64 c.k, .int .i64 c.n, .int .i64 c.fuel, .slice B1 c.args.length c1, .slice B2 c.data.length c2] 25)).kept hG7 (hro'.not_row (by decide) HOW); have hcx := hvx.cell; have hfx := hvx.frozen))
    have hrow : ∀ k, (Value.slice A pre.length cp).ownBlock = some k → w.heap.size + 1 + 1 + 1 + 1 + 1 ≤ k := fun k hk => (World.ownsRow.lt HOW k hk).1
    have key : ∀ g, g < w.heap.size + 1 + 1 + 1 + 1 + 1 → g ≠ w.heap.size + 1 + 1 + 1 → (w1.setCell ⟨w.heap.size + 1 + 1 + 1, 0, none⟩ (.slice A7 (pre.length + 1) cp7)).heap[g]? = Wr.heap[g]? := fun g h1 h2 => by
      have hs1 := h.sz
      have hs2 := hbc.size
      rw [Below.heap_setCell _ _ _ g h2, hG7.block g (by simp; omega) (fun e => by have := hrow g e.symm; omega), Below.heap_alloc _ _ g (by simp; omega), Below.heap_alloc _ _ g (by omega), hbc.block g (by omega)]
    refine ⟨?_, key _ (by omega) (by omega), _, _, (key _ (by omega) (by omega)).trans h.r0, (key _ (by omega) (by omega)).trans h.r1, (key _ (by omega) (by omega)).trans h.r2, hvx.set _, ownsRow_setCell_below hO7 (by simp) _, ?_, ?_⟩
    · refine (keeps_below hbc).trans ((KeepsOthers.alloc _ _).trans ((KeepsOthers.alloc _ _).trans ((KeepsOthers.of_grownBy hG7 (fun j o ej hj => ?_)).trans (KeepsOthers.setCell _ _ _))))
      rcases ((HOW.alloc (.cells #[.int .i64 c.k, .int .i64 c.n, .int .i64 c.fuel, .slice B1 c.args.length c1, .slice B2 c.data.length c2] 25)).alloc (.cells #[.int .i64 c.k, .int .i64 c.n, .int .i64 c.fuel, .slice B1 c.args.length c1, .slice B2 c.data.length c2] 25)).2 with ⟨hv, _⟩ | ⟨g, cap, cur, hv, _, hgb, _⟩
      · rw [hv] at ej; simp [Value.ownBlock] at ej
      · rw [hv] at ej
        obtain rfl : g = j := by simpa [Value.ownBlock] using ej
        rw [hgb] at hj; cases hj; rfl
    · refine bl_s ((bl_a (bl_a (bl_t h.bel hbc))).grown hG7 ?_ (fun k hk => by have := hrow k hk; omega)) (by simp; omega)
      have := h.bel.size
      have := hbc.size
      simp; omega
    · have := hG7.size
      have h1 := h.sz
      have h2 := hbc.size
      simp at this
      simp
      omega
  case done =>
    rintro D W hD ⟨v, cs, h⟩ hK
    obtain ⟨A, cp, rfl⟩ := row_sliceG h.own
    have ho := h.ro.cell
    have c0 := h.r0.cell
    have c1 := h.r1.cell
    have c2 := h.r2.cell
    have l0 := h.r0.lt
    have l1 := h.r1.lt
    have l2 := h.r2.lt
    have f0 := h.r0.frozen
    have f1 := h.r1.frozen
    have f2 := h.r2.frozen
    replace hln := Lib.hid hln
    replace hs := Lib.hid hs
    replace hall := Lib.hid hall
    replace hsz := Lib.hid hsz
    replace hD := Lib.hid hD
    gi_wp2
    have hd0 := hsz.out
    have hd1 := hD.out
    have hK' := ((KeepsOthers.setCell W ⟨w.heap.size, 0, none⟩ (.slice A (linesF s.size s).length cp)).trans ((KeepsOthers.setCell _ ⟨w.heap.size + 1, 0, none⟩ (.int .i64 0)).trans (KeepsOthers.setCell _ ⟨w.heap.size + 1 + 1, 0, none⟩ (.int .i64 0)))).same D _ hK rfl
    refine ⟨by simp, .inl ⟨_, _, rfl, run_takeDeferred hK', ?_⟩⟩
    have q0 := boxed_put (D := D) (o := .deferred none) (boxed_set (a := ⟨w.heap.size + 1 + 1, 0, none⟩) (x := .int .i64 0) (boxed_set (a := ⟨w.heap.size + 1, 0, none⟩) (x := .int .i64 0) (h.r0.set (.slice A (linesF s.size s).length cp)) (by simp)) (by simp; omega)) (by omega)
    have q1 := boxed_put (D := D) (o := .deferred none) (boxed_set (a := ⟨w.heap.size + 1 + 1, 0, none⟩) (x := .int .i64 0) ((boxed_set (a := ⟨w.heap.size, 0, none⟩) (x := .slice A (linesF s.size s).length cp) h.r1 (by simp)).set (.int .i64 0)) (by simp)) (by omega)
    have q2 := boxed_put (D := D) (o := .deferred none) ((boxed_set (a := ⟨w.heap.size + 1, 0, none⟩) (x := .int .i64 0) (boxed_set (a := ⟨w.heap.size, 0, none⟩) (x := .slice A (linesF s.size s).length cp) h.r2 (by simp; omega)) (by simp)).set (.int .i64 0)) (by omega)
    refine ⟨_, results_c3 rfl _ _ _ _ _ _ _ _ rfl rfl rfl q0.cell q1.cell q2.cell, ⟨A, cp, rfl⟩, ?_⟩
    exact (bl_s (bl_s (bl_s h.bel (by first | (simp; done) | (simp; omega))) (by first | (simp; done) | (simp; omega))) (by first | (simp; done) | (simp; omega))).trans (belowK_b (w := w) (Nat.le_refl _) _ D _ _ (by omega) hK' rfl rfl)
end Go.Proofs.YtnhjekpadcjdnaaDoor.T

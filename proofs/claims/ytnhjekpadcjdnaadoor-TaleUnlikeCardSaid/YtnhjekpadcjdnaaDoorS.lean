/- Commands and their lines: the row and its card. -/
import Derived.Test.YtnhjekpadcjdnaaDoorR
import Derived.Test.YtnhjekpadcjdnaaDoorCards
import Derived.Test.YtnhjekpadcjdnaaDoorTie
import Derived.WalkKit
import Derived.ProofKit
import Derived.OpenShut
import Derived.Deep.DeepHandedRow
import Derived.Lib.LaidTab
import Derived.Lib.SmallJoins
import Derived.Stop.LaidErr
import Derived.Stop.Joined
import Derived.Shelf.Vars
import Derived.Carry
import Derived.Lay
namespace Go.Proofs.YtnhjekpadcjdnaaDoor.T
open Go Go.RowKit Go.ChangeShapes Go.WideShapes Go.ChangeAt Go.Joins Go.Deep
set_option linter.unusedVariables false
set_option maxRecDepth 100000
section
variable {H : Type} {enc : TypeId × Value → H} {P : Program} {w : World} {base : Nat} {spare : Nat → Bool} {held : Bool}
/-- a struct that came in by value, its fields of one cell each: each field's cell, and that it can be read -/
theorem open_row {r : Reach} {b0 : Nat} {t : TypeId} {fs : Array Field} {v : Value} {d : DataW H} {p : List MemPlace} (hs : P.underlying t = some (.struct fs)) (hone : oneCellFields P fs = true) (hC : P.cellsOf t = fs.size)
    (hv : Value.okWide P w r b0 t v) (h : DataW.Trod enc P w base spare held t v d p) :
    ∃ (l : List Value) (n : Nat), v = .agg l.toArray ∧ l.length = fs.size ∧ ∀ (j : Nat) (f : Field) (c : Value), fs[j]? = some f → l[j]? = some c → ∃ y, DataW.trod enc P w base spare held n f.type [c] = some y := by
  obtain ⟨cs, rfl, hsz⟩ := okWide_struct hs hv
  obtain ⟨fuel, hf⟩ := h
  obtain ⟨xs, n, _, _, _, hlen, hg⟩ := DataW.trod_struct hs hf
  have hz : cs.toList.length = fs.size := by rw [Array.length_toList]; exact hsz.trans hC
  refine ⟨cs.toList, n, by simp, hz, fun j f c hj hc => ?_⟩
  obtain ⟨ho, hk⟩ := hone_of hone j f hj
  have hlt := (List.getElem?_eq_some_iff.1 hc).1
  have h1 := hg j f hj
  have h2 : (cs.toList.drop j).take 1 = [c] := by
    rw [List.drop_eq_getElem_cons hlt, (List.getElem?_eq_some_iff.1 hc).2]; rfl
  have h3 : j < xs.length := by omega
  exact ⟨xs[j], by rw [← List.getElem?_eq_getElem h3, ← h1, ho, hk]; simp only [Value.cells]; rw [h2]⟩
/-- a slice of integers that came in -/
theorem open_nums {t e : TypeId} {k : IntKind} {fuel : Nat} {v : Value} {x : DataW H × List MemPlace} (ht : P.underlying t = some (.slice e)) (he : P.underlying e = some (.int k)) (hc : P.cellsOf e = 1)
    (h : DataW.trod enc P w base spare held fuel t [v] = some x) : ∃ (A : Option Addr) (xs : List Int) (cap : Nat), v = .slice A xs.length cap ∧ Rd w A (xs.map (Value.int k)) ∧ (∀ c ∈ xs, (Lit.int k c).wf = true) ∧ xs.length ≤ 9223372036854775807 := by
  rcases open_ints ht he hc h with ⟨hcs, _⟩ | ⟨a, len, cap, zs, hcs, _, hl, hm, hz, _, hcell, hwz⟩
  · refine ⟨none, [], 0, by simpa using hcs, ?_, ?_, ?_⟩
    · intro j u hj; simp at hj
    · intro c hc; cases hc
    · simp
  · have hlz : len ≤ zs.length := by rw [hz]; split <;> omega
    have hxl : (zs.take len).length = len := by rw [List.length_take]; omega
    refine ⟨some a, zs.take len, cap, by rw [hxl]; simpa using hcs, ?_, fun c hc => hwz c (List.mem_of_mem_take hc), by rw [hxl]; unfold _root_.Go.maxLen at hm; omega⟩
    intro j v hj
    have hjl : j < len := by have := (List.getElem?_eq_some_iff.1 hj).1; rw [List.length_map, hxl] at this; exact this
    have hv : v = .int k (zs.getD j 0) := by
      rw [List.getElem?_map, List.getElem?_take, if_pos hjl, List.getElem?_eq_getElem (by omega : j < zs.length)] at hj
      simp only [Option.map_some, Option.some.injEq] at hj
      rw [← hj, List.getD_eq_getElem?_getD, List.getElem?_eq_getElem (by omega : j < zs.length)]; rfl
    have hcj := hcell j (by omega)
    have hab : (a.add j).block = a.block := by unfold Addr.add; split <;> rfl
    exact ⟨a, rfl, by have := World.block_lt_of_cell? _ _ hcj; rw [hab] at this; exact this, by rw [hcj, hv]⟩
end
theorem own : ownKnob Tryd.prog.godebug = none := by kernel_rfl
theorem laidOut : laidOutB Tryd.prog = true := by kernel_rfl
theorem cells25 : Tryd.prog.cellsOf 25 = 5 := by kernel_rfl
theorem cells21 : Tryd.prog.cellsOf 21 = 1 := by kernel_rfl
theorem cells5 : Tryd.prog.cellsOf 5 = 1 := by kernel_rfl
theorem one25 : ∃ f0 f1 f2 f3 f4 : Field, Tryd.prog.underlying 25 = some (.struct #[f0, f1, f2, f3, f4]) ∧ oneCellFields Tryd.prog #[f0, f1, f2, f3, f4] = true ∧ f0.type = 3 ∧ f1.type = 3 ∧ f2.type = 3 ∧ f3.type = 22 ∧ f4.type = 23 :=
  ⟨_, _, _, _, _, Tryd.underlying25, by kernel_rfl, rfl, rfl, rfl, rfl, rfl⟩
theorem gPow : Tryd.prog.globalNamed "internal/strconv.uint64pow10" = some 0 := by kernel_rfl
theorem gSyn : Tryd.prog.globalNamed "strconv.ErrSyntax" = some 2 := by kernel_rfl
theorem gRng : Tryd.prog.globalNamed "strconv.ErrRange" = some 3 := by kernel_rfl
theorem tPow : (Tryd.prog.globals[0]?).map (·.type) = some 91 := by kernel_rfl
theorem cells79 : Tryd.prog.cellsOf 79 = 1 := by kernel_rfl
theorem cells91 : Tryd.prog.cellsOf 91 = 20 := by kernel_rfl
theorem star : "*" ++ "errors.errorString" = "*errors.errorString" := by decide
theorem row117 (u : TypeId) (h : Tryd.prog.typeName? 3 u = some "*errors.errorString") : u = 117 :=
  typeName_ptr_named (nm := "errors.errorString") (by rw [star]; kernel_rfl) (by kernel_rfl) (by decide) u (by rw [star]; exact h)
theorem cells119 : Tryd.prog.cellsOf 119 = 1 := by kernel_rfl
theorem cells9 : Tryd.prog.cellsOf 9 = 1 := by kernel_rfl
theorem tSyn : (Tryd.prog.globals[2]?).map (·.type) = some 54 := by kernel_rfl
theorem tRng : (Tryd.prog.globals[3]?).map (·.type) = some 54 := by kernel_rfl
/-- what the row's list gives -/
theorem env_of {W : World} (h : laidMetH Tryd.prog Rows.taleUnlikeRow.laid W) (hs : W.ShapedOpen Tryd.prog) : Env W := by
  have h0 : laidMet Tryd.prog Rows.taleUnlikeRow.laid W := by rw [← MakeChecks.laidMetH_plain _ _ _ (by kernel_rfl)]; exact h
  have h1 := h0.tail
  have h2 := h1.tail
  have h3 := h2.tail
  have h4 := h3.tail
  have h5 := h4.tail
  obtain ⟨a0, s0, hv0, -, -, -⟩ := laid_sentinel h4 gRng tRng Tryd.underlying54 row117 Tryd.underlying117 Tryd.underlying119 rfl rfl Tryd.underlying9 cells119 cells9
  obtain ⟨a1, s1, hv1, -, -, -⟩ := laid_sentinel h5 gSyn tSyn Tryd.underlying54 row117 Tryd.underlying117 Tryd.underlying119 rfl rfl Tryd.underlying9 cells119 cells9
  exact ⟨Lib.tabIs_of_head gPow tPow Tryd.underlying91 Tryd.underlying79 cells79 cells91 h2, ⟨_, _, hv1⟩, ⟨_, _, hv0⟩,
    cell_of_shapedOpen_int (P := Tryd.prog) (g := 1) (t := 3) (zero := #[.int .i64 0]) hs (of_decide_eq_true (by kernel_rfl)) (by kernel_rfl) rfl (by kernel_rfl) (by kernel_rfl) Tryd.underlying3⟩
theorem contract (H : Type) (enc : TypeId × Value → H) (W : World) (base : Nat) (args : Array Value) (ds gs : List (DataW H)) (before : List MemPlace)
    (hval : ∀ (j : Nat) t v, Tryd.f3.params[j]? = some t → args[j]? = some v → Value.okWide Tryd.prog W .any base t v)
    (hW : DataW.Whole enc Tryd.prog Tryd.f3.params.toList Rows.taleUnlikeSpec.vars false W args.toList ds gs before) (hL : laidMetH Tryd.prog Rows.taleUnlikeRow.laid W) (hS : W.ShapedOpen Tryd.prog) :
    Calls Tryd.prog 3 args W fun e W' => ∃ v, e = .returned v ∧ Rows.taleUnlikeSpec.post enc Tryd.prog Tryd.f3 false true false false W args v W' := by
  have hW' := hW
  obtain ⟨p, q, hA0, hV, rfl, hfz, hnd⟩ := hW
  have hA : DataW.TrodAll enc Tryd.prog W 0 (fun _ => true) true Tryd.f3.params.toList args.toList ds p := hA0
  rw [Tryd.params3] at hA hval
  obtain ⟨v0, v1, v2, d0, d1, d2, p0, p1, p2, rfl, rfl, rfl, h0, h1, h2⟩ := trodAll_three hA
  obtain ⟨rfl, rfl⟩ := trodVars_none hV
  have h0k := h0
  obtain ⟨F0, F1, F2, F3, F4, u0, u1, e0, e1, e2, e3, e4⟩ := one25
  obtain ⟨l, m, rfl, hl, hrow⟩ := open_row u0 u1 cells25 (hval 0 25 v0 rfl rfl) h0
  obtain ⟨c0, c1, c2, c3, c4, rfl⟩ : ∃ c0 c1 c2 c3 c4, l = [c0, c1, c2, c3, c4] := by
    match l, hl with
    | [c0, c1, c2, c3, c4], _ => exact ⟨_, _, _, _, _, rfl⟩
  obtain ⟨y0, g0⟩ := hrow 0 F0 c0 rfl rfl
  obtain ⟨y1, g1⟩ := hrow 1 F1 c1 rfl rfl
  obtain ⟨y2, g2⟩ := hrow 2 F2 c2 rfl rfl
  obtain ⟨y3, g3⟩ := hrow 3 F3 c3 rfl rfl
  obtain ⟨y4, g4⟩ := hrow 4 F4 c4 rfl rfl
  obtain ⟨i1, rfl, rfl, rfl, w1⟩ := open_int Tryd.underlying5 (hval 1 5 v1 rfl rfl) h1
  obtain ⟨i2, rfl, rfl, rfl, w2⟩ := open_int Tryd.underlying5 (hval 2 5 v2 rfl rfl) h2
  rw [e0] at g0
  rw [e1] at g1
  rw [e2] at g2
  rw [e3] at g3
  rw [e4] at g4
  obtain ⟨a0, b0, -, k0⟩ := DataW.trod_int Tryd.underlying3 g0
  obtain ⟨a1, b1, -, k1⟩ := DataW.trod_int Tryd.underlying3 g1
  obtain ⟨a2, b2, -, k2⟩ := DataW.trod_int Tryd.underlying3 g2
  obtain ⟨A3, xs, ca, rfl, R3, O3, L3⟩ := open_nums Tryd.underlying22 Tryd.underlying21 cells21 g3
  obtain ⟨A4, ys, cd, rfl, R4, O4, L4⟩ := open_nums Tryd.underlying23 Tryd.underlying5 cells5 g4
  simp only [List.cons.injEq, and_true] at b0 b1 b2
  subst b0 b1 b2
  clear hA0
  simp only [List.append_nil] at hW'
  have B1 := bounds_u8 w1
  have B2 := bounds_u8 w2
  have C : Cv W ⟨a0, a1, a2, xs, ys⟩ A3 A4 := ⟨R3, R4, fun c hc => bounds_i32 (O3 c hc), fun c hc => by have := bounds_u8 (O4 c hc); omega, (bounds_i64 k1).1, (bounds_i64 k1).2, (bounds_i64 k2).1, (bounds_i64 k2).2⟩
  refine (unlike_all ⟨a0, a1, a2, xs, ys⟩ A3 A4 ca cd i1 i2 W (env_of hL hS) C B1.1 (by omega) B2.1 (by omega) L4 L3).mono fun e W' ⟨he, hb⟩ => ?_
  subst he
  refine ⟨_, rfl, _, _, _, [], p0 ++ ([] ++ []), [], hW', ?_, ?_, rfl, hb.frame _, fun h => by cases h⟩
  · exact trodAll_mk1 (shut_bool Tryd.underlying4 _)
  · exact trodAll_mk3 (Below.trod laidOut (by kernel_rfl) (of_decide_eq_true (by kernel_rfl)) h0k hb (fun x hx => by simpa using hW'.lt x (by simp [hx]))) (shut_int Tryd.underlying5 w1) (shut_int Tryd.underlying5 w2)
end Go.Proofs.YtnhjekpadcjdnaaDoor.T

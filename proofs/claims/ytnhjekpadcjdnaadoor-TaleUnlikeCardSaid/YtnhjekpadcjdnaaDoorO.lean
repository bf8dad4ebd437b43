/- A region that draws its order, walked in an order of one's own choice: what only reads is taken first; what is left comes up alone. -/
import Derived.Test.YtnhjekpadcjdnaaDoorE
import Derived.OrdersHeld
import Derived.Deep.RegionHeld3
namespace Go.Proofs.YtnhjekpadcjdnaaDoor.T
open Go Go.RowKit
set_option linter.unusedVariables false
set_option linter.unusedSimpArgs false
set_option maxRecDepth 100000
/-- worlds in which all that W holds lies as it lay -/
structure KeptW (W : World) where
  wd : World
  h : Below W.heap.size W wd
instance (W : World) : Inhabited (KeptW W) := ⟨⟨W, Below.refl _ _⟩⟩
def InK (W : World) (w' : World) : Prop := ∃ p : KeptW W, w' = p.wd
theorem InK.of {W w' : World} (h : Below W.heap.size W w') : InK W w' := ⟨⟨w', h⟩, rfl⟩
theorem KeptW.old {W : World} {a : Addr} {v : Value} (h : W.cell? a = some v) (p : KeptW W) : p.wd.cell? a = some v := by
  rw [p.h.cell (World.block_lt_of_cell? _ _ h)]; exact h
section
variable {P : Program} {ops : Array Oper} {Q : Exit → Act → World → Prop} {md : Region.Mode} {S : World → Prop}
/-- one value, in every world of the class, and nothing else -/
def rdOp (P : Program) (o : Oper) (a : Act) (S : World → Prop) (next : Act → Prop) : Prop := ∃ v, (∀ w, S w → (execOp a.eval o).run P w = .ok (.value v) w) ∧ next (a.put o.dst v)
def ordB (md : Region.Mode) (ops : Array Oper) : List (Nat × Bool) → Array Bool → Bool
  | [], listed => (Region.ready md ops listed).isEmpty
  | (i, true) :: r, listed => (Region.ready md ops listed).contains i && Region.free md ops listed i && ordB md ops r (listed.setIfInBounds i true)
  | (i, false) :: r, listed => decide (Region.ready md ops listed = [i]) && ordB md ops r (listed.setIfInBounds i true)
def wpOrd (P : Program) (ops : Array Oper) (Q : Exit → Act → World → Prop) (S : World → Prop) : List (Nat × Bool) → Act → World → Prop
  | [], a, w => Q .normal a w
  | (i, true) :: r, a, w => match ops[i]? with
    | none => False
    | some o => if Region.wanted o (yielded ops a.tmps) = true then rdOp P o a S (fun a' => wpOrd P ops Q S r a' w) else wpOrd P ops Q S r (a.put o.dst undef) w
  | (i, false) :: r, a, w => match ops[i]? with
    | none => False
    | some o => if Region.wanted o (yielded ops a.tmps) = true then o.wp P a w (fun a' w' => S w' ∧ wpOrd P ops Q S r a' w') Q else (S w ∧ wpOrd P ops Q S r (a.put o.dst undef) w)

theorem wpAnyH_ord (hs : Region.noSelect ops = true) (hQ : ∀ c a a' w, Q (.panic c) a w → Q (.panic c) a' w) : ∀ (l : List (Nat × Bool)) (listed : Array Bool) (a : Act) (w : World), ordB md ops l listed = true → S w →
    wpOrd P ops Q S l a w → wpAnyH P md ops Q S l.length listed a w
  | [], listed, a, w, hB, hS, h => ⟨by simpa [ordB] using hB, h⟩
  | (i, true) :: r, listed, a, w, hB, hS, h => by
    simp only [ordB, Bool.and_eq_true] at hB
    obtain ⟨⟨hr, hf⟩, hB'⟩ := hB
    cases ho : ops[i]? with
    | none => simp only [wpOrd, ho] at h
    | some o =>
      simp only [wpOrd, ho] at h
      by_cases hw : Region.wanted o (yielded ops a.tmps) = true
      · rw [if_pos hw] at h
        obtain ⟨v, hv, hn⟩ := h
        exact wpAnyH_take ho hs hf hr (fun c a' w' hp => hQ c _ _ w' hp) (.inl ⟨hw, hv⟩) hS (wpAnyH_ord hs hQ r _ _ w hB' hS hn)
      · rw [if_neg hw] at h
        exact wpAnyH_take ho hs hf hr (fun c a' w' hp => hQ c _ _ w' hp) (.inr ⟨by simpa using hw, rfl⟩) hS (wpAnyH_ord hs hQ r _ _ w hB' hS h)
  | (i, false) :: r, listed, a, w, hB, hS, h => by
    simp only [ordB, Bool.and_eq_true, decide_eq_true_eq] at hB
    obtain ⟨hr, hB'⟩ := hB
    cases ho : ops[i]? with
    | none => simp only [wpOrd, ho] at h
    | some o =>
      simp only [wpOrd, ho] at h
      refine wpAnyH_all hr (by simp) (fun j hj => ?_)
      have hji : j = i := by simpa using hj
      subst hji
      unfold wpOp
      simp only [ho]
      by_cases hw : Region.wanted o (yielded ops a.tmps) = true
      · rw [if_pos hw] at h
        simp only [hw, if_true]
        exact .inl (Oper.wp_mono (fun a' w' h' => ⟨h'.1, wpAnyH_ord hs hQ r _ _ w' hB' h'.1 h'.2⟩) h)
      · rw [if_neg hw] at h
        simp only [hw]
        exact ⟨h.1, wpAnyH_ord hs hQ r _ _ w hB' h.1 h.2⟩

theorem region_ord {id : Nat} {Q : Exit → Act → World → Prop} {a : Act} {w : World} {l : List Oper} (S : World → Prop) (ord : List (Nat × Bool)) (hm : P.follows .mixedOrders = true) (hs : Region.noSelect l.toArray = true)
    (hn : ord.length = l.length) (hB : ordB .any l.toArray ord (Array.replicate l.length false) = true) (hS : S w.drew)
    (h : wpOrd P l.toArray (NoPanic Q) S ord a w.drew) : (Code.region id l.toArray true).wp P Q a w := by
  refine wp_region_noPanic (wp_region_held (S := S) hm ?_)
  have := wpAnyH_ord (md := .any) hs (fun c a a' w hp => hp) ord _ a w.drew hB hS h
  rw [hn] at this
  simpa using this

theorem ord_nil {S : World → Prop} {a : Act} {w : World} (h : Q .normal a w) : wpOrd P ops (NoPanic Q) S [] a w := h
theorem ord_read {i : Nat} {r : List (Nat × Bool)} {a : Act} {w : World} {o : Oper} (ho : ops[i]? = some o)
    (h : ∀ K : Act → Prop, (∀ a', wpOrd P ops Q S r a' w → K a') → if Region.wanted o (yielded ops a.tmps) = true then rdOp P o a S K else K (a.put o.dst undef)) : wpOrd P ops Q S ((i, true) :: r) a w := by
  simp only [wpOrd, ho]
  exact h _ (fun _ h => h)
theorem ord_do {i : Nat} {r : List (Nat × Bool)} {a : Act} {w : World} {o : Oper} (ho : ops[i]? = some o)
    (h : ∀ K : Act → World → Prop, (∀ a' w', S w' → wpOrd P ops Q S r a' w' → K a' w') → if Region.wanted o (yielded ops a.tmps) = true then o.wp P a w K Q else K (a.put o.dst undef) w) : wpOrd P ops Q S ((i, false) :: r) a w := by
  simp only [wpOrd, ho]
  exact h _ (fun _ _ h1 h2 => ⟨h1, h2⟩)
end

end Go.Proofs.YtnhjekpadcjdnaaDoor.T

/- Commands and their lines: the command of a line; are two commands one. -/
import Derived.Test.YtnhjekpadcjdnaaDoorJ
namespace Go.Proofs.YtnhjekpadcjdnaaDoor.T
open Go Go.RowKit
set_option linter.unusedVariables false
set_option linter.unusedSimpArgs false
set_option maxRecDepth 100000
theorem split_size (sep : ByteArray) : ∀ (k : Nat) (s b : ByteArray), b ∈ Lib.splitB sep 0 k s → b.size ≤ s.size
  | 0, s, b, h => by simp [Lib.splitB] at h; subst h; omega
  | k + 1, s, b, h => by
    unfold Lib.splitB at h
    split at h
    · simp at h; subst h; omega
    · rcases List.mem_cons.1 h with rfl | h
      · rw [ByteArray.size_extract]; omega
      · have := split_size sep k _ _ h
        rw [ByteArray.size_extract] at this
        omega
theorem split_len (sep : ByteArray) (h1 : 1 ≤ sep.size) : ∀ (k : Nat) (s : ByteArray), Lib.countB s sep = k → (Lib.splitB sep 0 k s).length = k + 1
  | 0, s, h => rfl
  | k + 1, s, h => by
    rcases Lib.indexB_cases s sep with hi | ⟨i, hi, hle⟩
    · rw [Lib.countB_miss s sep hi] at h; omega
    · rw [Lib.countB_hit s sep i h1 hi] at h
      rw [Lib.splitB_hit sep 0 k s i hi, List.length_cons, split_len sep h1 k _ (by omega)]
/-- what 'Cmd' gives -/
def CmdPost (r : Option Cm) (w w' : World) (e : Ending) : Prop := match r with
  | some x => ∃ A ca D cd, e = .returned (.tuple #[.agg #[.int .i64 x.k, .int .i64 x.n, .int .i64 x.fuel, .slice A x.args.length ca, .slice D x.data.length cd], .int .i64 0]) ∧ Own w w' 21 (.slice A x.args.length ca) (x.args.map i32V) ∧ Own w w' 5 (.slice D x.data.length cd) (x.data.map byteI)
  | none => e = .returned (.tuple #[.agg #[.int .i64 0, .int .i64 0, .int .i64 0, .slice none 0 0, .slice none 0 0], .int .i64 13])
theorem CmdPost.no {r : Option Cm} {w w' : World} {e : Ending} (hr : r = none) (he : e = .returned (.tuple #[.agg #[.int .i64 0, .int .i64 0, .int .i64 0, .slice none 0 0, .slice none 0 0], .int .i64 13])) : CmdPost r w w' e := by
  subst hr; exact he
theorem CmdPost.yes {r : Option Cm} {x : Cm} {w w' : World} {e : Ending} (hr : r = some x) {A D : Option Addr} {ca cd : Nat} (he : e = .returned (.tuple #[.agg #[.int .i64 x.k, .int .i64 x.n, .int .i64 x.fuel, .slice A x.args.length ca, .slice D x.data.length cd], .int .i64 0])) (h1 : Own w w' 21 (.slice A x.args.length ca) (x.args.map i32V)) (h2 : Own w w' 5 (.slice D x.data.length cd) (x.data.map byteI)) : CmdPost r w w' e := by
  subst hr; exact ⟨_, _, _, _, he, h1, h2⟩
set_option maxHeartbeats 400000 in
theorem cmd_calls (s : ByteArray) (w : World) (E : Env w) (hs : s.size ≤ 4000000000) (r : Option Cm) (hr : Hid (r = cmdL s.data.toList)) :
    Calls Tryd.prog 6 #[.string s] w fun e w' => CmdPost r w w' e ∧ Below w.heap.size w w' := by
  obtain ⟨m, hm⟩ := E.ml
  have hB := blk_new w (.cells #[.int .i64 0, .int .i64 0, .int .i64 0, .slice none 0 0, .slice none 0 0] 25)
  have hb : Below w.heap.size w (w.alloc (.cells #[.int .i64 0, .int .i64 0, .int .i64 0, .slice none 0 0, .slice none 0 0] 25)) := (by repeat (first | exact Below.refl _ _ | assumption | with_reducible apply bl_a | with_reducible apply bl_d))
  have hsz : (w.alloc (.cells #[.int .i64 0, .int .i64 0, .int .i64 0, .slice none 0 0, .slice none 0 0] 25)).heap.size = w.heap.size + 1 := by simp
  go_enter Tryd.func6, Tryd.ntmps6
  go_wp2_with fail
  generalize w.alloc (.cells #[.int .i64 0, .int .i64 0, .int .i64 0, .slice none 0 0, .slice none 0 0] 25) = W1 at *
  have hm1 : W1.cell? ⟨1, 0, none⟩ = some (.int .i64 m) := by rw [hb.cell (p := ⟨1, 0, none⟩) (World.block_lt_of_cell? _ _ hm)]; exact hm
  refine (Tryd.strings_Split s ⟨#[32]⟩ m _ (by omega) hm1 (by decide)).mono ?_
  rintro e W2 ⟨rfl, rfl⟩
  have hlen := split_len ⟨#[32]⟩ (by decide) _ s rfl
  have hszs := split_size ⟨#[32]⟩ (Lib.countB s ⟨#[32]⟩) s
  have hcnt : Lib.countB s ⟨#[32]⟩ ≤ s.size + 1 := by
    have := Lib.count_le s.data.toList [32]
    have h2 : s.data.toList.length = s.size := Array.length_toList
    rw [h2] at this
    exact this
  have hdat : Hid (readL ((Lib.splitB ⟨#[32]⟩ 0 (Lib.countB s ⟨#[32]⟩) s).map (·.data.toList)) = r) := Lib.hid (by rw [hr.out, Lib.splitB_data]; rfl)
  generalize Lib.splitB ⟨#[32]⟩ 0 (Lib.countB s ⟨#[32]⟩) s = bs at *
  rw [← hlen]
  replace hlen := Lib.hid hlen
  have hRd : Rd (W1.alloc (.cells (bs.map Value.string).toArray 9)) (some ⟨W1.heap.size, 0, none⟩) (bs.map Value.string) := fun k v hk => by
    refine ⟨_, rfl, by simp, ?_⟩
    have ha : (⟨W1.heap.size, 0, none⟩ : Addr).add k = ⟨W1.heap.size, k, none⟩ := by unfold Addr.add; split <;> simp_all
    rw [ha, blk_cell (blk_new W1 (.cells (bs.map Value.string).toArray 9)) k]
    simpa using hk
  have hb2 := bl_a (o := .cells (bs.map Value.string).toArray 9) hb
  have hB2 := blk_below hB (bl_a (o := .cells (bs.map Value.string).toArray 9) (Below.refl W1.heap.size W1))
  have hsz2 : w.heap.size + 1 ≤ (W1.alloc (.cells (bs.map Value.string).toArray 9)).heap.size := by simp; omega
  have h1l : 1 ≤ bs.length := by have := hlen.out; omega
  have h2l : bs.length ≤ 4294967296 := by have := hlen.out; omega
  clear hm1 hm hB hb hr hcnt
  rw [hsz] at hRd ⊢
  replace hsz := Lib.hid hsz
  generalize W1.alloc (.cells (bs.map Value.string).toArray 9) = W2 at *
  go_wp2_with fail
  refine (read_calls _ _ bs _ (E.below hb2) hRd h1l h2l (Nat.le_refl _) (fun b hb => by have := hszs b hb; omega)).mono ?_
  rintro e W3 ⟨hP, hb3⟩
  have hB3 := blk_below hB2 hb3
  replace hb2 := bl_t hb2 hb3
  rw [hdat.out] at hP
  have hlt : w.heap.size < W3.heap.size := blk_lt hB3
  have q := blk_cell hB3
  have qf := blk_frozen hB3
  clear hB2 hb3 hRd
  cases r with
  | none =>
    obtain ⟨a, b, c, A, D, n1, c1, n2, c2, rfl⟩ := hP
    go_wp2
    have hB5 := blk_below (blk_put (blk_put (blk_put (blk_put (blk_put hB3 0 (.int .i64 0) rfl) 1 (.int .i64 0) rfl) 2 (.int .i64 0) rfl) 3 (.slice none 0 0) rfl) 4 (.slice none 0 0) rfl) (bl_a (o := .cells #[.int .i64 a, .int .i64 b, .int .i64 c, .slice A n1 c1, .slice D n2 c2] 25) (Below.refl _ _))
    exact bodyPost_ret (results_cs rfl _ _ w.heap.size 25 _ (0, 0) _ _ rfl hB5 Tryd.underlying25 rfl (by kernel_rfl) rfl) rfl ⟨.no rfl rfl, bl_a (bl_s (bl_s (bl_s (bl_s (bl_s hb2 (by simp)) (by simp)) (by simp)) (by simp)) (by simp))⟩
  | some x =>
    obtain ⟨A, ca, D, cd, rfl, hO1, hO2⟩ := hP
    replace hO1 := Lib.hid hO1
    replace hO2 := Lib.hid hO2
    generalize hk : x.k = k at *
    generalize hn : x.n = n at *
    generalize hf : x.fuel = f at *
    replace hk := Lib.hid hk
    replace hn := Lib.hid hn
    replace hf := Lib.hid hf
    have hO1' := ownsRow_setCell_below (ownsRow_setCell_below (ownsRow_setCell_below (ownsRow_setCell_below (ownsRow_setCell_below hO1.out (a := ⟨w.heap.size, 0, none⟩) (by simp; omega) (.int .i64 k)) (a := ⟨w.heap.size, 1, none⟩) (by simp; omega) (.int .i64 n)) (a := ⟨w.heap.size, 2, none⟩) (by simp; omega) (.int .i64 f)) (a := ⟨w.heap.size, 3, none⟩) (by simp; omega) (.slice A x.args.length ca)) (a := ⟨w.heap.size, 4, none⟩) (by simp; omega) (.slice D x.data.length cd)
    have hO2' := ownsRow_setCell_below (ownsRow_setCell_below (ownsRow_setCell_below (ownsRow_setCell_below (ownsRow_setCell_below hO2.out (a := ⟨w.heap.size, 0, none⟩) (by simp; omega) (.int .i64 k)) (a := ⟨w.heap.size, 1, none⟩) (by simp; omega) (.int .i64 n)) (a := ⟨w.heap.size, 2, none⟩) (by simp; omega) (.int .i64 f)) (a := ⟨w.heap.size, 3, none⟩) (by simp; omega) (.slice A x.args.length ca)) (a := ⟨w.heap.size, 4, none⟩) (by simp; omega) (.slice D x.data.length cd)
    replace hO1' := Lib.hid (World.ownsRow.alloc hO1' (.cells #[.int .i64 k, .int .i64 n, .int .i64 f, .slice A x.args.length ca, .slice D x.data.length cd] 25))
    replace hO2' := Lib.hid (World.ownsRow.alloc hO2' (.cells #[.int .i64 k, .int .i64 n, .int .i64 f, .slice A x.args.length ca, .slice D x.data.length cd] 25))
    clear hO1 hO2
    go_wp2
    have hB5 := blk_below (blk_put (blk_put (blk_put (blk_put (blk_put hB3 0 (.int .i64 k) rfl) 1 (.int .i64 n) rfl) 2 (.int .i64 f) rfl) 3 (.slice A x.args.length ca) rfl) 4 (.slice D x.data.length cd) rfl) (bl_a (o := .cells #[.int .i64 k, .int .i64 n, .int .i64 f, .slice A x.args.length ca, .slice D x.data.length cd] 25) (Below.refl _ _))
    refine bodyPost_ret (results_cs rfl _ _ w.heap.size 25 _ (0, 0) _ _ rfl hB5 Tryd.underlying25 rfl (by kernel_rfl) rfl) rfl ⟨.yes rfl (by rw [hk.out, hn.out, hf.out]; rfl) (Own.older (w0 := W2) hO1'.out (by omega)) (Own.older (w0 := W2) hO2'.out (by omega)), bl_a (bl_s (bl_s (bl_s (bl_s (bl_s hb2 (by simp)) (by simp)) (by simp)) (by simp)) (by simp))⟩
end Go.Proofs.YtnhjekpadcjdnaaDoor.T

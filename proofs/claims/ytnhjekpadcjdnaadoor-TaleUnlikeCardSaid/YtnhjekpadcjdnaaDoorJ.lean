/- Commands and their lines: the command of words. -/
import Derived.Test.YtnhjekpadcjdnaaDoorI
namespace Go.Proofs.YtnhjekpadcjdnaaDoor.T
open Go Go.RowKit
set_option linter.unusedVariables false
set_option linter.unusedSimpArgs false
set_option maxRecDepth 100000
/-- what 'read' gives -/
def ReadPost (r : Option Cm) (w w' : World) (e : Ending) : Prop := match r with
  | some x => ∃ A ca D cd, e = .returned (.tuple #[.agg #[.int .i64 x.k, .int .i64 x.n, .int .i64 x.fuel, .slice A x.args.length ca, .slice D x.data.length cd], .bool true]) ∧ Own w w' 21 (.slice A x.args.length ca) (x.args.map i32V) ∧ Own w w' 5 (.slice D x.data.length cd) (x.data.map byteI)
  | none => ∃ (a b c : Int) (A D : Option Addr) (n1 c1 n2 c2 : Nat), e = .returned (.tuple #[.agg #[.int .i64 a, .int .i64 b, .int .i64 c, .slice A n1 c1, .slice D n2 c2], .bool false])
theorem ReadPost.no {r : Option Cm} {w w' : World} {e : Ending} (hr : r = none) {a b c : Int} {A D : Option Addr} {n1 c1 n2 c2 : Nat} (he : e = .returned (.tuple #[.agg #[.int .i64 a, .int .i64 b, .int .i64 c, .slice A n1 c1, .slice D n2 c2], .bool false])) : ReadPost r w w' e := by
  subst hr; exact ⟨_, _, _, _, _, _, _, _, _, he⟩
theorem ReadPost.yes {r : Option Cm} {x : Cm} {w w' : World} {e : Ending} (hr : r = some x) {A D : Option Addr} {ca cd : Nat} (he : e = .returned (.tuple #[.agg #[.int .i64 x.k, .int .i64 x.n, .int .i64 x.fuel, .slice A x.args.length ca, .slice D x.data.length cd], .bool true])) (h1 : Own w w' 21 (.slice A x.args.length ca) (x.args.map i32V)) (h2 : Own w w' 5 (.slice D x.data.length cd) (x.data.map byteI)) : ReadPost r w w' e := by
  subst hr; exact ⟨_, _, _, _, he, h1, h2⟩
set_option maxHeartbeats 4000000 in
theorem read_other (A : Option Addr) (cp : Nat) (bs : List ByteArray) (w : World) (hRd : Rd w A (bs.map Value.string)) (h1 : 1 ≤ bs.length) (hl : bs.length ≤ 4294967296) (b0 : ByteArray) (hb0 : bs.getD 0 default = b0)
    (e1 : (b0.toList == wInstall) = false) (e2 : (b0.toList == wDelete) = false) (e3 : (b0.toList == wSelect) = false) (e4 : (b0.toList == wInvoke) = false) (e5 : (b0.toList == wReset) = false)  :
    Calls Tryd.prog 14 #[.slice A bs.length cp] w fun e w' => ReadPost none w w' e ∧ Below w.heap.size w w' := by
  obtain ⟨ad, rfl, hab, hc0⟩ := hRd 0 (.string b0) (by rw [← hb0]; simp [List.getD_eq_getElem?_getD, show 0 < bs.length by omega])
  have hz : ad.add 0 = ad := by simp [Addr.add]
  rw [hz] at hc0
  clear hz hb0
  simp only [wInstall, wDelete, wSelect, wInvoke, wReset] at e1 e2 e3 e4 e5
  go_enter Tryd.func14, Tryd.ntmps14
  go_wp2
  refine bodyPost_ret (results_cs rfl _ _ w.heap.size 25 _ (0, 0) _ _ rfl (blk_new w _) Tryd.underlying25 rfl (by kernel_rfl) rfl) rfl ⟨⟨_, _, _, _, _, _, _, _, _, rfl⟩, (by repeat (first | exact Below.refl _ _ | assumption | with_reducible apply bl_a | with_reducible apply bl_d))⟩
set_option maxHeartbeats 4000000 in
theorem read_install_bad (A : Option Addr) (cp : Nat) (bs : List ByteArray) (w : World) (hRd : Rd w A (bs.map Value.string)) (h1 : 1 ≤ bs.length) (hl : bs.length ≤ 4294967296) (b0 : ByteArray) (hb0 : bs.getD 0 default = b0)
    (e1 : (b0.toList == wInstall) = true) (e2 : (b0.toList == wDelete) = false) (e3 : (b0.toList == wSelect) = false) (e4 : (b0.toList == wInvoke) = false) (e5 : (b0.toList == wReset) = false) (hn : ((bs.length : Int) == 2) = false) :
    Calls Tryd.prog 14 #[.slice A bs.length cp] w fun e w' => ReadPost none w w' e ∧ Below w.heap.size w w' := by
  obtain ⟨ad, rfl, hab, hc0⟩ := hRd 0 (.string b0) (by rw [← hb0]; simp [List.getD_eq_getElem?_getD, show 0 < bs.length by omega])
  have hz : ad.add 0 = ad := by simp [Addr.add]
  rw [hz] at hc0
  clear hz hb0
  simp only [wInstall, wDelete, wSelect, wInvoke, wReset] at e1 e2 e3 e4 e5
  go_enter Tryd.func14, Tryd.ntmps14
  go_wp2
  refine bodyPost_ret (results_cs rfl _ _ w.heap.size 25 _ (0, 0) _ _ rfl (blk_new w _) Tryd.underlying25 rfl (by kernel_rfl) rfl) rfl ⟨⟨_, _, _, _, _, _, _, _, _, rfl⟩, (by repeat (first | exact Below.refl _ _ | assumption | with_reducible apply bl_a | with_reducible apply bl_d))⟩
set_option maxHeartbeats 4000000 in
theorem read_delete_bad (A : Option Addr) (cp : Nat) (bs : List ByteArray) (w : World) (hRd : Rd w A (bs.map Value.string)) (h1 : 1 ≤ bs.length) (hl : bs.length ≤ 4294967296) (b0 : ByteArray) (hb0 : bs.getD 0 default = b0)
    (e1 : (b0.toList == wInstall) = false) (e2 : (b0.toList == wDelete) = true) (e3 : (b0.toList == wSelect) = false) (e4 : (b0.toList == wInvoke) = false) (e5 : (b0.toList == wReset) = false) (hn : ((bs.length : Int) == 2) = false) :
    Calls Tryd.prog 14 #[.slice A bs.length cp] w fun e w' => ReadPost none w w' e ∧ Below w.heap.size w w' := by
  obtain ⟨ad, rfl, hab, hc0⟩ := hRd 0 (.string b0) (by rw [← hb0]; simp [List.getD_eq_getElem?_getD, show 0 < bs.length by omega])
  have hz : ad.add 0 = ad := by simp [Addr.add]
  rw [hz] at hc0
  clear hz hb0
  simp only [wInstall, wDelete, wSelect, wInvoke, wReset] at e1 e2 e3 e4 e5
  go_enter Tryd.func14, Tryd.ntmps14
  go_wp2
  refine bodyPost_ret (results_cs rfl _ _ w.heap.size 25 _ (0, 0) _ _ rfl (blk_new w _) Tryd.underlying25 rfl (by kernel_rfl) rfl) rfl ⟨⟨_, _, _, _, _, _, _, _, _, rfl⟩, (by repeat (first | exact Below.refl _ _ | assumption | with_reducible apply bl_a | with_reducible apply bl_d))⟩
set_option maxHeartbeats 4000000 in
theorem read_select_bad (A : Option Addr) (cp : Nat) (bs : List ByteArray) (w : World) (hRd : Rd w A (bs.map Value.string)) (h1 : 1 ≤ bs.length) (hl : bs.length ≤ 4294967296) (b0 : ByteArray) (hb0 : bs.getD 0 default = b0)
    (e1 : (b0.toList == wInstall) = false) (e2 : (b0.toList == wDelete) = false) (e3 : (b0.toList == wSelect) = true) (e4 : (b0.toList == wInvoke) = false) (e5 : (b0.toList == wReset) = false) (hn : ((bs.length : Int) == 2) = false) :
    Calls Tryd.prog 14 #[.slice A bs.length cp] w fun e w' => ReadPost none w w' e ∧ Below w.heap.size w w' := by
  obtain ⟨ad, rfl, hab, hc0⟩ := hRd 0 (.string b0) (by rw [← hb0]; simp [List.getD_eq_getElem?_getD, show 0 < bs.length by omega])
  have hz : ad.add 0 = ad := by simp [Addr.add]
  rw [hz] at hc0
  clear hz hb0
  simp only [wInstall, wDelete, wSelect, wInvoke, wReset] at e1 e2 e3 e4 e5
  go_enter Tryd.func14, Tryd.ntmps14
  go_wp2
  refine bodyPost_ret (results_cs rfl _ _ w.heap.size 25 _ (0, 0) _ _ rfl (blk_new w _) Tryd.underlying25 rfl (by kernel_rfl) rfl) rfl ⟨⟨_, _, _, _, _, _, _, _, _, rfl⟩, (by repeat (first | exact Below.refl _ _ | assumption | with_reducible apply bl_a | with_reducible apply bl_d))⟩
set_option maxHeartbeats 4000000 in
theorem read_invoke_bad (A : Option Addr) (cp : Nat) (bs : List ByteArray) (w : World) (hRd : Rd w A (bs.map Value.string)) (h1 : 1 ≤ bs.length) (hl : bs.length ≤ 4294967296) (b0 : ByteArray) (hb0 : bs.getD 0 default = b0)
    (e1 : (b0.toList == wInstall) = false) (e2 : (b0.toList == wDelete) = false) (e3 : (b0.toList == wSelect) = false) (e4 : (b0.toList == wInvoke) = true) (e5 : (b0.toList == wReset) = false) (hn : ¬ (3 : Int) ≤ (bs.length : Int)) :
    Calls Tryd.prog 14 #[.slice A bs.length cp] w fun e w' => ReadPost none w w' e ∧ Below w.heap.size w w' := by
  obtain ⟨ad, rfl, hab, hc0⟩ := hRd 0 (.string b0) (by rw [← hb0]; simp [List.getD_eq_getElem?_getD, show 0 < bs.length by omega])
  have hz : ad.add 0 = ad := by simp [Addr.add]
  rw [hz] at hc0
  clear hz hb0
  simp only [wInstall, wDelete, wSelect, wInvoke, wReset] at e1 e2 e3 e4 e5
  go_enter Tryd.func14, Tryd.ntmps14
  go_wp2
  refine bodyPost_ret (results_cs rfl _ _ w.heap.size 25 _ (0, 0) _ _ rfl (blk_new w _) Tryd.underlying25 rfl (by kernel_rfl) rfl) rfl ⟨⟨_, _, _, _, _, _, _, _, _, rfl⟩, (by repeat (first | exact Below.refl _ _ | assumption | with_reducible apply bl_a | with_reducible apply bl_d))⟩
set_option maxHeartbeats 4000000 in
theorem read_reset_bad (A : Option Addr) (cp : Nat) (bs : List ByteArray) (w : World) (hRd : Rd w A (bs.map Value.string)) (h1 : 1 ≤ bs.length) (hl : bs.length ≤ 4294967296) (b0 : ByteArray) (hb0 : bs.getD 0 default = b0)
    (e1 : (b0.toList == wInstall) = false) (e2 : (b0.toList == wDelete) = false) (e3 : (b0.toList == wSelect) = false) (e4 : (b0.toList == wInvoke) = false) (e5 : (b0.toList == wReset) = true) (hn : ((bs.length : Int) == 1) = false) :
    Calls Tryd.prog 14 #[.slice A bs.length cp] w fun e w' => ReadPost none w w' e ∧ Below w.heap.size w w' := by
  obtain ⟨ad, rfl, hab, hc0⟩ := hRd 0 (.string b0) (by rw [← hb0]; simp [List.getD_eq_getElem?_getD, show 0 < bs.length by omega])
  have hz : ad.add 0 = ad := by simp [Addr.add]
  rw [hz] at hc0
  clear hz hb0
  simp only [wInstall, wDelete, wSelect, wInvoke, wReset] at e1 e2 e3 e4 e5
  go_enter Tryd.func14, Tryd.ntmps14
  go_wp2
  refine bodyPost_ret (results_cs rfl _ _ w.heap.size 25 _ (0, 0) _ _ rfl (blk_new w _) Tryd.underlying25 rfl (by kernel_rfl) rfl) rfl ⟨⟨_, _, _, _, _, _, _, _, _, rfl⟩, (by repeat (first | exact Below.refl _ _ | assumption | with_reducible apply bl_a | with_reducible apply bl_d))⟩
set_option maxHeartbeats 4000000 in
theorem read_reset (A : Option Addr) (cp : Nat) (b0 b1 : ByteArray) (w : World) (E : Env w) (hRd : Rd w A ([b0].map Value.string)) (hcp : 1 ≤ cp) (s1 : b1.size ≤ 281474976710656)
    (e1 : (b0.toList == wInstall) = false) (e2 : (b0.toList == wDelete) = false) (e3 : (b0.toList == wSelect) = false) (e4 : (b0.toList == wInvoke) = false) (e5 : (b0.toList == wReset) = true)  :
    Calls Tryd.prog 14 #[.slice A 1 cp] w fun e w' => ReadPost (some ⟨5, 0, 0, [], []⟩) w w' e ∧ Below w.heap.size w w' := by
  obtain ⟨ad, rfl, hab, hc0⟩ := hRd 0 (.string b0) rfl
  have hz : ad.add 0 = ad := by simp [Addr.add]
  rw [hz] at hc0
  clear hz
  simp only [wInstall, wDelete, wSelect, wInvoke, wReset] at e1 e2 e3 e4 e5
  go_enter Tryd.func14, Tryd.ntmps14
  go_wp2
  refine bodyPost_ret (results_cs rfl _ _ w.heap.size 25 _ (0, 0) _ _ rfl (blk_new w _) Tryd.underlying25 rfl (by kernel_rfl) rfl) rfl ⟨⟨none, 0, none, 0, rfl, Own.nil _ _ _, Own.nil _ _ _⟩, (by repeat (first | exact Below.refl _ _ | assumption | with_reducible apply bl_a | with_reducible apply bl_d))⟩
set_option maxHeartbeats 4000000 in
theorem read_delete (A : Option Addr) (cp : Nat) (b0 b1 : ByteArray) (w : World) (E : Env w) (hRd : Rd w A ([b0, b1].map Value.string)) (hcp : 2 ≤ cp) (s1 : b1.size ≤ 281474976710656)
    (e1 : (b0.toList == wInstall) = false) (e2 : (b0.toList == wDelete) = true) (e3 : (b0.toList == wSelect) = false) (e4 : (b0.toList == wInvoke) = false) (e5 : (b0.toList == wReset) = false) (r : Option Cm) (hr : Hid (r = if numB 64 b1.data.toList then some ⟨2, numV 64 b1.data.toList, 0, [], []⟩ else none)) :
    Calls Tryd.prog 14 #[.slice A 2 cp] w fun e w' => ReadPost r w w' e ∧ Below w.heap.size w w' := by
  obtain ⟨ad, rfl, hab, hc0⟩ := hRd 0 (.string b0) rfl
  have hz : ad.add 0 = ad := by simp [Addr.add]
  rw [hz] at hc0
  clear hz
  obtain ⟨ad', he, _, hc1⟩ := hRd 1 (.string b1) rfl
  cases he
  have hz1 : ad.add 1 = ⟨ad.block, ad.off + 1, none⟩ := by simp [Addr.add]
  rw [hz1] at hc1
  clear hz1
  simp only [wInstall, wDelete, wSelect, wInvoke, wReset] at e1 e2 e3 e4 e5
  have hB := blk_new w (.cells #[.int .i64 0, .int .i64 0, .int .i64 0, .slice none 0 0, .slice none 0 0] 25)
  have hb : Below w.heap.size w (w.alloc (.cells #[.int .i64 0, .int .i64 0, .int .i64 0, .slice none 0 0, .slice none 0 0] 25)) := (by repeat (first | exact Below.refl _ _ | assumption | with_reducible apply bl_a | with_reducible apply bl_d))
  go_enter Tryd.func14, Tryd.ntmps14
  go_wp2_with fail
  generalize w.alloc (.cells #[.int .i64 0, .int .i64 0, .int .i64 0, .slice none 0 0, .slice none 0 0] 25) = W1 at *
  refine (number64_calls b1 _ (E.below hb) s1).mono ?_
  rintro e W2 ⟨rfl, hb2⟩
  have hB2 := blk_below hB hb2
  replace hb := bl_t hb hb2
  replace hc0 : W2.cell? ad = some (.string b0) := by rw [hb.cell (p := ad) hab]; exact hc0
  have q := blk_cell hB2
  have qf := blk_frozen hB2
  clear hB hb2 hc1
  generalize hv : numV 64 b1.data.toList = v1 at *
  generalize hn : numB 64 b1.data.toList = g1 at *
  replace hv := Lib.hid hv
  replace hn := Lib.hid hn
  go_wp2
  have hB3 := blk_put (blk_put (blk_put (blk_put (blk_put hB2 0 (.int .i64 2) rfl) 1 (.int .i64 v1) rfl) 2 (.int .i64 0) rfl) 3 (.slice none 0 0) rfl) 4 (.slice none 0 0) rfl
  have hb3 : Below w.heap.size w (((((W2.setCell ⟨w.heap.size, 0, none⟩ (.int .i64 2)).setCell ⟨w.heap.size, 1, none⟩ (.int .i64 v1)).setCell ⟨w.heap.size, 2, none⟩ (.int .i64 0)).setCell ⟨w.heap.size, 3, none⟩ (.slice none 0 0)).setCell ⟨w.heap.size, 4, none⟩ (.slice none 0 0)) := bl_s (bl_s (bl_s (bl_s (bl_s hb (by simp)) (by simp)) (by simp)) (by simp)) (by simp)
  refine bodyPost_ret (results_cs rfl _ _ w.heap.size 25 _ (0, 0) _ _ rfl hB3 Tryd.underlying25 rfl (by kernel_rfl) rfl) rfl ⟨?_, hb3⟩
  cases g1
  · exact .no (by rw [hr.out]; rfl) rfl
  · exact .yes (x := ⟨2, v1, 0, [], []⟩) (by rw [hr.out]; rfl) rfl (Own.nil _ _ _) (Own.nil _ _ _)
set_option maxHeartbeats 4000000 in
theorem read_select (A : Option Addr) (cp : Nat) (b0 b1 : ByteArray) (w : World) (E : Env w) (hRd : Rd w A ([b0, b1].map Value.string)) (hcp : 2 ≤ cp) (s1 : b1.size ≤ 281474976710656)
    (e1 : (b0.toList == wInstall) = false) (e2 : (b0.toList == wDelete) = false) (e3 : (b0.toList == wSelect) = true) (e4 : (b0.toList == wInvoke) = false) (e5 : (b0.toList == wReset) = false) (r : Option Cm) (hr : Hid (r = if numB 64 b1.data.toList then some ⟨3, numV 64 b1.data.toList, 0, [], []⟩ else none)) :
    Calls Tryd.prog 14 #[.slice A 2 cp] w fun e w' => ReadPost r w w' e ∧ Below w.heap.size w w' := by
  obtain ⟨ad, rfl, hab, hc0⟩ := hRd 0 (.string b0) rfl
  have hz : ad.add 0 = ad := by simp [Addr.add]
  rw [hz] at hc0
  clear hz
  obtain ⟨ad', he, _, hc1⟩ := hRd 1 (.string b1) rfl
  cases he
  have hz1 : ad.add 1 = ⟨ad.block, ad.off + 1, none⟩ := by simp [Addr.add]
  rw [hz1] at hc1
  clear hz1
  simp only [wInstall, wDelete, wSelect, wInvoke, wReset] at e1 e2 e3 e4 e5
  have hB := blk_new w (.cells #[.int .i64 0, .int .i64 0, .int .i64 0, .slice none 0 0, .slice none 0 0] 25)
  have hb : Below w.heap.size w (w.alloc (.cells #[.int .i64 0, .int .i64 0, .int .i64 0, .slice none 0 0, .slice none 0 0] 25)) := (by repeat (first | exact Below.refl _ _ | assumption | with_reducible apply bl_a | with_reducible apply bl_d))
  go_enter Tryd.func14, Tryd.ntmps14
  go_wp2_with fail
  generalize w.alloc (.cells #[.int .i64 0, .int .i64 0, .int .i64 0, .slice none 0 0, .slice none 0 0] 25) = W1 at *
  refine (number64_calls b1 _ (E.below hb) s1).mono ?_
  rintro e W2 ⟨rfl, hb2⟩
  have hB2 := blk_below hB hb2
  replace hb := bl_t hb hb2
  replace hc0 : W2.cell? ad = some (.string b0) := by rw [hb.cell (p := ad) hab]; exact hc0
  have q := blk_cell hB2
  have qf := blk_frozen hB2
  clear hB hb2 hc1
  generalize hv : numV 64 b1.data.toList = v1 at *
  generalize hn : numB 64 b1.data.toList = g1 at *
  replace hv := Lib.hid hv
  replace hn := Lib.hid hn
  go_wp2
  have hB3 := blk_put (blk_put (blk_put (blk_put (blk_put hB2 0 (.int .i64 3) rfl) 1 (.int .i64 v1) rfl) 2 (.int .i64 0) rfl) 3 (.slice none 0 0) rfl) 4 (.slice none 0 0) rfl
  have hb3 : Below w.heap.size w (((((W2.setCell ⟨w.heap.size, 0, none⟩ (.int .i64 3)).setCell ⟨w.heap.size, 1, none⟩ (.int .i64 v1)).setCell ⟨w.heap.size, 2, none⟩ (.int .i64 0)).setCell ⟨w.heap.size, 3, none⟩ (.slice none 0 0)).setCell ⟨w.heap.size, 4, none⟩ (.slice none 0 0)) := bl_s (bl_s (bl_s (bl_s (bl_s hb (by simp)) (by simp)) (by simp)) (by simp)) (by simp)
  refine bodyPost_ret (results_cs rfl _ _ w.heap.size 25 _ (0, 0) _ _ rfl hB3 Tryd.underlying25 rfl (by kernel_rfl) rfl) rfl ⟨?_, hb3⟩
  cases g1
  · exact .no (by rw [hr.out]; rfl) rfl
  · exact .yes (x := ⟨3, v1, 0, [], []⟩) (by rw [hr.out]; rfl) rfl (Own.nil _ _ _) (Own.nil _ _ _)
set_option maxHeartbeats 4000000 in
theorem read_install (A : Option Addr) (cp : Nat) (b0 b1 : ByteArray) (w : World) (E : Env w) (hRd : Rd w A ([b0, b1].map Value.string)) (hcp : 2 ≤ cp) (s1 : b1.size ≤ 281474976710656)
    (e1 : (b0.toList == wInstall) = true) (e2 : (b0.toList == wDelete) = false) (e3 : (b0.toList == wSelect) = false) (e4 : (b0.toList == wInvoke) = false) (e5 : (b0.toList == wReset) = false) (r : Option Cm) (hr : Hid (r = (unhexL b1.data.toList).map (fun b => ⟨1, 0, 0, [], b⟩))) :
    Calls Tryd.prog 14 #[.slice A 2 cp] w fun e w' => ReadPost r w w' e ∧ Below w.heap.size w w' := by
  obtain ⟨ad, rfl, hab, hc0⟩ := hRd 0 (.string b0) rfl
  have hz : ad.add 0 = ad := by simp [Addr.add]
  rw [hz] at hc0
  clear hz
  obtain ⟨ad', he, _, hc1⟩ := hRd 1 (.string b1) rfl
  cases he
  have hz1 : ad.add 1 = ⟨ad.block, ad.off + 1, none⟩ := by simp [Addr.add]
  rw [hz1] at hc1
  clear hz1
  simp only [wInstall, wDelete, wSelect, wInvoke, wReset] at e1 e2 e3 e4 e5
  have hB := blk_new w (.cells #[.int .i64 0, .int .i64 0, .int .i64 0, .slice none 0 0, .slice none 0 0] 25)
  have hb : Below w.heap.size w (w.alloc (.cells #[.int .i64 0, .int .i64 0, .int .i64 0, .slice none 0 0, .slice none 0 0] 25)) := (by repeat (first | exact Below.refl _ _ | assumption | with_reducible apply bl_a | with_reducible apply bl_d))
  have hsz : (w.alloc (.cells #[.int .i64 0, .int .i64 0, .int .i64 0, .slice none 0 0, .slice none 0 0] 25)).heap.size = w.heap.size + 1 := by simp
  go_enter Tryd.func14, Tryd.ntmps14
  go_wp2_with fail
  generalize w.alloc (.cells #[.int .i64 0, .int .i64 0, .int .i64 0, .slice none 0 0, .slice none 0 0] 25) = W1 at *
  refine (unhex_calls b1 _ s1).mono ?_
  rintro e W2 ⟨hU, hb2⟩
  have hB2 := blk_below hB hb2
  replace hb := bl_t hb hb2
  have q := blk_cell hB2
  have qf := blk_frozen hB2
  clear hB hb2 hc1 hc0
  cases hu : unhexL b1.data.toList with
  | none =>
    rw [hu] at hU
    obtain rfl : e = .returned (.tuple #[.slice none 0 0, .bool false]) := hU
    replace hu := Lib.hid hu
    go_wp2
    have hB3 := blk_put (blk_put (blk_put (blk_put (blk_put hB2 0 (.int .i64 1) rfl) 1 (.int .i64 0) rfl) 2 (.int .i64 0) rfl) 3 (.slice none 0 0) rfl) 4 (.slice none 0 0) rfl
    have hb3 : Below w.heap.size w (((((W2.setCell ⟨w.heap.size, 0, none⟩ (.int .i64 1)).setCell ⟨w.heap.size, 1, none⟩ (.int .i64 0)).setCell ⟨w.heap.size, 2, none⟩ (.int .i64 0)).setCell ⟨w.heap.size, 3, none⟩ (.slice none 0 0)).setCell ⟨w.heap.size, 4, none⟩ (.slice none 0 0)) := bl_s (bl_s (bl_s (bl_s (bl_s hb (by simp)) (by simp)) (by simp)) (by simp)) (by simp)
    exact bodyPost_ret (results_cs rfl _ _ w.heap.size 25 _ (0, 0) _ _ rfl hB3 Tryd.underlying25 rfl (by kernel_rfl) rfl) rfl ⟨.no (by rw [hr.out, hu.out]; rfl) rfl, hb3⟩
  | some b =>
    rw [hu] at hU
    obtain ⟨v, rfl, hO⟩ := hU
    replace hu := Lib.hid hu
    obtain ⟨D, cd, rfl⟩ := row_slice hO
    have hO : W2.ownsRow (w.heap.size + 1) 5 1 (.slice D (b.map byteI).length cd) (b.map byteI).length (b.map byteI) := by rw [← hsz]; exact hO
    simp only [List.length_map] at hO
    replace hO := ownsRow_setCell_below (ownsRow_setCell_below (ownsRow_setCell_below (ownsRow_setCell_below (ownsRow_setCell_below hO (a := ⟨w.heap.size, 0, none⟩) (by simp) (.int .i64 1)) (a := ⟨w.heap.size, 1, none⟩) (by simp) (.int .i64 0)) (a := ⟨w.heap.size, 2, none⟩) (by simp) (.int .i64 0)) (a := ⟨w.heap.size, 3, none⟩) (by simp) (.slice none 0 0)) (a := ⟨w.heap.size, 4, none⟩) (by simp) (.slice D b.length cd)
    replace hO := Lib.hid hO
    go_wp2
    have hB3 := blk_put (blk_put (blk_put (blk_put (blk_put hB2 0 (.int .i64 1) rfl) 1 (.int .i64 0) rfl) 2 (.int .i64 0) rfl) 3 (.slice none 0 0) rfl) 4 (.slice D b.length cd) rfl
    have hb3 : Below w.heap.size w (((((W2.setCell ⟨w.heap.size, 0, none⟩ (.int .i64 1)).setCell ⟨w.heap.size, 1, none⟩ (.int .i64 0)).setCell ⟨w.heap.size, 2, none⟩ (.int .i64 0)).setCell ⟨w.heap.size, 3, none⟩ (.slice none 0 0)).setCell ⟨w.heap.size, 4, none⟩ (.slice D b.length cd)) := bl_s (bl_s (bl_s (bl_s (bl_s hb (by simp)) (by simp)) (by simp)) (by simp)) (by simp)
    refine bodyPost_ret (results_cs rfl _ _ w.heap.size 25 _ (0, 0) _ _ rfl hB3 Tryd.underlying25 rfl (by kernel_rfl) rfl) rfl ⟨.yes (x := ⟨1, 0, 0, [], b⟩) (by rw [hr.out, hu.out]; rfl) rfl (Own.nil _ _ _) ?_, hb3⟩
    exact Own.older (w0 := w.alloc (.cells #[] 25)) (by unfold Own; simpa using hO.out) (by simp)
set_option maxHeartbeats 4000000 in
theorem read_invoke (A : Option Addr) (cp : Nat) (b0 : ByteArray) (bs : List ByteArray) (w : World) (E : Env w) (hRd : Rd w A ((b0 :: bs).map Value.string)) (h2 : 2 ≤ bs.length) (hl : bs.length ≤ 4294967296) (hcp : bs.length + 1 ≤ cp) (hs : ∀ b ∈ bs, b.size ≤ 281474976710656)
    (e1 : (b0.toList == wInstall) = false) (e2 : (b0.toList == wDelete) = false) (e3 : (b0.toList == wSelect) = false) (e4 : (b0.toList == wInvoke) = true) (e5 : (b0.toList == wReset) = false)
    (r : Option Cm) (hr : Hid (r = if numB 64 (bs.getD 0 default).data.toList && (numB 64 (bs.getD 1 default).data.toList && (bs.drop 2).all (fun b => numB 32 b.data.toList)) then some ⟨4, numV 64 (bs.getD 0 default).data.toList, numV 64 (bs.getD 1 default).data.toList, (bs.drop 2).map (fun b => numV 32 b.data.toList), []⟩ else none)) :
    Calls Tryd.prog 14 #[.slice A (bs.length + 1) cp] w fun e w' => ReadPost r w w' e ∧ Below w.heap.size w w' := by
  obtain ⟨ad, rfl, hab, hc0⟩ := hRd 0 (.string b0) rfl
  have hz : ad.add 0 = ad := by simp [Addr.add]
  rw [hz] at hc0
  clear hz
  simp only [wInstall, wDelete, wSelect, wInvoke, wReset] at e1 e2 e3 e4 e5
  have hRd1 : Rd w (some ⟨ad.block, ad.off + 1, none⟩) (bs.map Value.string) := fun k v hk => by
    obtain ⟨a, ha, hl, hc⟩ := hRd (k + 1) v (by simpa using hk)
    cases ha
    refine ⟨_, rfl, hl, ?_⟩
    have : (⟨ad.block, ad.off + 1, none⟩ : Addr).add k = ad.add (k + 1) := by
      unfold Addr.add
      rw [if_neg (show ¬ k + 1 = 0 by omega)]
      split
      · rename_i h; subst h; rfl
      · simp only [Nat.add_assoc, Nat.add_comm 1 k]
    rw [this]; exact hc
  replace hs := Lib.hid hs
  have hB := blk_new w (.cells #[.int .i64 0, .int .i64 0, .int .i64 0, .slice none 0 0, .slice none 0 0] 25)
  have hb : Below w.heap.size w (w.alloc (.cells #[.int .i64 0, .int .i64 0, .int .i64 0, .slice none 0 0, .slice none 0 0] 25)) := (by repeat (first | exact Below.refl _ _ | assumption | with_reducible apply bl_a | with_reducible apply bl_d))
  have hsz : (w.alloc (.cells #[.int .i64 0, .int .i64 0, .int .i64 0, .slice none 0 0, .slice none 0 0] 25)).heap.size = w.heap.size + 1 := by simp
  replace hsz := Lib.hid hsz
  have h3 : (3 : Int) ≤ (bs.length : Int) + 1 := by omega
  have hc1 : ¬ cp = 1 := by omega
  go_enter Tryd.func14, Tryd.ntmps14
  go_wp2_with fail
  generalize w.alloc (.cells #[.int .i64 0, .int .i64 0, .int .i64 0, .slice none 0 0, .slice none 0 0] 25) = W1 at *
  refine (numbers_calls (some ⟨ad.block, ad.off + 1, none⟩) (cp - 1) bs _ (E.below hb) (hRd1.below hb) h2 hl (by omega) hs.out).mono ?_
  rintro e W2 ⟨⟨v, rfl, hO⟩, hb2⟩
  have hB2 := blk_below hB hb2
  replace hb := bl_t hb hb2
  have q := blk_cell hB2
  have qf := blk_frozen hB2
  clear hB hb2 hc0 hRd1 hRd
  obtain ⟨C, cc, rfl⟩ := row_slice hO
  have hO : W2.ownsRow (w.heap.size + 1) 21 1 (.slice C ((bs.drop 2).map (fun b => i32V (numV 32 b.data.toList))).length cc) ((bs.drop 2).map (fun b => i32V (numV 32 b.data.toList))).length ((bs.drop 2).map (fun b => i32V (numV 32 b.data.toList))) := by rw [← hsz.out]; exact hO
  generalize (numB 64 (bs.getD 0 default).data.toList && (numB 64 (bs.getD 1 default).data.toList && (bs.drop 2).all (fun b => numB 32 b.data.toList))) = g at *
  generalize numV 64 (bs.getD 0 default).data.toList = n0 at *
  generalize numV 64 (bs.getD 1 default).data.toList = n1 at *
  have hmm : (bs.drop 2).map (fun b => i32V (numV 32 b.data.toList)) = ((bs.drop 2).map (fun b => numV 32 b.data.toList)).map i32V := by rw [List.map_map]; rfl
  rw [hmm] at hO
  rw [hmm]
  clear hmm
  generalize (bs.drop 2).map (fun b => numV 32 b.data.toList) = l at *
  simp only [List.length_map] at hO
  rw [List.length_map]
  replace hO := ownsRow_setCell_below (ownsRow_setCell_below (ownsRow_setCell_below (ownsRow_setCell_below (ownsRow_setCell_below hO (a := ⟨w.heap.size, 0, none⟩) (by simp) (.int .i64 4)) (a := ⟨w.heap.size, 1, none⟩) (by simp) (.int .i64 n0)) (a := ⟨w.heap.size, 2, none⟩) (by simp) (.int .i64 n1)) (a := ⟨w.heap.size, 3, none⟩) (by simp) (.slice C l.length cc)) (a := ⟨w.heap.size, 4, none⟩) (by simp) (.slice none 0 0)
  replace hO := Lib.hid hO
  go_wp2
  have hB3 := blk_put (blk_put (blk_put (blk_put (blk_put hB2 0 (.int .i64 4) rfl) 1 (.int .i64 n0) rfl) 2 (.int .i64 n1) rfl) 3 (.slice C l.length cc) rfl) 4 (.slice none 0 0) rfl
  have hb3 : Below w.heap.size w (((((W2.setCell ⟨w.heap.size, 0, none⟩ (.int .i64 4)).setCell ⟨w.heap.size, 1, none⟩ (.int .i64 n0)).setCell ⟨w.heap.size, 2, none⟩ (.int .i64 n1)).setCell ⟨w.heap.size, 3, none⟩ (.slice C l.length cc)).setCell ⟨w.heap.size, 4, none⟩ (.slice none 0 0)) := bl_s (bl_s (bl_s (bl_s (bl_s hb (by simp)) (by simp)) (by simp)) (by simp)) (by simp)
  refine bodyPost_ret (results_cs rfl _ _ w.heap.size 25 _ (0, 0) _ _ rfl hB3 Tryd.underlying25 rfl (by kernel_rfl) rfl) rfl ⟨?_, hb3⟩
  cases g
  · exact .no (by rw [hr.out]; rfl) rfl
  · exact .yes (x := ⟨4, n0, n1, l, []⟩) (by rw [hr.out]; rfl) rfl (Own.older (w0 := w.alloc (.cells #[] 25)) (by unfold Own; simpa using hO.out) (by simp)) (Own.nil _ _ _)
theorem data_toList (b : ByteArray) : b.toList = b.data.toList := Lib.toList_data b
theorem beq_f {a b : List UInt8} (h : a ≠ b) : (a == b) = false := by simpa using h
/-- the command of words, whatever they are -/
theorem read_calls (A : Option Addr) (cp : Nat) (bs : List ByteArray) (w : World) (E : Env w) (hRd : Rd w A (bs.map Value.string)) (h1 : 1 ≤ bs.length) (hl : bs.length ≤ 4294967296) (hcp : bs.length ≤ cp) (hs : ∀ b ∈ bs, b.size ≤ 281474976710656) :
    Calls Tryd.prog 14 #[.slice A bs.length cp] w fun e w' => ReadPost (readL (bs.map (·.data.toList))) w w' e ∧ Below w.heap.size w w' := by
  match bs, h1 with
  | b0 :: r, _ =>
    have hs' : ∀ b ∈ r, b.size ≤ 281474976710656 := fun b hb => hs b (by simp [hb])
    have hl' : r.length ≤ 4294967296 := by simp at hl; omega
    have hcp' : r.length + 1 ≤ cp := by simpa using hcp
    have hg (i : Nat) : ((r.map (·.data.toList)).getD i []) = (r.getD i default).data.toList := by
      simp only [List.getD_eq_getElem?_getD, List.getElem?_map]
      cases r[i]? <;> rfl
    by_cases c1 : b0.data.toList = wInstall
    · have ne2 : b0.data.toList ≠ wDelete := by rw [c1]; decide
      have ne3 : b0.data.toList ≠ wSelect := by rw [c1]; decide
      have ne4 : b0.data.toList ≠ wInvoke := by rw [c1]; decide
      have ne5 : b0.data.toList ≠ wReset := by rw [c1]; decide
      rw [← data_toList] at c1 ne2 ne3 ne4 ne5
      by_cases hn : r.length = 1
      · obtain ⟨b1, rfl⟩ := List.length_eq_one_iff.1 hn
        refine (read_install A cp b0 b1 w E hRd hcp (hs' b1 (by simp)) (by simp [c1]) (beq_f ne2) (beq_f ne3) (beq_f ne4) (beq_f ne5) _ (Lib.hid ?_))
        rw [data_toList] at c1
        simp only [List.map_cons, List.map_nil, readL, c1]
        rfl
      · have := read_install_bad A cp (b0 :: r) w hRd (by simp) hl b0 rfl (by simp [c1]) (beq_f ne2) (beq_f ne3) (beq_f ne4) (beq_f ne5) (by rw [beq_eq_false_iff_ne]; simp; omega)
        rw [show readL ((b0 :: r).map (·.data.toList)) = none from ?_]
        · exact this
        · rw [data_toList] at c1 ne2 ne3 ne4 ne5
          simp only [List.map_cons, readL, List.length_map]
          rw [if_neg (fun h => hn h.2), if_neg (fun h => hn h.2), if_neg (fun h => ne4 h.1), if_neg (fun h => ne5 h.1)]
    have c0 := True.intro
    have a1 := c1
    clear c1
    by_cases c1 : b0.data.toList = wDelete
    · clear c0
      have ne1 : b0.data.toList ≠ wInstall := by rw [c1]; decide
      have ne3 : b0.data.toList ≠ wSelect := by rw [c1]; decide
      have ne4 : b0.data.toList ≠ wInvoke := by rw [c1]; decide
      have ne5 : b0.data.toList ≠ wReset := by rw [c1]; decide
      rw [← data_toList] at c1 ne1 ne3 ne4 ne5
      by_cases hn : r.length = 1
      · obtain ⟨b1, rfl⟩ := List.length_eq_one_iff.1 hn
        refine (read_delete A cp b0 b1 w E hRd hcp (hs' b1 (by simp)) (beq_f ne1) (by simp [c1]) (beq_f ne3) (beq_f ne4) (beq_f ne5) _ (Lib.hid ?_))
        rw [data_toList] at c1 ne1 ne3 ne4 ne5
        simp only [List.map_cons, List.map_nil, readL, c1]
        rfl
      · have := read_delete_bad A cp (b0 :: r) w hRd (by simp) hl b0 rfl (beq_f ne1) (by simp [c1]) (beq_f ne3) (beq_f ne4) (beq_f ne5) (by rw [beq_eq_false_iff_ne]; simp; omega)
        rw [show readL ((b0 :: r).map (·.data.toList)) = none from ?_]
        · exact this
        · rw [data_toList] at c1 ne1 ne3 ne4 ne5
          simp only [List.map_cons, readL, List.length_map]
          rw [if_neg (fun h => hn h.2), if_neg (fun h => hn h.2), if_neg (fun h => ne4 h.1), if_neg (fun h => ne5 h.1)]
    have a2 := c1
    clear c1
    by_cases c1 : b0.data.toList = wSelect
    · clear c0
      have ne1 : b0.data.toList ≠ wInstall := by rw [c1]; decide
      have ne2 : b0.data.toList ≠ wDelete := by rw [c1]; decide
      have ne4 : b0.data.toList ≠ wInvoke := by rw [c1]; decide
      have ne5 : b0.data.toList ≠ wReset := by rw [c1]; decide
      rw [← data_toList] at c1 ne1 ne2 ne4 ne5
      by_cases hn : r.length = 1
      · obtain ⟨b1, rfl⟩ := List.length_eq_one_iff.1 hn
        refine (read_select A cp b0 b1 w E hRd hcp (hs' b1 (by simp)) (beq_f ne1) (beq_f ne2) (by simp [c1]) (beq_f ne4) (beq_f ne5) _ (Lib.hid ?_))
        rw [data_toList] at c1 ne1 ne2 ne4 ne5
        simp only [List.map_cons, List.map_nil, readL, c1]
        rfl
      · have := read_select_bad A cp (b0 :: r) w hRd (by simp) hl b0 rfl (beq_f ne1) (beq_f ne2) (by simp [c1]) (beq_f ne4) (beq_f ne5) (by rw [beq_eq_false_iff_ne]; simp; omega)
        rw [show readL ((b0 :: r).map (·.data.toList)) = none from ?_]
        · exact this
        · rw [data_toList] at c1 ne1 ne2 ne4 ne5
          simp only [List.map_cons, readL, List.length_map]
          rw [if_neg (fun h => hn h.2), if_neg (fun h => hn h.2), if_neg (fun h => ne4 h.1), if_neg (fun h => ne5 h.1)]
    have a3 := c1
    clear c1
    by_cases c1 : b0.data.toList = wInvoke
    · clear c0
      have ne1 : b0.data.toList ≠ wInstall := by rw [c1]; decide
      have ne2 : b0.data.toList ≠ wDelete := by rw [c1]; decide
      have ne3 : b0.data.toList ≠ wSelect := by rw [c1]; decide
      have ne5 : b0.data.toList ≠ wReset := by rw [c1]; decide
      rw [← data_toList] at c1 ne1 ne2 ne3 ne5
      by_cases hn : 2 ≤ r.length
      · refine (read_invoke A cp b0 r w E hRd hn hl' hcp' hs' (beq_f ne1) (beq_f ne2) (beq_f ne3) (by simp [c1]) (beq_f ne5) _ (Lib.hid ?_))
        rw [data_toList] at c1 ne1 ne2 ne3 ne5
        simp only [List.map_cons, readL, List.length_map]
        rw [if_neg (fun h => ne1 h.1), if_neg (fun h => h.1.elim ne2 ne3), if_pos ⟨c1, hn⟩, hg 0, hg 1, ← List.map_drop, List.all_map, List.map_map, Bool.and_assoc]
        rfl
      · have := read_invoke_bad A cp (b0 :: r) w hRd (by simp) hl b0 rfl (beq_f ne1) (beq_f ne2) (beq_f ne3) (by simp [c1]) (beq_f ne5) (by simp; omega)
        rw [show readL ((b0 :: r).map (·.data.toList)) = none from ?_]
        · exact this
        · rw [data_toList] at c1 ne1 ne2 ne3 ne5
          simp only [List.map_cons, readL, List.length_map]
          rw [if_neg (fun h => ne1 h.1), if_neg (fun h => h.1.elim ne2 ne3), if_neg (fun h => hn h.2), if_neg (fun h => ne5 h.1)]
    have a4 := c1
    clear c1
    by_cases c1 : b0.data.toList = wReset
    · clear c0
      have ne1 : b0.data.toList ≠ wInstall := by rw [c1]; decide
      have ne2 : b0.data.toList ≠ wDelete := by rw [c1]; decide
      have ne3 : b0.data.toList ≠ wSelect := by rw [c1]; decide
      have ne4 : b0.data.toList ≠ wInvoke := by rw [c1]; decide
      rw [← data_toList] at c1 ne1 ne2 ne3 ne4
      by_cases hn : r.length = 0
      · obtain rfl := List.length_eq_zero_iff.1 hn
        rw [show readL ([b0].map (·.data.toList)) = some ⟨5, 0, 0, [], []⟩ from ?_]
        · exact read_reset A cp b0 b0 w E hRd hcp (hs b0 (by simp)) (beq_f ne1) (beq_f ne2) (beq_f ne3) (beq_f ne4) (by simp [c1])
        · rw [data_toList] at c1 ne1 ne2 ne3 ne4
          simp only [List.map_cons, List.map_nil, readL]
          rw [if_neg (fun h => ne1 h.1), if_neg (fun h => h.1.elim ne2 ne3), if_neg (fun h => ne4 h.1), if_pos ⟨c1, rfl⟩]
      · have := read_reset_bad A cp (b0 :: r) w hRd (by simp) hl b0 rfl (beq_f ne1) (beq_f ne2) (beq_f ne3) (beq_f ne4) (by simp [c1]) (by rw [beq_eq_false_iff_ne]; simp; omega)
        rw [show readL ((b0 :: r).map (·.data.toList)) = none from ?_]
        · exact this
        · rw [data_toList] at c1 ne1 ne2 ne3 ne4
          simp only [List.map_cons, readL, List.length_map]
          rw [if_neg (fun h => ne1 h.1), if_neg (fun h => h.1.elim ne2 ne3), if_neg (fun h => ne4 h.1), if_neg (fun h => hn h.2)]
    have a5 := c1
    clear c1
    have f1 := beq_f a1
    have f2 := beq_f a2
    have f3 := beq_f a3
    have f4 := beq_f a4
    have f5 := beq_f a5
    rw [← data_toList] at f1 f2 f3 f4 f5
    rw [show readL ((b0 :: r).map (·.data.toList)) = none from ?_]
    · exact read_other A cp (b0 :: r) w hRd (by simp) hl b0 rfl f1 f2 f3 f4 f5
    · simp only [List.map_cons, readL, List.length_map]
      rw [if_neg (fun h => a1 h.1), if_neg (fun h => h.1.elim a2 a3), if_neg (fun h => a4 h.1), if_neg (fun h => a5 h.1)]
end Go.Proofs.YtnhjekpadcjdnaaDoor.T

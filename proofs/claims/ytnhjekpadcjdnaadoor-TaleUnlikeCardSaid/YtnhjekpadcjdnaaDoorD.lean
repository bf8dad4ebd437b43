/- Commands and their lines: the bytes of a word. -/
import Derived.Test.YtnhjekpadcjdnaaDoorC
namespace Go.Proofs.YtnhjekpadcjdnaaDoor.T
open Go Go.RowKit
set_option linter.unusedVariables false
set_option linter.unusedSimpArgs false
set_option maxRecDepth 100000

theorem pre_unhex (l : List UInt8) : unhexL l = if Lib.hasPrefix l [120] then pairs (Lib.trimPrefix l [120]) else none := by
  cases l with
  | nil => rfl
  | cons c r =>
    unfold unhexL Lib.trimPrefix Lib.hasPrefix
    by_cases hc : c = 120
    · subst hc; simp
    · have : ¬ 120 = c := fun h => hc h.symm
      simp [hc, this]
theorem pairs_odd : ∀ l : List UInt8, l.length % 2 = 1 → pairs l = none
  | [], h => by simp at h
  | [_], _ => rfl
  | a :: b :: r, h => by
    have := pairs_odd r (by simp at h; omega)
    simp only [pairs, this]
    split <;> rfl
theorem ix_lt (a : UInt8) : Lib.indexByte signsL a < 16 := by
  by_cases h : 0 ≤ Lib.indexByte signsL a
  · exact (sg_index a h).1
  · omega
theorem u8back (a : UInt8) : ((a.toNat : Int).toNat.toUInt8) = a := by simp
theorem ba_cons2 {t : ByteArray} {a b : UInt8} {r : List UInt8} (h : t.data.toList = a :: b :: r) : t.size = r.length + 2 ∧ (∀ h0 : 0 < t.size, t[0]'h0 = a) ∧ (∀ h1 : 1 < t.size, t[1]'h1 = b) ∧ (t.extract 2 t.size).data.toList = r := by
  obtain ⟨d⟩ := t
  obtain ⟨l⟩ := d
  simp only at h
  subst h
  refine ⟨rfl, fun _ => rfl, fun _ => rfl, ?_⟩
  rw [Lib.extract_data]
  have : ({ data := { toList := a :: b :: r } } : ByteArray).size = r.length + 2 := rfl
  rw [this]
  simp
def sizeV : Value → Nat | .string t => t.size | _ => 0
/-- what unhex gives -/
def UnhexPost (r : Option (List Int)) (w w' : World) (e : Ending) : Prop := match r with
  | some b => ∃ v, e = .returned (.tuple #[v, .bool true]) ∧ Own w w' 5 v (b.map byteI)
  | none => e = .returned (.tuple #[.slice none 0 0, .bool false])
theorem UnhexPost.of_some {r : Option (List Int)} {b : List Int} {w w' : World} {e : Ending} (hr : r = some b) {v : Value} (he : e = .returned (.tuple #[v, .bool true])) (h : Own w w' 5 v (b.map byteI)) : UnhexPost r w w' e := by
  subst hr; exact ⟨v, he, h⟩
theorem UnhexPost.of_none {r : Option (List Int)} {w w' : World} {e : Ending} (hr : r = none) (he : e = .returned (.tuple #[.slice none 0 0, .bool false])) : UnhexPost r w w' e := by
  subst hr; exact he
set_option maxHeartbeats 4000000 in
theorem unhex_even (s : ByteArray) (w : World) (h : Lib.hasPrefix s.data.toList [120] = true) (r : List UInt8) (hr : Lib.trimPrefix s.data.toList [120] = r) (hrl : r.length ≤ 281474976710656) (h2 : r.length % 2 = 0) :
    Calls Tryd.prog 23 #[.string s] w fun e w' => UnhexPost (pairs r) w w' e ∧ Below w.heap.size w w' := by
  replace h := Lib.hid h
  replace hr := Lib.hid hr
  obtain ⟨i0, hi, hz0, hz1, hz2⟩ := info_parts infoU8
  replace hi := Lib.hid hi
  replace hz0 := Lib.hid hz0
  replace hz1 := Lib.hid hz1
  replace hz2 := Lib.hid hz2
  go_enter Tryd.func23, Tryd.ntmps23
  go_wp2_with fail
  refine (Tryd.strings_CutPrefix s ⟨#[120]⟩ _).mono ?_
  rintro e w1 ⟨rfl, rfl⟩
  rw [show Lib.hasPrefix s.data.toList ({ data := #[120] } : ByteArray).data.toList = true from h.out]
  rw [show Lib.trimPrefix s.data.toList ({ data := #[120] } : ByteArray).data.toList = r from hr.out]
  clear h hr
  go_wp2_with (at_make; refine wpList_make_own _ rfl _ _ 23 rfl w1.heap.size 5 i0 (.int .u8 0) 1 Tryd.underlying23 hi.out hz0.out hz1.out .i64 .i64 _ (r.length / 2) rfl rfl (by omega) (by rw [hz2.out]; omega) (by unfold maxLen; omega) (Nat.le_refl _) ?_; intro w0 hown0 hgrow0)
  have hO0 : Own w1 w0 5 (.slice (some ⟨w1.heap.size, 0, none⟩) 0 (r.length / 2)) (([] : List Int).map byteI) := hown0
  have hb0 : Below w1.heap.size w1 w0 := (Below.refl _ _).grown hgrow0 (Nat.le_refl _) (fun k h => by cases h)
  clear hown0 hgrow0
  go_loopw [0, 5] (fun x v wr => ∃ (t : ByteArray) (pre : List Int), x = .string t ∧ Hid (pairs r = (pairs t.data.toList).map (pre ++ ·)) ∧ Hid (t.data.toList.length % 2 = 0) ∧ Hid (t.size + 2 * pre.length = r.length) ∧ Hid (Own w1 wr 5 v (pre.map byteI)) ∧ Below w1.heap.size w1 wr) (fun x _ _ => sizeV x)
  case atStart => exact ⟨⟨r.toArray⟩, [], rfl, Lib.hid (show pairs r = (pairs r).map (fun x => x) by simp), Lib.hid h2, Lib.hid (by simp [ByteArray.size]), Lib.hid hO0, hb0⟩
  case round =>
    clear hO0 hb0
    obtain ⟨t, pre, rfl, hp, he, hn, hO, hb⟩ := hrel
    match ht : t.data.toList with
    | [] =>
      have h0 : t.size = 0 := by have : t.data.toList.length = t.size := Array.length_toList; rw [ht] at this; simpa using this.symm
      rw [ht] at hp
      have hpe := hp.out
      simp only [pairs, Option.map_some, List.append_nil] at hpe
      replace hpe := Lib.hid hpe
      have h0 : ¬ 0 < t.size := by omega
      clear ht hp he hn
      go_wp2
      go_ret2
      exact ⟨.of_some hpe.out rfl hO.out, hb⟩
    | [a] => rw [ht] at he; exact absurd he.out (by simp)
    | a :: b :: r2 =>
      obtain ⟨q1, q2, q3, q4⟩ := ba_cons2 ht
      have hbb := hb
      have g0 : 0 < t.size := by omega
      have g1 : 1 < t.size := by omega
      have g1i : (1 : Int) < (t.size : Int) := by omega
      replace q2 := Lib.hid (q2 g0)
      replace q3 := Lib.hid (q3 g1)
      replace q4 := Lib.hid q4
      have ia := Lib.hid (ix_lt a)
      have ib := Lib.hid (ix_lt b)
      have hn' := hn
      have hn := hn.out
      have q1' := Lib.hid q1
      have hp1 := hp.out
      rw [ht] at hp1
      replace hp1 := Lib.hid hp1
      have hpl : 2 * pre.length + 2 ≤ r.length := by omega
      clear ht hp he hn q1 hi hz0 hz1 hz2
      go_wp2
      go_quiet ((go_at_call 28; exact Calls.quiet_of_same (Tryd.strings_IndexByte _ _ _)))
      go_simp
      rw [q2.out, q3.out]
      rw [show ([48, 49, 50, 51, 52, 53, 54, 55, 56, 57, 97, 98, 99, 100, 101, 102] : List UInt8) = signsL from rfl]
      have hp2 := hp1.out
      simp only [pairs] at hp2
      have ia := ia.out
      have ib := ib.out
      generalize Lib.indexByte signsL a = ca at *
      generalize Lib.indexByte signsL b = cb at *
      clear q2 q3 hp1
      replace hp2 := Lib.hid hp2
      have hb := bl_n hb nq
      have hO1 := Lib.hid (hO.out.kept (bl_n (Below.refl wr.heap.size wr) nq))
      clear hO hbb
      generalize wr.drewN nq = W at *
      by_cases h1 : 0 ≤ ca
      · by_cases h3 : 0 ≤ cb
        · have hf := hp2.out
          rw [if_pos ⟨h1, h3⟩] at hf
          replace hf := Lib.hid hf
          clear hp2
          have hl1 : ((pre.map byteI).length + 1) * 1 ≤ 140737488355328 := by rw [List.length_map]; omega
          go_wp2_with (at_builtin; refine apk Tryd.underlying23 infoU8 rfl rfl (.tmp 42) (.tmp 48) rfl _ (pre.map byteI) (.int .u8 (ca * 16 + cb)) rfl rfl rfl hO1.out hb hl1 (by omega) ?_; intro v1 w2 hO2 hb2; clear hO1 hb)
          go_roundw
          case rel =>
            refine ⟨t.extract 2 t.size, pre ++ [ca * 16 + cb], rfl, ?_, ?_, ?_, Lib.hid (by simpa [byteI] using hO2), hb2⟩
            · refine Lib.hid ?_
              rw [hf.out, q4.out]
              cases pairs r2 <;> simp
            · refine Lib.hid ?_
              rw [q4.out]
              have := q1'.out
              have := hn'.out
              omega
            · refine Lib.hid ?_
              have h1 : (t.extract 2 t.size).size = r2.length := by rw [← q4.out]; exact Array.length_toList.symm
              have := q1'.out
              have := hn'.out
              simp
              omega
          case measure =>
            have h1 : (t.extract 2 t.size).size = r2.length := by rw [← q4.out]; exact Array.length_toList.symm
            have := q1'.out
            simp only [sizeV]
            omega
        · have hf := hp2.out
          rw [if_neg (by omega)] at hf
          replace hf := Lib.hid hf
          clear hp2
          have h3 : cb < 0 := by omega
          go_wp2
          go_ret2
          exact ⟨.of_none hf.out rfl, hb⟩
      · have hf := hp2.out
        rw [if_neg (by omega)] at hf
        replace hf := Lib.hid hf
        clear hp2
        have h1 : ca < 0 := by omega
        go_wp2
        go_ret2
        exact ⟨.of_none hf.out rfl, hb⟩
theorem trimPrefix_len (l p : List UInt8) : (Lib.trimPrefix l p).length ≤ l.length := by
  unfold Lib.trimPrefix
  split
  · rw [List.length_drop]; exact Nat.sub_le _ _
  · exact Nat.le_refl _
theorem unhex_calls (s : ByteArray) (w : World) (hl : s.size ≤ 281474976710656) :
    Calls Tryd.prog 23 #[.string s] w fun e w' => UnhexPost (unhexL s.data.toList) w w' e ∧ Below w.heap.size w w' := by
  rw [pre_unhex]
  cases h : Lib.hasPrefix s.data.toList [120] with
  | false => exact (unhex_bad s w h).mono fun e w' ⟨he, hw⟩ => ⟨.of_none (by simp) he, by subst hw; exact Below.refl _ _⟩
  | true =>
    simp only [if_true]
    have hrl : (Lib.trimPrefix s.data.toList [120]).length ≤ 281474976710656 := by
      have h1 : s.data.toList.length = s.size := Array.length_toList
      have := trimPrefix_len s.data.toList [120]
      omega
    rcases Nat.mod_two_eq_zero_or_one (Lib.trimPrefix s.data.toList [120]).length with h2 | h2
    · exact unhex_even s w h _ rfl hrl h2
    · exact (unhex_odd s w h hl h2).mono fun e w' ⟨he, hw⟩ => ⟨.of_none (pairs_odd _ h2) he, by subst hw; exact Below.refl _ _⟩
end Go.Proofs.YtnhjekpadcjdnaaDoor.T

/- Commands and their lines, in plain Lean: what is read of a line is written as that line. -/
import Derived.Lib.Split
import Derived.Lib.Join
import Derived.Lib.ItoaNum
import Derived.Lib.ParseIntB
namespace Go.Proofs.YtnhjekpadcjdnaaDoor.T
open Go

/-- a command -/
structure Cm where
  k : Int
  n : Int
  fuel : Int
  args : List Int
  data : List Int
deriving DecidableEq

def wInstall : List UInt8 := [105, 110, 115, 116, 97, 108, 108]
def wDelete : List UInt8 := [100, 101, 108, 101, 116, 101]
def wSelect : List UInt8 := [115, 101, 108, 101, 99, 116]
def wInvoke : List UInt8 := [105, 110, 118, 111, 107, 101]
def wReset : List UInt8 := [114, 101, 115, 101, 116]
/-- "0123456789abcdef" -/
def signsL : List UInt8 := [48, 49, 50, 51, 52, 53, 54, 55, 56, 57, 97, 98, 99, 100, 101, 102]
def sg (d : Int) : UInt8 := signsL.getD d.toNat 0
def hexP (b : List Int) : List UInt8 := b.flatMap fun c => [sg (c / 16), sg (c % 16)]
def hexL (b : List Int) : List UInt8 := 120 :: hexP b

def fitsV (k n f : Int) (la ld : Nat) : Bool :=
  if (k != 1 && decide (0 < ld)) || (k != 4 && (decide (0 < la) || f != 0)) then false
  else n == 0 || k == 2 || k == 3 || k == 4
def fitsB (x : Cm) : Bool := fitsV x.k x.n x.fuel x.args.length x.data.length
def nameL (k : Int) : List UInt8 := if k = 1 then wInstall else if k = 2 then wDelete else if k = 3 then wSelect else if k = 4 then wInvoke else wReset
def restL (x : Cm) : List (List UInt8) :=
  if x.k = 1 then [hexL x.data] else if x.k = 2 ∨ x.k = 3 then [Lib.itoa x.n] else if x.k = 4 then Lib.itoa x.n :: Lib.itoa x.fuel :: x.args.map Lib.itoa else []
def wordsL (x : Cm) : List (List UInt8) := nameL x.k :: restL x
def okLine (x : Cm) : Bool := decide (1 ≤ x.k) && decide (x.k ≤ 5) && fitsB x
def lineL (x : Cm) : List UInt8 := Lib.join (wordsL x) [32]

/-! ### reading -/
/-- a number, as ParseInt gives it; is it the number's own text? -/
def numV (B : Nat) (l : List UInt8) : Int := match Lib.parseIntB B l with | .ok v => v | .range => Lib.intSat B l | _ => 0
def numB (B : Nat) (l : List UInt8) : Bool := match Lib.parseIntB B l with | .ok v => Lib.itoa v == l | _ => false
/-- pairs of signs -/
def pairs : List UInt8 → Option (List Int)
  | [] => some []
  | [_] => none
  | a :: b :: r => if 0 ≤ Lib.indexByte signsL a ∧ 0 ≤ Lib.indexByte signsL b then (pairs r).map (fun t => (Lib.indexByte signsL a * 16 + Lib.indexByte signsL b) :: t) else none
def unhexL (l : List UInt8) : Option (List Int) := match l with
  | [] => none
  | c :: r => if c = 120 then pairs r else none
def zeroC : Cm := ⟨0, 0, 0, [], []⟩
def readL (l : List (List UInt8)) : Option Cm :=
  match l with
  | [] => none
  | a :: r =>
    if a = wInstall ∧ r.length = 1 then (unhexL (r.getD 0 [])).map (fun b => ⟨1, 0, 0, [], b⟩)
    else if (a = wDelete ∨ a = wSelect) ∧ r.length = 1 then (if numB 64 (r.getD 0 []) then some ⟨if a = wDelete then 2 else 3, numV 64 (r.getD 0 []), 0, [], []⟩ else none)
    else if a = wInvoke ∧ 2 ≤ r.length then (if numB 64 (r.getD 0 []) && numB 64 (r.getD 1 []) && (r.drop 2).all (numB 32) then some ⟨4, numV 64 (r.getD 0 []), numV 64 (r.getD 1 []), (r.drop 2).map (numV 32), []⟩ else none)
    else if a = wReset ∧ r.length = 0 then some ⟨5, 0, 0, [], []⟩
    else none
def cmdL (s : List UInt8) : Option Cm := readL (Lib.split s [32])

/-! ### what is split joins again -/
theorem join_cons2 (x y : List UInt8) (r : List (List UInt8)) (sep : List UInt8) : Lib.join (x :: y :: r) sep = x ++ (sep ++ Lib.join (y :: r) sep) := by
  rw [Lib.join_cons, Lib.join_cons]; simp [Lib.joinTail, List.append_assoc]
theorem splitK_ne (sep : List UInt8) : ∀ (k : Nat) (s : List UInt8), Lib.splitK sep 0 k s ≠ []
  | 0, _ => by simp [Lib.splitK]
  | k + 1, s => by unfold Lib.splitK; split <;> simp
theorem occ_parts {s sub : List UInt8} {i : Nat} (hi : i + sub.length ≤ s.length) (h : Lib.occAt s sub i = true) : s = s.take i ++ (sub ++ s.drop (i + sub.length)) := by
  rw [Lib.occAt_iff_take s sub i hi] at h
  have h1 : (s.drop i).take sub.length = sub := by simpa using h
  conv => lhs; rw [← List.take_append_drop i s, ← List.take_append_drop sub.length (s.drop i), h1, List.drop_drop]
theorem join_splitK (sep : List UInt8) : ∀ (k : Nat) (s : List UInt8), Lib.join (Lib.splitK sep 0 k s) sep = s
  | 0, s => by simp only [Lib.splitK]; exact Lib.join_one s sep
  | k + 1, s => by
    unfold Lib.splitK
    by_cases h : (Lib.index s sep == -1) = true
    · rw [if_pos h]; exact Lib.join_one s sep
    · rw [if_neg h]
      rcases Lib.index_spec s sep with ⟨hm, _⟩ | ⟨i, hi, hle, ho, _⟩
      · rw [hm] at h; exact absurd rfl h
      · have hr := Lib.index_room s sep (by omega)
        rw [hi] at hr
        have ih := join_splitK sep k (s.drop (i + sep.length))
        have hn := splitK_ne sep k (s.drop (i + sep.length))
        rw [hi]
        simp only [Int.toNat_natCast, Nat.add_zero]
        generalize hq : Lib.splitK sep 0 k (s.drop (i + sep.length)) = q at *
        cases q with
        | nil => exact absurd rfl hn
        | cons y r => rw [join_cons2, ih]; exact (occ_parts (by omega) ho).symm
theorem join_split (s sep : List UInt8) : Lib.join (Lib.split s sep) sep = s := join_splitK sep _ s

/-! ### what is read is written again -/
theorem sg_index (a : UInt8) (h : 0 ≤ Lib.indexByte signsL a) : Lib.indexByte signsL a < 16 ∧ sg (Lib.indexByte signsL a) = a := by
  have key : ∀ n : Fin 256, 0 ≤ Lib.indexByte signsL (UInt8.ofNat n) → Lib.indexByte signsL (UInt8.ofNat n) < 16 ∧ sg (Lib.indexByte signsL (UInt8.ofNat n)) = UInt8.ofNat n := by decide +kernel
  have h2 := key ⟨a.toNat, UInt8.toNat_lt a⟩
  simp only [UInt8.ofNat_toNat] at h2
  exact h2 h
theorem pairs_hex : ∀ (l : List UInt8) (b : List Int), pairs l = some b → hexP b = l
  | [], b, h => by simp [pairs] at h; subst h; rfl
  | [_], b, h => by simp [pairs] at h
  | a :: c :: r, b, h => by
    simp only [pairs] at h
    split at h
    · rename_i hac
      cases hp : pairs r with
      | none => rw [hp] at h; simp at h
      | some t =>
        rw [hp] at h
        simp only [Option.map_some, Option.some.injEq] at h
        subst h
        obtain ⟨h1, h2⟩ := sg_index a hac.1
        obtain ⟨h3, h4⟩ := sg_index c hac.2
        have ih := pairs_hex r t hp
        simp only [hexP, List.flatMap_cons] at ih ⊢
        rw [ih]
        rw [show (Lib.indexByte signsL a * 16 + Lib.indexByte signsL c) / 16 = Lib.indexByte signsL a by omega, show (Lib.indexByte signsL a * 16 + Lib.indexByte signsL c) % 16 = Lib.indexByte signsL c by omega, h2, h4]
        rfl
    · simp at h
theorem unhex_hex {l : List UInt8} {b : List Int} (h : unhexL l = some b) : hexL b = l := by
  unfold unhexL at h
  split at h
  · simp at h
  · split at h
    · rename_i c r hc; subst hc; unfold hexL; rw [pairs_hex r b h]
    · simp at h
theorem num_itoa {B : Nat} {l : List UInt8} (h : numB B l = true) : Lib.itoa (numV B l) = l := by
  unfold numB at h
  unfold numV
  cases hp : Lib.parseIntB B l with
  | ok v => rw [hp] at h; simpa using h
  | range => rw [hp] at h; simp at h
  | _ => rw [hp] at h; simp at h
theorem map_num {l : List (List UInt8)} (h : l.all (numB 32) = true) : (l.map (numV 32)).map Lib.itoa = l := by
  induction l with
  | nil => rfl
  | cons a l ih =>
    simp only [List.all_cons, Bool.and_eq_true] at h
    simp only [List.map_cons]
    rw [num_itoa h.1, ih h.2]
theorem len1 {α : Type} {r : List α} {d : α} (h : r.length = 1) : r = [r.getD 0 d] := by
  match r, h with
  | [x], _ => rfl
theorem len2 {α : Type} {r : List α} {d : α} (h : 2 ≤ r.length) : r = r.getD 0 d :: r.getD 1 d :: r.drop 2 := by
  match r, h with
  | x :: y :: t, _ => rfl
theorem read_words {l : List (List UInt8)} {x : Cm} (h : readL l = some x) : wordsL x = l := by
  unfold readL at h
  split at h
  · simp at h
  · rename_i a r
    split at h
    · rename_i hc
      cases hu : unhexL (r.getD 0 []) with
      | none => rw [hu] at h; simp at h
      | some b =>
        rw [hu] at h
        simp only [Option.map_some, Option.some.injEq] at h
        subst h
        simp only [wordsL, nameL, restL, if_true]
        rw [unhex_hex hu, hc.1, ← len1 hc.2]
    · split at h
      · rename_i hc
        split at h
        · rename_i hn
          simp only [Option.some.injEq] at h
          subst h
          have hi := num_itoa hn
          by_cases ha : a = wDelete
          · simp only [wordsL, nameL, restL, if_pos ha]
            simp only [show ¬ ((2 : Int) = 1) by decide, if_false, if_true, true_or]
            rw [hi, ha, ← len1 hc.2]
          · have ha2 : a = wSelect := by rcases hc.1 with h1 | h1; exact absurd h1 ha; exact h1
            simp only [wordsL, nameL, restL, if_neg ha]
            simp only [show ¬ ((3 : Int) = 1) by decide, show ¬ ((3 : Int) = 2) by decide, if_false, if_true, or_true]
            rw [hi, ha2, ← len1 hc.2]
        · simp at h
      · split at h
        · rename_i hc
          split at h
          · rename_i hn
            simp only [Bool.and_eq_true] at hn
            simp only [Option.some.injEq] at h
            subst h
            simp only [wordsL, nameL, restL]
            simp only [show ¬ ((4 : Int) = 1) by decide, show ¬ ((4 : Int) = 2) by decide, show ¬ ((4 : Int) = 3) by decide, if_false, if_true, or_self]
            rw [num_itoa hn.1.1, num_itoa hn.1.2, map_num hn.2, hc.1, ← len2 hc.2]
          · simp at h
        · split at h
          · rename_i hc
            simp only [Option.some.injEq] at h
            subst h
            have hr : r = [] := List.length_eq_zero_iff.1 hc.2
            subst hr
            simp only [wordsL, nameL, restL]
            simp [hc.1]
          · simp at h
theorem cmd_line {s : List UInt8} {x : Cm} (h : cmdL s = some x) : lineL x = s := by
  unfold lineL
  rw [read_words h]
  exact join_split s [32]
/-- THE LAW: a line with another byte somewhere is no command's, or another one's. -/
theorem unlike {x y : Cm} {i : Nat} {c : UInt8} (hi : i < (lineL x).length) (hc : (lineL x)[i]? ≠ some c) (h : cmdL ((lineL x).set i c) = some y) : x ≠ y := by
  intro he
  subst he
  have h1 := cmd_line h
  apply hc
  rw [h1]
  rw [List.getElem?_set_self (by simpa using hi)]
theorem line_ne (x : Cm) : 0 < (lineL x).length := by
  unfold lineL wordsL
  rw [Lib.join_cons, List.length_append]
  have : 0 < (nameL x.k).length := by
    unfold nameL
    repeat' split
    all_goals decide
  omega
end Go.Proofs.YtnhjekpadcjdnaaDoor.T

import Derived.Lib.Strings
import Derived.Lib.Small
import Derived.Lib.Bytealg
import Derived.Lib.TrimByte
import Derived.Lib.ItoaNum
/-! PLAIN: decimals. No program. -/
namespace Go.Proofs.YtnnlpkbopeiefaaGreatDoor
set_option linter.unusedSimpArgs false
set_option linter.unusedVariables false
def bs (l : List UInt8) : ByteArray := ⟨l.toArray⟩
theorem bs_data (l : List UInt8) : (bs l).data.toList = l := by simp [bs]
theorem bs_size (l : List UInt8) : (bs l).size = l.length := by simp [bs, ByteArray.size]
theorem bs_of (s : ByteArray) : bs s.data.toList = s := by cases s; simp [bs]
theorem bs_inj {a b : List UInt8} (h : bs a = bs b) : a = b := by rw [← bs_data a, h, bs_data]
def isDig (b : UInt8) : Bool := decide (48 ≤ b.toNat ∧ b.toNat ≤ 57)
def allDig (l : List UInt8) : Bool := !l.isEmpty && l.all isDig
structure Num where
  neg : Bool
  dig : List UInt8
  exp : Int
deriving DecidableEq
def nought : Num := ⟨false, [], 0⟩
def rightP (n : Num) : Prop := allDig n.dig = true ∧ n.dig.length ≤ 1000 ∧ n.dig.head? ≠ some 48 ∧ n.dig.getLast? ≠ some 48 ∧ -1000000 ≤ n.exp ∧ n.exp ≤ 1000000
instance (n : Num) : Decidable (rightP n) := by unfold rightP; infer_instance
def rightB (n : Num) : Bool := decide (n = nought ∨ rightP n)
/-- A text cut at its first byte of a kind. -/
def cutAt (p : UInt8 → Bool) (l : List UInt8) : List UInt8 × List UInt8 × Bool :=
  match l.dropWhile (fun c => !p c) with
  | [] => (l, [], false)
  | _ :: t => (l.takeWhile (fun c => !p c), t, true)
def isE (c : UInt8) : Bool := c == 101 || c == 69
def isDot (c : UInt8) : Bool := c == 46
structure Lit where
  neg : Bool
  whole : List UInt8
  rest : List UInt8
  low : Bool
  exp : List UInt8
def unsign (l : List UInt8) : List UInt8 := if l.head? = some 45 then l.drop 1 else l
def unplus (l : List UInt8) : List UInt8 := if l.head? = some 45 ∨ l.head? = some 43 then l.drop 1 else l
def litOk (has pt : Bool) (x whole rest : List UInt8) : Bool := (!has || allDig x) && (allDig whole && (!pt || allDig rest)) && (whole == [48] || whole.head? != some 48)
/-- The parts of a literal; none: it is none. -/
def litOf (l : List UInt8) : Option Lit :=
  let c := cutAt isE (unsign l)
  let m := cutAt isDot c.1
  let x := if c.2.2 then unplus c.2.1 else []
  if litOk c.2.2 m.2.2 x m.1 m.2.1 then some ⟨l.head? == some 45, m.1, m.2.1, c.2.2 && c.2.1.head? == some 45, x⟩ else none
def decV (l : List UInt8) : Int := l.foldl (fun a c => 10 * a + ((c.toNat : Int) - 48)) 0
def noZeros (l : List UInt8) : List UInt8 := l.dropWhile (· == 48)
def noTail (l : List UInt8) : List UInt8 := (l.reverse.dropWhile (· == 48)).reverse
/-- The number that a literal's parts are. -/
def parseLit (x : Lit) : Num × Int :=
  if 1000 < x.whole.length + x.rest.length then (nought, 3) else
  if 9 < (noZeros x.exp).length then (nought, 4) else
  let e := if x.low then - decV x.exp else decV x.exp
  let d := noZeros (x.whole ++ x.rest)
  if d = [] then (nought, 0) else
  let k := e - x.rest.length + (d.length - (noTail d).length)
  if k < -1000000 ∨ 1000000 < k then (nought, 4) else (⟨x.neg, noTail d, k⟩, 0)
def parseL (l : List UInt8) : Num × Int := match litOf l with | none => (nought, 2) | some x => parseLit x
theorem decV_append (a b : List UInt8) : decV (a ++ b) = decV a * 10 ^ b.length + decV b := by
  unfold decV
  rw [List.foldl_append]
  generalize List.foldl (fun (a : Int) (c : UInt8) => 10 * a + ((c.toNat : Int) - 48)) 0 a = z
  have gen : ∀ (b : List UInt8) (z y : Int), List.foldl (fun (a : Int) (c : UInt8) => 10 * a + ((c.toNat : Int) - 48)) (z + y) b = z * 10 ^ b.length + List.foldl (fun (a : Int) (c : UInt8) => 10 * a + ((c.toNat : Int) - 48)) y b := by
    intro b
    induction b with
    | nil => intro z y; simp
    | cons c t ih =>
      intro z y
      simp only [List.foldl_cons, List.length_cons]
      rw [show 10 * (z + y) + ((c.toNat : Int) - 48) = 10 * z + (10 * y + ((c.toNat : Int) - 48)) by omega, ih, Int.pow_succ]
      rw [show 10 * z * 10 ^ t.length = z * (10 ^ t.length * 10) by rw [Int.mul_comm 10 z, Int.mul_assoc, Int.mul_comm 10]]
  have := gen b z 0
  simpa using this
theorem decV_snoc (a : List UInt8) (c : UInt8) : decV (a ++ [c]) = 10 * decV a + ((c.toNat : Int) - 48) := by
  unfold decV; rw [List.foldl_append]; rfl
theorem decV_noZeros : ∀ l : List UInt8, decV (noZeros l) = decV l
  | [] => rfl
  | c :: t => by
    unfold noZeros
    rw [List.dropWhile_cons]
    by_cases h : c = 48
    · subst h
      have := decV_noZeros t
      unfold noZeros at this
      rw [if_pos (by decide), this]
      unfold decV; rfl
    · rw [if_neg (by simpa using h)]
theorem decV_bd : ∀ l : List UInt8, l.all isDig = true → 0 ≤ decV l ∧ decV l < 10 ^ l.length := by
  intro l
  induction hn : l.length generalizing l with
  | zero => intro _; have : l = [] := List.eq_nil_of_length_eq_zero hn; subst this; simp [decV]
  | succ n ih =>
    intro h
    have hne : l ≠ [] := by intro e; subst e; simp at hn
    obtain ⟨a, c, rfl⟩ : ∃ a c, l = a ++ [c] := ⟨l.dropLast, l.getLast hne, (List.dropLast_concat_getLast hne).symm⟩
    rw [List.all_append, Bool.and_eq_true] at h
    obtain ⟨h1, h2⟩ := ih a (by simp at hn; omega) h.1
    have hc : 48 ≤ c.toNat ∧ c.toNat ≤ 57 := by have := h.2; simp [isDig] at this; exact this
    rw [decV_snoc, Int.pow_succ]
    omega
end Go.Proofs.YtnnlpkbopeiefaaGreatDoor

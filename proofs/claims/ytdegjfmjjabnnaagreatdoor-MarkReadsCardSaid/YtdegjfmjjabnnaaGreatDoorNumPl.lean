import Derived.Test.YtdegjfmjjabnnaaGreatDoorRnA
import Derived.Test.YtdegjfmjjabnnaaGreatDoorNumE
import Derived.Test.YtdegjfmjjabnnaaGreatDoorSm
import Derived.BigQuiet
import Derived.Deep.QuietTactic
import Derived.Lib.IndexBytes
import Derived.Deep.DeepCutAuto
import Derived.Deep.RegionHeld3
import Derived.Lib.LaidTab
import Derived.Sort.Grow
import Derived.Lib.ParseIntB
/-! PLAIN: numbers, what their walks lean on. -/
namespace Go.Proofs.YtdegjfmjjabnnaaGreatDoor
set_option linter.unusedSimpArgs false
set_option linter.unusedVariables false
open Go.RowKit
open Go.Lib hiding intOf

theorem rune_yes (s : ByteArray) (p : Nat) (h : p < s.size) (hd : isDig (s[p]'h) = true) : runeI s p = ((s[p]'h).toNat : Int) ∧ widN s p = 1 := by
  have h1 := of_decide_eq_true hd
  have := decode_ascii s p h (by omega)
  unfold runeI widN; rw [this]; exact ⟨rfl, rfl⟩
theorem rune_no (s : ByteArray) (p : Nat) (h : p < s.size) (hd : isDig (s[p]'h) = false) : runeI s p < 48 ∨ 57 < runeI s p := by
  have h1 : ¬ (48 ≤ (s[p]'h).toNat ∧ (s[p]'h).toNat ≤ 57) := of_decide_eq_false hd
  by_cases ha : (s[p]'h).toNat < 128
  · have := decode_ascii s p h ha
    unfold runeI; rw [this]; simp only []; omega
  · have := (decode_high s p h (by omega)).1
    unfold runeI; omega
def Digs (s : ByteArray) (p : Nat) : Prop := (s.data.toList.take p).all isDig = true
theorem Digs.zero (s : ByteArray) : Digs s 0 := rfl
theorem take_next (s : ByteArray) (p : Nat) (h : p < s.size) : s.data.toList.take (p + 1) = s.data.toList.take p ++ [s[p]'h] := by
  rw [List.take_succ_eq_append_getElem (by simpa using h)]; rfl
theorem Digs.next {s : ByteArray} {p : Nat} (h : Digs s p) (hp : p < s.size) (hd : isDig (s[p]'hp) = true) : Digs s (p + 1) := by
  unfold Digs at *
  rw [take_next s p hp, List.all_append, h, List.all_cons, hd]; rfl
theorem Digs.fin {s : ByteArray} {p : Nat} (h : Digs s p) (hp : s.size ≤ p) : allDig s.data.toList = !s.toList.isEmpty := by
  unfold Digs at h
  rw [List.take_of_length_le (by have : s.data.toList.length = s.size := rfl; omega)] at h
  unfold allDig; rw [h, Lib.toList_data, Bool.and_true]
theorem digs_no {s : ByteArray} {p : Nat} (hp : p < s.size) (hd : isDig (s[p]'hp) = false) : allDig s.data.toList = false := by
  unfold allDig
  rw [Bool.and_eq_false_iff]; right
  rw [List.all_eq_false]
  exact ⟨s[p]'hp, Array.getElem_mem_toList _, by rw [hd]; simp⟩
theorem cutAt_miss {p : UInt8 → Bool} {l : List UInt8} (h : l.all (fun c => !p c) = true) : cutAt p l = (l, [], false) :=
  cutAt_none p l fun c hc => by have := List.all_eq_true.1 h c hc; simpa using this
theorem cutAt_hit {p : UInt8 → Bool} {l : List UInt8} {k : Nat} {b : UInt8} (h : (l.take k).all (fun c => !p c) = true) (hb : l[k]? = some b) (hp : p b = true) : cutAt p l = (l.take k, l.drop (k + 1), true) := by
  obtain ⟨hk, e⟩ := List.getElem?_eq_some_iff.1 hb
  have hl : l = l.take k ++ b :: l.drop (k + 1) := by
    rw [← e, ← List.drop_eq_getElem_cons hk, List.take_append_drop]
  have := cutAt_some p (l.take k) b (l.drop (k + 1)) (fun c hc => by have := List.all_eq_true.1 h c hc; simpa using this) hp
  rw [← hl] at this
  exact this
def NoneYet (p : UInt8 → Bool) (s : ByteArray) (k : Nat) : Prop := (s.data.toList.take k).all (fun c => !p c) = true
theorem NoneYet.next {p : UInt8 → Bool} {s : ByteArray} {k : Nat} (h : NoneYet p s k) (hk : k < s.size) (hp : p (s[k]'hk) = false) : NoneYet p s (k + 1) := by
  unfold NoneYet at *
  rw [take_next s k hk, List.all_append, h, List.all_cons, hp]; rfl
theorem NoneYet.fin {p : UInt8 → Bool} {s : ByteArray} {k : Nat} (h : NoneYet p s k) (hk : s.size ≤ k) : cutAt p s.data.toList = (s.data.toList, [], false) := by
  unfold NoneYet at h
  rw [List.take_of_length_le (by have : s.data.toList.length = s.size := rfl; omega)] at h
  exact cutAt_miss h
theorem NoneYet.hit {p : UInt8 → Bool} {s : ByteArray} {k : Nat} (h : NoneYet p s k) (hk : k < s.size) (hp : p (s[k]'hk) = true) : cutAt p s.data.toList = (s.data.toList.take k, s.data.toList.drop (k + 1), true) :=
  cutAt_hit h (by rw [Array.getElem?_toList, Array.getElem?_eq_getElem hk]; rfl) hp
def Trip (R : List UInt8 × List UInt8 × Bool) : Ending := .returned (.tuple #[.string (bs R.1), .string (bs R.2.1), .bool R.2.2])
theorem rightB_no {n : Num} (h : n ≠ nought) (h2 : ¬ rightP n) : rightB n = false := decide_eq_false (by rintro (h3 | h3); exact h h3; exact h2 h3)
theorem last_at (s : ByteArray) (h : s.size - 1 < s.size) : s.data.toList.getLast? = some (s[s.size - 1]'h) := by
  rw [List.getLast?_eq_getElem?, Array.getElem?_toList]
  have hl : s.data.toList.length = s.size := rfl
  rw [hl, Array.getElem?_eq_getElem h]; rfl
theorem is48 (b : UInt8) : ((b.toNat : Int) == 48) = decide (b = 48) := by
  by_cases h : b = 48
  · subst h; rfl
  · rw [decide_eq_false h, beq_eq_false_iff_ne]
    intro e; apply h; apply UInt8.toNat_inj.1; rw [show (48 : UInt8).toNat = 48 from rfl]; omega
theorem hasPrefix_one (l : List UInt8) (c : UInt8) : Lib.hasPrefix l [c] = (l.head? == some c) ∧ Lib.trimPrefix l [c] = if l.head? = some c then l.drop 1 else l := by
  cases l with
  | nil => simp [Lib.hasPrefix, Lib.trimPrefix]
  | cons x t =>
    by_cases h : x = c
    · subst h; simp [Lib.hasPrefix, Lib.trimPrefix]
    · have e1 : (c == x) = false := beq_eq_false_iff_ne.2 (Ne.symm h)
      have e2 : (x == c) = false := beq_eq_false_iff_ne.2 h
      simp [Lib.hasPrefix, Lib.trimPrefix, h, List.isPrefixOf, e1, e2]
theorem unsign_no {l : List UInt8} (h : (l.head? == some 45) = false) : unsign l = l ∧ l.head? ≠ some 45 := by
  have h1 : l.head? ≠ some 45 := beq_eq_false_iff_ne.1 h
  unfold unsign; rw [if_neg h1]; exact ⟨rfl, h1⟩
theorem unsign_yes {l : List UInt8} (h : (l.head? == some 45) = true) : unplus l = unsign l := by
  have h1 : l.head? = some 45 := beq_iff_eq.1 h
  unfold unsign unplus; rw [if_pos h1, if_pos (.inl h1)]
/-- What read hands back: a literal's parts, or none. -/
def Read (l : List UInt8) (e : Ending) : Prop := ∃ (n lo : Bool) (a b c : List UInt8) (is : Bool), e = .returned (.tuple #[.agg #[.bool n, .bool lo, .string (bs a), .string (bs b), .string (bs c)], .bool is]) ∧
  litOf l = if is then some ⟨n, a, b, lo, c⟩ else none
theorem unsign_len (l : List UInt8) : (unsign l).length ≤ l.length := by unfold unsign; split <;> simp
theorem cutAt_len (p : UInt8 → Bool) (l : List UInt8) : (cutAt p l).1.length ≤ l.length := by
  unfold cutAt
  split
  · exact Nat.le_refl _
  · exact (List.takeWhile_sublist _).length_le
theorem box_cell {w : World} {g : Nat} {t : TypeId} {cs : Array Value} (h : w.heap[g]? = some (.cells cs t (0, 0))) (i : Nat) : w.cell? ⟨g, i, none⟩ = cs[i]? := cell_of_row w g i cs t (0, 0) h
theorem box_free {w : World} {g : Nat} {t : TypeId} {cs : Array Value} (h : w.heap[g]? = some (.cells cs t (0, 0))) (i : Nat) : w.frozen? ⟨g, i, none⟩ = false := by simp [World.frozen?, h]
theorem box_set {w : World} {g : Nat} {t : TypeId} {cs : Array Value} (h : w.heap[g]? = some (.cells cs t (0, 0))) (i : Nat) (u : Value) : (w.setCell ⟨g, i, none⟩ u).heap[g]? = some (.cells (cs.setIfInBounds i u) t (0, 0)) := by
  simp [World.setCell, Array.getElem?_modify, h]
theorem below_set {B : Nat} {W w : World} (h : Below B W w) {k o : Nat} {v : Value} (hk : B ≤ k) : Below B W (w.setCell ⟨k, o, none⟩ v) := h.setCell (p := ⟨k, o, none⟩) hk v
/-- A block of five cells, known whole: what a walk reads of it. -/
theorem box5 {w : World} {g : Nat} {t : TypeId} {a b c d e : Value} (h : w.heap[g]? = some (.cells #[a, b, c, d, e] t (0, 0))) :
    w.cell? ⟨g, 0, none⟩ = some a ∧ w.cell? ⟨g, 1, none⟩ = some b ∧ w.cell? ⟨g, 2, none⟩ = some c ∧ w.cell? ⟨g, 3, none⟩ = some d ∧ w.cell? ⟨g, 4, none⟩ = some e ∧
    w.frozen? ⟨g, 0, none⟩ = false ∧ w.frozen? ⟨g, 1, none⟩ = false ∧ w.frozen? ⟨g, 2, none⟩ = false ∧ w.frozen? ⟨g, 3, none⟩ = false ∧ w.frozen? ⟨g, 4, none⟩ = false :=
  ⟨box_cell h 0, box_cell h 1, box_cell h 2, box_cell h 3, box_cell h 4, box_free h 0, box_free h 1, box_free h 2, box_free h 3, box_free h 4⟩
def CutE (has : Bool) (x : List UInt8) (lo : Bool) (xf : List UInt8) : Prop := (has = true → allDig xf = true) ∧ xf = (if has then unplus x else []) ∧ lo = (has && x.head? == some 45)
theorem cutAt_len2 (p : UInt8 → Bool) (l : List UInt8) : (cutAt p l).1.length + (cutAt p l).2.1.length ≤ l.length := by
  have h := congrArg List.length (List.takeWhile_append_dropWhile (p := fun c => !p c) (l := l))
  rw [List.length_append] at h
  unfold cutAt
  split
  · simp
  · rename_i e
    rw [e] at h
    simp only [List.length_cons] at h
    simp only []
    omega
theorem litOf_len {l : List UInt8} {x : Lit} (h : litOf l = some x) : x.whole.length + x.rest.length ≤ l.length := by
  unfold litOf at h
  simp only [] at h
  generalize (if (cutAt isE (unsign l)).2.2 = true then unplus (cutAt isE (unsign l)).2.1 else []) = xx at h
  split at h
  · injection h with h
    subst h
    have h1 := cutAt_len2 isDot (cutAt isE (unsign l)).1
    have h2 := cutAt_len isE (unsign l)
    have h3 := unsign_len l
    simp only []
    omega
  · cases h
theorem right_of {x : Lit} {k : Int} {D : List UInt8} (h1 : allDig x.whole = true) (h2 : x.rest.all isDig = true) (hlen : ¬ 1000 < x.whole.length + x.rest.length) (hD : noZeros (x.whole ++ x.rest) = D) (hd : D ≠ []) :
    rightB ⟨x.neg, noTail D, k⟩ = decide (¬ (k < -1000000 ∨ 1000000 < k)) := by
  have hall : D.all isDig = true := hD ▸ noZeros_all (by rw [List.all_append, Bool.and_eq_true]; exact ⟨(allDig_ne h1).2, h2⟩)
  have hh := noTail_head (l := D) (hD ▸ noZeros_head _) hd
  have hl1 : D.length ≤ x.whole.length + x.rest.length := by
    have := (List.dropWhile_sublist (p := fun c : UInt8 => c == 48) (l := x.whole ++ x.rest)).length_le
    rw [List.length_append] at this; exact hD ▸ this
  have hl2 := congrArg List.length (noTail_split D)
  rw [List.length_append] at hl2
  unfold rightB
  apply decide_eq_decide.2
  constructor
  · rintro (h | h)
    · injection h with _ h _; exact absurd h hh.1
    · have h3 := h.2.2.2.2; simp only [] at h3; omega
  · intro h
    exact .inr ⟨allDig_mk hh.1 (noTail_all hall), by show (noTail D).length ≤ 1000; omega, hh.2, noTail_last _, by simp only []; omega, by simp only []; omega⟩
def numV (n : Num) : Value := .agg #[.bool n.neg, .string (bs n.dig), .int .i64 n.exp]
def Parsed (r : Num × Int) : Ending := .returned (.tuple #[numV r.1, .int .i64 r.2])
theorem box3 {w : World} {g : Nat} {t : TypeId} {a b c : Value} (h : w.heap[g]? = some (.cells #[a, b, c] t (0, 0))) :
    w.cell? ⟨g, 0, none⟩ = some a ∧ w.cell? ⟨g, 1, none⟩ = some b ∧ w.cell? ⟨g, 2, none⟩ = some c ∧
    w.frozen? ⟨g, 0, none⟩ = false ∧ w.frozen? ⟨g, 1, none⟩ = false ∧ w.frozen? ⟨g, 2, none⟩ = false :=
  ⟨box_cell h 0, box_cell h 1, box_cell h 2, box_free h 0, box_free h 1, box_free h 2⟩
def numA (n : Num) : Value := .agg #[.bool n.neg, .string (bs n.dig), .int .i64 n.exp]
theorem rightB_bd {n : Num} (h : rightB n = true) : n.dig.length ≤ 1000 ∧ -1000000 ≤ n.exp ∧ n.exp ≤ 1000000 := by
  rcases of_decide_eq_true h with h | h
  · subst h; simp [nought]
  · exact ⟨h.2.1, h.2.2.2.2.1, h.2.2.2.2.2⟩
/-- What holds of the two boxes all through: their cells, their blocks, and that nothing older has changed. -/
abbrev Two (B : Nat) (a b : Num) (w0 w' : World) : Prop :=
  (w'.cell? ⟨B, 0, none⟩ = some (.bool a.neg) ∧ w'.cell? ⟨B, 1, none⟩ = some (.string (bs a.dig)) ∧ w'.cell? ⟨B, 2, none⟩ = some (.int .i64 a.exp) ∧
  w'.cell? ⟨B + 1, 0, none⟩ = some (.bool b.neg) ∧ w'.cell? ⟨B + 1, 1, none⟩ = some (.string (bs b.dig)) ∧ w'.cell? ⟨B + 1, 2, none⟩ = some (.int .i64 b.exp)) ∧
  Hid (B + 1 < w'.heap.size ∧ Below B w0 w')
theorem Two.start (a b : Num) (w : World) (t : TypeId) : Two w.heap.size a b w ((w.alloc (.cells #[.bool a.neg, .string (bs a.dig), .int .i64 a.exp] t)).alloc (.cells #[.bool b.neg, .string (bs b.dig), .int .i64 b.exp] t)).drew := by
  have h0 : (((w.alloc (.cells #[.bool a.neg, .string (bs a.dig), .int .i64 a.exp] t)).alloc (.cells #[.bool b.neg, .string (bs b.dig), .int .i64 b.exp] t)).drew).heap[w.heap.size]? = some (.cells #[.bool a.neg, .string (bs a.dig), .int .i64 a.exp] t (0, 0)) :=
    (Below.heap_alloc _ _ _ (by simp)).trans (heap_alloc_new w _)
  have h1 : (((w.alloc (.cells #[.bool a.neg, .string (bs a.dig), .int .i64 a.exp] t)).alloc (.cells #[.bool b.neg, .string (bs b.dig), .int .i64 b.exp] t)).drew).heap[w.heap.size + 1]? = some (.cells #[.bool b.neg, .string (bs b.dig), .int .i64 b.exp] t (0, 0)) := by
    have := heap_alloc_new (w.alloc (.cells #[.bool a.neg, .string (bs a.dig), .int .i64 a.exp] t)) (.cells #[.bool b.neg, .string (bs b.dig), .int .i64 b.exp] t)
    simp only [World.size_alloc] at this
    exact this
  obtain ⟨r0, r1, r2, _⟩ := box3 h0
  obtain ⟨q0, q1, q2, _⟩ := box3 h1
  exact ⟨⟨r0, r1, r2, q0, q1, q2⟩, by simp, (((Below.refl _ _).alloc (Nat.le_refl _) _).alloc (by simp) _).drew⟩
theorem Two.step {B : Nat} {a b : Num} {w0 w1 w2 : World} (h : Two B a b w0 w1) (hb : Below w1.heap.size w1 w2) : Two B a b w0 w2 := by
  obtain ⟨⟨r0, r1, r2, q0, q1, q2⟩, h1, h2⟩ := h
  obtain ⟨hc, _⟩ := bcell hb
  exact ⟨⟨(hc _ _ (by omega)).trans r0, (hc _ _ (by omega)).trans r1, (hc _ _ (by omega)).trans r2, (hc _ _ h1).trans q0, (hc _ _ h1).trans q1, (hc _ _ h1).trans q2⟩, Nat.lt_of_lt_of_le h1 hb.size, h2.trans (hb.mono (by omega))⟩
theorem Two.drew {B : Nat} {a b : Num} {w0 w1 : World} (h : Two B a b w0 w1) : Two B a b w0 w1.drew := ⟨h.1, h.2.1, h.2.2.drew⟩
def PTabR (w : World) : Prop := Lib.TabIs Tryz.prog w "internal/strconv.uint64pow10" .u64 Lib.pow10Tab
theorem PTabR.keep {w w' : World} (h : PTabR w) (hb : Below w.heap.size w w') : PTabR w' := var_keep h hb
theorem below_growR (w : World) (k : Nat) (os : Array Obj) : Below w.heap.size w (Go.Sort.grow (w.drewN k) os) :=
  ⟨rfl, rfl, rfl, by simp [Go.Sort.grow], fun j hj => Go.Sort.heap_grow_old (w.drewN k) os hj⟩
theorem itoa_len (n : Int) (h : n.natAbs < 10 ^ 20) : (Lib.itoa n).length ≤ 22 := by
  have h1 := decDigits_len n.natAbs 20 h (by decide)
  unfold Lib.itoa
  split
  · simp; omega
  · rw [show n.toNat = n.natAbs from by omega]; omega
theorem bs_cons (c : UInt8) (l : List UInt8) : (⟨#[c]⟩ : ByteArray) ++ bs l = bs (c :: l) := by
  have := bs_append [c] l
  exact this
/-- Block b holds the number n. -/
def NumBox (w : World) (b : Nat) (n : Num) : Prop := w.heap[b]? = some (.cells #[.bool n.neg, .string (bs n.dig), .int .i64 n.exp] 47 (0, 0))
theorem NumBox.keep {w w' : World} {b : Nat} {n : Num} (h : NumBox w b n) (hb : Below w.heap.size w w') : NumBox w' b n := (hb.block b (cell_it h)).trans h
theorem NumBox.cells {w : World} {b : Nat} {n : Num} (h : NumBox w b n) : w.cell? ⟨b, 0, none⟩ = some (.bool n.neg) ∧ w.cell? ⟨b, 1, none⟩ = some (.string (bs n.dig)) ∧ w.cell? ⟨b, 2, none⟩ = some (.int .i64 n.exp) :=
  ⟨box_cell h 0, box_cell h 1, box_cell h 2⟩
theorem NumBox.new (w : World) (n : Num) : NumBox (w.alloc (.cells #[.bool n.neg, .string (bs n.dig), .int .i64 n.exp] 47)) w.heap.size n := heap_alloc_new w _
theorem NumBox.drew {w : World} {b : Nat} {n : Num} (h : NumBox w b n) : NumBox w.drew b n := h
theorem pl1 : parseL [49, 50, 46, 53, 48, 101, 49] = (⟨false, [49, 50, 53], 0⟩, 0) := by decide +kernel
theorem pl2 : parseL [45, 48, 46, 48] = (nought, 0) := by decide +kernel
theorem pl3 : parseL [48, 49] = (nought, 2) := by decide +kernel
theorem pl4 : parseL [49, 101, 57, 57, 57, 57, 57, 57, 57, 57, 57, 57] = (nought, 4) := by decide +kernel
theorem pl5 : parseL [49, 101, 50] = (⟨false, [49], 2⟩, 0) := by decide +kernel
theorem tl1 : textL ⟨false, [49, 50, 53], 0⟩ = [49, 50, 53] := by decide +kernel
theorem tl2 : textL nought = [48] := by decide +kernel
theorem tl5 : textL ⟨false, [49], 2⟩ = [49, 101, 50] := by decide +kernel
theorem of99 : ofInt 99 = ⟨false, [57, 57], 0⟩ := by decide +kernel
theorem cm5 : cmpL ⟨false, [49], 2⟩ ⟨false, [57, 57], 0⟩ = 1 := by decide +kernel
def SmH (b1 b2 b5 : Nat) (w w' : World) : Prop := NumBox w' b1 ⟨false, [49, 50, 53], 0⟩ ∧ NumBox w' b2 nought ∧ NumBox w' b5 ⟨false, [49], 2⟩ ∧ Below w.heap.size w w'
abbrev Sm (b1 b2 b5 : Nat) (w w' : World) : Prop :=
  (w'.cell? ⟨b1, 0, none⟩ = some (.bool false) ∧ w'.cell? ⟨b1, 1, none⟩ = some (.string ⟨#[49, 50, 53]⟩) ∧ w'.cell? ⟨b1, 2, none⟩ = some (.int .i64 0)) ∧
  (w'.cell? ⟨b2, 0, none⟩ = some (.bool false) ∧ w'.cell? ⟨b2, 1, none⟩ = some (.string ⟨#[]⟩) ∧ w'.cell? ⟨b2, 2, none⟩ = some (.int .i64 0)) ∧
  (w'.cell? ⟨b5, 0, none⟩ = some (.bool false) ∧ w'.cell? ⟨b5, 1, none⟩ = some (.string ⟨#[49]⟩) ∧ w'.cell? ⟨b5, 2, none⟩ = some (.int .i64 2)) ∧ SmH b1 b2 b5 w w'
theorem Sm.of {b1 b2 b5 : Nat} {w w' : World} (h : SmH b1 b2 b5 w w') : Sm b1 b2 b5 w w' := ⟨h.1.cells, h.2.1.cells, h.2.2.1.cells, h⟩
theorem Sm.step {b1 b2 b5 : Nat} {w w1 w2 : World} (h : Sm b1 b2 b5 w w1) (hb : Below w1.heap.size w1 w2) : Sm b1 b2 b5 w w2 :=
  let ⟨a, b, c, d⟩ := h.2.2.2
  Sm.of ⟨a.keep hb, b.keep hb, c.keep hb, d.trans (hb.mono d.size)⟩
theorem Sm.drew {b1 b2 b5 : Nat} {w w1 : World} (h : SmH b1 b2 b5 w w1) : Sm b1 b2 b5 w w1.drew :=
  let ⟨a, b, c, d⟩ := h
  Sm.of ⟨a, b, c, d.drew⟩
def digI (l : List UInt8) (k : Nat) : Int := match l[k]? with | some c => (c.toNat : Int) - 48 | none => 0
theorem Two.start0 (a b : Num) (w : World) (t : TypeId) : Two w.heap.size a b w ((w.alloc (.cells #[.bool a.neg, .string (bs a.dig), .int .i64 a.exp] t)).alloc (.cells #[.bool b.neg, .string (bs b.dig), .int .i64 b.exp] t)) :=
  let h := Two.start a b w t
  ⟨h.1, h.2.out.1, ((Below.refl _ _).alloc (Nat.le_refl _) _).alloc (by simp) _⟩
theorem ite3 (c d : Nat) (X : Int) : (if c < d then -1 else if d < c then 1 else X) = if (c : Int) - 48 < (d : Int) - 48 then -1 else if (d : Int) - 48 < (c : Int) - 48 then 1 else X := by
  rcases Nat.lt_trichotomy c d with h | h | h
  · rw [if_pos h, if_pos (by omega)]
  · subst h; simp
  · rw [if_neg (show ¬ c < d by omega), if_neg (show ¬ ((c : Int) - 48 < (d : Int) - 48) by omega), if_pos h, if_pos (by omega)]
theorem padCmp_step (a b : List UInt8) (k : Nat) (h : k < a.length ∨ k < b.length) (ha : a.all isDig = true) (hb : b.all isDig = true) :
    padCmp (a.drop k) (b.drop k) = if digI a k < digI b k then -1 else if digI b k < digI a k then 1 else padCmp (a.drop (k + 1)) (b.drop (k + 1)) := by
  unfold digI
  by_cases h1 : k < a.length <;> by_cases h2 : k < b.length
  · rw [List.drop_eq_getElem_cons h1, List.drop_eq_getElem_cons h2, List.getElem?_eq_getElem h1, List.getElem?_eq_getElem h2]
    simp only [padCmp]
    exact ite3 _ _ _
  · have e1 : b.drop k = [] := List.drop_of_length_le (by omega)
    have e2 : b.drop (k + 1) = [] := List.drop_of_length_le (by omega)
    rw [List.drop_eq_getElem_cons h1, e1, e2, List.getElem?_eq_getElem h1, List.getElem?_eq_none (by omega)]
    simp only [padCmp]
    exact ite3 _ 48 _
  · have e1 : a.drop k = [] := List.drop_of_length_le (by omega)
    have e2 : a.drop (k + 1) = [] := List.drop_of_length_le (by omega)
    rw [List.drop_eq_getElem_cons h2, e1, e2, List.getElem?_eq_getElem h2, List.getElem?_eq_none (by omega)]
    simp only [padCmp]
    exact ite3 48 _ _
  · omega
theorem digI_at (l : List UInt8) (k : Nat) (h : k < (bs l).size) (hd : l.all isDig = true) : 48 ≤ ((bs l)[k]'h).toNat ∧ ((bs l)[k]'h).toNat ≤ 57 ∧ digI l k = (((bs l)[k]'h).toNat : Int) - 48 := by
  have hs := bs_size l
  have hk : k < l.length := by omega
  have hb : (bs l)[k]'h = l[k] := by simp [bs, ByteArray.getElem_eq_getElem_data]
  rw [List.all_eq_true] at hd
  have h1 := of_decide_eq_true (hd _ (List.getElem_mem hk))
  rw [hb]
  unfold digI
  rw [List.getElem?_eq_getElem hk]
  exact ⟨h1.1, h1.2, rfl⟩
theorem digI_out (l : List UInt8) (k : Nat) (h : l.length ≤ k) : digI l k = 0 := by unfold digI; rw [List.getElem?_eq_none h]
theorem digI_bd (l : List UInt8) (k : Nat) (hd : l.all isDig = true) : 0 ≤ digI l k ∧ digI l k ≤ 9 := by
  unfold digI
  cases h : l[k]? with
  | none => simp
  | some c =>
    rw [List.all_eq_true] at hd
    have h1 := of_decide_eq_true (hd c (List.mem_of_getElem? h))
    simp only []; omega
def min1 (l : List UInt8) : Int := if l = [] then 0 else 1
def sizeL (a b : Num) : Int := if a.dig = [] ∨ b.dig = [] then min1 a.dig - min1 b.dig else farL a b
theorem rightB_digs {n : Num} (h : rightB n = true) : n.dig.all isDig = true ∧ n.dig.getLast? ≠ some 48 := by
  rcases of_decide_eq_true h with h | h
  · subst h; exact ⟨rfl, by decide⟩
  · exact ⟨(allDig_ne h.1).2, h.2.2.2.1⟩
/-- A number as an int, where it is one. -/
def intL (n : Num) : Int × Bool :=
  if rightB n = false ∨ n.exp < 0 ∨ 19 < topOf n then (0, false) else
  if -9223372036854775808 ≤ (if n.neg then - mag n else mag n) ∧ (if n.neg then - mag n else mag n) ≤ 9223372036854775807 then (if n.neg then - mag n else mag n, true) else (0, false)
theorem decV_natR (l : List UInt8) (h : l.all isDig = true) : ∃ D : Nat, decV l = D ∧ D < 10 ^ l.length := by
  obtain ⟨h1, h2⟩ := decV_bd l h
  refine ⟨(decV l).toNat, by omega, ?_⟩
  have hp : (10 : Int) ^ l.length = ((10 ^ l.length : Nat) : Int) := by simp
  omega
theorem parseUintM_dig : ∀ (l : List UInt8) (acc D : Nat), l.all isDig = true → acc ≤ 18446744073709551615 → decV l = D →
    parseUintM 18446744073709551615 acc l = if acc * 10 ^ l.length + D ≤ 18446744073709551615 then .ok (acc * 10 ^ l.length + D) else .range
  | [], acc, D, _, h, hD => by
    have : D = 0 := by simp [decV] at hD; omega
    subst this
    simp [parseUintM, h]
  | c :: t, acc, D, hd, h, hD => by
    obtain ⟨h1, h2, h3⟩ := dig_of hd
    obtain ⟨E, hE, hb⟩ := decV_natR t h3
    have hc := decV_cons c t
    rw [hE, hD] at hc
    obtain ⟨d, hdd⟩ : ∃ d, c.toNat - 48 = d := ⟨_, rfl⟩
    have hdI : (c.toNat : Int) - 48 = (d : Int) := by omega
    have hp : (10 : Int) ^ t.length = ((10 ^ t.length : Nat) : Int) := by simp
    rw [hdI, hp] at hc
    have hDn : D = d * 10 ^ t.length + E := by
      have : ((D : Nat) : Int) = ((d * 10 ^ t.length + E : Nat) : Int) := by rw [hc]; simp
      exact_mod_cast this
    have hP : 1 ≤ 10 ^ t.length := Nat.pow_pos (by decide)
    have htot : acc * 10 ^ (c :: t).length + D = (acc * 10 + d) * 10 ^ t.length + E := by
      rw [hDn, List.length_cons, Nat.pow_succ, Nat.add_mul, Nat.mul_comm (10 ^ t.length) 10, ← Nat.mul_assoc]; omega
    have hge : acc * 10 + d ≤ (acc * 10 + d) * 10 ^ t.length := Nat.le_mul_of_pos_right _ hP
    rw [htot]
    unfold parseUintM
    rw [if_pos ⟨h1, h2⟩, hdd]
    by_cases g1 : 1844674407370955162 ≤ acc
    · rw [if_pos g1, if_neg (by omega)]
    · rw [if_neg g1]
      by_cases g2 : 18446744073709551615 < acc * 10 + d
      · rw [if_pos g2, if_neg (by omega)]
      · rw [if_neg g2, parseUintM_dig t (acc * 10 + d) E h3 (by omega) hE]
theorem parseUintB_dig (l : List UInt8) (D : Nat) (h : allDig l = true) (hD : decV l = D) : parseUintB 64 l = if D ≤ 18446744073709551615 then .ok D else .range := by
  obtain ⟨hne, hall⟩ := allDig_ne h
  unfold parseUintB
  rw [if_neg hne]
  have := parseUintM_dig l 0 D hall (by decide) hD
  simpa using this
theorem parseIntB_dig (l : List UInt8) (D : Nat) (h : allDig l = true) (hD : decV l = D) : parseIntB 64 l = if D ≤ 9223372036854775807 then .ok (D : Int) else .range := by
  have hu := parseUintB_dig l D h hD
  obtain ⟨hne, hall⟩ := allDig_ne h
  cases l with
  | nil => exact absurd rfl hne
  | cons c r =>
    obtain ⟨h1, h2, _⟩ := dig_of hall
    unfold parseIntB
    simp only []
    rw [if_neg (by omega), hu]
    by_cases g : D ≤ 18446744073709551615
    · rw [if_pos g]
      simp only []
      have hn45 : ¬ c.toNat = 45 := by omega
      simp only [hn45, not_false_eq_true, true_and, false_and, if_false]
      by_cases g2 : D ≤ 9223372036854775807
      · rw [if_neg (by omega), if_pos g2]
      · rw [if_pos (by omega), if_neg g2]
    · rw [if_neg g, if_neg (by omega)]
theorem parseIntB_neg (l : List UInt8) (D : Nat) (h : allDig l = true) (hD : decV l = D) : parseIntB 64 (45 :: l) = if D ≤ 9223372036854775808 then .ok (-(D : Int)) else .range := by
  have hu := parseUintB_dig l D h hD
  unfold parseIntB
  simp only []
  rw [if_pos (by decide), hu]
  by_cases g : D ≤ 18446744073709551615
  · rw [if_pos g]
    simp only []
    rw [if_neg (by simp)]
    by_cases g2 : D ≤ 9223372036854775808
    · rw [if_neg (by simp; omega), if_pos g2]; simp
    · rw [if_pos (by simp; omega), if_neg g2]
  · rw [if_neg g, if_neg (by omega)]
def RVar (w : World) : Prop := ∃ tp p, w.var? Tryz.prog "strconv.ErrRange" = some #[.iface tp p]
theorem RVar.keep {w w' : World} (h : RVar w) (hb : Below w.heap.size w w') : RVar w' := let ⟨tp, p, h⟩ := h; ⟨tp, p, var_keep h hb⟩
def intV (n : Num) : Ending := .returned (.tuple #[.int .i64 (intL n).1, .bool (intL n).2])
abbrev One (B : Nat) (n : Num) (w0 w' : World) : Prop :=
  (w'.cell? ⟨B, 0, none⟩ = some (.bool n.neg) ∧ w'.cell? ⟨B, 1, none⟩ = some (.string (bs n.dig)) ∧ w'.cell? ⟨B, 2, none⟩ = some (.int .i64 n.exp)) ∧ Hid (NumBox w' B n ∧ Below B w0 w')
theorem One.of {B : Nat} {n : Num} {w0 w1 : World} (h : NumBox w1 B n) (hb : Below B w0 w1) : One B n w0 w1 := ⟨h.cells, h, hb⟩
theorem One.step {B : Nat} {n : Num} {w0 w1 w2 : World} (h : One B n w0 w1) (hb : Below w1.heap.size w1 w2) : One B n w0 w2 :=
  One.of (h.2.out.1.keep hb) (h.2.out.2.trans (hb.mono (Nat.le_of_lt (cell_it h.2.out.1))))
theorem One.drew {B : Nat} {n : Num} {w0 w1 : World} (h : One B n w0 w1) : One B n w0 w1.drew := One.of h.2.out.1.drew h.2.out.2.drew
abbrev One2 (B : Nat) (n : Num) (w0 w1 w' : World) : Prop := One B n w0 w' ∧ Hid (Below w1.heap.size w1 w')
theorem One2.start {B : Nat} {n : Num} {w0 w1 : World} (h : One B n w0 w1) : One2 B n w0 w1 w1.drew := ⟨h.drew, (Below.refl _ _).drew⟩
theorem One2.step {B : Nat} {n : Num} {w0 w1 w2 w3 : World} (h : One2 B n w0 w1 w2) (hb : Below w2.heap.size w2 w3) : One2 B n w0 w1 w3 := ⟨h.1.step hb, below_of_new h.2.out hb⟩
end Go.Proofs.YtdegjfmjjabnnaaGreatDoor

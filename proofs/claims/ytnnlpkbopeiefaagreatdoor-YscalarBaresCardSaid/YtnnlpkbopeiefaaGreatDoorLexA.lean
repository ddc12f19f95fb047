import Derived.Test.YtnnlpkbopeiefaaGreatDoorQuoE
import Derived.Test.YtnnlpkbopeiefaaGreatDoorEncD
import Derived.Test.YtnnlpkbopeiefaaGreatDoorNumA
/-! PLAIN: tokens: what stands at the head of a text (tokR), of which the rest of the text is no matter. -/
namespace Go.Proofs.YtnnlpkbopeiefaaGreatDoor
set_option linter.unusedSimpArgs false
set_option linter.unusedVariables false
open Go.Lib
/-! ### strings in quotes: only their own bytes matter -/
theorem take_head {l l' : List UInt8} {n : Nat} (h : l.take n = l'.take n) (hn : 0 < n) : l.head? = l'.head? := by
  cases n with
  | zero => omega
  | succ n => cases l <;> cases l' <;> simp at h ⊢ ; exact h.1
theorem take_get {l l' : List UInt8} {n : Nat} (h : l.take n = l'.take n) (i : Nat) (hi : i < n) : l[i]? = l'[i]? := by
  have := congrArg (fun x => x[i]?) h
  simp only [List.getElem?_take, if_pos hi] at this
  exact this
theorem take_drop_eq {l l' : List UInt8} {n : Nat} (h : l.take n = l'.take n) (k m : Nat) (hk : k + m ≤ n) : (l.drop k).take m = (l'.drop k).take m := by
  have h2 := congrArg (fun x => (x.drop k).take m) h
  simp only [List.drop_take, List.take_take, Nat.min_eq_left (show m ≤ n - k by omega)] at h2
  exact h2
theorem four_local {l l' : List UInt8} (h : l.take 4 = l'.take 4) : fourL l = fourL l' := by
  unfold fourL
  have hl := congrArg List.length h
  rw [List.length_take, List.length_take] at hl
  by_cases h4 : l.length < 4
  · rw [if_pos h4, if_pos (by omega)]
  · rw [if_neg h4, if_neg (by omega), h]
theorem pre_local {l l' : List UInt8} (h : l.take 2 = l'.take 2) : Lib.hasPrefix l [92, 117] = Lib.hasPrefix l' [92, 117] := by
  match l, l' with
  | [], [] => rfl
  | [], _ :: _ => simp at h
  | _ :: _, [] => simp at h
  | [a], [b] => simp at h; rw [h]
  | [a], b :: c :: t => simp at h
  | a :: c :: t, [b] => simp at h
  | a :: c :: t, b :: d :: u =>
    simp at h
    unfold Lib.hasPrefix
    simp [List.isPrefixOf, h.1, h.2]
theorem uni_local {l l' : List UInt8} (hne : (uniL l).2 ≠ 0) (h : l.take (uniL l).2.toNat = l'.take (uniL l).2.toNat) : uniL l' = uniL l := by
  unfold uniL at hne h
  cases h2 : fourL (l.drop 2) with
  | none => rw [h2] at hne; exact absurd rfl hne
  | some hi =>
    rw [h2] at hne h
    simp only [] at hne h
    by_cases g1 : 56320 ≤ hi ∧ hi < 57344
    · rw [if_pos g1] at hne; exact absurd rfl hne
    rw [if_neg g1] at hne h
    by_cases g2 : hi < 55296 ∨ 57344 ≤ hi
    · rw [if_pos g2] at hne h
      simp only [] at h
      have e1 : fourL (l'.drop 2) = some hi := by rw [← h2]; exact (four_local (take_drop_eq h 2 4 (by decide))).symm
      unfold uniL
      simp only [h2, e1, if_neg g1, if_pos g2]
    rw [if_neg g2] at hne h
    by_cases g3 : Lib.hasPrefix (l.drop 6) [92, 117] = false
    · rw [if_pos g3] at hne; exact absurd rfl hne
    rw [if_neg g3] at hne h
    cases h4 : fourL (l.drop 8) with
    | none => rw [h4] at hne; exact absurd rfl hne
    | some lo =>
      rw [h4] at hne h
      simp only [] at hne h
      by_cases g5 : lo < 56320 ∨ 57344 ≤ lo
      · rw [if_pos g5] at hne; exact absurd rfl hne
      rw [if_neg g5] at hne h
      simp only [] at h
      have e1 : fourL (l'.drop 2) = some hi := by rw [← h2]; exact (four_local (take_drop_eq h 2 4 (by decide))).symm
      have e2 : fourL (l'.drop 8) = some lo := by rw [← h4]; exact (four_local (take_drop_eq h 8 4 (by decide))).symm
      have e3 : Lib.hasPrefix (l'.drop 6) [92, 117] = Lib.hasPrefix (l.drop 6) [92, 117] := (pre_local (take_drop_eq h 6 2 (by decide))).symm
      unfold uniL
      simp only [h2, e1, if_neg g1, if_neg g2, e3, if_neg g3, h4, e2]
theorem esc_local {l l' : List UInt8} (hne : (escL l).2 ≠ 0) (h : l.take (escL l).2.toNat = l'.take (escL l).2.toNat) : escL l' = escL l := by
  unfold escL at hne h
  cases h1 : l[1]? with
  | none => rw [h1] at hne; exact absurd rfl hne
  | some c =>
    rw [h1] at hne h
    simp only [] at hne h
    by_cases g1 : (meantI c.toNat).2 = true
    · rw [if_pos g1] at h
      have e1 : l'[1]? = some c := by rw [← h1]; exact (take_get h 1 (show 1 < (2 : Int).toNat by decide)).symm
      unfold escL
      simp only [h1, e1, if_pos g1]
    rw [if_neg g1] at hne h
    by_cases g2 : c.toNat = 117
    · rw [if_pos g2] at hne h
      have hb := uniL_bd l
      have h2 : 2 ≤ (uniL l).2.toNat := by
        have : (uniL l).2 = 6 ∨ (uniL l).2 = 12 ∨ (uniL l).2 = 0 := by
          unfold uniL
          cases fourL (l.drop 2) with
          | none => simp
          | some a =>
            simp only []
            split
            · simp
            · split
              · simp
              · split
                · simp
                · cases fourL (l.drop 8) with
                  | none => simp
                  | some b => simp only []; split <;> simp
        omega
      have e1 : l'[1]? = some c := by rw [← h1]; exact (take_get h 1 (by omega)).symm
      have e2 := uni_local hne h
      unfold escL
      simp only [h1, e1, if_neg g1, if_pos g2, e2]
    · rw [if_neg g2] at hne; exact absurd rfl hne
theorem plain_dec (l : List UInt8) (hne : l ≠ []) (hp : plainB (decodeL l) = false) : okRune ((decodeL l).1 : Int) ∧ 32 ≤ ((decodeL l).1 : Int) ∧ encodeRune ((decodeL l).1 : Int) = l.take (decodeL l).2 ∧ (decodeL l).2 ≤ l.length ∧ 1 ≤ (decodeL l).2 := by
  have hp2 := hp
  unfold plainB at hp2
  simp only [Bool.or_eq_false_iff, decide_eq_false_iff_not, Bool.and_eq_false_iff, beq_eq_false_iff_ne] at hp2
  exact ⟨decode_okRune l, by omega, encode_decode l hne (by omega), decodeL_le l hne, decodeL_width l⟩
theorem dec_local {l l' : List UInt8} (hne : l ≠ []) (hp : plainB (decodeL l) = false) (h : l.take (decodeL l).2 = l'.take (decodeL l).2) : decodeL l' = decodeL l := by
  obtain ⟨h1, h2, h3, h4, h5⟩ := plain_dec l hne hp
  have hl' : l' = encodeRune ((decodeL l).1 : Int) ++ l'.drop (decodeL l).2 := by rw [h3, h, List.take_append_drop]
  have := decode_encode _ h1 (l'.drop (decodeL l).2)
  rw [← hl', h3, List.length_take, Nat.min_eq_left h4, Int.toNat_natCast] at this
  exact this
theorem part_local {l l' : List UInt8} (hne : l ≠ []) (h0 : (partL l).2 ≠ 0) (h : l.take (partL l).2.toNat = l'.take (partL l).2.toNat) : partL l' = partL l := by
  have hb := partL_bd l hne
  have hh : l.head? = l'.head? := take_head h (by omega)
  unfold partL at h0 h ⊢
  rw [← hh]
  by_cases h92 : l.head? = some 92
  · rw [if_pos h92] at h0 h ⊢
    rw [if_pos h92]
    exact esc_local h0 h
  · rw [if_neg h92] at h0 h ⊢
    rw [if_neg h92]
    cases hp : plainB (decodeL l) with
    | true => rw [hp, if_pos rfl] at h0; exact absurd rfl h0
    | false =>
      rw [hp, if_neg (by simp)] at h
      simp only [Int.toNat_natCast] at h
      rw [dec_local hne hp h, hp]
theorem readGo_cons (f : Nat) (c : UInt8) (r : List UInt8) (i : Nat) (acc : List UInt8) : readGo (f + 1) (c :: r) i acc = if c = 34 then (acc, (i : Int) + 1, 0) else if (partL (c :: r)).2 = 0 then ([], (i : Int), 2) else
    readGo f ((c :: r).drop (partL (c :: r)).2.toNat) (i + (partL (c :: r)).2.toNat) (acc ++ Lib.encodeRune (partL (c :: r)).1) := rfl
theorem readGo_ok : ∀ (f : Nat) (l : List UInt8) (i : Nat) (acc : List UInt8), (readGo f l i acc).2.2 = 0 → (i : Int) < (readGo f l i acc).2.1 ∧ (readGo f l i acc).2.1 ≤ i + l.length
  | 0, _, _, _, h => by simp [readGo] at h
  | _ + 1, [], _, _, h => by simp [readGo] at h
  | f + 1, c :: r, i, acc, h => by
    rw [readGo_cons] at h ⊢
    split
    · exact ⟨by simp only []; omega, by simp only [List.length_cons]; omega⟩
    · rename_i h34
      rw [if_neg h34] at h
      split
      · rename_i h0; rw [if_pos h0] at h; exact absurd h (by simp)
      · rename_i h0
        rw [if_neg h0] at h
        have hp := partL_bd (c :: r) (List.cons_ne_nil _ _)
        obtain ⟨P, hP⟩ : ∃ P, partL (c :: r) = P := ⟨_, rfl⟩
        rw [hP] at h hp h0 ⊢
        have := readGo_ok f _ _ _ h
        rw [List.length_drop] at this
        omega
/-- What is read well is read well whatever follows. -/
theorem readGo_local : ∀ (f f' : Nat) (l l' : List UInt8) (i : Nat) (acc : List UInt8), (readGo f l i acc).2.2 = 0 → l.take ((readGo f l i acc).2.1 - i).toNat = l'.take ((readGo f l i acc).2.1 - i).toNat → l'.length < f' → readGo f' l' i acc = readGo f l i acc
  | 0, _, _, _, _, _, h, _, _ => by simp [readGo] at h
  | _ + 1, _, [], _, _, _, h, _, _ => by simp [readGo] at h
  | f + 1, f', c :: r, l', i, acc, h, ht, hf => by
    have hok := readGo_ok (f + 1) (c :: r) i acc h
    have hh := take_head ht (by omega)
    obtain ⟨g, rfl⟩ : ∃ g, f' = g + 1 := ⟨f' - 1, by omega⟩
    cases l' with
    | nil => simp at hh
    | cons c' r' =>
      obtain rfl : c' = c := by simpa using hh.symm
      rw [readGo_cons] at h ht hok
      rw [readGo_cons, readGo_cons]
      by_cases h34 : c' = 34
      · rw [if_pos h34, if_pos h34]
      rw [if_neg h34] at h ht hok
      rw [if_neg h34, if_neg h34]
      by_cases h0 : (partL (c' :: r)).2 = 0
      · rw [if_pos h0] at h; exact absurd h (by simp)
      rw [if_neg h0] at h ht hok
      have hp := partL_bd (c' :: r) (List.cons_ne_nil _ _)
      have hrec := readGo_ok f _ _ _ h
      have hpl : partL (c' :: r') = partL (c' :: r) := by
        refine part_local (List.cons_ne_nil _ _) h0 ?_
        have := take_drop_eq ht 0 (partL (c' :: r)).2.toNat (by omega)
        simpa using this
      rw [hpl, if_neg h0, if_neg h0]
      have hlc : (c' :: r').length = r'.length + 1 := rfl
      refine readGo_local f g _ _ _ _ h ?_ (by rw [List.length_drop]; omega)
      exact take_drop_eq ht (partL (c' :: r)).2.toNat _ (by omega)
theorem readGo_off : ∀ (f : Nat) (l : List UInt8) (i k : Nat) (acc : List UInt8), readGo f l (i + k) acc = ((readGo f l i acc).1, (readGo f l i acc).2.1 + k, (readGo f l i acc).2.2)
  | 0, _, i, k, _ => by simp [readGo]
  | _ + 1, [], i, k, _ => by simp [readGo]
  | f + 1, c :: r, i, k, acc => by
    rw [readGo_cons, readGo_cons]
    split
    · simp only [Prod.mk.injEq, true_and, and_true]; omega
    · split
      · simp only [Prod.mk.injEq, true_and, and_true]; omega
      · rw [show i + k + (partL (c :: r)).2.toNat = (i + (partL (c :: r)).2.toNat) + k by omega]
        exact readGo_off f _ _ _ _
theorem readGo_fuel : ∀ (f g : Nat) (l : List UInt8) (i : Nat) (acc : List UInt8), l.length < f → l.length < g → readGo f l i acc = readGo g l i acc
  | 0, _, l, _, _, h, _ => by omega
  | _, 0, l, _, _, _, h => by omega
  | _ + 1, _ + 1, [], _, _, _, _ => rfl
  | f + 1, g + 1, c :: r, i, acc, hf, hg => by
    rw [readGo_cons, readGo_cons]
    split
    · rfl
    · split
      · rfl
      · have hp := partL_bd (c :: r) (List.cons_ne_nil _ _)
        exact readGo_fuel f g _ _ _ (by rw [List.length_drop]; omega) (by rw [List.length_drop]; omega)
/-- A string in quotes at a byte, by what stands from that byte on. -/
theorem readL_drop (s : List UInt8) (a : Nat) (ha : a ≤ s.length) : readL s a = ((readL (s.drop a) 0).1, (readL (s.drop a) 0).2.1 + a, (readL (s.drop a) 0).2.2) := by
  unfold readL
  rw [Int.toNat_natCast, Int.toNat_zero, List.getElem?_drop, Nat.add_zero]
  by_cases h : s[a]? = some 34
  · rw [if_pos ⟨by omega, h⟩, if_pos ⟨by omega, h⟩, List.drop_drop, show a + (0 + 1) = a + 1 by omega]
    have hl := (List.getElem?_eq_some_iff.1 h).1
    rw [readGo_fuel (s.length + 1) ((s.drop a).length + 1) _ _ _ (by rw [List.length_drop]; omega) (by rw [List.length_drop, List.length_drop]; omega)]
    have := readGo_off ((s.drop a).length + 1) (s.drop (a + 1)) (0 + 1) a []
    rw [show 0 + 1 + a = a + 1 by omega] at this
    exact this
  · rw [if_neg (fun g => h g.2), if_neg (fun g => h g.2)]
    simp
theorem readL_ok (l : List UInt8) (h : (readL l 0).2.2 = 0) : 0 < (readL l 0).2.1 ∧ (readL l 0).2.1 ≤ l.length := by
  unfold readL at h ⊢
  by_cases h1 : 0 ≤ (0 : Int) ∧ l[(0 : Int).toNat]? = some 34
  · rw [if_pos h1] at h ⊢
    have := readGo_ok _ _ _ _ h
    rw [List.length_drop] at this
    have hl := (List.getElem?_eq_some_iff.1 h1.2).1
    simp only [Int.toNat_zero] at this hl ⊢
    omega
  · rw [if_neg h1] at h; exact absurd h (by simp)
theorem readL_local (l l' : List UInt8) (h : (readL l 0).2.2 = 0) (ht : l.take (readL l 0).2.1.toNat = l'.take (readL l 0).2.1.toNat) : readL l' 0 = readL l 0 := by
  have hok := readL_ok l h
  have hh : l[0]? = l'[0]? := take_get ht 0 (by omega)
  unfold readL at h ht hok ⊢
  simp only [Int.toNat_zero] at h ht hok ⊢
  by_cases h1 : 0 ≤ (0 : Int) ∧ l[0]? = some 34
  · rw [if_pos h1] at h ht hok ⊢
    rw [if_pos ⟨h1.1, by rw [← hh]; exact h1.2⟩]
    refine readGo_local _ _ _ _ _ _ h ?_ (by rw [List.length_drop]; omega)
    refine take_drop_eq ht (0 + 1) _ ?_
    omega
  · rw [if_neg h1] at h; exact absurd h (by simp)
/-! ### tokens -/
def runL (p : UInt8 → Bool) (l : List UInt8) : Nat := (l.takeWhile p).length
def isBlank (c : UInt8) : Bool := c == 32 || c == 9 || c == 10 || c == 13
def isNumB (c : UInt8) : Bool := isDig c || c == 45 || c == 43 || c == 46 || c == 101 || c == 69
def isSmall (c : UInt8) : Bool := decide (97 ≤ c.toNat ∧ c.toNat ≤ 122)
def signI (c : UInt8) : Option Nat := if c = 123 then some 0 else if c = 125 then some 1 else if c = 91 then some 2 else if c = 93 then some 3 else if c = 44 then some 4 else if c = 58 then some 5 else none
def wordL (l : List UInt8) : Nat := if l = [116, 114, 117, 101] then 10 else if l = [102, 97, 108, 115, 101] then 11 else if l = [110, 117, 108, 108] then 12 else 0
/-- The token that a text begins with: its kind, how many bytes it has, 0; or 0, where it is wrong, and how. -/
def tokR (l : List UInt8) : Nat × Nat × Int :=
  match l with
  | [] => (0, 0, 2)
  | c :: _ => match signI c with
    | some k => (2 + k, 1, 0)
    | none => if isBlank c then (1, runL isBlank l, 0) else if c = 34 then (if (readL l 0).2.2 = 0 then (8, (readL l 0).2.1.toNat, 0) else (0, (readL l 0).2.1.toNat, (readL l 0).2.2)) else
      if c = 45 ∨ isDig c = true then (if (parseL (l.take (runL isNumB l))).2 = 0 then (9, runL isNumB l, 0) else (0, 0, (parseL (l.take (runL isNumB l))).2)) else
      if wordL (l.take (runL isSmall l)) = 0 then (0, 0, 2) else (wordL (l.take (runL isSmall l)), runL isSmall l, 0)
theorem runL_le (p : UInt8 → Bool) (l : List UInt8) : runL p l ≤ l.length := (List.takeWhile_sublist _).length_le
theorem runL_cons (p : UInt8 → Bool) (c : UInt8) (l : List UInt8) : runL p (c :: l) = if p c then runL p l + 1 else 0 := by
  unfold runL
  rw [List.takeWhile_cons]
  split <;> rfl
theorem runL_stop (p : UInt8 → Bool) (d : UInt8) (b : List UInt8) (hd : p d = false) : ∀ l : List UInt8, runL p (l ++ d :: b) = runL p l
  | [] => by rw [List.nil_append, runL_cons, hd]; rfl
  | c :: l => by
    rw [List.cons_append, runL_cons, runL_cons, runL_stop p d b hd l]
theorem signI_cases (c : UInt8) (k : Nat) (h : signI c = some k) : k ≤ 5 := by
  unfold signI at h
  repeat' split at h
  all_goals first | (injection h with h; omega) | cases h
theorem wordL_cases (l : List UInt8) : wordL l = 0 ∨ (10 ≤ wordL l ∧ wordL l ≤ 12 ∧ 0 < l.length) := by
  unfold wordL
  split
  · rename_i h; right; rw [h]; simp
  · split
    · rename_i h; right; rw [h]; simp
    · split
      · rename_i h; right; rw [h]; simp
      · left; rfl
theorem readL_fail (l : List UInt8) : 0 ≤ (readL l 0).2.1 ∧ (readL l 0).2.1 ≤ l.length := by
  have hgo : ∀ (f : Nat) (l : List UInt8) (i : Nat) (acc : List UInt8), (i : Int) ≤ (readGo f l i acc).2.1 ∧ (readGo f l i acc).2.1 ≤ i + l.length := by
    intro f
    induction f with
    | zero => intro l i acc; simp [readGo]; omega
    | succ f ih =>
      intro l i acc
      cases l with
      | nil => simp [readGo]
      | cons c r =>
        rw [readGo_cons]
        split
        · simp only [List.length_cons]; omega
        · split
          · simp only [List.length_cons]; omega
          · have hp := partL_bd (c :: r) (List.cons_ne_nil _ _)
            have := ih ((c :: r).drop (partL (c :: r)).2.toNat) (i + (partL (c :: r)).2.toNat) (acc ++ encodeRune (partL (c :: r)).1)
            rw [List.length_drop] at this
            omega
  unfold readL
  by_cases h1 : 0 ≤ (0 : Int) ∧ l[(0 : Int).toNat]? = some 34
  · rw [if_pos h1]
    have := hgo (l.length + 1) (l.drop ((0 : Int).toNat + 1)) ((0 : Int).toNat + 1) []
    rw [List.length_drop] at this
    have hl := (List.getElem?_eq_some_iff.1 h1.2).1
    simp only [Int.toNat_zero] at this hl ⊢
    omega
  · rw [if_neg h1]; simp
/-- What is known of a token. -/
theorem tokR_ok (l : List UInt8) (hne : l ≠ []) : (tokR l).2.1 ≤ l.length ∧ ((tokR l).2.2 = 0 → 1 ≤ (tokR l).1 ∧ (tokR l).1 ≤ 12 ∧ 0 < (tokR l).2.1) := by
  cases l with
  | nil => exact absurd rfl hne
  | cons c r =>
    unfold tokR
    simp only []
    cases hs : signI c with
    | some k =>
      have := signI_cases c k hs
      simp only []
      exact ⟨by simp, fun _ => ⟨by omega, by omega, by omega⟩⟩
    | none =>
      simp only []
      split
      · rename_i hb
        have := runL_le isBlank (c :: r)
        refine ⟨this, fun _ => ⟨by simp, by simp, ?_⟩⟩
        rw [runL_cons, if_pos hb]; simp
      · split
        · have hr := readL_fail (c :: r)
          split
          · rename_i h0
            have := readL_ok (c :: r) h0
            exact ⟨by simp only []; omega, fun _ => ⟨by simp, by simp, by simp only []; omega⟩⟩
          · rename_i h0
            exact ⟨by simp only []; omega, fun h => absurd h h0⟩
        · split
          · rename_i hd
            have hnb : isNumB c = true := by
              unfold isNumB
              rcases hd with rfl | hd
              · decide
              · rw [hd]; rfl
            split
            · refine ⟨runL_le _ _, fun _ => ⟨by simp, by simp, ?_⟩⟩
              simp only []
              rw [runL_cons, if_pos hnb]; simp
            · rename_i h0
              exact ⟨by simp, fun h => absurd h h0⟩
          · have hw := wordL_cases ((c :: r).take (runL isSmall (c :: r)))
            split
            · exact ⟨by simp, fun h => absurd h (by simp)⟩
            · rename_i h0
              rcases hw with hw | hw
              · exact absurd hw h0
              · refine ⟨runL_le _ _, fun _ => ⟨by simp only []; omega, by simp only []; omega, ?_⟩⟩
                have := hw.2.2
                rw [List.length_take] at this
                simp only []
                omega
structure Tok where
  kind : Nat
  sf : Nat
  st : Nat
deriving DecidableEq
/-- The tokens from a byte on, and where it is wrong. -/
def toksGo : Nat → List UInt8 → Nat → List Tok × Option (Nat × Int)
  | 0, _, _ => ([], none)
  | _ + 1, [], _ => ([], none)
  | f + 1, c :: r, i => if (tokR (c :: r)).2.2 = 0 then (⟨(tokR (c :: r)).1, i, i + (tokR (c :: r)).2.1⟩ :: (toksGo f ((c :: r).drop (tokR (c :: r)).2.1) (i + (tokR (c :: r)).2.1)).1, (toksGo f ((c :: r).drop (tokR (c :: r)).2.1) (i + (tokR (c :: r)).2.1)).2) else ([], some (i + (tokR (c :: r)).2.1, (tokR (c :: r)).2.2))
def toksL (s : List UInt8) : List Tok × Int × Int :=
  if 65536 < s.length then ([], 0, 3) else match (toksGo s.length s 0).2 with
  | none => ((toksGo s.length s 0).1, (s.length : Int), 0)
  | some (p, e) => ([], (p : Int), e)
end Go.Proofs.YtnnlpkbopeiefaaGreatDoor
/-! PLAIN: the laws of tokens: one behind another they are the text; each alone; two texts with a comma between them. -/
namespace Go.Proofs.YtnnlpkbopeiefaaGreatDoor
set_option linter.unusedSimpArgs false
set_option linter.unusedVariables false
open Go.Lib
theorem toksGo_cons (f : Nat) (c : UInt8) (r : List UInt8) (i : Nat) : toksGo (f + 1) (c :: r) i = if (tokR (c :: r)).2.2 = 0 then (⟨(tokR (c :: r)).1, i, i + (tokR (c :: r)).2.1⟩ :: (toksGo f ((c :: r).drop (tokR (c :: r)).2.1) (i + (tokR (c :: r)).2.1)).1, (toksGo f ((c :: r).drop (tokR (c :: r)).2.1) (i + (tokR (c :: r)).2.1)).2) else ([], some (i + (tokR (c :: r)).2.1, (tokR (c :: r)).2.2)) := rfl
theorem toksGo_nil (f i : Nat) : toksGo f [] i = ([], none) := by cases f <;> rfl
theorem toksGo_fuel : ∀ (f g : Nat) (l : List UInt8) (i : Nat), l.length ≤ f → l.length ≤ g → toksGo f l i = toksGo g l i
  | f, g, [], i, _, _ => by rw [toksGo_nil, toksGo_nil]
  | 0, _, _ :: _, _, h, _ => by simp at h
  | _, 0, _ :: _, _, _, h => by simp at h
  | f + 1, g + 1, c :: r, i, hf, hg => by
    rw [toksGo_cons, toksGo_cons]
    by_cases h : (tokR (c :: r)).2.2 = 0
    · have hok := (tokR_ok (c :: r) (List.cons_ne_nil _ _)).2 h
      have hlc : (c :: r).length = r.length + 1 := rfl
      rw [if_pos h, if_pos h, toksGo_fuel f g _ _ (by rw [List.length_drop]; omega) (by rw [List.length_drop]; omega)]
    · rw [if_neg h, if_neg h]
theorem toks_err : ∀ (f : Nat) (l : List UInt8) (i p : Nat) (e : Int), l.length ≤ f → (toksGo f l i).2 = some (p, e) → i ≤ p ∧ p ≤ i + l.length ∧ e ≠ 0
  | f, [], i, _, _, _, h => by rw [toksGo_nil] at h; cases h
  | 0, _ :: _, _, _, _, h, _ => by simp at h
  | f + 1, c :: r, i, p, e, hf, h => by
    rw [toksGo_cons] at h
    have hle := (tokR_ok (c :: r) (List.cons_ne_nil _ _)).1
    by_cases h0 : (tokR (c :: r)).2.2 = 0
    · rw [if_pos h0] at h
      have hok := (tokR_ok (c :: r) (List.cons_ne_nil _ _)).2 h0
      have hlc : (c :: r).length = r.length + 1 := rfl
      have := toks_err f _ _ p e (by rw [List.length_drop]; omega) h
      rw [List.length_drop] at this
      omega
    · rw [if_neg h0] at h
      simp only [Option.some.injEq, Prod.mk.injEq] at h
      obtain ⟨rfl, rfl⟩ := h
      exact ⟨by omega, by omega, h0⟩
end Go.Proofs.YtnnlpkbopeiefaaGreatDoor

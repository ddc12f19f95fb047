import Derived.Test.YtnnlpkbopeiefaaGreatDoorWa
import Derived.Test.YtnnlpkbopeiefaaGreatDoorRnV
import Derived.Test.YtnnlpkbopeiefaaGreatDoorQuoJ
/-! PLAIN: what the reference's scalars reckon (clean, Bare, safe), as the program's. -/
namespace Go.Proofs.YtnnlpkbopeiefaaGreatDoor
set_option linter.unusedSimpArgs false
set_option linter.unusedVariables false
open Go.Lib hiding intOf
theorem drop_headT (p : UInt8 → Bool) : ∀ l : Stp, ∀ c, (l.dropWhile p).head? = some c → p c = false
  | [], c, h => by simp at h
  | x :: l, c, h => by
    rw [List.dropWhile_cons] at h
    split at h
    · exact drop_headT p l c h
    · rename_i hx
      simp at h
      subst h
      simpa using hx
def lowB (c : UInt8) : Bool := decide (c.toNat < 32) || decide (c.toNat = 127)
theorem cleanGo_eq : ∀ (n f : Nat) (s : Stp), s.length ≤ n → s.length ≤ f → Lib.validD s = true → cleanGo f s = !s.any lowB
  | 0, f, s, hn, _, _ => by
    cases s with
    | nil => cases f <;> rfl
    | cons c r => simp at hn
  | n + 1, f, s, hn, hf, hv => by
    by_cases hne : s = []
    · subst hne; cases f <;> rfl
    obtain ⟨r, t, hr, rfl, ht, hd⟩ := valid_cut s hne hv
    obtain ⟨E, hE⟩ : ∃ E, encodeRune r = E := ⟨_, rfl⟩
    have hEne := encode_ne r
    rw [hE] at hEne
    cases E with
    | nil => exact absurd rfl hEne
    | cons e E' =>
      rw [hE] at hd hn hf ⊢
      obtain ⟨g, rfl⟩ : ∃ g, f = g + 1 := ⟨f - 1, by simp at hf; omega⟩
      rw [List.cons_append, cleanGo]
      rw [List.cons_append] at hd
      rw [hd]
      have e1 : (e :: (E' ++ t)).drop (e :: E').length = t := by rw [show e :: (E' ++ t) = (e :: E') ++ t from rfl, List.drop_left]
      rw [e1, cleanGo_eq n g t (by simp at hn; omega) (by simp at hf; omega) ht]
      rw [show e :: (E' ++ t) = (e :: E') ++ t from rfl, List.any_append]
      have hr0 := hr.1
      have key : (e :: E').any lowB = (decide (r.toNat < 32) || (r.toNat == 127)) := by
        by_cases h128 : r < 128
        · obtain ⟨d, hd2⟩ : ∃ d : UInt8, r = (d.toNat : Int) := ⟨UInt8.ofNat r.toNat, by rw [UInt8.toNat_ofNat']; omega⟩
          subst hd2
          rw [← hE, encode_one d (by omega), List.any_cons, List.any_nil, Bool.or_false, Int.toNat_natCast]
          unfold lowB
          congr 1
        · have h1 : (decide (r.toNat < 32) || (r.toNat == 127)) = false := by
            rw [Bool.or_eq_false_iff]
            exact ⟨decide_eq_false (by omega), beq_eq_false_iff_ne.2 (by omega)⟩
          rw [h1, List.any_eq_false]
          intro c hc
          rw [← hE] at hc
          have := encode_high r hr (by omega) c hc
          unfold lowB
          simp only [Bool.or_eq_true, decide_eq_true_eq]
          omega
      rw [key]
      cases (decide (r.toNat < 32) || (r.toNat == 127)) <;> simp
theorem clean_eq (s : Stp) : cleanB s = (Lib.validD s && !s.any lowB) := by
  unfold cleanB
  cases hv : Lib.validD s with
  | false => simp
  | true => rw [cleanGo_eq s.length s.length s (Nat.le_refl _) (Nat.le_refl _) hv]; simp
/-! Bare. -/
def pairsB : Stp → Bool
  | a :: b :: r => !((a == 58 && b == 32) || (a == 32 && b == 35)) && pairsB (b :: r)
  | _ => true
theorem contains_cons (b : UInt8) (l sub : Stp) : Lib.contains (b :: l) sub = (sub.isPrefixOf (b :: l) || Lib.contains l sub) := by
  unfold Lib.contains
  rw [Lib.index]
  have hg := Lib.index_ge l sub
  split
  · rename_i h; rw [h]; simp
  · rename_i h
    rw [Bool.not_eq_true] at h
    rw [h, Bool.false_or]
    split
    · rename_i h2
      rw [beq_iff_eq] at h2
      rw [h2]
    · rename_i h2
      simp only [beq_iff_eq] at h2
      rw [decide_eq_decide]
      omega
theorem pairs_eq : ∀ s : Stp, (!Lib.contains s [58, 32] && !Lib.contains s [32, 35]) = pairsB s
  | [] => by rfl
  | [a] => by
    rw [contains_cons, contains_cons]
    have e1 : Lib.contains [] [58, 32] = false := by decide
    have e2 : Lib.contains [] [32, 35] = false := by decide
    rw [e1, e2]
    simp [List.isPrefixOf, pairsB]
  | a :: b :: r => by
    rw [contains_cons, contains_cons a, pairsB, ← pairs_eq (b :: r)]
    simp only [List.isPrefixOf, Bool.and_true]
    have e1 : ((58 : UInt8) == a) = (a == 58) := BEq.comm
    have e2 : ((32 : UInt8) == b) = (b == 32) := BEq.comm
    have e3 : ((32 : UInt8) == a) = (a == 32) := BEq.comm
    have e4 : ((35 : UInt8) == b) = (b == 35) := BEq.comm
    rw [e1, e2, e3, e4]
    cases (a == 58 && b == 32) <;> cases (a == 32 && b == 35) <;> cases Lib.contains (b :: r) [58, 32] <;> cases Lib.contains (b :: r) [32, 35] <;> rfl
theorem drop_len (p : UInt8 → Bool) : ∀ l : Stp, (l.dropWhile p).length ≤ l.length
  | [] => Nat.le_refl _
  | x :: l => by
    rw [List.dropWhile_cons]
    split
    · have := drop_len p l; simp only [List.length_cons]; omega
    · exact Nat.le_refl _
theorem drop_whole (p : UInt8 → Bool) (l : Stp) (h : l.length ≤ (l.dropWhile p).length) : l.dropWhile p = l := by
  cases l with
  | nil => rfl
  | cons x l =>
    rw [List.dropWhile_cons] at h ⊢
    split
    · rename_i hp
      rw [if_pos hp] at h
      have := drop_len p l
      simp only [List.length_cons] at h
      omega
    · rfl
theorem trim_eq (s : Stp) : decide (Lib.trimB s 32 = s) = (decide (s.head? ≠ some 32) && decide (s.getLast? ≠ some 32)) := by
  rw [← Bool.decide_and, decide_eq_decide]
  unfold Lib.trimB Lib.trimLeftB Lib.trimRightB
  constructor
  · intro h
    have hl := congrArg List.length h
    have h1 := drop_len (· == 32) ((s.reverse.dropWhile (· == 32)).reverse)
    have h2 := drop_len (· == 32) s.reverse
    rw [List.length_reverse] at h1 h2
    have e1 := drop_whole (· == 32) s.reverse (by rw [List.length_reverse]; omega)
    rw [e1, List.reverse_reverse] at h
    refine ⟨fun e => ?_, fun e => ?_⟩
    · have := drop_headT (· == 32) s 32 (by rw [h]; exact e)
      simp at this
    · have := drop_headT (· == 32) s.reverse 32 (by rw [e1, List.head?_reverse]; exact e)
      simp at this
  · rintro ⟨h1, h2⟩
    have no : ∀ l : Stp, l.head? ≠ some 32 → l.dropWhile (· == 32) = l := by
      intro l hl
      cases l with
      | nil => rfl
      | cons x l =>
        rw [List.dropWhile_cons, if_neg]
        intro e
        rw [beq_iff_eq] at e
        exact hl (by rw [e]; rfl)
    rw [no s.reverse (by rw [List.head?_reverse]; exact h2), List.reverse_reverse, no s h1]
/-- Bare, as the reference reckons it. -/
def bareR (s : Stp) : Bool := match s with
  | [] => false
  | c :: r => cleanB (c :: r) && !(c == 32) && !((c :: r).getLast? == some 32) && !((c :: r).getLast? == some 58) && !signsL.contains c && !(c == 45 && (r.isEmpty || r.head? == some 32)) && pairsB (c :: r)
theorem bare_eq (s : Stp) : bareB s = bareR s := by
  cases s with
  | nil => rfl
  | cons c r =>
    unfold bareB bareR
    simp only []
    rw [trim_eq]
    have e1 : decide (0 ≤ Lib.indexByte signsL c) = signsL.contains c := (Lib.contains_iff_indexByte signsL c).symm
    have e2 : Lib.hasSuffix (c :: r) [58] = ((c :: r).getLast? == some 58) := by
      unfold Lib.hasSuffix List.isSuffixOf
      rw [List.reverse_singleton]
      have hh : (c :: r).reverse.head? = (c :: r).getLast? := List.head?_reverse
      cases hr : (c :: r).reverse with
      | nil => simp at hr
      | cons x l =>
        rw [hr] at hh
        rw [← hh]
        simp only [List.isPrefixOf, Bool.and_true, List.head?_cons]
        rw [show ((58 : UInt8) == x) = (x == 58) from BEq.comm]
        rfl
    have e3 : (!decide (c :: r = [45]) && !Lib.hasPrefix (c :: r) [45, 32]) = !(c == 45 && (r.isEmpty || r.head? == some 32)) := by
      unfold Lib.hasPrefix
      cases r with
      | nil =>
        simp only [List.isPrefixOf, Bool.and_false, List.isEmpty_nil, Bool.true_or, Bool.and_true, Bool.not_false]
        congr 1
        rw [Bool.eq_iff_iff]; simp
      | cons b r =>
        simp only [List.isPrefixOf, Bool.and_true, List.isEmpty_cons, Bool.false_or, List.head?_cons]
        have : decide (c :: b :: r = [45]) = false := decide_eq_false (by simp)
        rw [this]
        simp only [Bool.not_false, Bool.true_and]
        rw [show ((45 : UInt8) == c) = (c == 45) from BEq.comm, show ((32 : UInt8) == b) = (b == 32) from BEq.comm]
        rfl
    have e4 : (decide ((c :: r).head? ≠ some 32)) = !(c == 32) := by
      rw [Bool.eq_iff_iff]; simp
    have e5 : (decide ((c :: r).getLast? ≠ some 32)) = !((c :: r).getLast? == some 32) := by
      rw [Bool.eq_iff_iff]; simp
    rw [e1, e2, e4, e5, ← e3, ← pairs_eq]
    generalize cleanB (c :: r) = a1
    generalize (c == 32) = a2
    generalize ((c :: r).getLast? == some 32) = a3
    generalize signsL.contains c = a4
    generalize decide (c :: r = [45]) = a5
    generalize Lib.hasPrefix (c :: r) [45, 32] = a6
    generalize ((c :: r).getLast? == some 58) = a7
    generalize Lib.contains (c :: r) [58, 32] = a8
    generalize Lib.contains (c :: r) [32, 35] = a9
    cases a1 <;> cases a2 <;> cases a3 <;> cases a4 <;> cases a5 <;> cases a6 <;> cases a7 <;> cases a8 <;> cases a9 <;> rfl
/-! safe. -/
theorem rep_no {old new : Stp} {b : UInt8} {l : Stp} (h : old.isPrefixOf (b :: l) = false) (k : Nat) : Lib.replaceK old new k (b :: l) = b :: Lib.replaceK old new k l := by
  cases k with
  | zero => rfl
  | succ k =>
    have hg := Lib.index_ge l old
    have e0 : Lib.index (b :: l) old = if (Lib.index l old == -1) = true then -1 else Lib.index l old + 1 := by rw [Lib.index, if_neg (by rw [h]; simp)]
    rw [Lib.replaceK, Lib.replaceK]
    by_cases hi : Lib.index l old = -1
    · rw [if_pos (show (Lib.index l old == -1) = true by rw [hi]; rfl)] at e0
      rw [if_pos (by rw [e0]; rfl), if_pos (by rw [hi]; rfl)]
    · have h1 : ¬ (Lib.index l old == -1) = true := by simpa using hi
      rw [if_neg h1] at e0
      rw [if_neg h1, if_neg (by rw [e0, beq_iff_eq]; omega), e0]
      obtain ⟨i, hx⟩ : ∃ i : Nat, Lib.index l old = i := ⟨(Lib.index l old).toNat, by omega⟩
      rw [hx]
      have e1 : ((i : Int) + 1).toNat = i + 1 := by omega
      have e2 : i + 1 + old.length = (i + old.length) + 1 := by omega
      rw [e1, Int.toNat_natCast, e2, List.take_succ_cons, List.drop_succ_cons]
      rfl
theorem cnt_skip {old : Stp} {b : UInt8} {l : Stp} (ho : old ≠ []) (h : old.isPrefixOf (b :: l) = false) : Lib.count (b :: l) old = Lib.count l old := by
  have hg := Lib.index_ge l old
  have e0 : Lib.index (b :: l) old = if (Lib.index l old == -1) = true then -1 else Lib.index l old + 1 := by rw [Lib.index, if_neg (by rw [h]; simp)]
  by_cases hi : Lib.index l old = -1
  · rw [Lib.count_miss hi, Lib.count_miss (by rw [e0, if_pos (by rw [hi]; rfl)])]
  · obtain ⟨i, hx⟩ : ∃ i : Nat, Lib.index l old = i := ⟨(Lib.index l old).toNat, by omega⟩
    rw [if_neg (by simpa using hi), hx] at e0
    rw [Lib.count_hit ho hx, Lib.count_hit (i := i + 1) ho (by rw [e0]; omega)]
    have e2 : i + 1 + old.length = (i + old.length) + 1 := by omega
    rw [e2, List.drop_succ_cons]
theorem rep_yes {old new : Stp} {b : UInt8} {l : Stp} (h : old.isPrefixOf (b :: l) = true) (k : Nat) : Lib.replaceK old new (k + 1) (b :: l) = new ++ Lib.replaceK old new k ((b :: l).drop old.length) := by
  rw [Lib.replaceK_hit old new k (b :: l) 0 (by rw [Lib.index, if_pos h]; rfl)]
  simp
theorem cnt_yes {old : Stp} {b : UInt8} {l : Stp} (ho : old ≠ []) (h : old.isPrefixOf (b :: l) = true) : Lib.count (b :: l) old = 1 + Lib.count ((b :: l).drop old.length) old := by
  rw [Lib.count_hit (i := 0) ho (by rw [Lib.index, if_pos h]; rfl)]
  simp
theorem repA_k {s old new : Stp} (h : (old == new) = false) : Lib.replaceAll s old new = Lib.replaceK old new (Lib.count s old) s := by
  unfold Lib.replaceAll Lib.replace Lib.replaceNum
  rw [if_neg (by rw [h]; simp), if_pos (.inl (by decide))]
def rub1 (c : UInt8) : Stp := if c = 127 then rubL else [c]
theorem safe1_k : ∀ (s : Stp) (k : Nat), Lib.count s [127] ≤ k → Lib.replaceK [127] rubL k s = s.flatMap rub1
  | [], k, _ => by cases k <;> rfl
  | b :: l, k, h => by
    by_cases hb : b = 127
    · have hp : ([127] : Stp).isPrefixOf (b :: l) = true := by rw [hb]; rfl
      rw [cnt_yes (by decide) hp] at h
      obtain ⟨k, rfl⟩ : ∃ j, k = j + 1 := ⟨k - 1, by omega⟩
      rw [show (b :: l).drop ([127] : Stp).length = l from rfl] at h
      rw [rep_yes hp, show (b :: l).drop ([127] : Stp).length = l from rfl, safe1_k l k (by omega), List.flatMap_cons, rub1, if_pos hb]
    · have hp : ([127] : Stp).isPrefixOf (b :: l) = false := by
        simp only [List.isPrefixOf, Bool.and_true]
        exact beq_eq_false_iff_ne.2 (fun e => hb e.symm)
      rw [rep_no hp, safe1_k l k (by rw [← cnt_skip (by decide) hp]; exact h), List.flatMap_cons, rub1, if_neg hb]
      rfl
theorem safe1_eq (s : Stp) : safe1 s = s.flatMap rub1 := by
  unfold safe1
  rw [repA_k (by decide)]
  exact safe1_k s _ (Nat.le_refl _)
def safe2 : Stp → Stp
  | [] => []
  | [c] => [c]
  | a :: b :: r => if a = 32 ∧ b = 35 then hashL ++ safe2 r else a :: safe2 (b :: r)
theorem safe2_k : ∀ (n : Nat) (s : Stp) (k : Nat), s.length ≤ n → Lib.count s [32, 35] ≤ k → Lib.replaceK [32, 35] hashL k s = safe2 s
  | n, [], k, _, _ => by cases k <;> rfl
  | n, [c], k, _, _ => by
    have hp : ([32, 35] : Stp).isPrefixOf [c] = false := by simp [List.isPrefixOf]
    rw [rep_no hp, safe2]
    cases k <;> rfl
  | 0, a :: b :: r, k, hn, _ => by simp at hn
  | n + 1, a :: b :: r, k, hn, h => by
    by_cases hb : a = 32 ∧ b = 35
    · have hp : ([32, 35] : Stp).isPrefixOf (a :: b :: r) = true := by rw [hb.1, hb.2]; rfl
      rw [cnt_yes (by decide) hp, show (a :: b :: r).drop ([32, 35] : Stp).length = r from rfl] at h
      obtain ⟨k, rfl⟩ : ∃ j, k = j + 1 := ⟨k - 1, by omega⟩
      rw [rep_yes hp, show (a :: b :: r).drop ([32, 35] : Stp).length = r from rfl, safe2, if_pos hb, safe2_k n r k (by simp at hn; omega) (by omega)]
    · have hp : ([32, 35] : Stp).isPrefixOf (a :: b :: r) = false := by
        rw [← Bool.not_eq_true]
        intro e
        simp only [List.isPrefixOf, Bool.and_true, Bool.and_eq_true, beq_iff_eq] at e
        exact hb ⟨e.1.symm, e.2.symm⟩
      rw [rep_no hp, safe2, if_neg hb, safe2_k n (b :: r) k (by simp at hn ⊢; omega) (by rw [← cnt_skip (by decide) hp]; exact h)]
def hash3 : Stp := [92, 117, 48, 48, 50, 51]
/-- The reference's safe: p tells whether a blank stands ahead. -/
def safeGo (p : Bool) : Stp → Stp
  | [] => []
  | c :: r => (if c = 127 then rubL else if c = 35 ∧ p = true then hash3 else [c]) ++ safeGo (c == 32) r
theorem safeGo_p {c : UInt8} {r : Stp} (h : c ≠ 35) (p : Bool) : safeGo p (c :: r) = safeGo false (c :: r) := by
  rw [safeGo, safeGo]
  simp [h]
theorem safe2_skip (c : UInt8) (l : Stp) (h : c ≠ 32) : safe2 (c :: l) = c :: safe2 l := by
  cases l with
  | nil => rfl
  | cons b r => rw [safe2, if_neg (fun e => h e.1)]
theorem safe2_rub (l : Stp) : safe2 (rubL ++ l) = rubL ++ safe2 l := by
  unfold rubL
  simp only [List.cons_append, List.nil_append]
  rw [safe2_skip _ _ (by decide), safe2_skip _ _ (by decide), safe2_skip _ _ (by decide), safe2_skip _ _ (by decide), safe2_skip _ _ (by decide), safe2_skip _ _ (by decide)]
theorem safe_go : ∀ (n : Nat) (s : Stp), s.length ≤ n → safe2 (s.flatMap rub1) = safeGo false s
  | _, [], _ => rfl
  | 0, c :: r, h => by simp at h
  | n + 1, c :: r, h => by
    rw [List.flatMap_cons, safeGo]
    have ih := safe_go n r (by simp at h; omega)
    by_cases h127 : c = 127
    · rw [rub1, if_pos h127, safe2_rub, ih, if_pos h127, show (c == 32) = false by rw [h127]; rfl]
    · rw [rub1, if_neg h127, if_neg h127, if_neg (by simp)]
      by_cases h32 : c = 32
      · subst h32
        cases r with
        | nil => rfl
        | cons b r =>
          by_cases hb : b = 35
          · subst hb
            have e1 : ([32] : Stp) ++ List.flatMap rub1 (35 :: r) = 32 :: 35 :: List.flatMap rub1 r := by rw [List.flatMap_cons]; rfl
            rw [e1, safe2, if_pos ⟨rfl, rfl⟩, safe_go n r (by simp at h; omega), safeGo, if_neg (by decide), if_pos ⟨rfl, rfl⟩]
            rfl
          · have e2 : safe2 (([32] : Stp) ++ List.flatMap rub1 (b :: r)) = 32 :: safe2 (List.flatMap rub1 (b :: r)) := by
              rw [List.flatMap_cons, rub1]
              split
              · rfl
              · show safe2 (32 :: b :: List.flatMap rub1 r) = 32 :: safe2 (b :: List.flatMap rub1 r)
                rw [safe2, if_neg (fun e => hb e.2)]
            rw [e2, ih, safeGo_p hb (32 == 32)]
            rfl
      · rw [show [c] ++ List.flatMap rub1 r = c :: List.flatMap rub1 r from rfl, safe2_skip _ _ h32, ih, show (c == 32) = false from beq_eq_false_iff_ne.2 h32]
        rfl
theorem safe_eq (t : Stp) : safeL t = safeGo false t := by
  unfold safeL
  rw [repA_k (by decide), safe2_k _ _ _ (Nat.le_refl _) (Nat.le_refl _), safe1_eq]
  exact safe_go t.length t (Nat.le_refl _)
end Go.Proofs.YtnnlpkbopeiefaaGreatDoor
/-! The reference's clean and Bare. -/
namespace Go.Proofs.YtnnlpkbopeiefaaGreatDoor
set_option linter.unusedSimpArgs false
set_option linter.unusedVariables false
open Go.RowKit
open Go.Lib hiding intOf
theorem rvalid_any (l : Stp) (w : World) (hs : l.length ≤ 4611686018427387904) :
    ∃ N : Int, Calls Tryz.prog 69 #[.string (bs l)] w fun e w' => e = .returned (.tuple #[.int .i64 N, .bool (Lib.validD l)]) ∧ Below w.heap.size w w' := by
  refine ⟨(validRes (bs l)).1, (refValid_any (bs l) w (by rw [bs_size]; exact hs)).mono ?_⟩
  rintro e w' ⟨rfl, rfl⟩
  exact ⟨by rw [validRes_snd, bs_data], Below.refl _ _⟩
theorem drop_byte {l : Stp} {i : Nat} {b : UInt8} (h : l[i]? = some b) : l.drop i = b :: l.drop (i + 1) := by
  obtain ⟨h1, h2⟩ := List.getElem?_eq_some_iff.1 h
  rw [List.drop_eq_getElem_cons h1, h2]
theorem low_int (b : UInt8) (x : Int) (hx : (b.toNat : Int) = x) : lowB b = (decide (x < 32) || (x == 127)) := by
  unfold lowB
  subst hx
  congr 1
  · rw [decide_eq_decide]; omega
  · rw [Bool.eq_iff_iff, decide_eq_true_iff, beq_iff_eq]; omega
set_option maxRecDepth 100000 in
set_option maxHeartbeats 1000000 in
theorem rclean_any (l : Stp) (w : World) (hs : l.length ≤ 4611686018427387904) :
    Calls Tryz.prog 82 #[.string (bs l)] w fun e w' => e = .returned (.bool (cleanB l)) ∧ Below w.heap.size w w' := by
  have sl := bs_size l
  obtain ⟨N, hv⟩ := rvalid_any l w hs
  have HV := Lib.hid hv
  clear hv
  have hce := clean_eq l
  obtain ⟨V, hV⟩ : ∃ V, Lib.validD l = V := ⟨_, rfl⟩
  obtain ⟨Q, hQ⟩ : ∃ Q, cleanB l = Q := ⟨_, rfl⟩
  rw [hV] at HV hce
  rw [hQ] at hce ⊢
  have HQ : Hid ((V && !(l.drop 0).any lowB) = Q) := Lib.hid (by rw [List.drop_zero]; exact hce.symm)
  clear hV hQ hce
  go_enter Tryz.func82, Tryz.ntmps82
  go_wp2_with fail
  refine HV.out.mono ?_
  rintro e w2 ⟨rfl, hb2⟩
  have HB2 := Lib.hid hb2
  clear hb2 HV
  go_wp2_with fail
  go_loopw [5] (fun s5 wr => ∃ i : Nat, s5 = .int .i64 (i : Int) ∧ i ≤ l.length ∧ Hid ((V && !(l.drop i).any lowB) = Q) ∧ Hid (Below w.heap.size w wr)) (fun s5 _ => l.length - (RowKit.intOf s5).toNat)
  case atStart => exact ⟨0, rfl, Nat.zero_le _, HQ, HB2⟩
  case round =>
    obtain ⟨i, rfl, hi, HQi, HBr⟩ := hrel
    by_cases hlt : i < l.length
    · have hlt' : i < (bs l).size := by omega
      have dk : decide ((i : Int) < (l.length : Int)) = true := decide_eq_true (by omega)
      have hiz : (i : Int) < (l.length : Int) := by omega
      have hbi := at_bs l i hlt'
      obtain ⟨b, hb⟩ : ∃ b, (bs l)[i]'hlt' = b := ⟨_, rfl⟩
      rw [hb] at hbi
      have hq := HQi.out
      rw [drop_byte hbi, List.any_cons] at hq
      obtain ⟨x, hx⟩ : ∃ x : Int, (b.toNat : Int) = x := ⟨_, rfl⟩
      have hge3 : (((bs l)[i]'hlt').toNat : Int) = x := by rw [hb, hx]
      rw [low_int b x hx] at hq
      have HX := Lib.hid hq
      clear hq hbi hb hx HQi
      by_cases h32 : x < 32
      · have d32 : decide (x < 32) = true := decide_eq_true h32
        have hF : Q = false := by have := HX.out; rw [d32] at this; simpa using this.symm
        subst hF
        clear h32
        go_wp2_with fail
        go_ret
        exact ⟨rfl, HBr.out⟩
      · have d32 : decide (x < 32) = false := decide_eq_false h32
        by_cases h127 : x = 127
        · have d127 : (x == 127) = true := beq_iff_eq.2 h127
          have hF : Q = false := by have := HX.out; rw [d32, d127] at this; simpa using this.symm
          subst hF
          clear h32 HX
          subst h127
          go_wp2_with fail
          go_ret
          exact ⟨rfl, HBr.out⟩
        · have d127 : (x == 127) = false := beq_eq_false_iff_ne.2 h127
          have HX2 : Hid ((V && !(l.drop (i + 1)).any lowB) = Q) := Lib.hid (by have := HX.out; rw [d32, d127] at this; simpa using this)
          clear h32 h127 HX
          go_wp2_with fail
          go_roundw
          case rel => exact ⟨i + 1, by go_num, by omega, HX2, by first | exact HBr | exact Lib.hid (below_drewN HBr.out _)⟩
          case measure => simp [RowKit.intOf]; omega
    · have dk : decide ((i : Int) < (l.length : Int)) = false := decide_eq_false (by omega)
      obtain rfl : V = Q := by
        have := HQi.out
        rw [List.drop_of_length_le (by omega)] at this
        simpa using this
      go_wp2_with fail
      go_ret
      exact ⟨rfl, HBr.out⟩
end Go.Proofs.YtnnlpkbopeiefaaGreatDoor
/-! The reference's Bare. -/
namespace Go.Proofs.YtnnlpkbopeiefaaGreatDoor
set_option linter.unusedSimpArgs false
set_option linter.unusedVariables false
open Go.RowKit
open Go.Lib hiding intOf
theorem at_lit {m : Stp} {S : ByteArray} (h : bs m = S) (i : Nat) (hi : i < S.size) : m[i]? = some (S[i]'hi) := by
  subst h
  exact at_bs m i hi
theorem byte_int {b : UInt8} {x : Int} (hx : (b.toNat : Int) = x) (n : UInt8) : (b == n) = (x == (n.toNat : Int)) := by
  subst hx
  rw [Bool.eq_iff_iff, beq_iff_eq, beq_iff_eq]
  exact ⟨fun e => by rw [e], fun e => UInt8.toNat_inj.1 (by omega)⟩
set_option maxRecDepth 100000 in
set_option maxHeartbeats 1000000 in
/-- From the second loop on. -/
theorem rbare_any (l : Stp) (w : World) (hs : l.length ≤ 4611686018427387904) :
    Calls Tryz.prog 41 #[.string (bs l)] w fun e w' => e = .returned (.bool (bareB l)) ∧ Below w.heap.size w w' := by
  rw [bare_eq]
  have sl := bs_size l
  have CC := Lib.hid (rclean_any l w hs)
  cases l with
  | nil =>
    have e1 : cleanB [] = true := rfl
    rw [e1] at CC
    clear e1
    go_enter Tryz.func41, Tryz.ntmps41
    go_wp2_with fail
    refine CC.out.mono ?_
    rintro e w2 ⟨rfl, hb2⟩
    have HB2 := Lib.hid hb2
    clear hb2 CC
    go_wp2_with fail
    go_ret
    exact ⟨rfl, HB2.out⟩
  | cons c r =>
  obtain ⟨l, hl⟩ : ∃ l, c :: r = l := ⟨_, rfl⟩
  obtain ⟨K, hK⟩ : ∃ K, l.length = K + 1 := ⟨r.length, by rw [← hl]; rfl⟩
  obtain ⟨Q, hQ⟩ : ∃ Q, bareR (c :: r) = Q := ⟨_, rfl⟩
  have hr1 : (r.isEmpty || r.head? == some 32) = (K == 0 || l[1]? == some 32) := by
    rw [← hl] at hK ⊢
    cases r with
    | nil => simp at hK; subst hK; rfl
    | cons b r => simp at hK; rw [← hK]; simp
  have hq := hQ
  unfold bareR at hq
  simp only [] at hq
  rw [hr1, hl] at hq
  have h0' : l[0]? = some c := by rw [← hl]; rfl
  have hlast : l.getLast? = l[K]? := by rw [List.getLast?_eq_getElem?, hK, Nat.add_sub_cancel]
  rw [hlast] at hq
  rw [hQ]
  rw [hl] at CC sl hs ⊢
  clear hQ hl hr1 hlast
  obtain ⟨A, hA⟩ : ∃ A, cleanB l = A := ⟨_, rfl⟩
  rw [hA] at hq CC
  clear hA
  have sz : ((bs l).size : Int) = (K : Int) + 1 := by omega
  have hz : ((K : Int) + 1 == 0) = false := beq_eq_false_iff_ne.2 (by omega)
  have hsb : (K : Int) + 1 - 1 = (K : Int) := by omega
  have hp0 : 0 < (bs l).size := by omega
  have hpK : K < (bs l).size := by omega
  have hge0 : (bs l)[0]'hp0 = c := by
    have := at_bs l 0 hp0
    rw [h0'] at this
    exact (Option.some.inj this).symm
  obtain ⟨z, hzz⟩ : ∃ z, (bs l)[K]'hpK = z := ⟨_, rfl⟩
  have hK? := at_bs l K hpK
  rw [hzz] at hK?
  rw [hK?] at hq
  obtain ⟨x, hx⟩ : ∃ x : Int, (c.toNat : Int) = x := ⟨_, rfl⟩
  obtain ⟨y, hy⟩ : ∃ y : Int, (z.toNat : Int) = y := ⟨_, rfl⟩
  have hgex : (((bs l)[0]'hp0).toNat : Int) = x := by rw [hge0, hx]
  have hgey : (((bs l)[K]'hpK).toNat : Int) = y := by rw [hzz, hy]
  have hs1 : (some z == some (32 : UInt8)) = (y == 32) := byte_int hy 32
  have hs2 : (some z == some (58 : UInt8)) = (y == 58) := byte_int hy 58
  rw [hs1, hs2, byte_int hx 32, byte_int hx 45] at hq
  have hq : (A && !(x == 32) && !(y == 32) && !(y == 58) && !signsL.contains c && !((x == 45) && ((K == 0) || (l[1]? == some 32))) && pairsB l) = Q := hq
  have HX := Lib.hid hx
  have HQ := Lib.hid hq
  have HK := Lib.hid hK
  clear hs1 hs2 hx hy hK? hzz hge0 hq h0'
  obtain ⟨S, hS⟩ : ∃ S, bs signsL = S := ⟨_, rfl⟩
  have HS := Lib.hid hS
  have hSs : S.size = 18 := by rw [← hS]; rfl
  clear hS
  cases A with
  | false =>
    obtain rfl : Q = false := by have := HQ.out; simpa using this.symm
    go_enter Tryz.func41, Tryz.ntmps41
    go_wp2_with fail
    refine CC.out.mono ?_
    rintro e w2 ⟨rfl, hb2⟩
    have HB2 := Lib.hid hb2
    clear hb2 CC
    go_wp2_with fail
    go_ret
    exact ⟨rfl, HB2.out⟩
  | true =>
  by_cases hb3 : x = 32 ∨ y = 32 ∨ y = 58
  · obtain rfl : Q = false := by
      have := HQ.out
      rw [← this]
      rcases hb3 with h | h | h <;> subst h <;> simp
    go_enter Tryz.func41, Tryz.ntmps41
    go_wp2_with fail
    refine CC.out.mono ?_
    rintro e w2 ⟨rfl, hb2⟩
    have HB2 := Lib.hid hb2
    clear hb2 CC
    by_cases h1 : x = 32
    · have d1 : (x == 32) = true := beq_iff_eq.2 h1
      clear h1 hb3
      go_wp2_with fail
      go_ret
      exact ⟨rfl, HB2.out⟩
    · have d1 : (x == 32) = false := beq_eq_false_iff_ne.2 h1
      by_cases h2 : y = 32
      · have d2 : (y == 32) = true := beq_iff_eq.2 h2
        clear h1 h2 hb3
        go_wp2_with fail
        go_ret
        exact ⟨rfl, HB2.out⟩
      · have d2 : (y == 32) = false := beq_eq_false_iff_ne.2 h2
        have d3 : (y == 58) = true := beq_iff_eq.2 (by omega)
        clear h1 h2 hb3
        go_wp2_with fail
        go_ret
        exact ⟨rfl, HB2.out⟩
  have d1 : (x == 32) = false := beq_eq_false_iff_ne.2 (by omega)
  have d2 : (y == 32) = false := beq_eq_false_iff_ne.2 (by omega)
  have d3 : (y == 58) = false := beq_eq_false_iff_ne.2 (by omega)
  clear hb3
  have HQ2 : Hid ((!(signsL.drop 0).contains c && (!((x == 45) && ((K == 0) || (l[1]? == some 32))) && pairsB l)) = Q) := Lib.hid (by
    have := HQ.out
    rw [d1, d2, d3] at this
    rw [List.drop_zero, ← this]
    simp [Bool.and_assoc])
  clear HQ
  go_enter Tryz.func41, Tryz.ntmps41
  go_wp2_with fail
  refine CC.out.mono ?_
  rintro e w2 ⟨rfl, hb2⟩
  have HB2 := Lib.hid hb2
  clear hb2 CC
  go_upto_region 5 with fail
  go_cut [5] (fun s5 wx => s5 = .string S ∧ Hid (Below w.heap.size w wx))
  case first =>
    go_wp2_with fail
    go_meet
    exact ⟨by rw [← HS.out]; rfl, HB2⟩
  case rest =>
  obtain ⟨rfl, HB3⟩ := hcut
  clear d1 d2 d3
  go_wp2_with fail
  go_loopw [6] (fun s6 wr => ∃ i : Nat, s6 = .int .i64 (i : Int) ∧ i ≤ 18 ∧ Hid ((!(signsL.drop i).contains c && (!((x == 45) && ((K == 0) || (l[1]? == some 32))) && pairsB l)) = Q) ∧ Hid (Below w.heap.size w wr)) (fun s6 _ => 18 - (RowKit.intOf s6).toNat)
  case atStart => exact ⟨0, rfl, Nat.zero_le _, HQ2, HB3⟩
  case round =>
    obtain ⟨i, rfl, hi, HQi, HBr⟩ := hrel
    by_cases hlt : i < 18
    · have hlt' : i < S.size := by omega
      have dk : decide ((i : Int) < 18) = true := decide_eq_true (by omega)
      have hiz : (i : Int) < 18 := by omega
      have hbi := at_lit HS.out i hlt'
      obtain ⟨b, hb⟩ : ∃ b, S[i]'hlt' = b := ⟨_, rfl⟩
      rw [hb] at hbi
      have hq := HQi.out
      rw [drop_byte hbi, List.contains_cons] at hq
      obtain ⟨v, hv⟩ : ∃ v : Int, (b.toNat : Int) = v := ⟨_, rfl⟩
      have hgev : ((S[i]'hlt').toNat : Int) = v := by rw [hb, hv]
      have hcb : (c == b) = (x == v) := by rw [byte_int HX.out b, hv]
      rw [hcb] at hq
      have HQn := Lib.hid hq
      clear hq hbi hb hv HQi hcb
      by_cases hxv : x = v
      · have dx : (x == v) = true := beq_iff_eq.2 hxv
        obtain rfl : Q = false := by have := HQn.out; rw [dx] at this; simpa using this.symm
        clear hxv HQn
        go_upto_region 9 with fail
        go_region
        all_goals
          go_wp2_with fail
          go_ret
          exact ⟨rfl, by first | exact HBr.out | exact below_drewN HBr.out _⟩
      · have dx : (x == v) = false := beq_eq_false_iff_ne.2 hxv
        have HQm : Hid ((!(signsL.drop (i + 1)).contains c && (!((x == 45) && ((K == 0) || (l[1]? == some 32))) && pairsB l)) = Q) := Lib.hid (by have := HQn.out; rw [dx] at this; simpa using this)
        clear hxv HQn
        go_upto_region 9 with fail
        go_region
        all_goals
          go_wp2_with fail
          go_roundw
          case rel => exact ⟨i + 1, by go_num, by omega, HQm, by first | exact HBr | exact Lib.hid (below_drewN HBr.out _)⟩
          case measure => simp [RowKit.intOf]; omega
    · have dk : decide ((i : Int) < 18) = false := decide_eq_false (by omega)
      have HQ3 : Hid ((!((x == 45) && ((K == 0) || (l[1]? == some 32))) && pairsB l) = Q) := Lib.hid (by
        have := HQi.out
        rw [List.drop_of_length_le (by show 18 ≤ i; omega)] at this
        simpa using this)
      clear HQi
      have key : Hid ((x = 45 ∧ (K = 0 ∨ l[1]? = some 32) ∧ Q = false) ∨ (¬ (x = 45 ∧ (K = 0 ∨ l[1]? = some 32)) ∧ pairsB (l.drop 0) = Q)) := Lib.hid (by
        have h := HQ3.out
        rw [List.drop_zero]
        by_cases hc : x = 45 ∧ (K = 0 ∨ l[1]? = some 32)
        · left
          refine ⟨hc.1, hc.2, ?_⟩
          rw [← h]
          have : ((x == 45) && ((K == 0) || (l[1]? == some 32))) = true := by
            simp only [Bool.and_eq_true, Bool.or_eq_true, beq_iff_eq]
            exact hc
          rw [this]; rfl
        · right
          refine ⟨hc, ?_⟩
          rw [← h]
          have : ((x == 45) && ((K == 0) || (l[1]? == some 32))) = false := by
            rw [← Bool.not_eq_true]
            simp only [Bool.and_eq_true, Bool.or_eq_true, beq_iff_eq]
            exact hc
          rw [this]; rfl)
      clear HQ3
      go_upto_region 11 with fail
      go_cut [60] (fun s60 wx => ∃ q : Bool, s60 = .bool q ∧ Hid (q = true → Q = false) ∧ Hid (q = false → pairsB (l.drop 0) = Q) ∧ Hid (Below w.heap.size w wx))
      case first =>
        by_cases h45 : x = 45
        · have d45 : (x == 45) = true := beq_iff_eq.2 h45
          by_cases hK0 : K = 0
          · have dK : ((K : Int) + 1 == 1) = true := beq_iff_eq.2 (by omega)
            have hQf : Hid (Q = false) := Lib.hid (by
              rcases key.out with h | h
              · exact h.2.2
              · exact absurd ⟨h45, .inl hK0⟩ h.1)
            clear h45 hK0
            go_wp2_with fail
            go_meet
            exact ⟨true, rfl, Lib.hid (fun _ => hQf.out), Lib.hid (fun h => by cases h), HBr⟩
          · have dK : ((K : Int) + 1 == 1) = false := beq_eq_false_iff_ne.2 (by omega)
            have hp1 : 1 < (bs l).size := by omega
            have hb1 := at_bs l 1 hp1
            obtain ⟨b, hb⟩ : ∃ b, (bs l)[1]'hp1 = b := ⟨_, rfl⟩
            rw [hb] at hb1
            obtain ⟨v, hv⟩ : ∃ v : Int, (b.toNat : Int) = v := ⟨_, rfl⟩
            have hgev : (((bs l)[1]'hp1).toNat : Int) = v := by rw [hb, hv]
            by_cases h32 : v = 32
            · have d32 : (v == 32) = true := beq_iff_eq.2 h32
              have hQf : Hid (Q = false) := Lib.hid (by
                rcases key.out with h | h
                · exact h.2.2
                · refine absurd ⟨h45, .inr ?_⟩ h.1
                  rw [hb1]
                  congr 1
                  exact UInt8.toNat_inj.1 (by show b.toNat = 32; omega))
              clear h45 hK0 hb hb1 hv
              subst h32
              go_wp2_with fail
              go_meet
              exact ⟨true, rfl, Lib.hid (fun _ => hQf.out), Lib.hid (fun h => by cases h), HBr⟩
            · have d32 : (v == 32) = false := beq_eq_false_iff_ne.2 h32
              have hQf : Hid (pairsB (l.drop 0) = Q) := Lib.hid (by
                rcases key.out with h | h
                · exfalso
                  rcases h.2.1 with h | h
                  · exact hK0 h
                  · rw [hb1] at h
                    have := Option.some.inj h
                    rw [this] at hv
                    exact h32 hv.symm
                · exact h.2)
              clear h45 hK0 hb hb1 hv h32
              go_wp2_with fail
              go_meet
              exact ⟨false, rfl, Lib.hid (fun h => by cases h), Lib.hid (fun _ => hQf.out), HBr⟩
        · have d45 : (x == 45) = false := beq_eq_false_iff_ne.2 h45
          have hQf : Hid (pairsB (l.drop 0) = Q) := Lib.hid (by
            rcases key.out with h | h
            · exact absurd h.1 h45
            · exact h.2)
          clear h45
          go_wp2_with fail
          go_meet
          exact ⟨false, rfl, Lib.hid (fun h => by cases h), Lib.hid (fun _ => hQf.out), HBr⟩
      case rest =>
      obtain ⟨q, rfl, HQt, HQf, HB4⟩ := hcut
      cases q with
      | true =>
        obtain rfl := HQt.out rfl
        go_wp2_with fail
        go_ret
        exact ⟨rfl, HB4.out⟩
      | false =>
        have HP := Lib.hid (HQf.out rfl)
        clear HQt HQf key
        go_wp2_with fail
        go_loopw [7] (fun s7 wr => ∃ i : Nat, s7 = .int .i64 (i : Int) ∧ i ≤ K ∧ Hid (pairsB (l.drop i) = Q) ∧ Hid (Below w.heap.size w wr)) (fun s7 _ => K - (RowKit.intOf s7).toNat)
        case atStart => exact ⟨0, rfl, Nat.zero_le _, HP, HB4⟩
        case round =>
          obtain ⟨j, rfl, hj, HQj, HBj⟩ := hrel
          by_cases hlj : j < K
          · have hj0 : j < (bs l).size := by omega
            have hj1 : j + 1 < (bs l).size := by omega
            have dj : decide ((j : Int) + 1 < (K : Int) + 1) = true := decide_eq_true (by omega)
            have hjz : (j : Int) + 1 < (K : Int) + 1 := by omega
            have dj2 : decide ((j : Int) < (K : Int)) = true := decide_eq_true (by omega)
            have hja := at_bs l j hj0
            have hjb := at_bs l (j + 1) hj1
            obtain ⟨a, ha⟩ : ∃ b, (bs l)[j]'hj0 = b := ⟨_, rfl⟩
            obtain ⟨b, hb⟩ : ∃ b, (bs l)[j + 1]'hj1 = b := ⟨_, rfl⟩
            rw [ha] at hja
            rw [hb] at hjb
            have hq := HQj.out
            rw [drop_byte hja, drop_byte hjb, pairsB, ← drop_byte hjb] at hq
            obtain ⟨u, hu⟩ : ∃ v : Int, (a.toNat : Int) = v := ⟨_, rfl⟩
            obtain ⟨v, hv⟩ : ∃ v : Int, (b.toNat : Int) = v := ⟨_, rfl⟩
            have hgeu : (((bs l)[j]'hj0).toNat : Int) = u := by rw [ha, hu]
            have hgev : (((bs l)[j + 1]'hj1).toNat : Int) = v := by rw [hb, hv]
            rw [byte_int hu 58, byte_int hv 32, byte_int hu 32, byte_int hv 35] at hq
            have HQn : Hid ((!(((u == 58) && (v == 32)) || ((u == 32) && (v == 35))) && pairsB (l.drop (j + 1))) = Q) := Lib.hid hq
            clear hq hja hjb ha hb hu hv HQj
            by_cases h1 : u = 58
            · have t1 : (u == 58) = true := beq_iff_eq.2 h1
              have t2 : (u == 32) = false := beq_eq_false_iff_ne.2 (by omega)
              by_cases h2 : v = 32
              · have t3 : (v == 32) = true := beq_iff_eq.2 h2
                obtain rfl : Q = false := by have := HQn.out; rw [t1, t3] at this; simpa using this.symm
                clear h1 h2 HQn
                go_wp2_with fail
                go_ret
                exact ⟨rfl, HBj.out⟩
              · have t3 : (v == 32) = false := beq_eq_false_iff_ne.2 h2
                have HQm : Hid (pairsB (l.drop (j + 1)) = Q) := Lib.hid (by have := HQn.out; rw [t1, t2, t3] at this; simpa using this)
                clear h1 h2 HQn
                go_wp2_with fail
                go_roundw
                case rel => exact ⟨j + 1, by go_num, by omega, HQm, by first | exact HBj | exact Lib.hid (below_drewN HBj.out _)⟩
                case measure => simp [RowKit.intOf]; omega
            · have t1 : (u == 58) = false := beq_eq_false_iff_ne.2 h1
              by_cases h2 : u = 32
              · have t2 : (u == 32) = true := beq_iff_eq.2 h2
                by_cases h3 : v = 35
                · have t3 : (v == 35) = true := beq_iff_eq.2 h3
                  obtain rfl : Q = false := by have := HQn.out; rw [t1, t2, t3] at this; simpa using this.symm
                  clear h1 h2 h3 HQn
                  go_wp2_with fail
                  go_ret
                  exact ⟨rfl, HBj.out⟩
                · have t3 : (v == 35) = false := beq_eq_false_iff_ne.2 h3
                  have HQm : Hid (pairsB (l.drop (j + 1)) = Q) := Lib.hid (by have := HQn.out; rw [t1, t2, t3] at this; simpa using this)
                  clear h1 h2 h3 HQn
                  go_wp2_with fail
                  go_roundw
                  case rel => exact ⟨j + 1, by go_num, by omega, HQm, by first | exact HBj | exact Lib.hid (below_drewN HBj.out _)⟩
                  case measure => simp [RowKit.intOf]; omega
              · have t2 : (u == 32) = false := beq_eq_false_iff_ne.2 h2
                have HQm : Hid (pairsB (l.drop (j + 1)) = Q) := Lib.hid (by have := HQn.out; rw [t1, t2] at this; simpa using this)
                clear h1 h2 HQn
                go_wp2_with fail
                go_roundw
                case rel => exact ⟨j + 1, by go_num, by omega, HQm, by first | exact HBj | exact Lib.hid (below_drewN HBj.out _)⟩
                case measure => simp [RowKit.intOf]; omega
          · have dj : decide ((j : Int) + 1 < (K : Int) + 1) = false := decide_eq_false (by omega)
            have dj2 : decide ((j : Int) < (K : Int)) = false := decide_eq_false (by omega)
            obtain rfl : Q = true := by
              have h := HQj.out
              have hjk : j = K := by omega
              have hlen : (l.drop j).length = 1 := by rw [List.length_drop, HK.out]; omega
              match hd : l.drop j, hlen with
              | [a], _ => rw [hd] at h; exact h.symm
            go_wp2_with fail
            go_ret
            exact ⟨rfl, HBj.out⟩
end Go.Proofs.YtnnlpkbopeiefaaGreatDoor

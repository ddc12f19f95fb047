import Derived.Test.YtdegjfmjjabnnaaGreatDoorMkC
import Derived.Lib.AtoiAll
/-! PLAIN: decoding as the program does it, and that it finds just the marked texts. -/
namespace Go.Proofs.YtdegjfmjjabnnaaGreatDoor
set_option linter.unusedSimpArgs false
set_option linter.unusedVariables false
open Go.Lib (index cut occAt index_spec index_first index_none NoOcc occAt_room atoiAll parseMag parseUint10)

theorem pu_dig : ∀ (l : List UInt8) (acc : Nat), l.all isDig = true → l.foldl (fun a c => 10 * a + (c.toNat - 48)) acc < 9223372036854775808 → parseUint10 acc l = .ok (l.foldl (fun a c => 10 * a + (c.toNat - 48)) acc)
  | [], acc, _, _ => by rw [parseUint10]; rfl
  | c :: l, acc, h, hb => by
    rw [List.all_cons, Bool.and_eq_true] at h
    have hc : 48 ≤ c.toNat ∧ c.toNat ≤ 57 := by
      have := h.1
      unfold isDig at this
      simpa using this
    have hge : ∀ (l : List UInt8) (a : Nat), a ≤ l.foldl (fun a c => 10 * a + (c.toNat - 48)) a := by
      intro l
      induction l with
      | nil => intro a; exact Nat.le_refl _
      | cons d l ih => intro a; rw [List.foldl_cons]; exact Nat.le_trans (by omega) (ih _)
    rw [List.foldl_cons] at hb ⊢
    have h1 := hge l (10 * acc + (c.toNat - 48))
    have e : acc * 10 + (c.toNat - 48) = 10 * acc + (c.toNat - 48) := by omega
    rw [parseUint10, if_pos (by omega), if_neg (by omega), if_neg (by omega), e]
    exact pu_dig l _ h.2 hb
theorem decV_nat : ∀ (l : List UInt8) (a : Nat), l.all isDig = true → l.foldl (fun a c => 10 * a + ((c.toNat : Int) - 48)) (a : Int) = ((l.foldl (fun a c => 10 * a + (c.toNat - 48)) a : Nat) : Int)
  | [], a, _ => rfl
  | c :: l, a, h => by
    rw [List.all_cons, Bool.and_eq_true] at h
    have hc : 48 ≤ c.toNat ∧ c.toNat ≤ 57 := by
      have := h.1
      unfold isDig at this
      simpa using this
    rw [List.foldl_cons, List.foldl_cons, ← decV_nat l _ h.2]
    congr 1
    omega
theorem atoi_itoa (n : Nat) (hn : n < 9223372036854775808) : atoiAll (Go.Lib.itoa (n : Int)) = .ok (n : Int) := by
  rw [Go.Lib.itoa_nonneg]
  obtain ⟨h1, h2, h3⟩ := decDigits_dig n
  have h4 := decV_nat (Go.Lib.decDigits n) 0 h1
  unfold decV at h3
  rw [Int.natCast_zero, h3] at h4
  have h5 := pu_dig (Go.Lib.decDigits n) 0 h1 (by omega)
  cases hd : Go.Lib.decDigits n with
  | nil => exact absurd hd h2
  | cons c r =>
    rw [hd] at h1 h4 h5
    rw [List.all_cons, Bool.and_eq_true] at h1
    have hc : 48 ≤ c.toNat ∧ c.toNat ≤ 57 := by
      have := h1.1
      unfold isDig at this
      simpa using this
    unfold atoiAll
    simp only []
    rw [if_neg (by omega)]
    unfold parseMag
    rw [if_neg (by simp), h5]
    simp only []
    rw [if_neg (by omega), if_neg (by omega), if_neg (by omega), ← h4]
def headP : List UInt8 := [35, 109, 97, 114, 107, 115, 32]
/-- The width that a text's first line tells, and the rest. -/
def widthL (s : List UInt8) : Nat × List UInt8 :=
  if (cut s [10]).2.2 = true ∧ headP <+: (cut s [10]).1 then match atoiAll ((cut s [10]).1.drop 7) with
    | .ok n => if 7 ≤ n ∧ n ≤ s.length then (n.toNat, (cut s [10]).2.1) else (0, [])
    | _ => (0, [])
  else (0, [])
def decP (s : List UInt8) : Option (List Part) :=
  if (widthL s).1 = 0 then none else match coreM (widthL s).1 ((widthL s).2.length + 1) (widthL s).2 with
    | none => none
    | some out => if encM out = (s, 0) then some out else none
theorem widthL_good {s : List UInt8} {l : List Part} (h : Good s l) (hs : s.length < 9223372036854775808) : widthL s = (widthM l, bodyM (widthM l) l) := by
  obtain ⟨hr, he, hw, hw2⟩ := good_shape h
  have hc := head_cut (widthM l) (bodyM (widthM l) l)
  rw [← he] at hc
  unfold widthL
  rw [hc]
  simp only []
  have e : ([35, 109, 97, 114, 107, 115, 32] ++ Go.Lib.itoa (widthM l) : List UInt8).drop 7 = Go.Lib.itoa (widthM l) := rfl
  rw [if_pos ⟨trivial, List.prefix_append _ _⟩, e, atoi_itoa _ (by omega)]
  simp only []
  rw [if_pos ⟨by omega, by omega⟩, Int.toNat_natCast]
theorem core_body (n : Nat) : ∀ (f : Nat) (s : List UInt8) (l : List Part), s.length < f → coreM n f s = some l → bodyM n l = s := by
  intro f
  induction f with
  | zero => intro s l hf; omega
  | succ f ih =>
    intro s l hf h
    rw [coreM] at h
    by_cases hs : s = []
    · rw [if_pos hs] at h
      cases h
      rw [hs]; rfl
    rw [if_neg hs] at h
    by_cases k1 : (cut s (mark 60 n)).2.2 = false
    · rw [if_pos k1] at h
      cases h
      rw [cut_miss _ _ k1]
      show ([textP s].flatMap fun x => if x.hunk then hunkL n x else x.text) = s
      simp [textP]
    rw [if_neg k1] at h
    by_cases k2 : (cut (cut s (mark 60 n)).2.1 (mark 124 n)).2.2 = false
    · rw [if_pos k2] at h; cases h
    rw [if_neg k2] at h
    by_cases k3 : (cut (cut (cut s (mark 60 n)).2.1 (mark 124 n)).2.1 (mark 61 n)).2.2 = false
    · rw [if_pos k3] at h; cases h
    rw [if_neg k3] at h
    by_cases k4 : (cut (cut (cut (cut s (mark 60 n)).2.1 (mark 124 n)).2.1 (mark 61 n)).2.1 (mark 62 n)).2.2 = false
    · rw [if_pos k4] at h; cases h
    rw [if_neg k4] at h
    have s1 := cut_size _ _ (by simpa using k1)
    have s2 := cut_size _ _ (by simpa using k2)
    have s3 := cut_size _ _ (by simpa using k3)
    have s4 := cut_size _ _ (by simpa using k4)
    have l1 := cut_lt _ _ (by simpa using k1)
    have l2 := cut_lt _ _ (by simpa using k2)
    have l3 := cut_lt _ _ (by simpa using k3)
    have l4 := cut_lt _ _ (by simpa using k4)
    rw [mark_len] at l1 l2 l3 l4
    generalize hA : cut s (mark 60 n) = A at *
    generalize hB : cut A.2.1 (mark 124 n) = B at *
    generalize hC : cut B.2.1 (mark 61 n) = C at *
    generalize hD : cut C.2.1 (mark 62 n) = D at *
    obtain ⟨r, hr, rfl⟩ := Option.map_eq_some_iff.1 h
    have hi := ih D.2.1 r (by omega) hr
    have e : bodyM n ((if A.1 = [] then [] else [textP A.1]) ++ ⟨true, [], C.1, B.1, D.1⟩ :: r) = A.1 ++ (hunkL n ⟨true, [], C.1, B.1, D.1⟩ ++ bodyM n r) := by
      by_cases ha : A.1 = []
      · rw [if_pos ha, ha]; rfl
      · rw [if_neg ha]; rfl
    rw [e, hi, s1, s2, s3, s4]
    unfold hunkL
    simp only [List.append_assoc]
theorem body_plain (n m : Nat) : ∀ (l : List Part), anyHunk l = false → bodyM n l = bodyM m l
  | [], _ => rfl
  | x :: l, h => by
    unfold anyHunk at h
    rw [List.any_cons, Bool.or_eq_false_iff] at h
    have := body_plain n m l h.2
    unfold bodyM at this ⊢
    rw [List.flatMap_cons, List.flatMap_cons, this, h.1]
    rfl
/-- What the program decodes: just the marked texts. -/
theorem decP_good (s : List UInt8) (l : List Part) (hs : s.length < 9223372036854775808) : decP s = some l ↔ Good s l := by
  constructor
  · intro h
    unfold decP at h
    by_cases h0 : (widthL s).1 = 0
    · rw [if_pos h0] at h; cases h
    rw [if_neg h0] at h
    cases hc : coreM (widthL s).1 ((widthL s).2.length + 1) (widthL s).2 with
    | none => rw [hc] at h; cases h
    | some out =>
      rw [hc] at h
      simp only [] at h
      by_cases he : encM out = (s, 0)
      · rw [if_pos he] at h
        cases h
        refine ⟨he, ?_⟩
        cases ha : anyHunk l with
        | true => rfl
        | false =>
          exfalso
          have hb := core_body _ _ _ _ (Nat.lt_succ_self _) hc
          unfold encM at he
          by_cases hr : rightM l = true
          · rw [if_pos hr, if_neg (by rw [ha]; decide), List.nil_append, body_plain _ (widthL s).1 l ha, hb] at he
            have hlt : (widthL s).2.length < s.length := by
              unfold widthL at h0 ⊢
              by_cases k : (cut s [10]).2.2 = true ∧ headP <+: (cut s [10]).1
              · rw [if_pos k] at h0 ⊢
                have := cut_lt _ _ k.1
                split
                · split
                  · simp only [List.length_cons, List.length_nil] at this ⊢; omega
                  · simp only [List.length_cons, List.length_nil] at this ⊢; omega
                · simp only [List.length_cons, List.length_nil] at this ⊢; omega
              · rw [if_neg k] at h0
                exact absurd rfl h0
            have := congrArg List.length (Prod.mk.inj he).1
            omega
          · rw [if_neg hr] at he
            exact absurd (Prod.mk.inj he).2 (by decide)
      · rw [if_neg he] at h; cases h
  · intro h
    have hw := widthL_good h hs
    obtain ⟨_, _, h7, _⟩ := good_shape h
    unfold decP
    rw [hw]
    simp only []
    rw [if_neg (by omega), good_core h _ (Nat.lt_succ_self _)]
    simp only []
    rw [if_pos h.1]
end Go.Proofs.YtdegjfmjjabnnaaGreatDoor

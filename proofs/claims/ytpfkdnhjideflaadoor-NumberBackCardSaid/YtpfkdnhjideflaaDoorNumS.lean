import Derived.Test.YtpfkdnhjideflaaDoorNumN
import Derived.Test.YtpfkdnhjideflaaDoorNumO
/-! The walks of the reference: size, Compare. -/
namespace Go.Proofs.YtpfkdnhjideflaaDoor
set_option linter.unusedSimpArgs false
set_option linter.unusedVariables false
open Go.RowKit
open Go.Lib hiding intOf

def digI (l : List UInt8) (k : Nat) : Int := match l[k]? with | some c => (c.toNat : Int) - 48 | none => 0
theorem Two.start0 (a b : Num) (w : World) (t : TypeId) : Two w.heap.size a b w ((w.alloc (.cells #[.bool a.neg, .string (bs a.dig), .int .i64 a.exp] t)).alloc (.cells #[.bool b.neg, .string (bs b.dig), .int .i64 b.exp] t)) :=
  let h := Two.start a b w t
  ⟨h.1, h.2.out.1, ((Below.refl _ _).alloc (Nat.le_refl _) _).alloc (by simp) _⟩
theorem ite3 (c d : Nat) (X : Int) : (if c < d then -1 else if d < c then 1 else X) = if (c : Int) - 48 < (d : Int) - 48 then -1 else if (d : Int) - 48 < (c : Int) - 48 then 1 else X := by
  rcases Nat.lt_trichotomy c d with h | h | h
  · rw [if_pos h, if_pos (by omega)]
  · subst h; simp
  · rw [if_neg (show ¬ c < d by omega), if_neg (show ¬ ((c : Int) - 48 < (d : Int) - 48) by omega), if_pos h, if_pos (by omega)]
theorem padCmp_step (a b : List UInt8) (k : Nat) (h : k < a.length ∨ k < b.length) (ha : a.all isDig = true) (hb : b.all isDig = true) :
    padCmp (a.drop k) (b.drop k) = if digI a k < digI b k then -1 else if digI b k < digI a k then 1 else padCmp (a.drop (k + 1)) (b.drop (k + 1)) := by
  unfold digI
  by_cases h1 : k < a.length <;> by_cases h2 : k < b.length
  · rw [List.drop_eq_getElem_cons h1, List.drop_eq_getElem_cons h2, List.getElem?_eq_getElem h1, List.getElem?_eq_getElem h2]
    simp only [padCmp]
    exact ite3 _ _ _
  · have e1 : b.drop k = [] := List.drop_of_length_le (by omega)
    have e2 : b.drop (k + 1) = [] := List.drop_of_length_le (by omega)
    rw [List.drop_eq_getElem_cons h1, e1, e2, List.getElem?_eq_getElem h1, List.getElem?_eq_none (by omega)]
    simp only [padCmp]
    exact ite3 _ 48 _
  · have e1 : a.drop k = [] := List.drop_of_length_le (by omega)
    have e2 : a.drop (k + 1) = [] := List.drop_of_length_le (by omega)
    rw [List.drop_eq_getElem_cons h2, e1, e2, List.getElem?_eq_getElem h2, List.getElem?_eq_none (by omega)]
    simp only [padCmp]
    exact ite3 48 _ _
  · omega
theorem digI_at (l : List UInt8) (k : Nat) (h : k < (bs l).size) (hd : l.all isDig = true) : 48 ≤ ((bs l)[k]'h).toNat ∧ ((bs l)[k]'h).toNat ≤ 57 ∧ digI l k = (((bs l)[k]'h).toNat : Int) - 48 := by
  have hs := bs_size l
  have hk : k < l.length := by omega
  have hb : (bs l)[k]'h = l[k] := by simp [bs, ByteArray.getElem_eq_getElem_data]
  rw [List.all_eq_true] at hd
  have h1 := of_decide_eq_true (hd _ (List.getElem_mem hk))
  rw [hb]
  unfold digI
  rw [List.getElem?_eq_getElem hk]
  exact ⟨h1.1, h1.2, rfl⟩
theorem digI_out (l : List UInt8) (k : Nat) (h : l.length ≤ k) : digI l k = 0 := by unfold digI; rw [List.getElem?_eq_none h]
theorem digI_bd (l : List UInt8) (k : Nat) (hd : l.all isDig = true) : 0 ≤ digI l k ∧ digI l k ≤ 9 := by
  unfold digI
  cases h : l[k]? with
  | none => simp
  | some c =>
    rw [List.all_eq_true] at hd
    have h1 := of_decide_eq_true (hd c (List.mem_of_getElem? h))
    simp only []; omega
def min1 (l : List UInt8) : Int := if l = [] then 0 else 1
def sizeL (a b : Num) : Int := if a.dig = [] ∨ b.dig = [] then min1 a.dig - min1 b.dig else farL a b
theorem rightB_digs {n : Num} (h : rightB n = true) : n.dig.all isDig = true ∧ n.dig.getLast? ≠ some 48 := by
  rcases of_decide_eq_true h with h | h
  · subst h; exact ⟨rfl, by decide⟩
  · exact ⟨(allDig_ne h.1).2, h.2.2.2.1⟩
set_option maxRecDepth 100000 in
set_option maxHeartbeats 4000000 in
theorem size_any (a b : Num) (w : World) (ha : rightB a = true) (hb : rightB b = true) :
    Calls Tryd.prog 44 #[.agg #[.bool a.neg, .string (bs a.dig), .int .i64 a.exp], .agg #[.bool b.neg, .string (bs b.dig), .int .i64 b.exp]] w fun en w' => en = .returned (.int .i64 (sizeL a b)) ∧ Below w.heap.size w w' := by
  obtain ⟨R, hR⟩ : ∃ R, sizeL a b = R := ⟨_, rfl⟩
  rw [hR]
  obtain ⟨la, ea1, ea2⟩ := rightB_bd ha
  obtain ⟨lb, eb1, eb2⟩ := rightB_bd hb
  obtain ⟨da, ta⟩ := rightB_digs ha
  obtain ⟨db, tb⟩ := rightB_digs hb
  obtain ⟨na, A, ea⟩ := a
  obtain ⟨nb, B, eb⟩ := b
  simp only [] at la ea1 ea2 lb eb1 eb2 da ta db tb hR ⊢
  have sa := bs_size A
  have sb := bs_size B
  have hAt : (bs A).toList = A := by rw [Lib.toList_data, bs_data]
  have hBt : (bs B).toList = B := by rw [Lib.toList_data, bs_data]
  unfold sizeL at hR
  simp only [] at hR
  clear ha hb
  by_cases h0 : A = [] ∨ B = []
  · rw [if_pos h0] at hR
    have HR := Lib.hid hR; clear hR ta tb da db
    by_cases hA : A = []
    · rw [hA] at hAt
      have m1 : min1 A = 0 := by unfold min1; rw [if_pos hA]
      by_cases hB : B = []
      · subst hA hB
        go_enter Tryd.func44, Tryd.ntmps44
        go_wp2_with fail
        go_ret
        exact ⟨ret_int HR.out, ((Below.refl _ _).alloc (Nat.le_refl _) _).alloc (by simp) _⟩
      · have m2 : min1 B = 1 := by unfold min1; rw [if_neg hB]
        have hl : 1 ≤ B.length := by cases B with | nil => exact absurd rfl hB | cons _ _ => simp
        have HF := Lib.hid (show -1 = R from by rw [← HR.out, m1, m2]; rfl)
        subst hA
        clear m1 m2 hB h0 HR
        go_enter Tryd.func44, Tryd.ntmps44
        go_wp2_with fail
        go_ret
        exact ⟨ret_int (by have := HF.out; omega), ((Below.refl _ _).alloc (Nat.le_refl _) _).alloc (by simp) _⟩
    · have hB : B = [] := h0.resolve_left hA
      have m1 : min1 A = 1 := by unfold min1; rw [if_neg hA]
      have m2 : min1 B = 0 := by unfold min1; rw [if_pos hB]
      have hl : 1 ≤ A.length := by cases A with | nil => exact absurd rfl hA | cons _ _ => simp
      have HF := Lib.hid (show 1 = R from by rw [← HR.out, m1, m2]; rfl)
      have a1 : ¬ (bs A).toList = [] := by rw [hAt]; exact hA
      have a2 : ((bs A).toList == []) = false := beq_eq_false_iff_ne.2 a1
      have a3 : (bs A).toList.isEmpty = false := by rw [hAt]; cases A with | nil => exact absurd rfl hA | cons _ _ => rfl
      subst hB
      have b3 : (bs ([] : List UInt8)).toList.isEmpty = true := by rw [Lib.toList_data, bs_data]; rfl
      clear m1 m2 hA h0 HR hAt hBt
      go_enter Tryd.func44, Tryd.ntmps44
      go_wp2_with fail
      go_ret
      exact ⟨ret_int (by have := HF.out; omega), ((Below.refl _ _).alloc (Nat.le_refl _) _).alloc (by simp) _⟩
  rw [if_neg h0] at hR
  have hne : A ≠ [] ∧ B ≠ [] := ⟨fun h => h0 (.inl h), fun h => h0 (.inr h)⟩
  have a1 : ¬ (bs A).toList = [] := by rw [hAt]; exact hne.1
  have a2 : ((bs A).toList == []) = false := beq_eq_false_iff_ne.2 a1
  have a3 : (bs A).toList.isEmpty = false := by rw [hAt]; cases A with | nil => exact absurd rfl hne.1 | cons _ _ => rfl
  have b1 : ¬ (bs B).toList = [] := by rw [hBt]; exact hne.2
  have b2 : ((bs B).toList == []) = false := beq_eq_false_iff_ne.2 b1
  have b3 : (bs B).toList.isEmpty = false := by rw [hBt]; cases B with | nil => exact absurd rfl hne.2 | cons _ _ => rfl
  clear h0 hne hAt hBt
  unfold farL topOf at hR
  simp only [] at hR
  rw [← padCmp_bytes A B da db ta tb] at hR
  have HDa := Lib.hid da; have HDb := Lib.hid db
  clear ta tb da db
  have ka := heap_alloc_new w (.cells #[.bool na, .string (bs A), .int .i64 ea] 24)
  by_cases t1 : (A.length : Int) + ea < (B.length : Int) + eb
  · rw [if_pos t1] at hR
    subst hR
    go_enter Tryd.func44, Tryd.ntmps44
    go_wp2_with fail
    go_ret
    exact ⟨rfl, ((Below.refl _ _).alloc (Nat.le_refl _) _).alloc (by simp) _⟩
  by_cases t2 : (B.length : Int) + eb < (A.length : Int) + ea
  · rw [if_neg t1, if_pos t2] at hR
    subst hR
    go_enter Tryd.func44, Tryd.ntmps44
    go_wp2_with fail
    go_ret
    exact ⟨rfl, ((Below.refl _ _).alloc (Nat.le_refl _) _).alloc (by simp) _⟩
  rw [if_neg t1, if_neg t2] at hR
  have HR := Lib.hid hR; clear hR
  have tt : ((A.length : Int) + ea != (B.length : Int) + eb) = false := by rw [bne_eq_false_iff_eq]; omega
  go_enter Tryd.func44, Tryd.ntmps44
  have hst := Two.start0 ⟨na, A, ea⟩ ⟨nb, B, eb⟩ w 24
  go_upto_region 9 with fail
  go_cut [7] (fun s7 wx => s7 = .int .i64 0 ∧ Two w.heap.size ⟨na, A, ea⟩ ⟨nb, B, eb⟩ w wx)
  case first =>
    go_wp2_with fail
    go_meet
    exact ⟨rfl, hst⟩
  obtain ⟨rfl, ⟨⟨r0, r1, r2, q0, q1, q2⟩, HB⟩⟩ := hcut
  simp only [] at r0 r1 r2 q0 q1 q2
  clear hst ka t1 t2 tt a1 a2 a3 b1 b2 b3
  go_wp2_with fail
  go_loopw [7, 8, 9] (fun s7 _ _ wr => ∃ k : Nat, s7 = .int .i64 k ∧ k ≤ 1000 ∧ Hid (padCmp (A.drop k) (B.drop k) = R) ∧ wc = wr) (fun s7 _ _ _ => 1000 - (RowKit.intOf s7).toNat)
  case atStart => exact ⟨0, rfl, by omega, HR.out, rfl⟩
  case round =>
    obtain ⟨k, rfl, hk, HP, rfl⟩ := hrel
    by_cases hlt : k < A.length ∨ k < B.length
    · obtain ⟨c, hc⟩ : ∃ c, digI A k = c := ⟨_, rfl⟩
      obtain ⟨d, hd⟩ : ∃ d, digI B k = d := ⟨_, rfl⟩
      have hp := HP.out
      rw [padCmp_step A B k hlt HDa.out HDb.out, hc, hd] at hp
      have cb := digI_bd A k HDa.out
      have db := digI_bd B k HDb.out
      rw [hc] at cb
      rw [hd] at db
      have HC := Lib.hid hc; have HD := Lib.hid hd; have HP2 := Lib.hid hp
      clear hc hd hp HP
      go_upto_region 10 with fail
      go_cut [56] (fun s56 wx => s56 = .bool true ∧ wc = wx)
      case first =>
        by_cases h1 : k < A.length
        · go_wp2_with fail
          go_meet
          exact ⟨rfl, rfl⟩
        · have h2 : k < B.length := by omega
          go_wp2_with fail
          go_meet
          exact ⟨rfl, rfl⟩
      obtain ⟨rfl, rfl⟩ := hcut
      go_upto_if 63 with fail
      go_cut [8] (fun s8 wx => s8 = .int .i64 c ∧ wc = wx)
      case first =>
        by_cases h1 : k < A.length
        · have h1' : k < (bs A).size := by omega
          obtain ⟨g1, g2, g3⟩ := digI_at A k h1' HDa.out
          have HG := Lib.hid (HC.out.symm.trans g3); clear g3
          go_wp2_with fail
          go_meet
          exact ⟨by rw [HG.out], rfl⟩
        · have HG := Lib.hid (HC.out.symm.trans (digI_out A k (by omega)))
          go_wp2_with fail
          go_meet
          exact ⟨by rw [HG.out], rfl⟩
      obtain ⟨rfl, rfl⟩ := hcut
      go_upto_if 74 with fail
      go_cut [9] (fun s9 wx => s9 = .int .i64 d ∧ wc = wx)
      case first =>
        by_cases h1 : k < B.length
        · have h1' : k < (bs B).size := by omega
          obtain ⟨g1, g2, g3⟩ := digI_at B k h1' HDb.out
          have HG := Lib.hid (HD.out.symm.trans g3); clear g3
          go_wp2_with fail
          go_meet
          exact ⟨by rw [HG.out], rfl⟩
        · have HG := Lib.hid (HD.out.symm.trans (digI_out B k (by omega)))
          go_wp2_with fail
          go_meet
          exact ⟨by rw [HG.out], rfl⟩
      obtain ⟨rfl, rfl⟩ := hcut
      by_cases g1 : c < d
      · have hp := HP2.out
        rw [if_pos g1] at hp
        have HF := Lib.hid hp; clear hp
        go_wp2_with fail
        go_ret
        exact ⟨ret_int HF.out, HB.out.2⟩
      by_cases g2 : d < c
      · have hp := HP2.out
        rw [if_neg g1, if_pos g2] at hp
        have HF := Lib.hid hp; clear hp
        go_wp2_with fail
        go_ret
        exact ⟨ret_int HF.out, HB.out.2⟩
      have hp := HP2.out
      rw [if_neg g1, if_neg g2] at hp
      have HF := Lib.hid hp; clear hp
      go_wp2_with fail
      go_roundw
      case rel => exact ⟨k + 1, by go_num, by omega, HF.out, trivial⟩
      case measure => simp [RowKit.intOf]; omega
    · have hp := HP.out
      rw [List.drop_of_length_le (by omega), List.drop_of_length_le (by omega)] at hp
      have HF := Lib.hid hp; clear hp
      have h1 : ¬ k < A.length := by omega
      have h2 : ¬ k < B.length := by omega
      go_wp2_with fail
      go_ret
      exact ⟨ret_int (show 0 = R from by have := HF.out; simpa [padCmp] using this), HB.out.2⟩
end Go.Proofs.YtpfkdnhjideflaaDoor

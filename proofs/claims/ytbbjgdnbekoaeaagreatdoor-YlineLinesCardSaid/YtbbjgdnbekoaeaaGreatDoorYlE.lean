import Derived.Test.YtbbjgdnbekoaeaaGreatDoorYlD
import Derived.Lib.ReplaceLaws
import Derived.Lib.SplitLaws
/-! The walk of yline.Quoted: it returns sqw. -/
namespace Go.Proofs.YtbbjgdnbekoaeaaGreatDoor
set_option linter.unusedSimpArgs false
set_option linter.unusedVariables false
open Go.RowKit
open Go.Lib hiding intOf

theorem dbl_none : ∀ (s : List UInt8), (∀ k : Nat, s[k]? ≠ some 39) → dbl s = s
  | [], _ => rfl
  | c :: t, h => by
    show (if c = 39 then [39, 39] else [c]) ++ dbl t = c :: t
    rw [if_neg (fun e => h 0 (by rw [e]; rfl)), dbl_none t (fun k => by have := h (k + 1); rw [List.getElem?_cons_succ] at this; exact this)]; rfl
theorem rep_dbl : ∀ (n : Nat) (s : List UInt8) (k : Nat), s.length ≤ n → s.count 39 ≤ k → Lib.replaceK [39] [39, 39] k s = dbl s
  | n, s, k, hn, hk => by
    rcases Int.lt_or_le (Lib.indexByte s 39) 0 with hi | hi
    · have hm : Lib.indexByte s 39 = -1 := by have := Lib.indexByte_ge s 39; omega
      have hno := Lib.indexByte_none hm
      rw [dbl_none s hno]
      cases k with
      | zero => rfl
      | succ k =>
        unfold Lib.replaceK
        rw [Lib.index_one, hm]; rfl
    · obtain ⟨i, hx⟩ : ∃ i : Nat, Lib.indexByte s 39 = i := ⟨_, (Int.toNat_of_nonneg hi).symm⟩
      obtain ⟨h1, h2⟩ := Lib.indexByte_some hx
      have hil := (List.getElem?_eq_some_iff.1 h1).1
      have hsp : s = s.take i ++ 39 :: s.drop (i + 1) := by
        have h3 := List.drop_eq_getElem_cons hil
        have h4 : s[i] = 39 := by rw [List.getElem?_eq_getElem hil] at h1; exact Option.some.inj h1
        rw [h4] at h3
        rw [← h3, List.take_append_drop]
      have hc : s.count 39 = (s.take i).count 39 + ((s.drop (i + 1)).count 39 + 1) := by
        conv => lhs; rw [hsp]
        rw [List.count_append, List.count_cons_self]
      obtain ⟨k, rfl⟩ : ∃ j, k = j + 1 := ⟨k - 1, by omega⟩
      cases n with
      | zero => omega
      | succ n =>
      rw [Lib.replaceK_hit [39] [39, 39] k s i (by rw [Lib.index_one]; exact hx)]
      rw [show i + ([39] : List UInt8).length = i + 1 from rfl, rep_dbl n (s.drop (i + 1)) k (by rw [List.length_drop]; omega) (by omega)]
      have hd : dbl (s.take i) = s.take i := dbl_none _ (fun j hj => by
        by_cases hji : j < i
        · rw [List.getElem?_take, if_pos hji] at hj; exact h2 j hji hj
        · rw [List.getElem?_take, if_neg hji] at hj; cases hj)
      conv => rhs; rw [hsp, dbl_append, hd]
      show _ = s.take i ++ ([39, 39] ++ dbl (s.drop (i + 1)))
      rw [List.append_assoc]
termination_by n => n
theorem replace_dbl (s : List UInt8) : Lib.replaceAll s [39] [39, 39] = dbl s := by
  unfold Lib.replaceAll Lib.replace
  rw [if_neg (by decide)]
  refine rep_dbl s.length s _ (Nat.le_refl _) ?_
  unfold Lib.replaceNum
  rw [if_pos (.inl (by decide)), Lib.count_one]
  exact Nat.le_refl _
/-- internal/bytealg.MaxLen holds an int. -/
def MVar (w : World) : Prop := ∃ m : Int, w.cell? ⟨2, 0, none⟩ = some (.int .i64 m)
theorem MVar.keep {w w' : World} (h : MVar w) (hb : Below w.heap.size w w') : MVar w' := let ⟨m, hm⟩ := h; ⟨m, by rw [hb.cell (p := ⟨_, _, none⟩) (cell_lt hm)]; exact hm⟩
theorem replace_any (l : List UInt8) (w : World) (hs : l.length ≤ 1073741824) (hM : MVar w) :
    Calls Tryz.prog 43 #[.string (bs l), .string ⟨#[39]⟩, .string ⟨#[39, 39]⟩] w fun e w' => e = .returned (.string (bs (dbl l))) ∧ Below w.heap.size w w' := by
  obtain ⟨m, hm⟩ := hM
  have sl := bs_size l
  have hcb : Lib.countB (bs l) ⟨#[39]⟩ ≤ (bs l).size := Lib.countB_le ⟨#[39]⟩ (by decide) _ _ (Nat.le_refl _)
  have h2 : (⟨#[39, 39]⟩ : ByteArray).size = 2 := rfl
  have := Tryz.strings_ReplaceAll (bs l) ⟨#[39]⟩ ⟨#[39, 39]⟩ m w (by omega) hm (by decide) (by rw [h2]; omega)
  rw [bs_data, show (⟨#[39]⟩ : ByteArray).data.toList = [39] from rfl, show (⟨#[39, 39]⟩ : ByteArray).data.toList = [39, 39] from rfl, replace_dbl] at this
  exact this
def QuotedE (r : List UInt8 × Int) : Ending := .returned (.tuple #[.string (bs r.1), .int .i64 r.2])
theorem cat39 (l : List UInt8) : (⟨#[39]⟩ : ByteArray) ++ bs l ++ ⟨#[39]⟩ = bs (39 :: (l ++ [39])) := by
  have h1 : (⟨#[39]⟩ : ByteArray) = bs [39] := rfl
  rw [h1, bs_append, bs_append]; rfl
set_option maxHeartbeats 1000000 in
theorem quoted_any (l : List UInt8) (w : World) (hs : l.length ≤ 268435456) (hT : Tabs w) (hM : MVar w) :
    Calls Tryz.prog 22 #[.string (bs l)] w fun e w' => e = QuotedE (sqw l) ∧ Below w.heap.size w w' := by
  have sl := bs_size l
  obtain ⟨R, hR⟩ : ∃ R, sqw l = R := ⟨_, rfl⟩
  rw [hR]
  have HT := Lib.hid hT; clear hT
  have hdl := dbl_len l
  have hch := sqw_check l
  obtain ⟨D, hD⟩ : ∃ D, dbl l = D := ⟨_, rfl⟩
  have CR := replace_any l w (by omega) hM
  unfold sqw at hR
  rw [hD] at hR hdl hch CR
  have HCR := Lib.hid CR
  clear CR hM hD
  have sD := bs_size D
  have hQ := Lib.hid (cat39 D)
  have sQ : ((⟨#[39]⟩ : ByteArray) ++ bs D ++ ⟨#[39]⟩).size = D.length + 2 := by rw [cat39, bs_size]; simp
  obtain ⟨Q, hQe⟩ : ∃ Q, (⟨#[39]⟩ : ByteArray) ++ bs D ++ ⟨#[39]⟩ = Q := ⟨_, rfl⟩
  have CS := Lib.hid (fun w hT => single_any (39 :: (D ++ [39])) 0 w (by simp; omega) hT)
  rw [← cat39 D] at CS
  by_cases hok : okT l
  · have hw := (wrL_ok l).1 hok
    rw [if_neg hw] at hR
    have h1 := hch.1 hok
    rw [h1] at CS
    unfold ReadE at CS
    subst hR
    have hRb : QuotedE (39 :: (D ++ [39]), 0) = .returned (.tuple #[.string ((⟨#[39]⟩ : ByteArray) ++ bs D ++ ⟨#[39]⟩), .int .i64 0]) := by rw [cat39]; rfl
    rw [hRb]
    have hlQ : (((39 :: (D ++ [39])).length : Nat) : Int) = (D.length : Int) + 2 := by simp; omega
    rw [hlQ] at CS
    clear hch h1 hw hok hRb hlQ hQe
    go_enter Tryz.func22, Tryz.ntmps22
    go_wp2_with fail
    with_reducible refine HCR.out.mono ?_
    rintro e w1 ⟨rfl, hb1⟩
    have HB1 := Lib.hid hb1; clear hb1
    go_wp2_with fail
    with_reducible refine (CS.out _ (HT.out.keep HB1.out)).mono ?_
    rintro e w2 ⟨rfl, hb2⟩
    have HB2 := Lib.hid (below_of_new HB1.out hb2); clear hb2
    go_wp2_with fail
    go_ret2
    exact ⟨rfl, HB2.out⟩
  · have hw : wrL false l < l.length := by
      have := (wrL_ok l)
      by_cases hx : wrL false l < l.length
      · exact hx
      · exact absurd (this.2 hx) hok
    rw [if_pos hw] at hR
    have h1 := hch.2 hok
    obtain ⟨r, hr⟩ : ∃ r, sqL (39 :: (D ++ [39])) 0 = r := ⟨_, rfl⟩
    obtain ⟨ra, rb, rc⟩ := r
    rw [hr] at CS h1
    simp only [] at h1
    subst h1
    unfold ReadE at CS
    subst hR
    clear hch hw hok hr hQe
    go_enter Tryz.func22, Tryz.ntmps22
    go_wp2_with fail
    with_reducible refine HCR.out.mono ?_
    rintro e w1 ⟨rfl, hb1⟩
    have HB1 := Lib.hid hb1; clear hb1
    go_wp2_with fail
    with_reducible refine (CS.out _ (HT.out.keep HB1.out)).mono ?_
    rintro e w2 ⟨rfl, hb2⟩
    have HB2 := Lib.hid (below_of_new HB1.out hb2); clear hb2
    go_wp2_with fail
    go_ret2
    exact ⟨rfl, HB2.out⟩
end Go.Proofs.YtbbjgdnbekoaeaaGreatDoor

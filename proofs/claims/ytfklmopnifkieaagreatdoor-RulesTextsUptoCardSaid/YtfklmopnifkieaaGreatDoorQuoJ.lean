import Derived.Test.YtfklmopnifkieaaGreatDoorQuoP
import Derived.Test.YtfklmopnifkieaaGreatDoorQuoG
import Derived.Test.YtfklmopnifkieaaGreatDoorApp
import Derived.Test.YtfklmopnifkieaaGreatDoorRnV
import Derived.Test.YtfklmopnifkieaaGreatDoorFmt
import Derived.Deep.RegionLaw
/-! The walk of scarfref03.Quote: it writes quoteL. -/
namespace Go.Proofs.YtfklmopnifkieaaGreatDoor
set_option linter.unusedSimpArgs false
set_option linter.unusedVariables false
open Go.RowKit
open Go.Lib hiding intOf

def QuoteE (r : List UInt8 × Int) : Ending := .returned (.tuple #[.string (bs r.1), .int .i64 r.2])
theorem qBs_snoc (l : List UInt8) (k : Nat) (h : k < l.length) (c : UInt8) (hc : l[k]'h = c) : qBs (l.take (k + 1)) = qBs (l.take k) ++ qB c := by
  rw [List.take_succ_eq_append_getElem h, qBs_append, hc]
  simp [qBs]
def Rq (l : List UInt8) (k : Nat) (o : List UInt8) : Prop := o = 34 :: qBs (l.take k)
theorem Rq.next {l : List UInt8} {k : Nat} {o m : List UInt8} (h : Rq l k o) (hk : k < l.length) (hm : qB (l[k]'hk) = m) : Rq l (k + 1) (o ++ m) := by
  unfold Rq at h ⊢
  rw [h, qBs_snoc l k hk _ rfl, hm]; rfl
theorem Rq.len {l : List UInt8} {k : Nat} {o : List UInt8} (h : Rq l k o) (hk : k ≤ l.length) : o.length ≤ 6 * k + 1 := by
  rw [h, List.length_cons]
  have := (qBs_len (l.take k)).2
  rw [List.length_take] at this
  omega
theorem validRes_snd (s : ByteArray) : (validRes s).2 = validD s.data.toList := by
  rw [validD_bad]
  unfold validRes
  cases badAt s <;> rfl
theorem app_assoc_ (a b c : List UInt8) : a ++ (b ++ c) = a ++ b ++ c := (List.append_assoc _ _ _).symm
theorem qB_cases (c : UInt8) : ((c.toNat : Int) = 34 ∧ qB c = [92, c]) ∨ ((c.toNat : Int) = 92 ∧ qB c = [92, c]) ∨ ((c.toNat : Int) = 8 ∧ qB c = [92, 98]) ∨ ((c.toNat : Int) = 12 ∧ qB c = [92, 102]) ∨ ((c.toNat : Int) = 10 ∧ qB c = [92, 110]) ∨
    ((c.toNat : Int) = 13 ∧ qB c = [92, 114]) ∨ ((c.toNat : Int) = 9 ∧ qB c = [92, 116]) ∨
    (((c.toNat : Int) < 32 ∧ (c.toNat : Int) ≠ 8 ∧ (c.toNat : Int) ≠ 9 ∧ (c.toNat : Int) ≠ 10 ∧ (c.toNat : Int) ≠ 12 ∧ (c.toNat : Int) ≠ 13) ∧ qB c = [92, 117, 48, 48, hexC (c.toNat / 16), hexC (c.toNat % 16)]) ∨
    ((32 ≤ (c.toNat : Int) ∧ (c.toNat : Int) ≠ 34 ∧ (c.toNat : Int) ≠ 92) ∧ qB c = [c]) := by
  have key : ∀ n : Fin 256, (n.val = 34 ∧ qB (UInt8.ofNat n.val) = [92, UInt8.ofNat n.val]) ∨ (n.val = 92 ∧ qB (UInt8.ofNat n.val) = [92, UInt8.ofNat n.val]) ∨ (n.val = 8 ∧ qB (UInt8.ofNat n.val) = [92, 98]) ∨ (n.val = 12 ∧ qB (UInt8.ofNat n.val) = [92, 102]) ∨ (n.val = 10 ∧ qB (UInt8.ofNat n.val) = [92, 110]) ∨
      (n.val = 13 ∧ qB (UInt8.ofNat n.val) = [92, 114]) ∨ (n.val = 9 ∧ qB (UInt8.ofNat n.val) = [92, 116]) ∨
      ((n.val < 32 ∧ n.val ≠ 8 ∧ n.val ≠ 9 ∧ n.val ≠ 10 ∧ n.val ≠ 12 ∧ n.val ≠ 13) ∧ qB (UInt8.ofNat n.val) = [92, 117, 48, 48, hexC (n.val / 16), hexC (n.val % 16)]) ∨
      ((32 ≤ n.val ∧ n.val ≠ 34 ∧ n.val ≠ 92) ∧ qB (UInt8.ofNat n.val) = [UInt8.ofNat n.val]) := by decide +kernel
  have h := key ⟨c.toNat, c.toNat_lt⟩
  simp only [UInt8.ofNat_toNat] at h
  rcases h with ⟨h, g⟩ | ⟨h, g⟩ | ⟨h, g⟩ | ⟨h, g⟩ | ⟨h, g⟩ | ⟨h, g⟩ | ⟨h, g⟩ | ⟨h, g⟩ | ⟨h, g⟩
  · exact .inl ⟨by omega, g⟩
  · exact .inr (.inl ⟨by omega, g⟩)
  · exact .inr (.inr (.inl ⟨by omega, g⟩))
  · exact .inr (.inr (.inr (.inl ⟨by omega, g⟩)))
  · exact .inr (.inr (.inr (.inr (.inl ⟨by omega, g⟩))))
  · exact .inr (.inr (.inr (.inr (.inr (.inl ⟨by omega, g⟩)))))
  · exact .inr (.inr (.inr (.inr (.inr (.inr (.inl ⟨by omega, g⟩))))))
  · exact .inr (.inr (.inr (.inr (.inr (.inr (.inr (.inl ⟨by omega, g⟩)))))))
  · exact .inr (.inr (.inr (.inr (.inr (.inr (.inr (.inr ⟨by omega, g⟩)))))))
def hexT : ByteArray := ⟨#[48, 49, 50, 51, 52, 53, 54, 55, 56, 57, 97, 98, 99, 100, 101, 102]⟩
theorem hexT_all : ∀ k : Fin 16, hexT.data.toList[k.val]? = some (hexC k.val) := by decide
theorem hexT_at (n : Nat) (h : n < 16) (h2 : n < hexT.size) : hexT[n]'h2 = hexC n := by
  have h1 : hexT.data.toList[n]? = some (hexC n) := hexT_all ⟨n, h⟩
  have h3 : hexT.data.toList[n]? = some (hexT[n]'h2) := by rw [Array.getElem?_toList]; exact Array.getElem?_eq_getElem h2
  rw [h3] at h1
  exact Option.some.inj h1
set_option maxRecDepth 100000 in
set_option maxHeartbeats 4000000 in
theorem refQuote_any (l : List UInt8) (w : World) (hs : l.length ≤ 1073741824) :
    Calls Tryz.prog 46 #[.string (bs l)] w fun e w' => e = QuoteE (quoteL l) ∧ Below w.heap.size w w' := by
  have sl := bs_size l
  have C := refValid_any (bs l) w (by omega)
  rw [validRes_snd, bs_data] at C
  obtain ⟨N, hN⟩ : ∃ N, (validRes (bs l)).1 = N := ⟨_, rfl⟩
  rw [hN] at C
  clear hN
  obtain ⟨R, hR⟩ : ∃ R, quoteL l = R := ⟨_, rfl⟩
  rw [hR]
  unfold quoteL at hR
  cases hv : validD l with
  | false =>
    rw [hv] at C hR
    rw [if_neg (by simp)] at hR
    subst hR
    have HC := Lib.hid C
    clear C hv
    go_enter Tryz.func46, Tryz.ntmps46
    go_wp2_with (refine HC.out.mono ?_; rintro e w' ⟨rfl, rfl⟩)
    go_ret2
    exact ⟨rfl, Below.refl _ _⟩
  | true =>
    rw [hv] at C hR
    rw [if_pos rfl] at hR
    have HR := Lib.hid hR
    have HC := Lib.hid C
    clear C hv hR
    go_enter Tryz.func46, Tryz.ntmps46
    go_wp2_with (refine HC.out.mono ?_; rintro e w' ⟨rfl, rfl⟩)
    go_loopw [7, 8] (fun s7 s8 wr => ∃ (k : Nat) (o : List UInt8), s8 = .int .i64 k ∧ k ≤ l.length ∧ o.length ≤ 6 * k + 1 ∧ Hid (Rq l k o) ∧ Hid (OwnB w.heap.size wr s7 o) ∧ Hid (Below w.heap.size w wr) ∧ w.heap.size ≤ wr.heap.size) (fun _ s8 _ => l.length - (RowKit.intOf s8).toNat)
    case atStart => exact ⟨0, [34], rfl, by omega, by simp, rfl, OwnB.new w [34] (by simp), below_alloc1 _ _, by simp⟩
    case round =>
      obtain ⟨k, o, rfl, hk, hol, HQ, HO, HW, hz⟩ := hrel
      by_cases hlt : k < l.length
      · have hlt' : k < (bs l).size := by omega
        have hge : (bs l)[k]'hlt' = l[k]'hlt := by
          have := at_bs l k hlt'
          rw [List.getElem?_eq_getElem hlt] at this
          exact (Option.some.inj this).symm
        obtain ⟨c, hc⟩ : ∃ c, l[k]'hlt = c := ⟨_, rfl⟩
        rw [hc] at hge
        have HN : Hid (∀ m, qB c = m → Rq l (k + 1) (o ++ m)) := Lib.hid (fun m h => Rq.next HQ.out hlt (by rw [hc, h]))
        rw [← hge] at hc
        clear hc
        obtain ⟨n, hn⟩ : ∃ n : Int, (c.toNat : Int) = n := ⟨_, rfl⟩
        have hge3 : (((bs l)[k]'hlt').toNat : Int) = n := by rw [hge, hn]
        have hnb : 0 ≤ n ∧ n < 256 := by have := c.toNat_lt; omega
        have hU := qB_cases c
        rw [hn] at hU
        clear hge
        rcases hU with ⟨h1, h2⟩ | ⟨h1, h2⟩ | ⟨h1, h2⟩ | ⟨h1, h2⟩ | ⟨h1, h2⟩ | ⟨h1, h2⟩ | ⟨h1, h2⟩ | ⟨h1, h2⟩ | ⟨h1, h2⟩
        · subst h1
          go_wp2_with (at_builtin; go_must (refine wpList_bytes rfl _ _ rfl w.heap.size wr u7 o [92, c] rfl HO.out _ rfl (by unfold byteCells; simp [hn]) (by simp; omega) hz ?_); intro v1 w1 hown1 hbel1)
          go_roundw
          case rel => exact ⟨k + 1, o ++ [92, c], by go_num, by omega, by simp; omega, HN.out _ h2, hown1, HW.out.trans hbel1, Nat.le_trans hz hbel1.size⟩
          case measure => simp [RowKit.intOf]; omega
        · subst h1
          go_wp2_with (at_builtin; go_must (refine wpList_bytes rfl _ _ rfl w.heap.size wr u7 o [92, c] rfl HO.out _ rfl (by unfold byteCells; simp [hn]) (by simp; omega) hz ?_); intro v1 w1 hown1 hbel1)
          go_roundw
          case rel => exact ⟨k + 1, o ++ [92, c], by go_num, by omega, by simp; omega, HN.out _ h2, hown1, HW.out.trans hbel1, Nat.le_trans hz hbel1.size⟩
          case measure => simp [RowKit.intOf]; omega
        · subst h1
          go_wp2_with (at_builtin; go_must (refine wpList_text rfl _ _ rfl w.heap.size wr u7 o ⟨#[92, 98]⟩ rfl HO.out rfl (by show _ + 2 ≤ _; omega) hz ?_); intro v1 w1 hown1 hbel1)
          go_roundw
          case rel => exact ⟨k + 1, o ++ [92, 98], by go_num, by omega, by simp; omega, HN.out _ h2, hown1, HW.out.trans hbel1, Nat.le_trans hz hbel1.size⟩
          case measure => simp [RowKit.intOf]; omega
        · subst h1
          go_wp2_with (at_builtin; go_must (refine wpList_text rfl _ _ rfl w.heap.size wr u7 o ⟨#[92, 102]⟩ rfl HO.out rfl (by show _ + 2 ≤ _; omega) hz ?_); intro v1 w1 hown1 hbel1)
          go_roundw
          case rel => exact ⟨k + 1, o ++ [92, 102], by go_num, by omega, by simp; omega, HN.out _ h2, hown1, HW.out.trans hbel1, Nat.le_trans hz hbel1.size⟩
          case measure => simp [RowKit.intOf]; omega
        · subst h1
          go_wp2_with (at_builtin; go_must (refine wpList_text rfl _ _ rfl w.heap.size wr u7 o ⟨#[92, 110]⟩ rfl HO.out rfl (by show _ + 2 ≤ _; omega) hz ?_); intro v1 w1 hown1 hbel1)
          go_roundw
          case rel => exact ⟨k + 1, o ++ [92, 110], by go_num, by omega, by simp; omega, HN.out _ h2, hown1, HW.out.trans hbel1, Nat.le_trans hz hbel1.size⟩
          case measure => simp [RowKit.intOf]; omega
        · subst h1
          go_wp2_with (at_builtin; go_must (refine wpList_text rfl _ _ rfl w.heap.size wr u7 o ⟨#[92, 114]⟩ rfl HO.out rfl (by show _ + 2 ≤ _; omega) hz ?_); intro v1 w1 hown1 hbel1)
          go_roundw
          case rel => exact ⟨k + 1, o ++ [92, 114], by go_num, by omega, by simp; omega, HN.out _ h2, hown1, HW.out.trans hbel1, Nat.le_trans hz hbel1.size⟩
          case measure => simp [RowKit.intOf]; omega
        · subst h1
          go_wp2_with (at_builtin; go_must (refine wpList_text rfl _ _ rfl w.heap.size wr u7 o ⟨#[92, 116]⟩ rfl HO.out rfl (by show _ + 2 ≤ _; omega) hz ?_); intro v1 w1 hown1 hbel1)
          go_roundw
          case rel => exact ⟨k + 1, o ++ [92, 116], by go_num, by omega, by simp; omega, HN.out _ h2, hown1, HW.out.trans hbel1, Nat.le_trans hz hbel1.size⟩
          case measure => simp [RowKit.intOf]; omega
        · obtain ⟨h1, e8, e9, e10, e12, e13⟩ := h1
          have d34 : (n == 34) = false := beq_eq_false_iff_ne.2 (by omega)
          have d92 : (n == 92) = false := beq_eq_false_iff_ne.2 (by omega)
          have d8 : (n == 8) = false := beq_eq_false_iff_ne.2 e8
          have d12 : (n == 12) = false := beq_eq_false_iff_ne.2 e12
          have d10 : (n == 10) = false := beq_eq_false_iff_ne.2 e10
          have d13 : (n == 13) = false := beq_eq_false_iff_ne.2 e13
          have d9 : (n == 9) = false := beq_eq_false_iff_ne.2 e9
          clear e8 e9 e10 e12 e13
          go_wp2_with fail
          obtain ⟨q, hq⟩ : ∃ q : Nat, c.toNat / 16 = q := ⟨_, rfl⟩
          obtain ⟨r, hr⟩ : ∃ r : Nat, c.toNat % 16 = r := ⟨_, rfl⟩
          have eq1 : n.tdiv 16 = (q : Int) := by rw [Int.tdiv_eq_ediv_of_nonneg hnb.1]; omega
          have er1 : n.tmod 16 = (r : Int) := by rw [Int.tmod_eq_emod_of_nonneg hnb.1]; omega
          have eq2 : n / 16 = (q : Int) := by omega
          have er2 : n % 16 = (r : Int) := by omega
          have hq1 : (0 : Int) ≤ (q : Int) := by omega
          have hq2 : (q : Int) < 16 := by omega
          have hr1 : (0 : Int) ≤ (r : Int) := by omega
          have hr2 : (r : Int) < 16 := by omega
          have hqs : q < hexT.size := by show q < 16; omega
          have hrs : r < hexT.size := by show r < 16; omega
          have hwq : IntKind.u8.wrap (q : Int) = (q : Int) := by rw [IntKind.wrap_u8']; omega
          have hwr : IntKind.u8.wrap (r : Int) = (r : Int) := by rw [IntKind.wrap_u8']; omega
          have HX := Lib.hid (hexT_at q (by omega) hqs)
          have HY := Lib.hid (hexT_at r (by omega) hrs)
          have HN2 := Lib.hid (HN.out _ h2)
          rw [hq, hr] at HN2
          clear h2 hq hr hn hge3 d34 d92 d8 d12 d10 d13 d9 h1
          go_region_law ((refine step_bytes (by rfl) (.tmp 59) (.tmp 68) (by rfl) w.heap.size wr.drew u7 o [92, 117, 48, 48, (⟨#[48, 49, 50, 51, 52, 53, 54, 55, 56, 57, 97, 98, 99, 100, 101, 102]⟩ : ByteArray)[q]'hqs, (⟨#[48, 49, 50, 51, 52, 53, 54, 55, 56, 57, 97, 98, 99, 100, 101, 102]⟩ : ByteArray)[r]'hrs] (by rfl) HO.out #[.int .u8 92, .int .u8 117, .int .u8 48, .int .u8 48, .int .u8 (((⟨#[48, 49, 50, 51, 52, 53, 54, 55, 56, 57, 97, 98, 99, 100, 101, 102]⟩ : ByteArray)[q]'hqs).toNat : Int), .int .u8 (((⟨#[48, 49, 50, 51, 52, 53, 54, 55, 56, 57, 97, 98, 99, 100, 101, 102]⟩ : ByteArray)[r]'hrs).toNat : Int)] (by rfl) (by rfl) (by show _ + 6 ≤ _; omega) (by show 0 < 6; omega) hz ?_; intro v1 w1 hown1 hbel1))
          all_goals
            go_wp2_with fail
            go_roundw
            case rel => exact ⟨k + 1, o ++ [92, 117, 48, 48, (⟨#[48, 49, 50, 51, 52, 53, 54, 55, 56, 57, 97, 98, 99, 100, 101, 102]⟩ : ByteArray)[q]'hqs, (⟨#[48, 49, 50, 51, 52, 53, 54, 55, 56, 57, 97, 98, 99, 100, 101, 102]⟩ : ByteArray)[r]'hrs], by go_num, by omega, by simp; omega, by rw [show (⟨#[48, 49, 50, 51, 52, 53, 54, 55, 56, 57, 97, 98, 99, 100, 101, 102]⟩ : ByteArray)[q]'hqs = hexC q from HX.out, show (⟨#[48, 49, 50, 51, 52, 53, 54, 55, 56, 57, 97, 98, 99, 100, 101, 102]⟩ : ByteArray)[r]'hrs = hexC r from HY.out]; exact HN2.out, hown1, (below_drew1 HW.out).trans hbel1, Nat.le_trans hz hbel1.size⟩
            case measure => simp [RowKit.intOf]; omega
        · obtain ⟨h1, e34, e92⟩ := h1
          have d34 : (n == 34) = false := beq_eq_false_iff_ne.2 e34
          have d92 : (n == 92) = false := beq_eq_false_iff_ne.2 e92
          have d8 : (n == 8) = false := beq_eq_false_iff_ne.2 (by omega)
          have d12 : (n == 12) = false := beq_eq_false_iff_ne.2 (by omega)
          have d10 : (n == 10) = false := beq_eq_false_iff_ne.2 (by omega)
          have d13 : (n == 13) = false := beq_eq_false_iff_ne.2 (by omega)
          have d9 : (n == 9) = false := beq_eq_false_iff_ne.2 (by omega)
          clear e34 e92
          go_wp2_with (at_builtin; go_must (refine wpList_bytes rfl _ _ rfl w.heap.size wr u7 o [c] rfl HO.out _ rfl (by unfold byteCells; simp [hn]) (by simp; omega) hz ?_); intro v1 w1 hown1 hbel1)
          go_roundw
          case rel => exact ⟨k + 1, o ++ [c], by go_num, by omega, by simp; omega, HN.out _ h2, hown1, HW.out.trans hbel1, Nat.le_trans hz hbel1.size⟩
          case measure => simp [RowKit.intOf]; omega
      · have hlk : k = l.length := by omega
        have HF : Hid (R = (o ++ [34], 0)) := by
          have h1 := HQ.out
          unfold Rq at h1
          rw [hlk, List.take_length] at h1
          rw [← HR.out, h1]
          exact Lib.hid rfl
        go_wp2_with (first | (at_builtin; go_must (refine wpList_bytes rfl _ _ rfl w.heap.size wr u7 o [34] rfl HO.out _ rfl rfl (by simp; omega) hz ?_); intro v1 w1 hown1 hbel1; have hcv := run_text hown1))
        go_ret2
        exact ⟨by rw [HF.out]; rfl, HW.out.trans hbel1⟩
end Go.Proofs.YtfklmopnifkieaaGreatDoor

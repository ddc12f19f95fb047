import Derived.Test.YtnnlpkbopeiefaaGreatDoorQuoP
import Derived.Test.YtnnlpkbopeiefaaGreatDoorQuoF
import Derived.Test.YtnnlpkbopeiefaaGreatDoorApp
import Derived.Test.YtnnlpkbopeiefaaGreatDoorRnV
import Derived.Deep.RegionLaw
import Derived.Test.YtnnlpkbopeiefaaGreatDoorShelfB
/-! The walk of scarfref03.Quote: it writes quoteL. -/
namespace Go.Proofs.YtnnlpkbopeiefaaGreatDoor
set_option linter.unusedSimpArgs false
set_option linter.unusedVariables false
open Go.RowKit
open Go.Lib hiding intOf
def QuoteE (r : List UInt8 × Int) : Ending := .returned (.tuple #[.string (bs r.1), .int .i64 r.2])
theorem qBs_snoc (l : List UInt8) (k : Nat) (h : k < l.length) (c : UInt8) (hc : l[k]'h = c) : qBs (l.take (k + 1)) = qBs (l.take k) ++ qB c := by
  rw [List.take_succ_eq_append_getElem h, qBs_append, hc]
  simp [qBs]
def Rq (l : List UInt8) (k : Nat) (o : List UInt8) : Prop := o = 34 :: qBs (l.take k)
theorem Rq.next {l : List UInt8} {k : Nat} {o m : List UInt8} (h : Rq l k o) (hk : k < l.length) (hm : qB (l[k]'hk) = m) : Rq l (k + 1) (o ++ m) := by
  unfold Rq at h ⊢
  rw [h, qBs_snoc l k hk _ rfl, hm]; rfl
theorem validRes_snd (s : ByteArray) : (validRes s).2 = validD s.data.toList := by
  rw [validD_bad]
  unfold validRes
  cases badAt s <;> rfl
theorem qB_cases (c : UInt8) : ((c.toNat : Int) = 34 ∧ qB c = [92, c]) ∨ ((c.toNat : Int) = 92 ∧ qB c = [92, c]) ∨ ((c.toNat : Int) = 8 ∧ qB c = [92, 98]) ∨ ((c.toNat : Int) = 12 ∧ qB c = [92, 102]) ∨ ((c.toNat : Int) = 10 ∧ qB c = [92, 110]) ∨
    ((c.toNat : Int) = 13 ∧ qB c = [92, 114]) ∨ ((c.toNat : Int) = 9 ∧ qB c = [92, 116]) ∨
    (((c.toNat : Int) < 32 ∧ (c.toNat : Int) ≠ 8 ∧ (c.toNat : Int) ≠ 9 ∧ (c.toNat : Int) ≠ 10 ∧ (c.toNat : Int) ≠ 12 ∧ (c.toNat : Int) ≠ 13) ∧ qB c = [92, 117, 48, 48, hexC (c.toNat / 16), hexC (c.toNat % 16)]) ∨
    ((32 ≤ (c.toNat : Int) ∧ (c.toNat : Int) ≠ 34 ∧ (c.toNat : Int) ≠ 92) ∧ qB c = [c]) := by
  have key : ∀ n : Fin 256, (n.val = 34 ∧ qB (UInt8.ofNat n.val) = [92, UInt8.ofNat n.val]) ∨ (n.val = 92 ∧ qB (UInt8.ofNat n.val) = [92, UInt8.ofNat n.val]) ∨ (n.val = 8 ∧ qB (UInt8.ofNat n.val) = [92, 98]) ∨ (n.val = 12 ∧ qB (UInt8.ofNat n.val) = [92, 102]) ∨ (n.val = 10 ∧ qB (UInt8.ofNat n.val) = [92, 110]) ∨
      (n.val = 13 ∧ qB (UInt8.ofNat n.val) = [92, 114]) ∨ (n.val = 9 ∧ qB (UInt8.ofNat n.val) = [92, 116]) ∨
      ((n.val < 32 ∧ n.val ≠ 8 ∧ n.val ≠ 9 ∧ n.val ≠ 10 ∧ n.val ≠ 12 ∧ n.val ≠ 13) ∧ qB (UInt8.ofNat n.val) = [92, 117, 48, 48, hexC (n.val / 16), hexC (n.val % 16)]) ∨
      ((32 ≤ n.val ∧ n.val ≠ 34 ∧ n.val ≠ 92) ∧ qB (UInt8.ofNat n.val) = [UInt8.ofNat n.val]) := by decide +kernel
  have h := key ⟨c.toNat, c.toNat_lt⟩
  simp only [UInt8.ofNat_toNat] at h
  rcases h with ⟨h, g⟩ | ⟨h, g⟩ | ⟨h, g⟩ | ⟨h, g⟩ | ⟨h, g⟩ | ⟨h, g⟩ | ⟨h, g⟩ | ⟨h, g⟩ | ⟨h, g⟩
  · exact .inl ⟨by omega, g⟩
  · exact .inr (.inl ⟨by omega, g⟩)
  · exact .inr (.inr (.inl ⟨by omega, g⟩))
  · exact .inr (.inr (.inr (.inl ⟨by omega, g⟩)))
  · exact .inr (.inr (.inr (.inr (.inl ⟨by omega, g⟩))))
  · exact .inr (.inr (.inr (.inr (.inr (.inl ⟨by omega, g⟩)))))
  · exact .inr (.inr (.inr (.inr (.inr (.inr (.inl ⟨by omega, g⟩))))))
  · exact .inr (.inr (.inr (.inr (.inr (.inr (.inr (.inl ⟨by omega, g⟩)))))))
  · exact .inr (.inr (.inr (.inr (.inr (.inr (.inr (.inr ⟨by omega, g⟩)))))))
def hexT : ByteArray := ⟨#[48, 49, 50, 51, 52, 53, 54, 55, 56, 57, 97, 98, 99, 100, 101, 102]⟩
theorem hexT_all : ∀ k : Fin 16, hexT.data.toList[k.val]? = some (hexC k.val) := by decide
theorem hexT_at (n : Nat) (h : n < 16) (h2 : n < hexT.size) : hexT[n]'h2 = hexC n := by
  have h1 : hexT.data.toList[n]? = some (hexC n) := hexT_all ⟨n, h⟩
  have h3 : hexT.data.toList[n]? = some (hexT[n]'h2) := by rw [Array.getElem?_toList]; exact Array.getElem?_eq_getElem h2
  rw [h3] at h1
  exact Option.some.inj h1
set_option maxRecDepth 100000 in
set_option maxHeartbeats 4000000 in
theorem refQuote_any (l : List UInt8) (w : World) (hs : l.length ≤ 1073741824) :
    Calls Tryz.prog 116 #[.string (bs l)] w fun e w' => e = QuoteE (quoteL l) ∧ Below w.heap.size w w' := by
  have sl := bs_size l
  have C := refValid_any (bs l) w (by omega)
  rw [validRes_snd, bs_data] at C
  obtain ⟨N, hN⟩ : ∃ N, (validRes (bs l)).1 = N := ⟨_, rfl⟩
  rw [hN] at C
  clear hN
  obtain ⟨R, hR⟩ : ∃ R, quoteL l = R := ⟨_, rfl⟩
  rw [hR]
  unfold quoteL at hR
  cases hv : validD l with
  | false =>
    rw [hv] at C hR
    rw [if_neg (by simp)] at hR
    subst hR
    have HC := Lib.hid C
    clear C hv
    go_enter Tryz.func116, Tryz.ntmps116
    go_wp2_with (refine HC.out.mono ?_; rintro e w' ⟨rfl, rfl⟩)
    go_ret2
    exact ⟨rfl, Below.refl _ _⟩
  | true =>
    rw [hv] at C hR
    rw [if_pos rfl] at hR
    have HR := Lib.hid hR
    have HC := Lib.hid C
    clear C hv hR
    go_enter Tryz.func116, Tryz.ntmps116
    go_wp2_with (refine HC.out.mono ?_; rintro e w' ⟨rfl, rfl⟩)
    go_loopw [7, 8] (fun s7 s8 wr => ∃ (k : Nat) (o : List UInt8), s8 = .int .i64 k ∧ k ≤ l.length ∧ o.length ≤ 6 * k + 1 ∧ Hid (Rq l k o) ∧ Hid (OwnB w.heap.size wr s7 o) ∧ Hid (Below w.heap.size w wr) ∧ w.heap.size ≤ wr.heap.size) (fun _ s8 _ => l.length - (RowKit.intOf s8).toNat)
    case atStart => exact ⟨0, [34], rfl, by omega, by simp, rfl, OwnB.new w [34] (by simp), below_alloc1 _ _, by simp⟩
    case round =>
      obtain ⟨k, o, rfl, hk, hol, HQ, HO, HW, hz⟩ := hrel
      by_cases hlt : k < l.length
      · have hlt' : k < (bs l).size := by omega
        have hge : (bs l)[k]'hlt' = l[k]'hlt := by
          have := at_bs l k hlt'
          rw [List.getElem?_eq_getElem hlt] at this
          exact (Option.some.inj this).symm
        obtain ⟨c, hc⟩ : ∃ c, l[k]'hlt = c := ⟨_, rfl⟩
        rw [hc] at hge
        have HN : Hid (∀ m, qB c = m → Rq l (k + 1) (o ++ m)) := Lib.hid (fun m h => Rq.next HQ.out hlt (by rw [hc, h]))
        rw [← hge] at hc
        clear hc
        obtain ⟨n, hn⟩ : ∃ n : Int, (c.toNat : Int) = n := ⟨_, rfl⟩
        have hge3 : (((bs l)[k]'hlt').toNat : Int) = n := by rw [hge, hn]
        have hnb : 0 ≤ n ∧ n < 256 := by have := c.toNat_lt; omega
        have hU := qB_cases c
        rw [hn] at hU
        clear hge
        rcases hU with ⟨h1, h2⟩ | ⟨h1, h2⟩ | ⟨h1, h2⟩ | ⟨h1, h2⟩ | ⟨h1, h2⟩ | ⟨h1, h2⟩ | ⟨h1, h2⟩ | ⟨h1, h2⟩ | ⟨h1, h2⟩
        · subst h1
          go_wp2_with (at_builtin; go_must (refine wpList_bytes rfl _ _ rfl w.heap.size wr u7 o [92, c] rfl HO.out _ rfl (by unfold byteCells; simp [hn]) (by simp; omega) hz ?_); intro v1 w1 hown1 hbel1)
          go_roundw
          case rel => exact ⟨k + 1, o ++ [92, c], by go_num, by omega, by simp; omega, HN.out _ h2, hown1, HW.out.trans hbel1, Nat.le_trans hz hbel1.size⟩
          case measure => simp [RowKit.intOf]; omega
        · subst h1
          go_wp2_with (at_builtin; go_must (refine wpList_bytes rfl _ _ rfl w.heap.size wr u7 o [92, c] rfl HO.out _ rfl (by unfold byteCells; simp [hn]) (by simp; omega) hz ?_); intro v1 w1 hown1 hbel1)
          go_roundw
          case rel => exact ⟨k + 1, o ++ [92, c], by go_num, by omega, by simp; omega, HN.out _ h2, hown1, HW.out.trans hbel1, Nat.le_trans hz hbel1.size⟩
          case measure => simp [RowKit.intOf]; omega
        · subst h1
          go_wp2_with (at_builtin; go_must (refine wpList_text rfl _ _ rfl w.heap.size wr u7 o ⟨#[92, 98]⟩ rfl HO.out rfl (by show _ + 2 ≤ _; omega) hz ?_); intro v1 w1 hown1 hbel1)
          go_roundw
          case rel => exact ⟨k + 1, o ++ [92, 98], by go_num, by omega, by simp; omega, HN.out _ h2, hown1, HW.out.trans hbel1, Nat.le_trans hz hbel1.size⟩
          case measure => simp [RowKit.intOf]; omega
        · subst h1
          go_wp2_with (at_builtin; go_must (refine wpList_text rfl _ _ rfl w.heap.size wr u7 o ⟨#[92, 102]⟩ rfl HO.out rfl (by show _ + 2 ≤ _; omega) hz ?_); intro v1 w1 hown1 hbel1)
          go_roundw
          case rel => exact ⟨k + 1, o ++ [92, 102], by go_num, by omega, by simp; omega, HN.out _ h2, hown1, HW.out.trans hbel1, Nat.le_trans hz hbel1.size⟩
          case measure => simp [RowKit.intOf]; omega
        · subst h1
          go_wp2_with (at_builtin; go_must (refine wpList_text rfl _ _ rfl w.heap.size wr u7 o ⟨#[92, 110]⟩ rfl HO.out rfl (by show _ + 2 ≤ _; omega) hz ?_); intro v1 w1 hown1 hbel1)
          go_roundw
          case rel => exact ⟨k + 1, o ++ [92, 110], by go_num, by omega, by simp; omega, HN.out _ h2, hown1, HW.out.trans hbel1, Nat.le_trans hz hbel1.size⟩
          case measure => simp [RowKit.intOf]; omega
        · subst h1
          go_wp2_with (at_builtin; go_must (refine wpList_text rfl _ _ rfl w.heap.size wr u7 o ⟨#[92, 114]⟩ rfl HO.out rfl (by show _ + 2 ≤ _; omega) hz ?_); intro v1 w1 hown1 hbel1)
          go_roundw
          case rel => exact ⟨k + 1, o ++ [92, 114], by go_num, by omega, by simp; omega, HN.out _ h2, hown1, HW.out.trans hbel1, Nat.le_trans hz hbel1.size⟩
          case measure => simp [RowKit.intOf]; omega
        · subst h1
          go_wp2_with (at_builtin; go_must (refine wpList_text rfl _ _ rfl w.heap.size wr u7 o ⟨#[92, 116]⟩ rfl HO.out rfl (by show _ + 2 ≤ _; omega) hz ?_); intro v1 w1 hown1 hbel1)
          go_roundw
          case rel => exact ⟨k + 1, o ++ [92, 116], by go_num, by omega, by simp; omega, HN.out _ h2, hown1, HW.out.trans hbel1, Nat.le_trans hz hbel1.size⟩
          case measure => simp [RowKit.intOf]; omega
        · obtain ⟨h1, e8, e9, e10, e12, e13⟩ := h1
          have d34 : (n == 34) = false := beq_eq_false_iff_ne.2 (by omega)
          have d92 : (n == 92) = false := beq_eq_false_iff_ne.2 (by omega)
          have d8 : (n == 8) = false := beq_eq_false_iff_ne.2 e8
          have d12 : (n == 12) = false := beq_eq_false_iff_ne.2 e12
          have d10 : (n == 10) = false := beq_eq_false_iff_ne.2 e10
          have d13 : (n == 13) = false := beq_eq_false_iff_ne.2 e13
          have d9 : (n == 9) = false := beq_eq_false_iff_ne.2 e9
          clear e8 e9 e10 e12 e13
          go_wp2_with fail
          obtain ⟨q, hq⟩ : ∃ q : Nat, c.toNat / 16 = q := ⟨_, rfl⟩
          obtain ⟨r, hr⟩ : ∃ r : Nat, c.toNat % 16 = r := ⟨_, rfl⟩
          have eq1 : n.tdiv 16 = (q : Int) := by rw [Int.tdiv_eq_ediv_of_nonneg hnb.1]; omega
          have er1 : n.tmod 16 = (r : Int) := by rw [Int.tmod_eq_emod_of_nonneg hnb.1]; omega
          have eq2 : n / 16 = (q : Int) := by omega
          have er2 : n % 16 = (r : Int) := by omega
          have hq1 : (0 : Int) ≤ (q : Int) := by omega
          have hq2 : (q : Int) < 16 := by omega
          have hr1 : (0 : Int) ≤ (r : Int) := by omega
          have hr2 : (r : Int) < 16 := by omega
          have hqs : q < hexT.size := by show q < 16; omega
          have hrs : r < hexT.size := by show r < 16; omega
          have hwq : IntKind.u8.wrap (q : Int) = (q : Int) := by rw [IntKind.wrap_u8']; omega
          have hwr : IntKind.u8.wrap (r : Int) = (r : Int) := by rw [IntKind.wrap_u8']; omega
          have HX := Lib.hid (hexT_at q (by omega) hqs)
          have HY := Lib.hid (hexT_at r (by omega) hrs)
          have HN2 := Lib.hid (HN.out _ h2)
          rw [hq, hr] at HN2
          clear h2 hq hr hn hge3 d34 d92 d8 d12 d10 d13 d9 h1
          go_region_law ((refine step_bytes (by rfl) (.tmp 59) (.tmp 68) (by rfl) w.heap.size wr.drew u7 o [92, 117, 48, 48, (⟨#[48, 49, 50, 51, 52, 53, 54, 55, 56, 57, 97, 98, 99, 100, 101, 102]⟩ : ByteArray)[q]'hqs, (⟨#[48, 49, 50, 51, 52, 53, 54, 55, 56, 57, 97, 98, 99, 100, 101, 102]⟩ : ByteArray)[r]'hrs] (by rfl) HO.out #[.int .u8 92, .int .u8 117, .int .u8 48, .int .u8 48, .int .u8 (((⟨#[48, 49, 50, 51, 52, 53, 54, 55, 56, 57, 97, 98, 99, 100, 101, 102]⟩ : ByteArray)[q]'hqs).toNat : Int), .int .u8 (((⟨#[48, 49, 50, 51, 52, 53, 54, 55, 56, 57, 97, 98, 99, 100, 101, 102]⟩ : ByteArray)[r]'hrs).toNat : Int)] (by rfl) (by rfl) (by show _ + 6 ≤ _; omega) (by show 0 < 6; omega) hz ?_; intro v1 w1 hown1 hbel1))
          all_goals
            go_wp2_with fail
            go_roundw
            case rel => exact ⟨k + 1, o ++ [92, 117, 48, 48, (⟨#[48, 49, 50, 51, 52, 53, 54, 55, 56, 57, 97, 98, 99, 100, 101, 102]⟩ : ByteArray)[q]'hqs, (⟨#[48, 49, 50, 51, 52, 53, 54, 55, 56, 57, 97, 98, 99, 100, 101, 102]⟩ : ByteArray)[r]'hrs], by go_num, by omega, by simp; omega, by rw [show (⟨#[48, 49, 50, 51, 52, 53, 54, 55, 56, 57, 97, 98, 99, 100, 101, 102]⟩ : ByteArray)[q]'hqs = hexC q from HX.out, show (⟨#[48, 49, 50, 51, 52, 53, 54, 55, 56, 57, 97, 98, 99, 100, 101, 102]⟩ : ByteArray)[r]'hrs = hexC r from HY.out]; exact HN2.out, hown1, (below_drew1 HW.out).trans hbel1, Nat.le_trans hz hbel1.size⟩
            case measure => simp [RowKit.intOf]; omega
        · obtain ⟨h1, e34, e92⟩ := h1
          have d34 : (n == 34) = false := beq_eq_false_iff_ne.2 e34
          have d92 : (n == 92) = false := beq_eq_false_iff_ne.2 e92
          have d8 : (n == 8) = false := beq_eq_false_iff_ne.2 (by omega)
          have d12 : (n == 12) = false := beq_eq_false_iff_ne.2 (by omega)
          have d10 : (n == 10) = false := beq_eq_false_iff_ne.2 (by omega)
          have d13 : (n == 13) = false := beq_eq_false_iff_ne.2 (by omega)
          have d9 : (n == 9) = false := beq_eq_false_iff_ne.2 (by omega)
          clear e34 e92
          go_wp2_with (at_builtin; go_must (refine wpList_bytes rfl _ _ rfl w.heap.size wr u7 o [c] rfl HO.out _ rfl (by unfold byteCells; simp [hn]) (by simp; omega) hz ?_); intro v1 w1 hown1 hbel1)
          go_roundw
          case rel => exact ⟨k + 1, o ++ [c], by go_num, by omega, by simp; omega, HN.out _ h2, hown1, HW.out.trans hbel1, Nat.le_trans hz hbel1.size⟩
          case measure => simp [RowKit.intOf]; omega
      · have hlk : k = l.length := by omega
        have HF : Hid (R = (o ++ [34], 0)) := by
          have h1 := HQ.out
          unfold Rq at h1
          rw [hlk, List.take_length] at h1
          rw [← HR.out, h1]
          exact Lib.hid rfl
        go_wp2_with (first | (at_builtin; go_must (refine wpList_bytes rfl _ _ rfl w.heap.size wr u7 o [34] rfl HO.out _ rfl rfl (by simp; omega) hz ?_); intro v1 w1 hown1 hbel1; have hcv := run_text hown1))
        go_ret2
        exact ⟨by rw [HF.out]; rfl, HW.out.trans hbel1⟩
end Go.Proofs.YtnnlpkbopeiefaaGreatDoor
/-! The walk of quote.Quote: it writes quoteL. -/
namespace Go.Proofs.YtnnlpkbopeiefaaGreatDoor
set_option linter.unusedSimpArgs false
set_option linter.unusedVariables false
open Go.RowKit
open Go.Lib hiding intOf
theorem rune_step (l : List UInt8) (p : Nat) (hp : p < l.length) (hv : validD (l.drop p) = true) :
    ∃ r, okRune r ∧ runeI (bs l) p = r ∧ widN (bs l) p = (encodeRune r).length ∧ validD (l.drop (p + widN (bs l) p)) = true ∧ qBs (l.take (p + widN (bs l) p)) = qBs (l.take p) ++ qBs (encodeRune r) := by
  have hne : l.drop p ≠ [] := by
    intro h
    have := congrArg List.length h
    rw [List.length_drop] at this
    simp at this; omega
  obtain ⟨r, t, hr, he, ht, hd⟩ := valid_cut _ hne hv
  have hdd := decodeL_drop (bs l) p
  rw [bs_data, hd] at hdd
  have hw : widN (bs l) p = (encodeRune r).length := by unfold widN; rw [← hdd]
  refine ⟨r, hr, ?_, hw, ?_, ?_⟩
  · unfold runeI
    rw [← hdd]
    exact Int.toNat_of_nonneg hr.1
  · rw [hw, ← List.drop_drop, he, List.drop_left]
    exact ht
  · rw [hw, ← qBs_append]
    congr 1
    rw [List.take_add, he, List.take_left]
def Kind (r : Int) : Prop := (∃ L : UInt8, letterI r = (L.toNat : Int) ∧ (L.toNat : Int) ≠ 0 ∧ qBs (encodeRune r) = [92, L]) ∨ (∃ c : Nat, r = c ∧ c < 32 ∧ letterI r = 0 ∧ qBs (encodeRune r) = [92, 117] ++ (List.replicate (4 - (hexS c).length) 48 ++ hexS c)) ∨ (32 ≤ r ∧ letterI r = 0 ∧ qBs (encodeRune r) = encodeRune r)
theorem kind_low : ∀ n : Fin 128, let c := UInt8.ofNat n.val
    ((letterI n.val).toNat < 256 ∧ 0 ≤ letterI n.val) ∧
    (letterI n.val ≠ 0 ∧ qB c = [92, UInt8.ofNat (letterI n.val).toNat]) ∨
    (n.val < 32 ∧ letterI n.val = 0 ∧ qB c = [92, 117] ++ (List.replicate (4 - (hexS n.val).length) 48 ++ hexS n.val)) ∨
    (32 ≤ n.val ∧ letterI n.val = 0 ∧ qB c = [c]) := by decide +kernel
theorem letter_bd (n : Int) : 0 ≤ letterI n ∧ letterI n < 256 := by
  unfold letterI
  repeat' split
  all_goals simp
theorem kind_of (r : Int) (h : okRune r) : Kind r := by
  by_cases h128 : r < 128
  · have h0 := h.1
    obtain ⟨n, hn⟩ : ∃ n : Nat, r = n := ⟨r.toNat, by omega⟩
    subst hn
    have hc : encodeRune (n : Int) = [UInt8.ofNat n] := by
      have := encode_one (UInt8.ofNat n) (by rw [UInt8.toNat_ofNat']; omega)
      rw [UInt8.toNat_ofNat', Nat.mod_eq_of_lt (show n < 256 by omega)] at this
      exact this
    have hk := kind_low ⟨n, by omega⟩
    simp only [] at hk
    unfold Kind
    rw [hc, show qBs [UInt8.ofNat n] = qB (UInt8.ofNat n) by simp [qBs]]
    rcases hk with ⟨_, h1, h2⟩ | ⟨h1, h2, h3⟩ | ⟨h1, h2, h3⟩
    · have hb := letter_bd (n : Int)
      have e : (letterI (n : Int)) = ((UInt8.ofNat (letterI (n : Int)).toNat).toNat : Int) := by rw [UInt8.toNat_ofNat']; omega
      exact .inl ⟨UInt8.ofNat (letterI (n : Int)).toNat, e, by rw [← e]; exact h1, h2⟩
    · exact .inr (.inl ⟨n, rfl, h1, h2, h3⟩)
    · exact .inr (.inr ⟨by omega, h2, h3⟩)
  · refine .inr (.inr ⟨by omega, ?_, qBs_high _ (encode_high r h (by omega))⟩)
    unfold letterI
    rw [if_neg (by omega), if_neg (by omega), if_neg (by omega), if_neg (by omega), if_neg (by omega), if_neg (by omega), if_neg (by omega)]
theorem cat3_ (Z X : List UInt8) : (⟨([92, 117] ++ (Z ++ X)).toArray⟩ : ByteArray) = (⟨#[92, 117]⟩ : ByteArray) ++ bs Z ++ bs X := by
  have h1 : (⟨#[92, 117]⟩ : ByteArray) = bs [92, 117] := rfl
  have h2 : (⟨([92, 117] ++ (Z ++ X)).toArray⟩ : ByteArray) = bs ([92, 117] ++ (Z ++ X)) := rfl
  rw [h1, h2, bs_append, bs_append, List.append_assoc]
def Rv (l : List UInt8) (p : Nat) (o : List UInt8) : Prop := o = 34 :: qBs (l.take p) ∧ validD (l.drop p) = true
theorem rv_next {l : List UInt8} {p : Nat} {o : List UInt8} (h : Rv l p o) (hp : p < l.length) : ∃ r, okRune r ∧ Kind r ∧ runeI (bs l) p = r ∧ widN (bs l) p = (encodeRune r).length ∧ Rv l (p + widN (bs l) p) (o ++ qBs (encodeRune r)) := by
  obtain ⟨r, h1, h2, h3, h4, h5⟩ := rune_step l p hp h.2
  exact ⟨r, h1, kind_of r h1, h2, h3, by rw [h.1, h5]; rfl, h4⟩
set_option maxRecDepth 100000 in
set_option maxHeartbeats 4000000 in
theorem quote_any (l : List UInt8) (w : World) (hs : l.length ≤ 536870912) (hT : Tabs w) (hD : DTab w) :
    Calls Tryz.prog 113 #[.string (bs l)] w fun e w' => e = QuoteE (quoteL l) ∧ Below w.heap.size w w' := by
  have sl := bs_size l
  have C := valid_any (bs l) w (by omega) hT
  rw [validRes_snd, bs_data] at C
  obtain ⟨N, hN⟩ : ∃ N, (validRes (bs l)).1 = N := ⟨_, rfl⟩
  rw [hN] at C
  clear hN
  obtain ⟨R, hR⟩ : ∃ R, quoteL l = R := ⟨_, rfl⟩
  rw [hR]
  unfold quoteL at hR
  have HD := Lib.hid hD; clear hD hT
  cases hv : validD l with
  | false =>
    rw [hv] at C hR
    rw [if_neg (by simp)] at hR
    subst hR
    have HC := Lib.hid C
    clear C hv
    go_enter Tryz.func113, Tryz.ntmps113
    go_wp2_with fail
    refine HC.out.mono ?_
    rintro e w1 ⟨rfl, hb1⟩
    go_wp2_with fail
    go_ret2
    exact ⟨rfl, hb1⟩
  | true =>
    rw [hv] at C hR
    rw [if_pos rfl] at hR
    have HR := Lib.hid hR
    have HC := Lib.hid C
    have HV := Lib.hid hv
    clear C hv hR
    go_enter Tryz.func113, Tryz.ntmps113
    go_wp2_with fail
    refine HC.out.mono ?_
    rintro e w1 ⟨rfl, hb1⟩
    have HB1 := Lib.hid hb1; clear hb1
    go_wp2_with fail
    refine (writeByte_any w1.heap.size w1.heap.size [] 34 _ (Bld.new w1) (by simp) (by simp)).mono ?_
    rintro e w2 ⟨rfl, h2, b2, _⟩
    have HBd2 := Lib.hid h2
    have HW2 := Lib.hid ((below_alloc1 w1 _).trans b2)
    have hz2 : w1.heap.size < w2.heap.size := by have := b2.size; simp at this; omega
    clear h2 b2
    go_wp2_with fail
    go_loopw [8] (fun _ wr => ∃ (p : Nat) (o : List UInt8), p ≤ l.length ∧ o.length ≤ 6 * p + 1 ∧ Hid (Rv l p o) ∧ Hid (wr.heap[w2.heap.size]? = some (.stringIter (bs l) p)) ∧ Hid (Bld w1.heap.size w1.heap.size o wr) ∧ Hid (Below w1.heap.size w1 wr)) (fun _ wr => l.length - wr.iterPos w2.heap.size)
    case atStart => exact ⟨0, [34], by omega, by simp, ⟨rfl, HV.out⟩, World.iter_heap w2 (bs l) 0, HBd2.out.keep (below_alloc1 _ _), HW2.out.trans ((below_alloc1 w2 _).mono (Nat.le_of_lt hz2))⟩
    case round =>
      obtain ⟨p, o, hp, hol, HQ, HI, HBd, HW⟩ := hrel
      by_cases hlt : p < l.length
      · have hlt' : p < (bs l).size := by omega
        obtain ⟨r, hro, hk, hr, hwid, hq⟩ := rv_next HQ.out hlt
        have hwb := widN_bd (bs l) p hlt'
        have hnx : ∀ ty, (Instr.next (.pointer (some ⟨w2.heap.size, 0, none⟩)) true ty).run Tryz.prog wr = .ok (.tuple #[.bool true, .int .i64 p, .int .i32 r]) (wr.iterAt w2.heap.size (bs l) (p + widN (bs l) p)) := fun ty => by
          have := Lib.run_next_any_at (P := Tryz.prog) wr _ (bs l) p ty HI.out hlt'
          unfold runeI at hr
          rw [hr] at this
          exact this
        have HI2 := Lib.hid (Lib.iterAt_heap wr w2.heap.size (bs l) p (p + widN (bs l) p) HI.out)
        have HBd2 : Hid (Bld w1.heap.size w1.heap.size o (wr.iterAt w2.heap.size (bs l) (p + widN (bs l) p))) := Lib.hid (Lib.IsBuilderF.iterAt HBd.out HI.out _)
        have HW2 := Lib.hid (Lib.below_iterAt HW.out (Nat.le_of_lt hz2) (bs l) (p + widN (bs l) p))
        have HM := Lib.hid (iterPos_of HI.out)
        obtain ⟨wd, hwd⟩ : ∃ wd, widN (bs l) p = wd := ⟨_, rfl⟩
        rw [hwd] at hwid hq hwb hnx HI2 HBd2 HW2
        have HQ2 := Lib.hid hq
        clear hr hq HQ HI HBd HW hwd
        have hlen : (encodeRune r).length ≤ 4 := by rw [← hwid]; exact hwb.2.1
        have hql := qBs_len (encodeRune r)
        rw [← hwid] at hql
        have hr0 := hro.1
        have hr1 := hro.2.1
        have CL := Lib.hid (fun w => letter_any r w)
        clear hro hwid
        rcases hk with ⟨L, hL, hL0, hq⟩ | ⟨c, hc, hc32, hL, hq⟩ | ⟨h32, hL, hq⟩
        · rw [hL] at CL
          rw [hq] at HQ2 hql
          have hLb : (((L.toNat : Nat) : Int) != 0) = true := bne_iff_ne.2 hL0
          clear hL hq hL0
          go_wp2_with fail
          refine (CL.out _).mono ?_
          rintro e w' ⟨rfl, rfl⟩
          go_wp2_with fail
          refine (writeByte_any w1.heap.size w1.heap.size o 92 _ HBd2.out (by omega) HW2.out.size).mono ?_
          rintro e w3 ⟨rfl, h3, b3, k3⟩
          have HI3 := Lib.hid (k3.iter HI2.out (by omega))
          have HBd3 := Lib.hid h3
          have HW3 := Lib.hid (HW2.out.trans b3)
          clear h3 b3 k3
          go_wp2_with fail
          refine (writeByte_any w1.heap.size w1.heap.size (o ++ [92]) L _ HBd3.out (by simp; omega) HW3.out.size).mono ?_
          rintro e w4 ⟨rfl, h4, b4, k4⟩
          have HI4 := Lib.hid (k4.iter HI3.out (by omega))
          have HBd4 := Lib.hid h4
          have HW4 := Lib.hid (HW3.out.trans b4)
          clear h4 b4 k4
          go_wp2_with fail
          go_roundw
          case rel => exact ⟨p + wd, o ++ [92, L], by omega, by simp at *; omega, HQ2.out, HI4.out, by have := HBd4.out; rw [List.append_assoc] at this; exact this, HW4.out⟩
          case measure => rw [iterPos_of HI4.out, HM.out]; omega
        · rw [hL] at CL
          rw [hq] at HQ2 hql
          subst hc
          have hge : decide ((32 : Int) ≤ (c : Int)) = false := decide_eq_false (by omega)
          have CF := Lib.hid (fun w hT => fmt16_any c hc32 w hT)
          obtain ⟨hzl, hz4⟩ : 1 ≤ (hexS c).length ∧ (hexS c).length ≤ 4 := ⟨by unfold hexS; split <;> simp, by unfold hexS; split <;> simp⟩
          obtain ⟨X, hX⟩ : ∃ X, hexS c = X := ⟨_, rfl⟩
          rw [hX] at HQ2 hql CF hzl hz4
          obtain ⟨Y, hY⟩ : ∃ Y, 4 - X.length = Y := ⟨_, rfl⟩
          rw [hY] at HQ2 hql
          have CZ := Lib.hid (fun w => zeros_any Y w (by omega))
          obtain ⟨Z, hZ⟩ : ∃ Z, List.replicate Y (48 : UInt8) = Z := ⟨_, rfl⟩
          have hZl : Z.length = Y := by rw [← hZ, List.length_replicate]
          rw [hZ] at HQ2 hql CZ
          have hXs := bs_size X
          have hZs : (bs Z).size = Y := by rw [bs_size, hZl]
          have h4z : (4 : Int) - (X.length : Int) = (Y : Int) := by omega
          have hY3 : Y ≤ 3 := by omega
          have HZl := Lib.hid hZl
          have HY := Lib.hid hY
          clear hL hq hX hZ hZl hY
          go_wp2_with fail
          refine (CL.out _).mono ?_
          rintro e w' ⟨rfl, rfl⟩
          go_wp2_with fail
          refine (CF.out _ (HD.out.keep (below_of_new HB1.out HW2.out))).mono ?_
          rintro e w3 ⟨rfl, b3⟩
          have HI3 := Lib.hid ((b3.block w2.heap.size (cell_it HI2.out)).trans HI2.out)
          have HBd3 := Lib.hid (HBd2.out.keep b3)
          have HW3 := Lib.hid (HW2.out.trans (b3.mono HW2.out.size))
          clear b3
          go_wp2_with fail
          with_reducible refine (CZ.out _).mono ?_
          rintro e w4 ⟨rfl, b4⟩
          have HI4 := Lib.hid ((b4.block w2.heap.size (cell_it HI3.out)).trans HI3.out)
          have HBd4 := Lib.hid (HBd3.out.keep b4)
          have HW4 := Lib.hid (HW3.out.trans (b4.mono HW3.out.size))
          clear b4
          have CW := writeString_any w1.heap.size w1.heap.size o ([92, 117] ++ (Z ++ X)) w4 HBd4.out (by simp only [List.length_append, List.length_cons, List.length_nil, HZl.out]; omega) HW4.out.size
          rw [cat3_ Z X] at CW
          have HCW := Lib.hid CW
          clear CW
          go_wp2_with fail
          with_reducible refine HCW.out.mono ?_
          rintro e w5 ⟨rfl, h5, b5, k5⟩
          have HI5 := Lib.hid (k5.iter HI4.out (by omega))
          have HBd5 := Lib.hid h5
          have HW5 := Lib.hid (HW4.out.trans b5)
          clear h5 b5 k5
          go_wp2_with fail
          go_roundw
          case rel => exact ⟨p + wd, o ++ ([92, 117] ++ (Z ++ X)), by omega, by rw [List.length_append]; omega, HQ2.out, HI5.out, HBd5.out, HW5.out⟩
          case measure => rw [iterPos_of HI5.out, HM.out]; omega
        · rw [hL] at CL
          rw [hq] at HQ2
          have hge : decide ((32 : Int) ≤ r) = true := decide_eq_true h32
          clear hL hq
          go_wp2_with fail
          refine (CL.out _).mono ?_
          rintro e w' ⟨rfl, rfl⟩
          go_wp2_with fail
          refine (writeRune_any w1.heap.size w1.heap.size o r _ HBd2.out ⟨hr0, hr1⟩ (by omega) HW2.out.size).mono ?_
          rintro e w3 ⟨rfl, h3, b3, k3⟩
          have HI3 := Lib.hid (k3.iter HI2.out (by omega))
          have HBd3 := Lib.hid h3
          have HW3 := Lib.hid (HW2.out.trans b3)
          clear h3 b3 k3
          go_wp2_with fail
          go_roundw
          case rel => exact ⟨p + wd, o ++ encodeRune r, by omega, by rw [List.length_append]; omega, HQ2.out, HI3.out, HBd3.out, HW3.out⟩
          case measure => rw [iterPos_of HI3.out, HM.out]; omega
      · have hnx : ∀ ty, (Instr.next (.pointer (some ⟨w2.heap.size, 0, none⟩)) true ty).run Tryz.prog wr = .ok (.tuple #[.bool false]) wr := fun ty => Lib.run_next_end_at wr _ (bs l) p ty HI.out (by omega)
        have HF : Hid (R = (o ++ [34], 0)) := by
          have h1 := HQ.out.1
          rw [show p = l.length by omega, List.take_length] at h1
          rw [← HR.out, h1]
          exact Lib.hid rfl
        go_wp2_with fail
        refine (writeByte_any w1.heap.size w1.heap.size o 34 _ HBd.out (by omega) HW.out.size).mono ?_
        rintro e w3 ⟨rfl, h3, b3, k3⟩
        have HBd3 := Lib.hid h3
        have HW3 := Lib.hid (HW.out.trans b3)
        clear h3 b3 k3
        go_wp2_with fail
        refine (Tryz.Builder_String_any_k w1.heap.size w1.heap.size (o ++ [34]) _ HBd3.out HW3.out.size).mono ?_
        rintro e w4 ⟨rfl, _, b4, _⟩
        go_wp2_with fail
        go_ret2
        exact ⟨by rw [HF.out]; rfl, below_of_new HB1.out (HW3.out.trans b4)⟩
end Go.Proofs.YtnnlpkbopeiefaaGreatDoor

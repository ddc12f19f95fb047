import Derived.Test.YtpfkdnhjideflaaDoorQuoN
import Derived.BigQuiet
import Derived.Deep.QuietTactic
/-! The walk of the law QuoteApart. -/
namespace Go.Proofs.YtpfkdnhjideflaaDoor
set_option linter.unusedSimpArgs false
set_option linter.unusedVariables false
open Go.RowKit
open Go.Lib hiding intOf

theorem quote_form (l : List UInt8) : (quoteL l).2 = 0 ∧ validD l = true ∨ (quoteL l).2 = 2 ∧ (quoteL l).1 = [] := by
  unfold quoteL
  cases h : validD l with
  | true => exact .inl ⟨rfl, rfl⟩
  | false => exact .inr ⟨rfl, rfl⟩
theorem bs_ne {a b : List UInt8} (h : a ≠ b) : bs a ≠ bs b := fun e => h (bs_inj e)
set_option maxRecDepth 100000 in
set_option maxHeartbeats 4000000 in
theorem quoteApart_any (s t : ByteArray) (w : World) (hs : s.size ≤ 1048576) (ht : t.size ≤ 1048576) (hV : Qv w) :
    Calls Tryd.prog 9 #[.string s, .string t] w fun e w' => e = .returned (.bool true) ∧ Below w.heap.size w w' := by
  have C0 := Lib.hid (fun w h => qsmall_any w h)
  have HV0 := Lib.hid hV; clear hV
  obtain ⟨l, rfl⟩ : ∃ l, s = bs l := ⟨s.data.toList, (bs_of s).symm⟩
  obtain ⟨m, rfl⟩ : ∃ m, t = bs m := ⟨t.data.toList, (bs_of t).symm⟩
  have sl := bs_size l
  have sm := bs_size m
  obtain ⟨q, e1, hq⟩ : ∃ q e, quoteL l = (q, e) := ⟨_, _, rfl⟩
  obtain ⟨u, e2, hu⟩ : ∃ u e, quoteL m = (u, e) := ⟨_, _, rfl⟩
  have C1 := Lib.hid (fun w h => quote_at' l q e1 hq w (by omega) h)
  have C2 := Lib.hid (fun w h => quote_at' m u e2 hu w (by omega) h)
  have hql := quote_len l
  have hqa := quote_at l
  have f1 := quote_form l
  have f2 := quote_form m
  have hinj := quote_inj l m
  rw [hq] at hql hqa f1 hinj
  rw [hu] at f2 hinj
  simp only [] at hql hqa f1 f2 hinj
  have HQA := Lib.hid hqa
  have HI := Lib.hid hinj
  have HF1 := Lib.hid f1
  have HF2 := Lib.hid f2
  have hqu : l = m → q = u := fun h => by rw [h, hu] at hq; injection hq with a b; exact a.symm
  have HQU := Lib.hid hqu
  have sq := bs_size q
  clear hq hu hqa f1 f2 hinj hqu
  go_enter Tryd.func9, Tryd.ntmps9
  go_wp2_with fail
  with_reducible refine (C0.out _ HV0.out).mono ?_
  rintro e w1 ⟨rfl, hb1⟩
  have HB1 := Lib.hid hb1; have HV1 := Lib.hid (HV0.out.keep hb1); clear hb1
  go_wp2_with fail
  with_reducible refine (C1.out _ HV1.out).mono ?_
  rintro e w2 ⟨rfl, hb2⟩
  have HB2 := Lib.hid (below_of_new HB1.out hb2); have HV2 := Lib.hid (HV1.out.keep hb2); clear hb2
  go_wp2_with fail
  with_reducible refine (C2.out _ HV2.out).mono ?_
  rintro e w3 ⟨rfl, hb3⟩
  have HB3 := Lib.hid (below_of_new HB2.out hb3); have HV3 := Lib.hid (HV2.out.keep hb3); clear hb3
  go_wp2_with fail
  go_loop [10] (fun s10 => ∃ i : Nat, s10 = .int .i64 i ∧ i ≤ q.length) (fun s10 => q.length - (RowKit.intOf s10).toNat)
  case atStart => exact ⟨0, rfl, by omega⟩
  case round =>
    obtain ⟨i, rfl, hi⟩ := hrel
    by_cases hlt : i < q.length
    · have hlt' : i < (bs q).size := by omega
      have hg := at_bs q i hlt'
      obtain ⟨c, hc⟩ : ∃ c, (bs q)[i]'hlt' = c := ⟨_, rfl⟩
      rw [hc] at hg
      obtain ⟨g1, g2, g3, g4⟩ := HQA.out i c hg
      obtain ⟨n, hn⟩ : ∃ n : Int, (c.toNat : Int) = n := ⟨_, rfl⟩
      have hge : (((bs q)[i]'hlt').toNat : Int) = n := by rw [hc, hn]
      have hn32 : ¬ n < 32 := by omega
      have d32 : decide (n < 32) = false := decide_eq_false hn32
      by_cases hi0 : i = 0
      · have h34 : n = 34 := by rw [← hn, g2 hi0]; rfl
        subst h34
        clear g1 g2 g3 g4 hg hc hn
        subst hi0
        go_wp2_with fail
        go_round
        case rel => exact ⟨1, rfl, by omega⟩
        case measure => simp [RowKit.intOf]; omega
      · have t0 : ((i : Int) == 0) = false := beq_eq_false_iff_ne.2 (by omega)
        by_cases hil : i + 1 = q.length
        · have h34 : n = 34 := by rw [← hn, g3 hil]; rfl
          have t1 : ((i : Int) == (q.length : Int) - 1) = true := beq_iff_eq.2 (by omega)
          subst h34
          clear g1 g2 g3 g4 hg hc hn
          go_wp2_with fail
          go_round
          case rel => exact ⟨i + 1, by go_num, by omega⟩
          case measure => simp [RowKit.intOf]; omega
        · have t1 : ((i : Int) == (q.length : Int) - 1) = false := beq_eq_false_iff_ne.2 (by omega)
          by_cases h34 : n = 34
          · have h92 := g4 (UInt8.toNat_inj.1 (by show c.toNat = 34; omega)) hi0 hil
            have hlp : i - 1 < (bs q).size := by omega
            have hgp := at_bs q (i - 1) hlp
            rw [h92] at hgp
            have hp : (((bs q)[i - 1]'hlp).toNat : Int) = 92 := by rw [← Option.some.inj hgp]; rfl
            have hi1 : ((i : Int) - 1).toNat = i - 1 := by omega
            have hi2 : 0 ≤ (i : Int) - 1 := by omega
            have hi3 : (i : Int) - 1 < (q.length : Int) := by omega
            subst h34
            clear g1 g2 g3 g4 hg hc hn hgp h92
            go_wp2_with fail
            go_round
            case rel => exact ⟨i + 1, by go_num, by omega⟩
            case measure => simp [RowKit.intOf]; omega
          · have t34 : (n == 34) = false := beq_eq_false_iff_ne.2 h34
            clear g1 g2 g3 g4 hg hc hn
            go_wp2_with fail
            go_round
            case rel => exact ⟨i + 1, by go_num, by omega⟩
            case measure => simp [RowKit.intOf]; omega
    · rcases HF1.out with ⟨rfl, v1⟩ | ⟨rfl, v1⟩
      · rcases HF2.out with ⟨rfl, v2⟩ | ⟨rfl, v2⟩
        · by_cases hlm : l = m
          · have hqu := HQU.out hlm
            subst hlm hqu
            clear v1 v2
            go_wp2_with fail
            go_ret
            exact ⟨rfl, HB3.out⟩
          · have hb2 : q ≠ u := fun h => hlm (HI.out v1 v2 h)
            have tb1 : ((bs l).toList == (bs m).toList) = false := by rw [Lib.toList_data, Lib.toList_data, bs_data, bs_data]; exact beq_eq_false_iff_ne.2 hlm
            have tb2 : ((bs q).toList == (bs u).toList) = false := by rw [Lib.toList_data, Lib.toList_data, bs_data, bs_data]; exact beq_eq_false_iff_ne.2 hb2
            clear hb2
            clear v1 v2
            go_wp2_with fail
            go_ret
            exact ⟨rfl, HB3.out⟩
        · clear v1 v2
          go_wp2_with fail
          go_ret
          exact ⟨rfl, HB3.out⟩
      · clear v1
        go_wp2_with fail
        go_ret
        exact ⟨rfl, HB3.out⟩
end Go.Proofs.YtpfkdnhjideflaaDoor

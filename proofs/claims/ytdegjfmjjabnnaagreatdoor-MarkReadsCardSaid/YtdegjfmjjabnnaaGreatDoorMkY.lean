import Derived.Test.YtdegjfmjjabnnaaGreatDoorMkX
/-! The walk of mark.Pick. -/
namespace Go.Proofs.YtdegjfmjjabnnaaGreatDoor
set_option linter.unusedSimpArgs false
set_option linter.unusedVariables false
open Go.RowKit
open Go.Lib hiding intOf

/-- A value that reads as ints. -/
def IV (w : World) (v : Value) (ps : List Int) : Prop := ∃ p c, v = .slice p ps.length c ∧ ps.length ≤ c ∧ (ps = [] ∨ ∃ g o, p = some ⟨g, o, none⟩ ∧ g < w.heap.size ∧ ∀ (j : Nat) (k : Int), ps[j]? = some k → w.cell? ⟨g, o + j, none⟩ = some (.int .i64 k))
theorem IV.keep {w w' : World} {v : Value} {ps : List Int} (h : IV w v ps) (hb : Below w.heap.size w w') : IV w' v ps := by
  obtain ⟨p, c, h1, hc, h2⟩ := h
  refine ⟨p, c, h1, hc, ?_⟩
  rcases h2 with h2 | ⟨g, o, h2, h3, h4⟩
  · exact .inl h2
  · exact .inr ⟨g, o, h2, Nat.lt_of_lt_of_le h3 hb.size, fun j k hk => by rw [hb.cell (p := ⟨g, o + j, none⟩) h3]; exact h4 j k hk⟩
theorem tail_iv {w : World} {g o c : Nat} {k : Int} {r : List Int} (h : IV w (.slice (some ⟨g, o, none⟩) (r.length + 1) c) (k :: r)) : IV w (.slice (if c = 1 then some ⟨g, o, none⟩ else some ⟨g, o + 1, none⟩) r.length (c - 1)) r := by
  obtain ⟨p', c', h1, hc, h2⟩ := h
  cases h1
  rw [List.length_cons] at hc
  refine ⟨_, _, rfl, by omega, ?_⟩
  by_cases hc1 : c = 1
  · left
    exact List.length_eq_zero_iff.1 (by omega)
  · right
    rcases h2 with h2 | ⟨g', o', h2, h3, h4⟩
    · cases h2
    · cases h2
      refine ⟨g, o + 1, by rw [if_neg hc1], h3, fun j q hj => ?_⟩
      rw [show o + 1 + j = o + (j + 1) by omega]
      exact h4 (j + 1) q (by simpa using hj)
def totP (l : List Part) : Nat := (l.map fun x => x.text.length + x.s0.length + x.s1.length + x.s2.length).sum
theorem totP_cons (x : Part) (l : List Part) : totP (x :: l) = (x.text.length + x.s0.length + x.s1.length + x.s2.length) + totP l := rfl
/-- What is picked, and what is still to come. -/
def PkR (R : Option (List UInt8)) (acc : List UInt8) (l : List Part) (r : List Int) : Prop := (pickGo l r).map (acc ++ ·) = R
theorem PkR.start (l : List Part) (r : List Int) : PkR (pickGo l r) [] l r := by unfold PkR; simp
theorem PkR.done {R : Option (List UInt8)} {acc : List UInt8} (h : PkR R acc [] []) : R = some acc := by unfold PkR at h; rw [← h, pickGo]; simp
theorem PkR.over {R : Option (List UInt8)} {acc : List UInt8} {k : Int} {r : List Int} (h : PkR R acc [] (k :: r)) : R = none := by unfold PkR at h; rw [← h, pickGo]; rfl
theorem pg_text {x : Part} (l : List Part) (r : List Int) (hx : x.hunk = false) : pickGo (x :: l) r = (pickGo l r).map (x.text ++ ·) := by cases r <;> simp [pickGo, hx]
theorem pg_short {x : Part} (l : List Part) (hx : x.hunk = true) : pickGo (x :: l) [] = none := by simp [pickGo, hx]
theorem pg_hunk {x : Part} (l : List Part) (k : Int) (r : List Int) (hx : x.hunk = true) : pickGo (x :: l) (k :: r) = if k = 0 then (pickGo l r).map (x.s0 ++ ·) else if k = 1 then (pickGo l r).map (x.s1 ++ ·) else if k = 2 then (pickGo l r).map (x.s2 ++ ·) else none := by simp [pickGo, hx]
theorem PkR.text {R : Option (List UInt8)} {acc : List UInt8} {x : Part} {l : List Part} {r : List Int} (h : PkR R acc (x :: l) r) (hx : x.hunk = false) : PkR R (acc ++ x.text) l r := by
  unfold PkR at h ⊢
  rw [pg_text l r hx, Option.map_map] at h
  rw [← h]; congr 1; funext a; simp
theorem PkR.short {R : Option (List UInt8)} {acc : List UInt8} {x : Part} {l : List Part} (h : PkR R acc (x :: l) []) (hx : x.hunk = true) : R = none := by
  unfold PkR at h
  rw [pg_short l hx] at h
  exact h.symm
theorem PkR.wrong {R : Option (List UInt8)} {acc : List UInt8} {x : Part} {l : List Part} {k : Int} {r : List Int} (h : PkR R acc (x :: l) (k :: r)) (hx : x.hunk = true) (hk : k < 0 ∨ 2 < k) : R = none := by
  unfold PkR at h
  rw [pg_hunk l k r hx, if_neg (by omega), if_neg (by omega), if_neg (by omega)] at h
  exact h.symm
def sideP (x : Part) (k : Int) : List UInt8 := if k = 0 then x.s0 else if k = 1 then x.s1 else x.s2
theorem PkR.pick {R : Option (List UInt8)} {acc : List UInt8} {x : Part} {l : List Part} {k : Int} {r : List Int} (h : PkR R acc (x :: l) (k :: r)) (hx : x.hunk = true) (hk : 0 ≤ k ∧ k ≤ 2) : PkR R (acc ++ sideP x k) l r := by
  unfold PkR at h ⊢
  rw [pg_hunk l k r hx] at h
  unfold sideP
  by_cases h0 : k = 0
  · rw [if_pos h0, Option.map_map] at h
    rw [← h, if_pos h0]; congr 1; funext a; simp
  by_cases h1 : k = 1
  · rw [if_neg h0, if_pos h1, Option.map_map] at h
    rw [← h, if_neg h0, if_pos h1]; congr 1; funext a; simp
  · rw [if_neg h0, if_neg h1, if_pos (by omega), Option.map_map] at h
    rw [← h, if_neg h0, if_neg h1]; congr 1; funext a; simp
/-- Between two parts. -/
def PkI (W0 : World) (B : Nat) (acc : List UInt8) (W : World) : Prop := Bld B B acc W ∧ Below B W0 W ∧ B ≤ W.heap.size
theorem PkI.bld {W0 W : World} {B : Nat} {acc : List UInt8} (h : PkI W0 B acc W) : Bld B B acc W := h.1
theorem PkI.bel {W0 W : World} {B : Nat} {acc : List UInt8} (h : PkI W0 B acc W) : Below B W0 W := h.2.1
theorem PkI.sz {W0 W : World} {B : Nat} {acc : List UInt8} (h : PkI W0 B acc W) : B ≤ W.heap.size := h.2.2
theorem PkI.keep {W0 W W' : World} {B : Nat} {acc : List UInt8} (h : PkI W0 B acc W) (hb : Below W.heap.size W W') : PkI W0 B acc W' := ⟨h.1.keep hb, h.2.1.trans (hb.mono h.2.2), Nat.le_trans h.2.2 hb.size⟩
theorem PkI.wrote {W0 W W' : World} {B : Nat} {acc acc2 : List UInt8} (h : PkI W0 B acc W) (h1 : Bld B B acc2 W') (h2 : Below B W W') : PkI W0 B acc2 W' := ⟨h1, h.2.1.trans h2, Nat.le_trans h.2.2 h2.size⟩
set_option maxRecDepth 100000 in
set_option maxHeartbeats 8000000 in
theorem pick_any (v pv : Value) (l : List Part) (ps : List Int) (w : World) (hv : PV w v l) (hpv : IV w pv ps) (hl : l.length ≤ 1073741825) (hpl : ps.length ≤ 1073741825) (htot : totP l ≤ 1099511627776) :
    Calls Tryz.prog 9 #[v, pv] w fun e w' => e = .returned (.tuple #[.string (bs (pickM l ps).1), .int .i64 (pickM l ps).2]) ∧ Below w.heap.size w w' := by
  have CR := Lib.hid (fun w hv => Right_any v l w hv hl)
  have HV : Hid (PV w v l) := Lib.hid hv
  have HIV := Lib.hid hpv
  obtain ⟨p, c, rfl, hp⟩ := hv
  have HP : Hid (PLies w p l) := Lib.hid hp
  obtain ⟨ip, ic, rfl, hic, _⟩ := hpv
  obtain ⟨E, hE⟩ : ∃ E, pickM l ps = E := ⟨_, rfl⟩
  rw [hE]
  unfold pickM at hE
  clear hp
  cases hr : rightM l with
  | false =>
    rw [hr] at hE CR
    have HF : Hid (E = ([], 1)) := Lib.hid (by rw [← hE]; rfl)
    clear hE
    go_enter Tryz.func9, Tryz.ntmps9
    go_wp2_with (go_at_call 21; (with_reducible refine (CR.out _ HV.out).mono ?_); rintro e w1 ⟨rfl, hb⟩; have HB := Lib.hid hb; clear hb)
    go_ret2
    exact ⟨by rw [HF.out]; rfl, HB.out⟩
  | true =>
    rw [hr, if_pos rfl] at hE
    rw [hr] at CR
    obtain ⟨R, hR⟩ : ∃ R, pickGo l ps = R := ⟨_, rfl⟩
    rw [hR] at hE
    have HEn : Hid (R = none → E = ([], 1)) := Lib.hid (fun h => by rw [← hE, h])
    have HEs : Hid (∀ a, R = some a → E = (a, 0)) := Lib.hid (fun a h => by rw [← hE, h])
    have HR0 : Hid (PkR R [] l ps) := Lib.hid (by rw [← hR]; exact PkR.start l ps)
    clear hE hR hr
    go_enter Tryz.func9, Tryz.ntmps9
    go_wp2_with (go_at_call 21; (with_reducible refine (CR.out _ HV.out).mono ?_); rintro e w1 ⟨rfl, hb⟩; have HB1 := Lib.hid hb; clear hb)
    go_upto_region 4 with fail
    have hE0 : PkI w1 w1.heap.size [] (w1.alloc (.cells #[.pointer none, .slice none 0 0] 57)) := ⟨Bld.new w1, below_alloc1 _ _, (below_alloc1 w1 (.cells #[.pointer none, .slice none 0 0] 57)).size⟩
    obtain ⟨W1, hW1⟩ : ∃ W, w1.alloc (.cells #[.pointer none, .slice none 0 0] 57) = W := ⟨_, rfl⟩
    obtain ⟨B, hB⟩ : ∃ B, w1.heap.size = B := ⟨_, rfl⟩
    rw [hW1, hB] at hE0
    rw [hW1, hB]
    have hKw : Hid (∀ W, Below B w1 W → Below w.heap.size w W) := Lib.hid (fun W h => by rw [← hB] at h; exact below_of_new HB1.out h)
    have HE0 := Lib.hid hE0
    clear hE0 hW1 hB
    go_wp2_with fail
    go_loopw [1, 14] (fun s1 s14 wr => ∃ (j : Nat) (acc : List UInt8) (r : List Int), s14 = .int .i64 j ∧ j ≤ l.length ∧ r.length ≤ ps.length ∧ Hid (IV w s1 r) ∧ Hid (acc.length + totP (l.drop j) ≤ 1099511627776) ∧ Hid (PkI w1 B acc wr) ∧ Hid (PkR R acc (l.drop j) r)) (fun _ s14 _ => l.length - (RowKit.intOf s14).toNat)
    case atStart => exact ⟨0, [], ps, rfl, by omega, by omega, HIV.out, (by rw [List.drop_zero]; exact (Nat.zero_add (totP l)).symm ▸ htot), HE0.out, HR0.out⟩
    case round =>
      obtain ⟨j, acc, r, rfl, hj, hrl, HI, HT, HE, HR⟩ := hrel
      by_cases hlt : j < l.length
      · obtain ⟨x, hx⟩ : ∃ x, l[j]? = some x := ⟨_, List.getElem?_eq_getElem hlt⟩
        obtain ⟨g, o, rfl, hg, _, c0, c1, c2, c3, c4⟩ := (HP.out.keep (hKw.out _ HE.out.bel)).at_ hx
        have hlz : (j : Int) < (l.length : Int) := by omega
        have htt := HT.out
        rw [drop_at hx, totP_cons] at htt
        have hrr := HR.out
        rw [drop_at hx] at hrr
        have HRR := Lib.hid hrr
        clear hrr
        have CWr := Lib.hid (fun (s : List UInt8) (w : World) (hs : acc.length + s.length ≤ 140737488355328) (h : Bld B B acc w) (hB : B ≤ w.heap.size) => writeString_any B B acc s w h hs hB)
        have HTT := Lib.hid htt
        clear htt hx
        go_upto_region 7 with fail
        have hbx := PBox.new wr x
        have hb1 := below_alloc1 wr (.cells #[.bool x.hunk, .string (bs x.text), .string (bs x.s0), .string (bs x.s1), .string (bs x.s2)] 30)
        obtain ⟨Wx, hWx⟩ : ∃ W, wr.alloc (.cells #[.bool x.hunk, .string (bs x.text), .string (bs x.s0), .string (bs x.s1), .string (bs x.s2)] 30) = W := ⟨_, rfl⟩
        obtain ⟨X, hX⟩ : ∃ X, wr.heap.size = X := ⟨_, rfl⟩
        rw [hWx] at hbx hb1 ⊢
        rw [hX] at hbx ⊢
        have HY := Lib.hid (HE.out.keep hb1)
        obtain ⟨⟨x0, x1, x2, x3, x4⟩, _⟩ := hbx.cells
        clear hWx hX hbx hb1 c0 c1 c2 c3 c4 HE
        cases hh : x.hunk with
        | false =>
          have HRN := Lib.hid (HRR.out.text hh)
          have C1 := Lib.hid (fun w => CWr.out x.text w (by have := HTT.out; omega))
          have HT2 : Hid ((acc ++ x.text).length + totP (l.drop (j + 1)) ≤ 1099511627776) := Lib.hid (by rw [List.length_append]; have := HTT.out; omega)
          rw [hh] at x0
          clear hh
          go_wp2_with fail
          refine (C1.out _ HY.out.bld HY.out.sz).mono ?_
          rintro e w6 ⟨rfl, h3, b3, _⟩
          have HY3 := Lib.hid (HY.out.wrote h3 b3); clear h3 b3
          go_wp2_with fail
          go_roundw
          case rel => exact ⟨j + 1, _, r, by go_num, by omega, hrl, HI.out, HT2.out, HY3.out, HRN.out⟩
          case measure => simp [RowKit.intOf]; omega
        | true =>
          rw [hh] at x0
          cases r with
          | nil =>
            have HF : Hid (E = ([], 1)) := Lib.hid (HEn.out (HRR.out.short hh))
            clear hh
            obtain ⟨ip2, ic2, rfl, hic2, _⟩ := HI.out
            go_wp2_with fail
            go_ret2
            exact ⟨by rw [HF.out]; rfl, hKw.out _ HY.out.bel⟩
          | cons k r =>
            have hI2 := HI.out.keep (hKw.out _ HY.out.bel)
            obtain ⟨ip2, ic2, rfl, hic2, hI3⟩ := hI2
            rcases hI3 with hI3 | ⟨g2, o2, rfl, hg2, hI3⟩
            · cases hI3
            have k0 := hI3 0 k rfl
            rw [Nat.add_zero] at k0
            have hkl : (0 : Int) < ((r.length + 1 : Nat) : Int) := by omega
            rw [List.length_cons] at hic2
            rw [List.length_cons] at hrl
            by_cases hk0 : k < 0
            · have d0 : decide (k < 0) = true := decide_eq_true hk0
              have HF : Hid (E = ([], 1)) := Lib.hid (HEn.out (HRR.out.wrong hh (.inl hk0)))
              clear hh
              go_wp2_with fail
              go_ret2
              exact ⟨by rw [HF.out]; rfl, hKw.out _ HY.out.bel⟩
            by_cases hk2 : 2 < k
            · have d0 : decide (k < 0) = false := decide_eq_false hk0
              have d2 : decide (2 < k) = true := decide_eq_true hk2
              have HF : Hid (E = ([], 1)) := Lib.hid (HEn.out (HRR.out.wrong hh (.inr hk2)))
              clear hh
              go_wp2_with fail
              go_ret2
              exact ⟨by rw [HF.out]; rfl, hKw.out _ HY.out.bel⟩
            have HRN := Lib.hid (HRR.out.pick hh (by omega))
            clear hh
            have hs3 : (sideP x k).length ≤ x.s0.length + x.s1.length + x.s2.length := by unfold sideP; split <;> (try split) <;> omega
            have C1 := Lib.hid (fun w => CWr.out (sideP x k) w (by have := HTT.out; omega))
            have HT2 : Hid ((acc ++ sideP x k).length + totP (l.drop (j + 1)) ≤ 1099511627776) := Lib.hid (by rw [List.length_append]; have := HTT.out; omega)
            have hkk : k = 0 ∨ k = 1 ∨ k = 2 := by omega
            clear hs3 hk0 hk2
            rcases hkk with rfl | rfl | rfl
            · rw [show sideP x 0 = x.s0 from rfl] at C1 HT2 HRN
              go_wp2_with fail
              refine (C1.out _ HY.out.bld HY.out.sz).mono ?_
              rintro e w6 ⟨rfl, h3, b3, _⟩
              have HY3 := Lib.hid (HY.out.wrote h3 b3); clear h3 b3
              go_wp2_with fail
              go_roundw
              case rel => exact ⟨j + 1, _, r, by go_num, by omega, by omega, tail_iv HI.out, HT2.out, HY3.out, HRN.out⟩
              case measure => simp [RowKit.intOf]; omega
            · rw [show sideP x 1 = x.s1 from rfl] at C1 HT2 HRN
              go_wp2_with fail
              refine (C1.out _ HY.out.bld HY.out.sz).mono ?_
              rintro e w6 ⟨rfl, h3, b3, _⟩
              have HY3 := Lib.hid (HY.out.wrote h3 b3); clear h3 b3
              go_wp2_with fail
              go_roundw
              case rel => exact ⟨j + 1, _, r, by go_num, by omega, by omega, tail_iv HI.out, HT2.out, HY3.out, HRN.out⟩
              case measure => simp [RowKit.intOf]; omega
            · rw [show sideP x 2 = x.s2 from rfl] at C1 HT2 HRN
              go_wp2_with fail
              refine (C1.out _ HY.out.bld HY.out.sz).mono ?_
              rintro e w6 ⟨rfl, h3, b3, _⟩
              have HY3 := Lib.hid (HY.out.wrote h3 b3); clear h3 b3
              go_wp2_with fail
              go_roundw
              case rel => exact ⟨j + 1, _, r, by go_num, by omega, by omega, tail_iv HI.out, HT2.out, HY3.out, HRN.out⟩
              case measure => simp [RowKit.intOf]; omega
      · obtain rfl : j = l.length := by omega
        have hrr := HR.out
        rw [List.drop_length] at hrr
        cases r with
        | nil =>
          have HF : Hid (E = (acc, 0)) := Lib.hid (HEs.out _ hrr.done)
          clear hrr
          obtain ⟨ip2, ic2, rfl, hic2, _⟩ := HI.out
          go_wp2_with fail
          refine (Tryz.Builder_String_any_k B B acc _ HE.out.bld HE.out.sz).mono ?_
          rintro e w4 ⟨rfl, _, b4, _⟩
          have HB4 := Lib.hid (hKw.out _ (HE.out.bel.trans b4)); clear b4
          go_wp2_with fail
          go_ret2
          exact ⟨by rw [HF.out]; rfl, HB4.out⟩
        | cons k r =>
          have HF : Hid (E = ([], 1)) := Lib.hid (HEn.out hrr.over)
          clear hrr
          obtain ⟨ip2, ic2, rfl, hic2, _⟩ := HI.out
          rw [List.length_cons] at hrl
          have hkl : (0 : Int) < ((r.length + 1 : Nat) : Int) := by omega
          go_wp2_with fail
          go_ret2
          exact ⟨by rw [HF.out]; rfl, hKw.out _ HE.out.bel⟩
end Go.Proofs.YtdegjfmjjabnnaaGreatDoor

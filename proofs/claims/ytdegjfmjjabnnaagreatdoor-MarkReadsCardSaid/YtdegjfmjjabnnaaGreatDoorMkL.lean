import Derived.Test.YtdegjfmjjabnnaaGreatDoorMkI
import Derived.Test.YtdegjfmjjabnnaaGreatDoorRange
/-! strings.SplitSeq at a line feed: the lines of a text, handed over one by one. -/
namespace Go.Proofs.YtdegjfmjjabnnaaGreatDoor
set_option linter.unusedSimpArgs false
set_option linter.unusedVariables false
open Go.RowKit Go.Shelf
open Go.Lib hiding intOf

theorem segs_ix : ∀ l : List UInt8, (indexByte l 10 < 0 → segs l = [l]) ∧ (∀ j : Nat, indexByte l 10 = j → j < l.length ∧ segs l = l.take j :: segs (l.drop (j + 1)))
  | [] => ⟨fun _ => rfl, fun j h => by simp [indexByte] at h⟩
  | c :: l => by
    obtain ⟨i1, i2⟩ := segs_ix l
    have hge := indexByte_ge l 10
    rw [indexByte]
    by_cases hc : c = 10
    · subst hc
      refine ⟨fun h => by simp at h, fun j h => ?_⟩
      have h0 : (0 : Int) = j := by simpa using h
      obtain rfl : j = 0 := by omega
      exact ⟨by simp, by rw [segs, if_pos rfl]; rfl⟩
    · rw [if_neg (by simpa using hc)]
      by_cases h1 : (indexByte l 10 == -1) = true
      · rw [if_pos h1]
        have h2 : indexByte l 10 = -1 := by simpa using h1
        refine ⟨fun _ => ?_, fun j h => by omega⟩
        rw [segs, if_neg hc, i1 (by omega)]
      · rw [if_neg h1]
        have h2 : indexByte l 10 ≠ -1 := by simpa using h1
        refine ⟨fun h => by omega, fun j h => ?_⟩
        obtain ⟨k, rfl⟩ : ∃ k, j = k + 1 := ⟨j - 1, by omega⟩
        obtain ⟨h3, h4⟩ := i2 k (by omega)
        refine ⟨by simp; omega, ?_⟩
        rw [segs, if_neg hc, h4]
        rfl
theorem bs_front' (l : List UInt8) (k : Nat) : (bs l).extract 0 k = bs (l.take k) := by rw [bs_front, bs_data]
def OkS (B : Nat) (A C : World) : Prop := A.grownBy C none ∨ ∃ u, C = A.setCell ⟨B, 0, none⟩ u
def KpS (B p v : Nat) (A W : World) : Prop := W.heap[B]? = A.heap[B]? ∧ W.heap[p]? = A.heap[p]? ∧ W.heap[v]? = A.heap[v]?
def strLen (W : World) (B : Nat) : Nat := match W.cell? ⟨B, 0, none⟩ with
  | some (.string b) => b.size
  | _ => 0
theorem strLen_is {W : World} {B : Nat} {t : TypeId} {b : ByteArray} (h : Boxed W B t (.string b)) : strLen W B = b.size := by unfold strLen; rw [h.cell]
set_option maxRecDepth 100000 in
set_option maxHeartbeats 4000000 in
theorem split_in (n : Nat) (hn : 1 ≤ n) (q B p v : Nat) (s : List UInt8) (hs : s.length ≤ 1099511627776) (hBp : B ≠ p) (hBv : B ≠ v) (J : List (List UInt8) → World → Prop) (hJ : ∀ pre A C, J pre A → OkS B A C → J pre C)
    (hY : ∀ pre x W, J pre W → x.length ≤ s.length → YieldAt Fence.wide (n - 1) Tryz.prog q #[.string (bs x)] W fun e W' => e = .returned (.bool true) ∧ J (pre ++ [x]) W' ∧ KpS B p v W W')
    (W : World) (bB : Boxed W B 9 (.string (bs s))) (bp : Boxed W p 9 (.string ⟨#[10]⟩)) (bv : Boxed W v 3 (.int .i64 0)) (h0 : J [] W) :
    CallsIn Fence.wide n Tryz.prog 81 #[.func (.yield q) #[] #[], .pointer (some ⟨p, 0, none⟩), .pointer (some ⟨B, 0, none⟩), .pointer (some ⟨v, 0, none⟩)] W fun e W' => (∃ u, e = .returned u) ∧ ∃ ys, ys = segs s ∧ J ys W' := by
  refine callsIn_of_wp Tryz.func81 rfl trivial ?_ rfl
  simp only [Tryz.ntmps81, List.size_toArray, List.length_cons, List.length_nil, Nat.reduceAdd, Nat.reduceSub, Array.replicate_succ, Array.replicate_zero, List.push_toArray, List.append_toArray, List.nil_append, List.cons_append]
  have HJ := Lib.hid hJ
  have HY := Lib.hid hY
  obtain ⟨E, hE⟩ : ∃ E, segs s = E := ⟨_, rfl⟩
  rw [hE]
  have HS : Hid (J [] W ∧ Boxed W B 9 (.string (bs s)) ∧ Boxed W p 9 (.string ⟨#[10]⟩) ∧ Boxed W v 3 (.int .i64 0) ∧ E = [] ++ segs s) := Lib.hid ⟨h0, bB, bp, bv, by rw [hE]; rfl⟩
  have hcp := bp.cell
  clear hJ hY hE h0 bB bp bv
  gi_wp2
  gi_loopw [7] (fun s7 wr => ∃ (pre : List (List UInt8)) (rest : List UInt8), rest.length ≤ s.length ∧ Hid (J pre wr ∧ Boxed wr B 9 (.string (bs rest)) ∧ Boxed wr p 9 (.string ⟨#[10]⟩) ∧ Boxed wr v 3 (.int .i64 0) ∧ E = pre ++ segs rest)) (fun _ wr => strLen wr B)
  case atStart => exact ⟨[], s, Nat.le_refl _, HS.out⟩
  case round =>
    obtain ⟨pre, rest, hr, HI⟩ := hrel
    have hc1 := HI.out.2.1.cell; have hc2 := HI.out.2.2.1.cell; have hc3 := HI.out.2.2.2.1.cell
    have hf1 := HI.out.2.1.frozen
    have sr := bs_size rest
    obtain ⟨I, hI⟩ : ∃ I, indexByte rest 10 = I := ⟨_, rfl⟩
    have CI : Hid (∀ w, Calls Tryz.prog 83 #[.string (bs rest), .string ⟨#[10]⟩] w fun e w' => e = .returned (.int .i64 I) ∧ w = w') := Lib.hid (fun w => by
      have := Tryz.strings_Index_one (bs rest) 10 w
      rw [bs_data, hI] at this
      exact this.mono fun _ _ h => ⟨h.1, h.2.symm⟩)
    by_cases hneg : I < 0
    · have hE2 : E = pre ++ [rest] := by rw [HI.out.2.2.2.2, (segs_ix rest).1 (by rw [hI]; exact hneg)]
      obtain ⟨fn, tmps, assign, body, hy, hR⟩ := HY.out pre rest wr HI.out.1 hr
      have HE2 := Lib.hid hE2
      have dneg : decide (I < 0) = true := decide_eq_true hneg
      clear hI hE2 HI
      gi_wp2_with fail
      refine ⟨trivial, ?_⟩
      with_reducible refine (callsIn_wide.2 (CI.out _)).mono ?_
      rintro e w1 ⟨rfl, rfl⟩
      gi_wp2_with fail
      refine hR.mono ?_
      clear hy hR
      rintro e W3 ⟨rfl, hJ3, hk3⟩
      have HE3 := Lib.hid hJ3
      clear hJ3 hk3 hc1 hc2 hc3
      gi_wp2_with fail
      go_end0
      exact ⟨⟨_, rfl⟩, _, HE2.out.symm, HE3.out⟩
    · obtain ⟨j, rfl⟩ : ∃ j : Nat, I = j := ⟨I.toNat, by omega⟩
      obtain ⟨hjl, hsg⟩ := (segs_ix rest).2 j hI
      have hE2 : E = (pre ++ [rest.take j]) ++ segs (rest.drop (j + 1)) := by rw [HI.out.2.2.2.2, hsg]; simp
      obtain ⟨fn, tmps, assign, body, hy, hR⟩ := HY.out pre (rest.take j) wr HI.out.1 (by rw [List.length_take]; omega)
      have hx1 : (bs rest).extract 0 j = bs (rest.take j) := bs_front' rest j
      have hx2 : (bs rest).extract (j + 1) rest.length = bs (rest.drop (j + 1)) := bs_from rest (j + 1) _ rfl
      have hjz : (j : Int) < (rest.length : Int) := by omega
      have hj1 : (j : Int) + 1 ≤ (rest.length : Int) := by omega
      have HE2 := Lib.hid hE2
      have HP := Lib.hid HI.out
      clear hI hE2 hsg HI
      gi_wp2_with fail
      refine ⟨trivial, ?_⟩
      with_reducible refine (callsIn_wide.2 (CI.out _)).mono ?_
      rintro e w1 ⟨rfl, rfl⟩
      gi_wp2_with fail
      refine hR.mono ?_
      clear hy hR
      rintro e W3 ⟨rfl, hJ3, hk3⟩
      have b1 : Boxed W3 B 9 (.string (bs rest)) := hk3.1.trans HP.out.2.1
      have b2 : Boxed W3 p 9 (.string ⟨#[10]⟩) := hk3.2.1.trans HP.out.2.2.1
      have b3 : Boxed W3 v 3 (.int .i64 0) := hk3.2.2.trans HP.out.2.2.2.1
      have hlen := strLen_is HP.out.2.1
      have HE3 := Lib.hid (And.intro hJ3 (And.intro b1 (And.intro b2 b3)))
      clear hc1 hc2 hc3 hf1
      have hc1 := b1.cell; have hc2 := b2.cell; have hc3 := b3.cell
      have hf1 := b1.frozen
      clear hJ3 hk3 b1 b2 b3 HP
      gi_wp2_with fail
      go_roundw
      case rel => exact ⟨_, rest.drop (j + 1), by rw [List.length_drop]; omega, HJ.out _ _ _ HE3.out.1 (.inr ⟨_, rfl⟩), HE3.out.2.1.set _, HE3.out.2.2.1.other (Ne.symm hBp) _, HE3.out.2.2.2.other (Ne.symm hBv) _, HE2.out⟩
      case measure => rw [strLen_is (HE3.out.2.1.set _), hlen, bs_size, bs_size, List.length_drop]; omega
end Go.Proofs.YtdegjfmjjabnnaaGreatDoor

import Derived.Test.YtdegjfmjjabnnaaGreatDoorMkH
import Derived.Test.YtdegjfmjjabnnaaGreatDoorApp
/-! The walks of scarfref25: signs, run. -/
namespace Go.Proofs.YtdegjfmjjabnnaaGreatDoor
set_option linter.unusedSimpArgs false
set_option linter.unusedVariables false
open Go.RowKit
open Go.Lib hiding intOf

set_option maxRecDepth 100000 in
set_option maxHeartbeats 4000000 in
theorem rSigns_any (c : UInt8) (n : Nat) (w : World) (hn : n ≤ 1073741826) :
    Calls Tryz.prog 18 #[.int .u8 (c.toNat : Int), .int .i64 n] w fun e w' => e = .returned (.string (bs (List.replicate n c ++ [10]))) ∧ Below w.heap.size w w' := by
  obtain ⟨ci, hci⟩ : ∃ ci : Int, (c.toNat : Int) = ci := ⟨_, rfl⟩
  rw [hci]
  have HC := Lib.hid hci
  have hbc : byteCells [c] = [.int .u8 ci] := by unfold byteCells; simp [hci]
  clear hci
  go_enter Tryz.func18, Tryz.ntmps18
  go_wp2_with fail
  go_loopw [5, 6] (fun s5 s6 wr => ∃ (k : Nat), s6 = .int .i64 k ∧ k ≤ n ∧ Hid (OwnB w.heap.size wr s5 (List.replicate k c)) ∧ Hid (Below w.heap.size w wr)) (fun _ s6 _ => n - (RowKit.intOf s6).toNat)
  case atStart => exact ⟨0, rfl, by omega, OwnB.nil _ _, Below.refl _ _⟩
  case round =>
    obtain ⟨k, rfl, hk, HO, HB⟩ := hrel
    have hz := HB.out.size
    by_cases hlt : k < n
    · have hlz : (k : Int) < (n : Int) := by omega
      go_wp2_with (at_builtin; go_must (refine wpList_bytes rfl _ _ rfl w.heap.size wr u5 (List.replicate k c) [c] rfl HO.out _ rfl hbc.symm (by simp; omega) hz ?_); intro v1 w1 hown1 hbel1)
      go_roundw
      case rel => exact ⟨k + 1, by go_num, by omega, by rw [List.replicate_succ']; exact hown1, HB.out.trans hbel1⟩
      case measure => simp [RowKit.intOf]; omega
    · obtain rfl : k = n := by omega
      have hcv := run_text HO.out
      have sr : (bs (List.replicate k c)).size = k := by rw [bs_size]; simp
      go_wp2_with fail
      go_ret
      exact ⟨rfl, HB.out⟩
/-- The most of one sign with which a line begins; b: a line begins here. -/
def runG : Bool → List UInt8 → Nat
  | _, [] => 0
  | b, c :: l => max (if b then lineRun (c :: l) else 0) (runG (c == 10) l)
theorem tw_seg (c : UInt8) (hc : c ≠ 10) : ∀ (l g : List UInt8) (r : List (List UInt8)), segs l = g :: r → l.takeWhile (· == c) = g.takeWhile (· == c)
  | [], g, r, h => by
    simp [segs] at h
    rw [← h.1]
  | d :: l, g, r, h => by
    rw [segs] at h
    by_cases hd : d = 10
    · rw [if_pos hd] at h
      obtain ⟨rfl, _⟩ := List.cons.inj h
      rw [List.takeWhile_cons, if_neg (by rw [hd]; simpa using Ne.symm hc)]
      rfl
    · rw [if_neg hd] at h
      cases hs : segs l with
      | nil => exact absurd hs (segs_ne l)
      | cons g2 r2 =>
        rw [hs] at h
        obtain ⟨rfl, _⟩ := List.cons.inj h
        rw [List.takeWhile_cons, List.takeWhile_cons, tw_seg c hc l g2 r2 hs]
theorem lineRun_seg (l g : List UInt8) (r : List (List UInt8)) (h : segs l = g :: r) : lineRun l = lineRun g := by
  cases l with
  | nil => simp [segs] at h; rw [← h.1]
  | cons d l =>
    rw [segs] at h
    by_cases hd : d = 10
    · rw [if_pos hd] at h
      obtain ⟨rfl, _⟩ := List.cons.inj h
      have e : lineRun (10 :: l) = 0 := by rw [lineRun, if_neg (by decide)]
      rw [hd, e]
      rfl
    · rw [if_neg hd] at h
      cases hs : segs l with
      | nil => exact absurd hs (segs_ne l)
      | cons g2 r2 =>
        rw [hs] at h
        obtain ⟨rfl, _⟩ := List.cons.inj h
        rw [lineRun, lineRun, tw_seg d hd l g2 r2 hs]
theorem runG_segs : ∀ (l g : List UInt8) (r : List (List UInt8)), segs l = g :: r → runG true l = max (lineRun g) ((r.map lineRun).foldr max 0) ∧ runG false l = (r.map lineRun).foldr max 0
  | [], g, r, h => by
    simp [segs] at h
    obtain ⟨rfl, rfl⟩ := h
    exact ⟨rfl, rfl⟩
  | d :: l, g, r, h => by
    have hl := lineRun_seg (d :: l) g r h
    rw [segs] at h
    by_cases hd : d = 10
    · rw [if_pos hd] at h
      obtain ⟨rfl, rfl⟩ := List.cons.inj h
      cases hs : segs l with
      | nil => exact absurd hs (segs_ne l)
      | cons g2 r2 =>
        obtain ⟨i1, i2⟩ := runG_segs l g2 r2 hs
        rw [runG, runG, hl, hd, if_pos rfl]
        simp only [beq_self_eq_true, i1, List.map_cons, List.foldr_cons]
        refine ⟨by simp, by simp⟩
    · rw [if_neg hd] at h
      cases hs : segs l with
      | nil => exact absurd hs (segs_ne l)
      | cons g2 r2 =>
        rw [hs] at h
        obtain ⟨rfl, rfl⟩ := List.cons.inj h
        obtain ⟨i1, i2⟩ := runG_segs l g2 r2 hs
        rw [runG, runG, hl, beq_eq_false_iff_ne.2 hd, i2, if_pos rfl]
        exact ⟨rfl, by simp⟩
theorem runG_true (l : List UInt8) : runG true l = runM l := by
  cases hs : segs l with
  | nil => exact absurd hs (segs_ne l)
  | cons g r =>
    rw [(runG_segs l g r hs).1]
    unfold runM
    rw [hs]; rfl
theorem tw_len (c : UInt8) : ∀ (l : List UInt8) (n : Nat), (∀ j, j < n → l[j]? = some c) → l[n]? ≠ some c → (l.takeWhile (· == c)).length = n
  | [], n, h1, h2 => by
    cases n with
    | zero => rfl
    | succ n => have := h1 0 (by omega); simp at this
  | d :: l, n, h1, h2 => by
    cases n with
    | zero =>
      have : d ≠ c := by simpa using h2
      rw [List.takeWhile_cons, if_neg (by simpa using this)]; rfl
    | succ n =>
      have h0 : d = c := by simpa using h1 0 (by omega)
      rw [List.takeWhile_cons, if_pos (by simpa using h0), List.length_cons, tw_len c l n (fun j hj => by have := h1 (j + 1) (by omega); simpa using this) (by simpa using h2)]
theorem lineRun_at (l : List UInt8) (c : UInt8) (n : Nat) (hc : isSign c = true) (h0 : l[0]? = some c) (h1 : ∀ j, j < n → l[j]? = some c) (h2 : l[n]? ≠ some c) : lineRun l = n := by
  cases l with
  | nil => simp at h0
  | cons d l =>
    obtain rfl : d = c := by simpa using h0
    have := tw_len d (d :: l) n h1 h2
    rw [List.takeWhile_cons, if_pos (by simp), List.length_cons] at this
    rw [lineRun, if_pos hc]
    omega
theorem runM_le (l : List UInt8) : runM l ≤ l.length := by
  have hg : ∀ l b, runG b l ≤ l.length := by
    intro l
    induction l with
    | nil => intro b; exact Nat.le_refl _
    | cons c l ih =>
      intro b
      rw [runG]
      have h1 := ih (c == 10)
      have h2 : lineRun (c :: l) ≤ l.length + 1 := by
        rw [lineRun]
        split
        · have := (List.takeWhile_sublist (l := l) (· == c)).length_le; omega
        · omega
      rw [List.length_cons]
      split <;> omega
  rw [← runG_true]
  exact hg l true
end Go.Proofs.YtdegjfmjjabnnaaGreatDoor

import Derived.Test.YtbdognlebkagpaaDoorRunesA
namespace Go.Proofs.YtbdognlebkagpaaDoor
open Go.RowKit

def byteAt (s : ByteArray) (k : Nat) : Int := ((s.data.toList.getD k 0).toNat : Int)
theorem byteAt_eq (s : ByteArray) (k : Nat) (h : k < s.size) : ((s[k]'h).toNat : Int) = byteAt s k := by
  unfold byteAt
  rw [List.getD_eq_getElem?_getD, Array.getElem?_toList, Array.getElem?_eq_getElem h]; rfl
theorem byteAt_bd (s : ByteArray) (k : Nat) : 0 ≤ byteAt s k ∧ byteAt s k ≤ 255 := by
  unfold byteAt; have := (s.data.toList.getD k 0).toNat_lt; omega

/-- The loop of the reference's Next: j bytes still to come, the next one at k. -/
def refTail (s : ByteArray) : Nat → Nat → Int → Option Int
  | 0, _, v => some v
  | j + 1, k, v => if byteAt s k < 128 ∨ 191 < byteAt s k then none else refTail s j (k + 1) (64 * v + byteAt s k - 128)
def refHead (b n : Int) : Int := if n = 2 then b - 192 else if n = 3 then b - 224 else if n = 4 then b - 240 else b
def refBad (n v : Int) : Bool := decide (n = 3 ∧ v < 2048 ∨ n = 4 ∧ v < 65536 ∨ 1114111 < v ∨ 55296 ≤ v ∧ v < 57344)
def refNext (s : ByteArray) (i : Nat) : Int × Int :=
  let n := refWide (byteAt s i)
  if n = 0 ∨ (s.size : Int) - i < n then (65533, 1) else
  match refTail s (n.toNat - 1) (i + 1) (refHead (byteAt s i) n) with
  | none => (65533, 1)
  | some v => if refBad n v then (65533, 1) else (v, n)

set_option maxHeartbeats 400000 in
theorem refNext_out (s : ByteArray) (a : Int) (w : World) (h : a < 0 ∨ (s.size : Int) ≤ a) :
    Calls Tryd.prog 17 #[.string s, .int .i64 a] w fun e w' => e = .returned (.tuple #[.int .i32 0, .int .i64 0]) ∧ w = w' := by
  rcases h with h | h
  · go_enter Tryd.func17, Tryd.ntmps17
    go_wp2
    all_goals go_ret2
    all_goals exact ⟨rfl, rfl⟩
  · by_cases h0 : a < 0
    all_goals
      go_enter Tryd.func17, Tryd.ntmps17
      go_wp2
      all_goals go_ret2
      all_goals exact ⟨rfl, rfl⟩

def bnd (j : Nat) : Int := if j ≤ 1 then 256 else if j = 2 then 16384 else if j = 3 then 1048576 else 67108864
theorem bnd_le (j : Nat) (h : j ≤ 3) : bnd j ≤ 1048576 := by unfold bnd; (repeat split) <;> omega
theorem bnd_step (j : Nat) (V b : Int) (hV : V < bnd j) (h1 : 1 ≤ j) (h3 : j ≤ 3) (hb : b ≤ 191) : 64 * V + b - 128 < bnd (j + 1) := by
  have : j = 1 ∨ j = 2 ∨ j = 3 := by omega
  rcases this with rfl | rfl | rfl <;> simp [bnd] at hV ⊢ <;> omega
theorem wide_is (c n : Int) (w : World) (h : refWide c = n) :
    Calls Tryd.prog 28 #[.int .i64 c] w fun e w' => e = .returned (.int .i64 n) ∧ w = w' := by
  subst h; exact wide_any c w
theorem refWide_cases (c : Int) : refWide c = 0 ∨ refWide c = 1 ∨ refWide c = 2 ∨ refWide c = 3 ∨ refWide c = 4 := by
  unfold refWide; repeat' split
  all_goals omega
theorem refHead_bd (c n : Int) (h : refWide c = n) (h0 : 0 ≤ c) (h255 : c ≤ 255) : 0 ≤ refHead c n ∧ refHead c n < 256 := by
  subst h; unfold refHead refWide; (repeat split) <;> omega
def tailOf (s : ByteArray) (i : Nat) (n : Int) : Int × Int :=
  match refTail s (n.toNat - 1) (i + 1) (refHead (byteAt s i) n) with
  | none => (65533, 1)
  | some v => if refBad n v then (65533, 1) else (v, n)

theorem refHead_is (b n : Int) : (n = 1 → refHead b n = b) ∧ (n = 2 → refHead b n = b - 192) ∧ (n = 3 → refHead b n = b - 224) ∧ (n = 4 → refHead b n = b - 240) := by
  unfold refHead
  refine ⟨?_, ?_, ?_, ?_⟩ <;> rintro rfl <;> simp
/-- One step of the loop. -/
theorem refTail_more (s : ByteArray) (n : Int) (i j : Nat) (V : Int) (hj : (j : Int) < n) : refTail s (n.toNat - j) (i + j) V = if byteAt s (i + j) < 128 ∨ 191 < byteAt s (i + j) then none else refTail s (n.toNat - (j + 1)) (i + (j + 1)) (64 * V + byteAt s (i + j) - 128) := by
  rw [show n.toNat - j = (n.toNat - (j + 1)) + 1 by omega]; rfl
theorem tail_bad {s : ByteArray} {i j : Nat} {n V : Int} {R : Int × Int} (HR : Hid (tailOf s i n = R)) (HT : Hid (refTail s (n.toNat - 1) (i + 1) (refHead (byteAt s i) n) = refTail s (n.toNat - j) (i + j) V)) (hj : (j : Int) < n)
    (hlt : i + j < s.size) (hb : ((s[i + j]'hlt).toNat : Int) < 128 ∨ 191 < ((s[i + j]'hlt).toNat : Int)) : R = (65533, 1) := by
  rw [byteAt_eq] at hb
  have h := HT.out
  rw [refTail_more s n i j V hj, if_pos hb] at h
  rw [← HR.out, tailOf, h]
theorem tail_end {s : ByteArray} {i j : Nat} {n V : Int} {R : Int × Int} (HR : Hid (tailOf s i n = R)) (HT : Hid (refTail s (n.toNat - 1) (i + 1) (refHead (byteAt s i) n) = refTail s (n.toNat - j) (i + j) V)) (hj : n ≤ (j : Int)) :
    R = if refBad n V then (65533, 1) else (V, n) := by
  have h := HT.out
  rw [show n.toNat - j = 0 by omega] at h
  rw [← HR.out, tailOf, h]; rfl
theorem tail_next {s : ByteArray} {i j : Nat} {n V : Int} (HT : Hid (refTail s (n.toNat - 1) (i + 1) (refHead (byteAt s i) n) = refTail s (n.toNat - j) (i + j) V)) (hj : (j : Int) < n)
    (hlt : i + j < s.size) (h1 : 128 ≤ ((s[i + j]'hlt).toNat : Int)) (h2 : ((s[i + j]'hlt).toNat : Int) ≤ 191) : Hid (refTail s (n.toNat - 1) (i + 1) (refHead (byteAt s i) n) = refTail s (n.toNat - (j + 1)) (i + (j + 1)) (64 * V + ((s[i + j]'hlt).toNat : Int) - 128)) := by
  rw [byteAt_eq] at h1 h2 ⊢
  have h := HT.out
  rw [refTail_more s n i j V hj, if_neg (by omega)] at h
  exact h

theorem pair_ret {a b : Int} {R : Int × Int} (h : R = (a, b)) : Ending.returned (.tuple #[.int .i32 a, .int .i64 b]) = .returned (.tuple #[.int .i32 R.1, .int .i64 R.2]) := by subst h; rfl
set_option maxRecDepth 100000 in
set_option maxHeartbeats 4000000 in
theorem refNext_n (s : ByteArray) (i : Nat) (n : Int) (w : World) (hi : i < s.size) (hs : s.size ≤ 4611686018427387904)
    (h1 : 1 ≤ n) (h4 : n ≤ 4) (hn : Hid (refWide ((s[i]'hi).toNat : Int) = n)) (hfit : n ≤ (s.size : Int) - i) :
    Calls Tryd.prog 17 #[.string s, .int .i64 i] w fun e w' => e = .returned (.tuple #[.int .i32 (tailOf s i n).1, .int .i64 (tailOf s i n).2]) ∧ w = w' := by
  have hb : (s[i]'hi).toNat < 256 := (s[i]'hi).toNat_lt
  obtain ⟨R, hR⟩ : ∃ R, tailOf s i n = R := ⟨_, rfl⟩
  rw [hR]
  have HR := Lib.hid hR; clear hR
  have hbd := refHead_bd _ n hn.out (by omega) (by omega)
  have hH := refHead_is ((s[i]'hi).toNat : Int) n
  rcases (show n = 1 ∨ n = 2 ∨ n = 3 ∨ n = 4 by omega) with h | h | h | h
  all_goals
    first | have hV := hH.1 h | have hV := hH.2.1 h | have hV := hH.2.2.1 h | have hV := hH.2.2.2 h
    have hlo := Int.le_of_eq h; have hhi := Int.le_of_eq h.symm
    have n0 : (n == 0) = false := beq_eq_false_iff_ne.2 (by omega)
    first | have n2 : (n == 2) = false := beq_eq_false_iff_ne.2 (by omega) | have n2 : (n == 2) = true := beq_iff_eq.2 (by omega)
    first | have n3 : (n == 3) = false := beq_eq_false_iff_ne.2 (by omega) | have n3 : (n == 3) = true := beq_iff_eq.2 (by omega)
    first | have n4 : (n == 4) = false := beq_eq_false_iff_ne.2 (by omega) | have n4 : (n == 4) = true := beq_iff_eq.2 (by omega)
    rw [hV] at hbd; clear hH h
    have HV := Lib.hid hV; clear hV
    go_enter Tryd.func17, Tryd.ntmps17
    go_wp2_with (go_at_call 28; refine (wide_is _ _ _ hn.out).mono ?_; rintro e w' ⟨rfl, rfl⟩)
    go_loop [7, 8] (fun v k => ∃ (j : Nat) (V : Int), 1 ≤ j ∧ (j : Int) ≤ n ∧ k = .int .i64 j ∧ v = .int .i64 V ∧ 0 ≤ V ∧ Hid (V < bnd j) ∧ Hid (refTail s (n.toNat - 1) (i + 1) (refHead (byteAt s i) n) = refTail s (n.toNat - j) (i + j) V)) (fun _ k => (n - intOf k).toNat)
    case atStart => exact ⟨1, _, by omega, by omega, rfl, rfl, by omega, by unfold Hid bnd; simp; omega, by unfold Hid; rw [← byteAt_eq s i hi, HV.out]⟩
    case round =>
      obtain ⟨j, V, hj1, hj2, rfl, rfl, hV0, HB, HT⟩ := hrel
      by_cases hlt : (j : Int) < n
      · have hbV : V < 1048576 := Int.lt_of_lt_of_le HB.out (bnd_le j (by omega))
        have hij : i + j < s.size := by omega
        have hcb : (s[i + j]'hij).toNat < 256 := (s[i + j]'hij).toNat_lt
        go_wp2
        all_goals first
          | (go_round
             case rel => exact ⟨j + 1, _, by omega, by omega, by go_num, rfl, by omega, bnd_step j V _ HB.out hj1 (by omega) (by omega), tail_next HT hlt hij (by omega) (by omega)⟩
             case measure => simp [intOf]; omega)
          | (go_ret2; exact ⟨pair_ret (tail_bad HR HT hlt hij (by omega)), rfl⟩)
      · have hbV : V < 67108864 := by have h := HB.out; unfold bnd at h; revert h; (repeat' split) <;> omega
        go_wp2
        all_goals go_ret2
        all_goals
          refine ⟨pair_ret ((tail_end HR HT (by omega)).trans ?_), rfl⟩
          first
            | (rw [show refBad n V = true from decide_eq_true (by omega)]; rfl)
            | (rw [show refBad n V = false from decide_eq_false (by omega)]; rfl)

set_option maxRecDepth 100000 in
set_option maxHeartbeats 1000000 in
theorem refNext_no (s : ByteArray) (i : Nat) (n : Int) (w : World) (hi : i < s.size) (hs : s.size ≤ 4611686018427387904)
    (h1 : 0 ≤ n) (h4 : n ≤ 4) (hn : Hid (refWide ((s[i]'hi).toNat : Int) = n)) (hno : n = 0 ∨ (s.size : Int) - i < n) :
    Calls Tryd.prog 17 #[.string s, .int .i64 i] w fun e w' => e = .returned (.tuple #[.int .i32 65533, .int .i64 1]) ∧ w = w' := by
  have hb : (s[i]'hi).toNat < 256 := (s[i]'hi).toNat_lt
  by_cases h : n = 0
  all_goals
    first | have n0 : (n == 0) = false := beq_eq_false_iff_ne.2 (by omega) | have n0 : (n == 0) = true := beq_iff_eq.2 (by omega)
    have hno' : 1 ≤ n → (s.size : Int) - i < n := fun _ => by omega
    have hno'' : (s.size : Int) - i < n ∨ n ≤ 0 := by omega
    clear hno
    rcases hno'' with hno'' | hno''
    all_goals
      clear h hno'
      go_enter Tryd.func17, Tryd.ntmps17
      go_wp2_with (go_at_call 28; refine (wide_is _ _ _ hn.out).mono ?_; rintro e w' ⟨rfl, rfl⟩)
      all_goals go_ret2
      all_goals exact ⟨rfl, rfl⟩

theorem refNext_any (s : ByteArray) (i : Nat) (w : World) (hi : i < s.size) (hs : s.size ≤ 4611686018427387904) :
    Calls Tryd.prog 17 #[.string s, .int .i64 i] w fun e w' => e = .returned (.tuple #[.int .i32 (refNext s i).1, .int .i64 (refNext s i).2]) ∧ w = w' := by
  obtain ⟨n, hn⟩ : ∃ n, refWide ((s[i]'hi).toNat : Int) = n := ⟨_, rfl⟩
  have hc := refWide_cases ((s[i]'hi).toNat : Int)
  have hn' := hn; rw [byteAt_eq] at hn'
  by_cases h : n = 0 ∨ (s.size : Int) - i < n
  · rw [show refNext s i = (65533, 1) by unfold refNext; simp only [hn']; rw [if_pos h]]
    exact refNext_no s i n w hi hs (by omega) (by omega) hn h
  · rw [show refNext s i = tailOf s i n by unfold refNext tailOf; simp only [hn']; rw [if_neg h]]
    exact refNext_n s i n w hi hs (by omega) (by omega) hn (by omega)
end Go.Proofs.YtbdognlebkagpaaDoor

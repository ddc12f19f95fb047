import Derived.Test.YtbdognlebkagpaaDoorRunesE
import Derived.Lib.IndexBytes
namespace Go.Proofs.YtbdognlebkagpaaDoor
open Go.RowKit
open Go.Lib hiding intOf

/-! Lines. -/
def linesL : List UInt8 → Nat → Nat → List (Nat × Nat)
  | [], k, pos => [(k, pos)]
  | c :: t, k, pos => if c = 10 then (k, pos + 1) :: linesL t (pos + 1) (pos + 1) else linesL t k (pos + 1)
def linesOf (s : ByteArray) : List (Nat × Nat) := linesL s.data.toList 0 0
theorem linesL_len : ∀ (l : List UInt8) (k pos : Nat), (linesL l k pos).length ≤ l.length + 1 ∧ 1 ≤ (linesL l k pos).length
  | [], k, pos => by simp [linesL]
  | c :: t, k, pos => by
    unfold linesL
    have h1 := linesL_len t (pos + 1) (pos + 1)
    have h2 := linesL_len t k (pos + 1)
    split <;> simp <;> omega
theorem linesOf_len (s : ByteArray) : (linesOf s).length ≤ s.size + 1 ∧ 1 ≤ (linesOf s).length := linesL_len s.data.toList 0 0
def spanCells (xs : List (Nat × Nat)) : List Value := xs.flatMap fun p => [.int .i64 p.1, .int .i64 p.2]
theorem spanCells_len : ∀ xs : List (Nat × Nat), (spanCells xs).length = xs.length * 2
  | [] => rfl
  | x :: xs => by
    have := spanCells_len xs
    unfold spanCells at this ⊢
    simp only [List.flatMap_cons, List.length_append, this, List.length_cons, List.length_nil]
    omega
theorem spanCells_snoc (xs : List (Nat × Nat)) (a b : Nat) : spanCells (xs ++ [(a, b)]) = spanCells xs ++ [.int .i64 a, .int .i64 b] := by simp [spanCells]
theorem spanCells_at : ∀ (xs : List (Nat × Nat)) (k : Nat) (a b : Nat), xs[k]? = some (a, b) → (spanCells xs)[2 * k]? = some (.int .i64 a) ∧ (spanCells xs)[2 * k + 1]? = some (.int .i64 b)
  | [], k, a, b, h => by simp at h
  | x :: xs, 0, a, b, h => by simp at h; subst h; simp [spanCells]
  | x :: xs, k + 1, a, b, h => by
    have := spanCells_at xs k a b (by simpa using h)
    unfold spanCells at this ⊢
    have e1 : 2 * (k + 1) = 2 * k + 2 := by omega
    simp only [List.flatMap_cons, List.cons_append, List.nil_append, e1, List.getElem?_cons_succ]
    exact this
def OwnsSpans (B : Nat) (w : World) (v : Value) (xs : List (Nat × Nat)) : Prop := w.ownsRow B 31 2 v xs.length (spanCells xs)
theorem OwnsSpans.snoc {B : Nat} {w : World} {v : Value} {xs : List (Nat × Nat)} {a b : Nat} (h : w.ownsRow B 31 2 v (xs.length + 1) (spanCells xs ++ (#[Value.int .i64 a, Value.int .i64 b] : Array Value).toList)) : OwnsSpans B w v (xs ++ [(a, b)]) := by
  unfold OwnsSpans
  rw [spanCells_snoc, List.length_append]
  exact h

theorem Tryd.infoSpan : (Tryd.prog.info? 31).map (fun i => (i.zero, i.size, i.bytes)) = some (some (.agg #[.int .i64 0, .int .i64 0]), 2, 16) := by kernel_rfl

/-- The bytes from a place on. -/
theorem drop_cons (s : ByteArray) (i : Nat) (h : i < s.size) : s.data.toList.drop i = (s[i]'h) :: s.data.toList.drop (i + 1) := by
  rw [List.drop_eq_getElem_cons (by simpa using h)]; rfl
/-- What is gathered, and what is still to come. -/
def Lns (s : ByteArray) (xs : List (Nat × Nat)) (k i : Nat) : Prop := xs ++ linesL (s.data.toList.drop i) k i = linesOf s ∧ k ≤ i
theorem Lns.zero (s : ByteArray) : Lns s [] 0 0 := ⟨rfl, Nat.le_refl _⟩
theorem Lns.len {s : ByteArray} {xs : List (Nat × Nat)} {k i : Nat} (h : Lns s xs k i) : xs.length ≤ s.size := by
  have h1 := congrArg List.length h.1
  have h2 := linesL_len (s.data.toList.drop i) k i
  have h3 := linesOf_len s
  rw [List.length_append] at h1
  omega
theorem Lns.hit {s : ByteArray} {xs : List (Nat × Nat)} {k i : Nat} (h : Lns s xs k i) (hi : i < s.size) (hc : s[i]'hi = 10) : Lns s (xs ++ [(k, i + 1)]) (i + 1) (i + 1) := by
  have h1 := h.1
  rw [drop_cons s i hi, linesL, if_pos hc] at h1
  exact ⟨by rw [← h1]; simp, Nat.le_refl _⟩
theorem Lns.miss {s : ByteArray} {xs : List (Nat × Nat)} {k i : Nat} (h : Lns s xs k i) (hi : i < s.size) (hc : ¬ s[i]'hi = 10) : Lns s xs k (i + 1) := by
  have h1 := h.1
  rw [drop_cons s i hi, linesL, if_neg hc] at h1
  exact ⟨h1, by have := h.2; omega⟩
theorem Lns.fin {s : ByteArray} {xs : List (Nat × Nat)} {k i : Nat} (h : Lns s xs k i) (hi : i = s.size) : xs ++ [(k, s.size)] = linesOf s := by
  have h1 := h.1
  subst hi
  rw [List.drop_eq_nil_of_le (by have : s.data.toList.length = s.size := rfl; omega), linesL] at h1
  exact h1

set_option maxHeartbeats 1000000 in
theorem refLines_any (s : ByteArray) (w : World) (hs : s.size ≤ 4294967000) :
    Calls Tryd.prog 19 #[.string s] w fun e w' => ∃ v, e = .returned v ∧ OwnsSpans w.heap.size w' v (linesOf s) ∧ Below w.heap.size w w' := by
  obtain ⟨i0, hi0, hz0, hz1, hz2⟩ := info_parts Tryd.infoSpan
  go_enter Tryd.func19, Tryd.ntmps19
  go_wp2
  go_loopw [3, 4, 5] (fun v f i wr => ∃ (pos k : Nat) (xs : List (Nat × Nat)), pos ≤ s.size ∧ k ≤ pos ∧ xs.length ≤ s.size ∧ i = .int .i64 pos ∧ f = .int .i64 k ∧ Hid (OwnsSpans w.heap.size wr v xs) ∧ Hid (Below w.heap.size w wr) ∧ Hid (Lns s xs k pos)) (fun _ _ i _ => s.size - (RowKit.intOf i).toNat)
  case atStart => exact ⟨0, 0, [], by omega, by omega, by simp, rfl, rfl, World.ownsRow_nil _ _ _ _, Below.refl _ _, Lns.zero s⟩
  case round =>
    obtain ⟨pos, k, xs, hp, hk, hxs, rfl, rfl, hown, hbw, hL⟩ := hrel
    have hsize := hbw.out.size
    by_cases hlt : pos < s.size
    · have hcb : (s[pos]'hlt).toNat < 256 := (s[pos]'hlt).toNat_lt
      by_cases hc : s[pos]'hlt = 10
      · have hL2 := Lib.hid (hL.out.hit hlt hc)
        have hcB : (((s[pos]'hlt).toNat : Int) == 10) = true := by rw [hc]; rfl
        clear hc
        go_wp2_with (at_builtin; go_must (refine wpList_push rfl _ _ 28 rfl w.heap.size 31 i0 _ 2 16 Tryd.underlying28 hi0 hz0 hz1 hz2 rfl (by decide) wr u3 xs.length (spanCells xs) rfl hown.out #[.int .i64 k, .int .i64 ((pos : Int) + 1)] rfl rfl (by simp [Value.oneCell']) (by omega) (by decide) hsize ?_); intro v1 w1 hown1 hsz1 hbel1 hkeep1 hne1)
        have hn : xs.length + 1 ≤ s.size := by have := hL2.out.len; simpa using this
        go_roundw
        case rel => exact ⟨pos + 1, pos + 1, xs ++ [(k, pos + 1)], by omega, by omega, by simpa using hn, by go_num, by go_num, OwnsSpans.snoc hown1, hbw.out.trans hbel1, hL2.out⟩
        case measure => simp [RowKit.intOf]; omega
      · have hL2 := Lib.hid (hL.out.miss hlt hc)
        have hcB : (((s[pos]'hlt).toNat : Int) == 10) = false := by
          rw [beq_eq_false_iff_ne]; intro h; apply hc; apply UInt8.toNat_inj.1; rw [show (10 : UInt8).toNat = 10 from rfl]; omega
        clear hc
        go_wp2
        go_roundw
        case rel => exact ⟨pos + 1, k, xs, by omega, by omega, by omega, by go_num, rfl, hown.out, hbw.out, hL2.out⟩
        case measure => simp [RowKit.intOf]; omega
    · have hL2 := Lib.hid (hL.out.fin (by omega))
      go_wp2_with (at_builtin; go_must (refine wpList_push rfl _ _ 28 rfl w.heap.size 31 i0 _ 2 16 Tryd.underlying28 hi0 hz0 hz1 hz2 rfl (by decide) wr u3 xs.length (spanCells xs) rfl hown.out #[.int .i64 k, .int .i64 s.size] rfl rfl (by simp [Value.oneCell']) (by omega) (by decide) hsize ?_); intro v1 w1 hown1 hsz1 hbel1 hkeep1 hne1)
      go_ret
      exact ⟨v1, rfl, by rw [← hL2.out]; exact OwnsSpans.snoc hown1, hbw.out.trans hbel1⟩

theorem linesL_none : ∀ (l : List UInt8) (k pos : Nat), Lib.indexByte l 10 < 0 → linesL l k pos = [(k, pos + l.length)]
  | [], k, pos, _ => rfl
  | c :: t, k, pos, h => by
    unfold Lib.indexByte at h
    have hge := Lib.indexByte_ge t 10
    by_cases hc : c = 10
    · subst hc; simp at h
    · rw [if_neg (by simpa using hc)] at h
      have ht : Lib.indexByte t 10 < 0 := by
        split at h
        · rename_i h1; have h2 : Lib.indexByte t 10 = -1 := by simpa using h1
          omega
        · omega
      rw [linesL, if_neg hc, linesL_none t k (pos + 1) ht, List.length_cons, show pos + 1 + t.length = pos + (t.length + 1) by omega]
theorem linesL_some : ∀ (l : List UInt8) (k pos j : Nat), Lib.indexByte l 10 = (j : Int) → j < l.length ∧ linesL l k pos = (k, pos + j + 1) :: linesL (l.drop (j + 1)) (pos + j + 1) (pos + j + 1)
  | [], k, pos, j, h => by simp [Lib.indexByte] at h <;> omega
  | c :: t, k, pos, j, h => by
    unfold Lib.indexByte at h
    have hge := Lib.indexByte_ge t 10
    by_cases hc : c = 10
    · subst hc
      obtain rfl : j = 0 := by simp at h; omega
      simp [linesL]
    · rw [if_neg (by simpa using hc)] at h
      by_cases h1 : (Lib.indexByte t 10 == -1) = true
      · rw [if_pos h1] at h; omega
      · rw [if_neg h1] at h
        have hn : Lib.indexByte t 10 ≠ -1 := by simpa using h1
        obtain ⟨m, rfl⟩ : ∃ m, j = m + 1 := ⟨j - 1, by omega⟩
        obtain ⟨h2, h3⟩ := linesL_some t k (pos + 1) m (by omega)
        refine ⟨by simp; omega, ?_⟩
        rw [linesL, if_neg hc, h3, show pos + 1 + m + 1 = pos + (m + 1) + 1 by omega]; rfl
theorem Lns.last {s : ByteArray} {xs : List (Nat × Nat)} {k : Nat} (h : Lns s xs k k) (hk : k ≤ s.size) (hi : Lib.indexByte (s.data.toList.drop k) 10 < 0) : xs ++ [(k, s.size)] = linesOf s := by
  have h1 := h.1
  rw [linesL_none _ _ _ hi, List.length_drop, show k + (s.data.toList.length - k) = s.size by have : s.data.toList.length = s.size := rfl; omega] at h1
  exact h1
theorem Lns.line {s : ByteArray} {xs : List (Nat × Nat)} {k j : Nat} (h : Lns s xs k k) (hi : Lib.indexByte (s.data.toList.drop k) 10 = (j : Int)) : k + j + 1 ≤ s.size ∧ Lns s (xs ++ [(k, k + j + 1)]) (k + j + 1) (k + j + 1) := by
  obtain ⟨h2, h3⟩ := linesL_some _ k k j hi
  have hl : s.data.toList.length = s.size := rfl
  rw [List.length_drop] at h2
  have h1 := h.1
  rw [h3, List.drop_drop] at h1
  refine ⟨by omega, ?_, Nat.le_refl _⟩
  rw [← h1, List.append_assoc]; rfl
theorem idx_at (s : ByteArray) (k : Nat) (w : World) :
    Calls Tryd.prog 25 #[.string (s.extract k s.size), .int .u8 10] w fun e w' => e = .returned (.int .i64 (Lib.indexByte (s.data.toList.drop k) 10)) ∧ w = w' := by
  have h := Tryd.strings_IndexByte (s.extract k s.size) 10 w
  rw [show (s.extract k s.size).data.toList = s.data.toList.drop k from Lib.extract_to_end s k] at h
  exact h.mono fun _ _ ⟨a, b⟩ => ⟨a, b.symm⟩

set_option maxHeartbeats 1000000 in
theorem lines_any (s : ByteArray) (w : World) (hs : s.size ≤ 4294967000) :
    Calls Tryd.prog 13 #[.string s] w fun e w' => ∃ v, e = .returned v ∧ OwnsSpans w.heap.size w' v (linesOf s) ∧ Below w.heap.size w w' := by
  obtain ⟨i0, hi0, hz0, hz1, hz2⟩ := info_parts Tryd.infoSpan
  go_enter Tryd.func13, Tryd.ntmps13
  go_wp2_with fail
  go_loopw [3, 4] (fun v f wr => ∃ (k : Nat) (xs : List (Nat × Nat)), k ≤ s.size ∧ xs.length ≤ s.size ∧ f = .int .i64 k ∧ Hid (OwnsSpans w.heap.size wr v xs) ∧ Hid (Below w.heap.size w wr) ∧ Hid (Lns s xs k k)) (fun _ f _ => s.size - (RowKit.intOf f).toNat)
  case atStart => exact ⟨0, [], by omega, by simp, rfl, World.ownsRow_nil _ _ _ _, Below.refl _ _, Lns.zero s⟩
  case round =>
    obtain ⟨k, xs, hk, hxs, rfl, hown, hbw, hL⟩ := hrel
    have hsize := hbw.out.size
    have hix := idx_at s k
    by_cases hneg : Lib.indexByte (s.data.toList.drop k) 10 < 0
    · have hL2 := Lib.hid (hL.out.last hk hneg)
      generalize Lib.indexByte (s.data.toList.drop k) 10 = I at *
      have HIX := Lib.hid hix; clear hix
      go_wp2_with (first | (go_at_call 25; refine (HIX.out _).mono ?_; rintro e w' ⟨rfl, rfl⟩) | (at_builtin; go_must (refine wpList_push rfl _ _ 28 rfl w.heap.size 31 i0 _ 2 16 Tryd.underlying28 hi0 hz0 hz1 hz2 rfl (by decide) wr u3 xs.length (spanCells xs) rfl hown.out #[.int .i64 k, .int .i64 s.size] rfl rfl (by simp [Value.oneCell']) (by omega) (by decide) hsize ?_); intro v1 w1 hown1 hsz1 hbel1 hkeep1 hne1))
      go_ret
      exact ⟨v1, rfl, by rw [← hL2.out]; exact OwnsSpans.snoc hown1, hbw.out.trans hbel1⟩
    · obtain ⟨j, hj⟩ := Int.eq_ofNat_of_zero_le (Int.not_lt.1 hneg)
      obtain ⟨hkj, hL1⟩ := hL.out.line hj
      have hL2 := Lib.hid hL1; clear hL1
      rw [hj] at hix
      have HIX := Lib.hid hix; clear hix hj hneg
      go_wp2_with (first | (go_at_call 25; refine (HIX.out _).mono ?_; rintro e w' ⟨rfl, rfl⟩) | (at_builtin; go_must (refine wpList_push rfl _ _ 28 rfl w.heap.size 31 i0 _ 2 16 Tryd.underlying28 hi0 hz0 hz1 hz2 rfl (by decide) wr u3 xs.length (spanCells xs) rfl hown.out #[.int .i64 k, .int .i64 ((k : Int) + j + 1)] rfl rfl (by simp [Value.oneCell']) (by omega) (by decide) hsize ?_); intro v1 w1 hown1 hsz1 hbel1 hkeep1 hne1))
      have hn : xs.length + 1 ≤ s.size := by have := hL2.out.len; simpa using this
      go_roundw
      case rel => exact ⟨k + j + 1, xs ++ [(k, k + j + 1)], by omega, by simpa using hn, by go_num, OwnsSpans.snoc hown1, hbw.out.trans hbel1, hL2.out⟩
      case measure => simp [RowKit.intOf]; omega
end Go.Proofs.YtbdognlebkagpaaDoor

import Derived.Test.YtbdognlebkagpaaDoorRunesO
namespace Go.Proofs.YtbdognlebkagpaaDoor
open Go.RowKit
open Go.Lib hiding intOf

/-! RunesBack: Place and At are each other's. -/
def run (s : ByteArray) : Nat → Nat → Nat
  | 0, b => b
  | c + 1, b => run s c (b + widN s b)
theorem wid_pos (s : ByteArray) (p : Nat) : 1 ≤ widN s p := width_pos s p
theorem run_ge (s : ByteArray) : ∀ c b, b + c ≤ run s c b
  | 0, b => by simp [run]
  | c + 1, b => by
    have := run_ge s c (b + widN s b)
    have := wid_pos s b
    rw [run]; omega
theorem run_snoc (s : ByteArray) : ∀ c b, run s (c + 1) b = run s c b + widN s (run s c b)
  | 0, b => rfl
  | c + 1, b => by rw [run, run_snoc s c]; rfl
theorem colFrom_run (s : ByteArray) : ∀ c b f, run s c b ≤ s.size → s.size ≤ f + b → colFrom s (run s c b) f b = c
  | 0, b, f, h, hf => by
    have := wid_pos s b
    exact colFrom_stop s _ f b (.inr (by rw [run]; omega))
  | c + 1, b, f, h, hf => by
    have h1 := run_ge s c (b + widN s b)
    have h2 := wid_pos s b
    rw [run] at h ⊢
    obtain ⟨g, e, hg⟩ := colFrom_hit s (run s c (b + widN s b)) f b (by omega) (by omega) hf
    rw [e, colFrom_run s c (b + widN s b) g h hg]
theorem seek_run (s : ByteArray) (e : Nat) : ∀ c b, run s c b ≤ e → seek s e c b = ((run s c b : Int), true)
  | 0, b, _ => rfl
  | c + 1, b, h => by
    have h1 := run_ge s c (b + widN s b)
    have h2 := wid_pos s b
    rw [run] at h ⊢
    rw [seek_more s e c b (by omega)]
    exact seek_run s e c _ h
theorem seek_yes (s : ByteArray) (e : Nat) : ∀ c b (x : Int), seek s e c b = (x, true) → x = (run s c b : Int)
  | 0, b, x, h => by rw [seek_zero] at h; injection h with h1 _; exact h1.symm
  | c + 1, b, x, h => by
    unfold seek at h
    by_cases hb : b < e
    · rw [if_pos hb] at h; exact seek_yes s e c _ x h
    · rw [if_neg hb] at h; injection h with _ h2; cases h2
theorem seek_no (s : ByteArray) (e : Nat) : ∀ c b (x : Int), seek s e c b = (x, false) → x = 0
  | 0, b, x, h => by rw [seek_zero] at h; injection h with _ h2; cases h2
  | c + 1, b, x, h => by
    unfold seek at h
    by_cases hb : b < e
    · rw [if_pos hb] at h; exact seek_no s e c _ x h
    · rw [if_neg hb] at h; injection h with h1 _; exact h1.symm
theorem run_line (s : ByteArray) (e : Nat) (hE : Ends s e) (he : e ≤ s.size) : ∀ c b (x : Int), b ≤ e → seek s e c b = (x, true) → run s c b ≤ e
  | 0, b, _, hb, _ => by rw [run]; exact hb
  | c + 1, b, x, hb, h => by
    unfold seek at h
    by_cases hlt : b < e
    · rw [if_pos hlt] at h
      have h1 := (line_runes s b e 0 hE (by omega) he).2.2
      rw [Nat.add_zero] at h1
      rw [run]; exact run_line s e hE he c _ x h1 h
    · rw [if_neg hlt] at h; injection h with _ h2; cases h2
theorem scanL_at : ∀ (L : List (Nat × Nat)) (q k a : Nat), L ≠ [] → scanL L q = (k, a) → ∃ e, L[k]? = some (a, e) ∧ (k + 1 = L.length ∨ q < e)
  | [], q, k, a, h, _ => absurd rfl h
  | x :: t, q, k, a, _, h => by
    unfold scanL at h
    by_cases hc : t ≠ [] ∧ x.2 ≤ q
    · rw [if_pos hc] at h
      injection h with h1 h2
      obtain ⟨e, h3, h4⟩ := scanL_at t q _ _ hc.1 (rfl : scanL t q = ((scanL t q).1, (scanL t q).2))
      subst h1 h2
      refine ⟨e, by rw [List.getElem?_cons_succ]; exact h3, ?_⟩
      rcases h4 with h4 | h4
      · left; rw [List.length_cons]; omega
      · exact .inr h4
    · rw [if_neg hc] at h
      injection h with h1 h2
      subst h1 h2
      refine ⟨x.2, rfl, ?_⟩
      by_cases ht : t = []
      · left; simp [ht]
      · right
        rcases Nat.lt_or_ge q x.2 with h3 | h3
        · exact h3
        · exact absurd ⟨ht, h3⟩ hc
theorem scan_is (s : ByteArray) (q : Nat) : scanL (linesOf s) q = (lineNo s q, lineStart s q) := by
  unfold linesOf
  rw [scanL_lines _ 0 0 q (Nat.zero_le _)]
  simp [lineNo, lineStart]
theorem line_of (s : ByteArray) (q : Nat) (hq : q ≤ s.size) : ∃ e, (linesOf s)[lineNo s q]? = some (lineStart s q, e) ∧ q ≤ e ∧ (lineNo s q + 1 = (linesOf s).length ∨ q < e) := by
  have hne : linesOf s ≠ [] := linesL_ne _ _ _
  obtain ⟨e, h1, h2⟩ := scanL_at (linesOf s) q _ _ hne (scan_is s q)
  refine ⟨e, h1, ?_, h2⟩
  rcases h2 with h2 | h2
  · rw [(linesOf_at s _ _ _ h1).2.2.1 h2]; exact hq
  · omega
def Aligned (s : ByteArray) (p : Nat) : Prop := ∃ c, run s c (lineStart s p) = p
theorem Aligned.zero (s : ByteArray) : Aligned s 0 := ⟨0, by have := (lineStart_char s 0 (Nat.zero_le _)).1; rw [run]; omega⟩
theorem start_unique (s : ByteArray) (q r : Nat) (hq : q ≤ s.size) (h1 : r ≤ q) (h2 : r = 0 ∨ s.data.toList[r - 1]? = some 10) (h3 : ∀ j, r ≤ j → j < q → s.data.toList[j]? ≠ some 10) : lineStart s q = r := by
  obtain ⟨k1, k2, k3⟩ := lineStart_char s q hq
  generalize lineStart s q = t at *
  rcases Nat.lt_trichotomy t r with h | h | h
  · rcases h2 with h2 | h2
    · omega
    · exact absurd h2 (k3 (r - 1) (by omega) (by omega))
  · exact h
  · rcases k2 with k2 | k2
    · omega
    · exact absurd k2 (h3 (t - 1) (by omega) (by omega))
theorem Aligned.next {s : ByteArray} {p : Nat} (h : Aligned s p) (hp : p < s.size) : Aligned s (p + widN s p) := by
  have hw := widN_bd s p hp
  by_cases h10 : s.data.toList[p + widN s p - 1]? = some 10
  · rw [Aligned, start_unique s (p + widN s p) (p + widN s p) hw.2.2 (Nat.le_refl _) (.inr h10) (fun j h1 h2 => by omega)]
    exact ⟨0, rfl⟩
  · obtain ⟨c, hc⟩ := h
    obtain ⟨k1, k2, k3⟩ := lineStart_char s p (by omega)
    rw [Aligned, start_unique s (p + widN s p) (lineStart s p) hw.2.2 (by omega) k2 (fun j h1 h2 h3 => ?_)]
    · exact ⟨c + 1, by rw [run_snoc, hc]⟩
    · rcases Nat.lt_or_ge j p with h4 | h4
      · exact k3 j h1 h4 h3
      · have h5 := (line_runes s p (j + 1) 0 (.inr ⟨by omega, by omega, by simpa using h3⟩) (by omega) (by omega)).2.2
        rw [Nat.add_zero] at h5
        rw [show p + widN s p - 1 = j by omega] at h10
        exact h10 h3
theorem colOf_run {s : ByteArray} {p c : Nat} (h : run s c (lineStart s p) = p) (hp : p ≤ s.size) : colOf s p = c + 1 := by
  unfold colOf
  have := colFrom_run s c (lineStart s p) s.size (by omega) (by omega)
  rw [h] at this
  rw [this]
theorem at_place (s : ByteArray) (p : Nat) (hp : p ≤ s.size) (h : Aligned s p) : atRes s ((lineNo s p : Int) + 1) (colOf s p) = ((p : Int), true) := by
  obtain ⟨c, hc⟩ := h
  obtain ⟨e, h1, h2, _⟩ := line_of s p hp
  rw [colOf_run hc hp]
  have := atRes_is (C := c) h1
  rw [show ((c + 1 : Nat) : Int) = (c : Int) + 1 from by omega, this, seek_run s e c _ (by omega), hc]
theorem scan_upto (s : ByteArray) (q : Nat) : ∀ k, k < (linesOf s).length → begOf s k ≤ q → Scan s q k
  | 0, _, _ => Scan.zero s q
  | k + 1, hk, hb => by
    obtain ⟨a, b, hab⟩ : ∃ a b, (linesOf s)[k]? = some (a, b) := ⟨_, _, List.getElem?_eq_getElem (by omega)⟩
    have h1 := begOf_next hab
    have h2 := (linesOf_ends s k a b hab).1
    have h3 := begOf_at hab
    exact (scan_upto s q k (by omega) (by omega)).more hab hk (by omega)
theorem place_of_line (s : ByteArray) (q L a b : Nat) (h : (linesOf s)[L]? = some (a, b)) (h1 : a ≤ q) (h2 : L + 1 = (linesOf s).length ∨ q < b) : L = lineNo s q ∧ a = lineStart s q := by
  have hL : L < (linesOf s).length := (List.getElem?_eq_some_iff.1 h).1
  have := scan_upto s q L hL (by rw [begOf_at h]; exact h1)
  exact Scan.is (this.fin h (by omega))
theorem linesL_strict : ∀ (l : List UInt8) (k pos n a b : Nat), k ≤ pos → (linesL l k pos)[n]? = some (a, b) → n + 1 < (linesL l k pos).length → a < b
  | [], k, pos, n, a, b, _, h, hn => by simp [linesL] at hn
  | c :: t, k, pos, n, a, b, hk, h, hn => by
    unfold linesL at h hn
    by_cases hc : c = 10
    · rw [if_pos hc] at h hn
      rcases n with _ | n
      · simp at h; omega
      · rw [List.getElem?_cons_succ] at h
        exact linesL_strict t (pos + 1) (pos + 1) n a b (Nat.le_refl _) h (by rw [List.length_cons] at hn; omega)
    · rw [if_neg hc] at h hn
      exact linesL_strict t k (pos + 1) n a b (by omega) h hn
theorem lines_strict (s : ByteArray) (n a b : Nat) (h : (linesOf s)[n]? = some (a, b)) (hn : n + 1 < (linesOf s).length) : a < b := linesL_strict _ 0 0 n a b (Nat.le_refl _) h hn
/-- What At answers, Place gives back: or the next line's beginning. -/
theorem place_at_back (s : ByteArray) (line col x : Int) (h : atRes s line col = (x, true)) :
    ∃ p : Nat, x = (p : Int) ∧ p ≤ s.size ∧ line ≤ s.size + 1 ∧ 1 ≤ line ∧ (((lineNo s p : Int) + 1 = line ∧ (colOf s p : Int) = col) ∨ ((lineNo s p : Int) + 1 = line + 1 ∧ colOf s p = 1)) := by
  unfold atRes at h
  by_cases hbad : line < 1 ∨ ((linesOf s).length : Int) < line ∨ col < 1
  · rw [if_pos hbad] at h; injection h with _ h2; cases h2
  rw [if_neg hbad] at h
  have hlen := linesOf_len s
  obtain ⟨L, rfl⟩ : ∃ L : Nat, line = (L : Int) + 1 := ⟨(line - 1).toNat, by omega⟩
  obtain ⟨C, rfl⟩ : ∃ C : Nat, col = (C : Int) + 1 := ⟨(col - 1).toNat, by omega⟩
  obtain ⟨a, b, hab⟩ : ∃ a b, (linesOf s)[L]? = some (a, b) := ⟨_, _, List.getElem?_eq_getElem (by omega)⟩
  rw [show ((L : Int) + 1).toNat - 1 = L by omega, show ((C : Int) + 1).toNat - 1 = C by omega, hab] at h
  simp only [] at h
  obtain ⟨h1, h2, hE⟩ := linesOf_ends s L a b hab
  have hx := seek_yes s b C a x h
  have hle := run_line s b hE h2 C a x h1 h
  have hge := run_ge s C a
  refine ⟨run s C a, hx, by omega, by omega, by omega, ?_⟩
  by_cases hc : L + 1 = (linesOf s).length ∨ run s C a < b
  · obtain ⟨e1, e2⟩ := place_of_line s (run s C a) L a b hab (by omega) hc
    left
    refine ⟨by omega, ?_⟩
    have : colOf s (run s C a) = C + 1 := colOf_run (c := C) (by rw [← e2]) (by omega)
    omega
  · have hb : run s C a = b := by omega
    obtain ⟨c, d, hcd⟩ : ∃ c d, (linesOf s)[L + 1]? = some (c, d) := ⟨_, _, List.getElem?_eq_getElem (by omega)⟩
    have e0 : c = b := (linesOf_at s L a b hab).2.1 c d hcd
    subst e0
    rw [hb]
    obtain ⟨hc1, hc2, hcE⟩ := linesOf_ends s (L + 1) c d hcd
    have hnext : L + 1 + 1 = (linesOf s).length ∨ c < d := by
      rcases Nat.lt_or_ge c d with h5 | h5
      · exact .inr h5
      · left
        rcases Nat.lt_or_ge (L + 1 + 1) (linesOf s).length with h6 | h6
        · exfalso
          exact absurd (lines_strict s (L + 1) c d hcd h6) (by omega)
        · omega
    obtain ⟨e1, e2⟩ := place_of_line s c (L + 1) c d hcd (Nat.le_refl _) hnext
    right
    refine ⟨by omega, ?_⟩
    have := colOf_run (s := s) (p := c) (c := 0) (by rw [← e2]; rfl) (by omega)
    omega
end Go.Proofs.YtbdognlebkagpaaDoor

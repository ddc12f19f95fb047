import Derived.Test.YtbdognlebkagpaaDoorRunesI
namespace Go.Proofs.YtbdognlebkagpaaDoor
open Go.RowKit
open Go.Lib hiding intOf

/-! At. -/
def seek (s : ByteArray) (e : Nat) : Nat → Nat → Int × Bool
  | 0, pos => ((pos : Int), true)
  | m + 1, pos => if pos < e then seek s e m (pos + widN s pos) else (0, false)
theorem seek_zero (s : ByteArray) (e pos : Nat) : seek s e 0 pos = ((pos : Int), true) := rfl
theorem seek_more (s : ByteArray) (e m pos : Nat) (h : pos < e) : seek s e (m + 1) pos = seek s e m (pos + widN s pos) := by rw [seek, if_pos h]
theorem seek_none (s : ByteArray) (e m pos : Nat) (h : e ≤ pos) : seek s e (m + 1) pos = (0, false) := by rw [seek, if_neg (by omega)]

/-- A line of the text: it ends with the text, or with a line feed. -/
def Ends (s : ByteArray) (e : Nat) : Prop := e = s.size ∨ (1 ≤ e ∧ e ≤ s.size ∧ s.data.toList[e - 1]? = some 10)
theorem linesL_ends : ∀ (l : List UInt8) (k pos : Nat), k ≤ pos → ∀ a b, (a, b) ∈ linesL l k pos → a ≤ b ∧ b ≤ pos + l.length ∧ (b = pos + l.length ∨ (pos < b ∧ l[b - 1 - pos]? = some 10))
  | [], k, pos, hk, a, b, h => by
    simp [linesL] at h
    obtain ⟨rfl, rfl⟩ := h
    simp; exact hk
  | c :: t, k, pos, hk, a, b, h => by
    unfold linesL at h
    by_cases hc : c = 10
    · rw [if_pos hc] at h
      rcases List.mem_cons.1 h with h | h
      · injection h with h1 h2
        subst h1 h2
        refine ⟨by omega, by simp, .inr ⟨by omega, ?_⟩⟩
        simp [hc]
      · obtain ⟨h1, h2, h3⟩ := linesL_ends t (pos + 1) (pos + 1) (Nat.le_refl _) a b h
        refine ⟨h1, by simp; omega, ?_⟩
        rcases h3 with h3 | ⟨h3, h4⟩
        · exact .inl (by simp; omega)
        · refine .inr ⟨by omega, ?_⟩
          rw [show b - 1 - pos = (b - 1 - (pos + 1)) + 1 by omega, List.getElem?_cons_succ]; exact h4
    · rw [if_neg hc] at h
      obtain ⟨h1, h2, h3⟩ := linesL_ends t k (pos + 1) (by omega) a b h
      refine ⟨h1, by simp; omega, ?_⟩
      rcases h3 with h3 | ⟨h3, h4⟩
      · exact .inl (by simp; omega)
      · refine .inr ⟨by omega, ?_⟩
        rw [show b - 1 - pos = (b - 1 - (pos + 1)) + 1 by omega, List.getElem?_cons_succ]; exact h4
theorem linesOf_ends (s : ByteArray) (j a b : Nat) (h : (linesOf s)[j]? = some (a, b)) : a ≤ b ∧ b ≤ s.size ∧ Ends s b := by
  have hl : s.data.toList.length = s.size := rfl
  obtain ⟨h1, h2, h3⟩ := linesL_ends s.data.toList 0 0 (Nat.le_refl _) a b (List.mem_of_getElem? h)
  refine ⟨h1, by omega, ?_⟩
  rcases h3 with h3 | ⟨h3, h4⟩
  · exact .inl (by omega)
  · exact .inr ⟨by omega, by omega, by simpa using h4⟩

/-- No rune goes over a line's end: within the line it is the same rune. -/
theorem decodeN_ten (n m b0 b1 b2 b3 c1 c2 c3 : Nat) (h : (b0 = 10) ∨ (b1 = 10 ∧ c1 = 10) ∨ (b1 = c1 ∧ b2 = 10 ∧ c2 = 10) ∨ (b1 = c1 ∧ b2 = c2 ∧ b3 = 10 ∧ c3 = 10) ∨ (b1 = c1 ∧ b2 = c2 ∧ b3 = c3 ∧ 4 ≤ n ∧ 4 ≤ m))
    (hn : (b0 ≠ 10 → 2 ≤ n ∧ 2 ≤ m) ∧ (b0 ≠ 10 → b1 ≠ 10 → 3 ≤ n ∧ 3 ≤ m) ∧ (b0 ≠ 10 → b1 ≠ 10 → b2 ≠ 10 → 4 ≤ n ∧ 4 ≤ m)) : decodeN n b0 b1 b2 b3 = decodeN m b0 c1 c2 c3 := by
  by_cases h0 : b0 = 10
  · subst h0; simp [decodeN]
  rcases h with h | ⟨rfl, rfl⟩ | ⟨rfl, rfl, rfl⟩ | ⟨rfl, rfl, rfl, rfl⟩ | ⟨rfl, rfl, rfl, h1, h2⟩
  · exact absurd h h0
  · simp [decodeN]
  · have := hn.1 h0
    by_cases h1 : b1 = 10
    · subst h1; simp [decodeN]
    · have e1 : (1 < n) = (1 < m) := propext ⟨fun _ => by omega, fun _ => by omega⟩
      simp [decodeN, e1]
  · have := hn.1 h0
    by_cases h1 : b1 = 10
    · subst h1; simp [decodeN]
    · have := hn.2.1 h0 h1
      have e1 : (1 < n) = (1 < m) := propext ⟨fun _ => by omega, fun _ => by omega⟩
      have e2 : (2 < n) = (2 < m) := propext ⟨fun _ => by omega, fun _ => by omega⟩
      simp [decodeN, e1, e2]
  · have e1 : (1 < n) = (1 < m) := propext ⟨fun _ => by omega, fun _ => by omega⟩
    have e2 : (2 < n) = (2 < m) := propext ⟨fun _ => by omega, fun _ => by omega⟩
    have e3 : (3 < n) = (3 < m) := propext ⟨fun _ => by omega, fun _ => by omega⟩
    simp only [decodeN, e1, e2, e3]
theorem bytes_toNat_ten (l : List UInt8) (i : Nat) (h : l[i]? = some 10) : (l.getD i 0).toNat = 10 := by
  rw [List.getD_eq_getElem?_getD, h]; rfl
theorem toNat_ten (l : List UInt8) (i : Nat) (h : (l.getD i 0).toNat ≠ 10) : l[i]? ≠ some 10 := fun e => h (bytes_toNat_ten l i e)
theorem decode_line (s : ByteArray) (a e p : Nat) (hE : Ends s e) (hp : a + p < e) : Utf8.decode (s.extract a e) p = Utf8.decode s (a + p) := by
  rcases hE with rfl | ⟨h1, h2, h3⟩
  · exact Lib.tail_decode s a p
  · have hl : s.data.toList.length = s.size := rfl
    rw [decode_N, decode_N, Lib.extract_data]
    have hlen : ((s.data.toList.drop a).take (e - a)).length = e - a := by rw [List.length_take, List.length_drop]; omega
    rw [hlen, hl]
    have hg : ∀ k, a + p + k < e → ((s.data.toList.drop a).take (e - a)).getD (p + k) 0 = s.data.toList.getD (a + p + k) 0 := by
      intro k hk
      simp only [List.getD_eq_getElem?_getD, List.getElem?_take, List.getElem?_drop]
      rw [if_pos (by omega), ← Nat.add_assoc]
    have h10 := bytes_toNat_ten _ _ h3
    have g0 := hg 0 (by omega)
    simp only [Nat.add_zero] at g0
    rw [g0]
    have t0 : (s.data.toList.getD (a + p) 0).toNat ≠ 10 → a + p + 1 < e := fun h => by
      rcases Nat.lt_or_ge (a + p + 1) e with h4 | h4
      · exact h4
      · exfalso; apply h; rw [show a + p = e - 1 by omega]; exact h10
    by_cases h0 : (s.data.toList.getD (a + p) 0).toNat = 10
    · exact decodeN_ten _ _ _ _ _ _ _ _ _ (.inl h0) ⟨fun h => absurd h0 h, fun h => absurd h0 h, fun h => absurd h0 h⟩
    have l1 := t0 h0
    rw [hg 1 l1]
    have t1 : (s.data.toList.getD (a + p + 1) 0).toNat ≠ 10 → a + p + 2 < e := fun h => by
      rcases Nat.lt_or_ge (a + p + 2) e with h4 | h4
      · exact h4
      · exfalso; apply h; rw [show a + p + 1 = e - 1 by omega]; exact h10
    by_cases h5 : (s.data.toList.getD (a + p + 1) 0).toNat = 10
    · exact decodeN_ten _ _ _ _ _ _ _ _ _ (.inr (.inl ⟨h5, h5⟩)) ⟨fun _ => by omega, fun _ h => absurd h5 h, fun _ h => absurd h5 h⟩
    have l2 := t1 h5
    rw [hg 2 l2]
    have t2 : (s.data.toList.getD (a + p + 2) 0).toNat ≠ 10 → a + p + 3 < e := fun h => by
      rcases Nat.lt_or_ge (a + p + 3) e with h4 | h4
      · exact h4
      · exfalso; apply h; rw [show a + p + 2 = e - 1 by omega]; exact h10
    by_cases h6 : (s.data.toList.getD (a + p + 2) 0).toNat = 10
    · exact decodeN_ten _ _ _ _ _ _ _ _ _ (.inr (.inr (.inl ⟨rfl, h6, h6⟩))) ⟨fun _ => by omega, fun _ _ => by omega, fun _ _ h => absurd h6 h⟩
    have l3 := t2 h6
    rw [hg 3 l3]
    exact decodeN_ten _ _ _ _ _ _ _ _ _ (.inr (.inr (.inr (.inr ⟨rfl, rfl, rfl, by omega, by omega⟩)))) ⟨fun _ => by omega, fun _ _ => by omega, fun _ _ _ => by omega⟩
theorem line_runes (s : ByteArray) (a e p : Nat) (hE : Ends s e) (hp : a + p < e) (he : e ≤ s.size) : runeI (s.extract a e) p = runeI s (a + p) ∧ widN (s.extract a e) p = widN s (a + p) ∧ a + p + widN s (a + p) ≤ e := by
  have h := decode_line s a e p hE hp
  have hz : (s.extract a e).size = e - a := by rw [ByteArray.size_extract]; omega
  have hw := widN_bd (s.extract a e) p (by omega)
  have e2 : widN (s.extract a e) p = widN s (a + p) := by unfold widN; rw [h]
  refine ⟨by unfold runeI; rw [h], e2, by omega⟩

def atRes (s : ByteArray) (line col : Int) : Int × Bool :=
  if line < 1 ∨ ((linesOf s).length : Int) < line ∨ col < 1 then (0, false) else
  match (linesOf s)[line.toNat - 1]? with
  | some (a, b) => seek s b (col.toNat - 1) a
  | none => (0, false)
theorem atRes_bad {s : ByteArray} {line col : Int} (h : line < 1 ∨ ((linesOf s).length : Int) < line ∨ col < 1) : atRes s line col = (0, false) := by unfold atRes; rw [if_pos h]
theorem atRes_is {s : ByteArray} {L C a b : Nat} (h : (linesOf s)[L]? = some (a, b)) : atRes s ((L : Int) + 1) ((C : Int) + 1) = seek s b C a := by
  have hl : L < (linesOf s).length := (List.getElem?_eq_some_iff.1 h).1
  unfold atRes
  rw [if_neg (by omega), show ((L : Int) + 1).toNat - 1 = L by omega, show ((C : Int) + 1).toNat - 1 = C by omega, h]
theorem ret_at {R : Int × Bool} {a : Int} {b : Bool} (h : R = (a, b)) : Ending.returned (.tuple #[.int .i64 a, .bool b]) = .returned (.tuple #[.int .i64 R.1, .bool R.2]) := by subst h; rfl

/-- A row of spans at the head of a block. -/
def SpansAt (w : World) (g : Nat) (xs : List (Nat × Nat)) : Prop := ∀ j a b : Nat, xs[j]? = some (a, b) → w.cell? ⟨g, j * 2, none⟩ = some (.int .i64 a) ∧ w.cell? ⟨g, j * 2 + 1, none⟩ = some (.int .i64 b)
theorem SpansAt.at_ {w : World} {g : Nat} {xs : List (Nat × Nat)} (h : SpansAt w g xs) {j a b : Nat} (hj : xs[j]? = some (a, b)) : w.cell? ⟨g, j * 2, none⟩ = some (.int .i64 a) ∧ w.cell? ⟨g, j * 2 + 1, none⟩ = some (.int .i64 b) := h j a b hj
theorem refLines_open (s : ByteArray) (w : World) (hs : s.size ≤ 4294967000) :
    Calls Tryd.prog 19 #[.string s] w fun e w' => ∃ g cap, e = .returned (.slice (some ⟨g, 0, none⟩) (linesOf s).length cap) ∧ w.heap.size ≤ g ∧ g < w'.heap.size ∧ SpansAt w' g (linesOf s) ∧ Below w.heap.size w w' :=
  (refLines_any s w hs).mono fun e w' ⟨v, he, ho, hb⟩ => by
    obtain ⟨g, cap, rfl, h1, h2, h3⟩ := OwnsSpans.form ho (linesOf_len s).2
    exact ⟨g, cap, he, h1, h2, h3, hb⟩
theorem lines_open (s : ByteArray) (w : World) (hs : s.size ≤ 4294967000) :
    Calls Tryd.prog 13 #[.string s] w fun e w' => ∃ g cap, e = .returned (.slice (some ⟨g, 0, none⟩) (linesOf s).length cap) ∧ w.heap.size ≤ g ∧ g < w'.heap.size ∧ SpansAt w' g (linesOf s) ∧ Below w.heap.size w w' :=
  (lines_any s w hs).mono fun e w' ⟨v, he, ho, hb⟩ => by
    obtain ⟨g, cap, rfl, h1, h2, h3⟩ := OwnsSpans.form ho (linesOf_len s).2
    exact ⟨g, cap, he, h1, h2, h3, hb⟩

set_option maxHeartbeats 2000000 in
theorem refAt_any (s : ByteArray) (line col : Int) (w : World) (hs : s.size ≤ 4294967000) :
    Calls Tryd.prog 12 #[.string s, .int .i64 line, .int .i64 col] w fun e w' => e = .returned (.tuple #[.int .i64 (atRes s line col).1, .bool (atRes s line col).2]) ∧ Below w.heap.size w w' := by
  have hll := linesOf_len s
  by_cases hbad : line < 1 ∨ ((linesOf s).length : Int) < line ∨ col < 1
  · rw [atRes_bad hbad]
    have hb2 : ¬ line < 1 → ((linesOf s).length : Int) < line ∨ col < 1 := fun _ => by omega
    by_cases h1 : line < 1
    all_goals by_cases h2 : ((linesOf s).length : Int) < line
    all_goals
      first | (have h3 : col < 1 := by omega) | skip
      clear hb2 hbad
      go_enter Tryd.func12, Tryd.ntmps12
      go_wp2_with (go_at_call 19; go_must (refine (refLines_open s _ hs).mono ?_); rintro e w1 ⟨g, cap, rfl, hBg, hgs, hcell, hb1⟩)
      all_goals go_ret2
      all_goals exact ⟨rfl, hb1⟩
  · obtain ⟨L, hL⟩ : ∃ L : Nat, line = (L : Int) + 1 := ⟨(line - 1).toNat, by omega⟩
    obtain ⟨C, hC⟩ : ∃ C : Nat, col = (C : Int) + 1 := ⟨(col - 1).toNat, by omega⟩
    subst hL hC
    have hLl : L < (linesOf s).length := by omega
    obtain ⟨a, b, hab⟩ : ∃ a b, (linesOf s)[L]? = some (a, b) := ⟨_, _, List.getElem?_eq_getElem hLl⟩
    obtain ⟨hab1, hab2, hE⟩ := linesOf_ends s L a b hab
    obtain ⟨R, hR⟩ : ∃ R, atRes s ((L : Int) + 1) ((C : Int) + 1) = R := ⟨_, rfl⟩
    rw [hR]
    rw [atRes_is hab] at hR
    have HR := Lib.hid hR; clear hR hbad
    have HA := Lib.hid hab; clear hab
    go_enter Tryd.func12, Tryd.ntmps12
    go_wp2_with (go_at_call 19; go_must (refine (refLines_open s _ hs).mono ?_); rintro e w1 ⟨g, cap, rfl, hBg, hgs, hcell, hb1⟩; obtain ⟨ca, cb⟩ := hcell.at_ HA.out; have HB := Lib.hid hb1; clear hb1)
    go_loop [9, 10] (fun i c => ∃ p m : Nat, p ≤ s.size ∧ m ≤ p ∧ m ≤ C ∧ i = .int .i64 p ∧ c = .int .i64 ((m : Int) + 1) ∧ Hid (R = seek s b (C - m) p)) (fun _ c => (C + 1 - RowKit.intOf c).toNat)
    case atStart => exact ⟨a, 0, by omega, by omega, by omega, rfl, rfl, HR.out.symm⟩
    case round =>
      obtain ⟨p, m, hp, hmp, hmC, rfl, rfl, HS⟩ := hrel
      by_cases hm : m < C
      · have hS := HS.out
        rw [show C - m = (C - (m + 1)) + 1 by omega] at hS
        by_cases hpb : p < b
        · rw [seek_more s b _ p hpb] at hS
          have HN := Lib.hid hS; clear hS
          have hw := widN_bd s p (by omega)
          go_wp2_with (go_at_call 17; go_must (refine (refNext_at s p _ (by omega) (by omega)).mono ?_); rintro e w' ⟨rfl, rfl⟩)
          go_round
          case rel => exact ⟨p + widN s p, m + 1, by omega, by omega, by omega, by go_num, by go_num, HN.out⟩
          case measure => simp [RowKit.intOf]; omega
        · rw [seek_none s b _ p (by omega)] at hS
          have HN := Lib.hid hS; clear hS
          go_wp2_with fail
          go_ret2
          exact ⟨ret_at HN.out, HB.out⟩
      · have hS := HS.out
        rw [show C - m = 0 by omega, seek_zero] at hS
        have HN := Lib.hid hS; clear hS
        go_wp2_with fail
        go_ret2
        exact ⟨ret_at HN.out, HB.out⟩
end Go.Proofs.YtbdognlebkagpaaDoor

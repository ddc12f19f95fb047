import Derived.Test.YtbbjgdnbekoaeaaGreatDoorLexR2
import Derived.Test.YtbbjgdnbekoaeaaGreatDoorLexJ
/-! The walks of scarfref04.Tokens and Front. Printed by gen_ltoks.py. -/
namespace Go.Proofs.YtbbjgdnbekoaeaaGreatDoor
set_option linter.unusedSimpArgs false
set_option linter.unusedVariables false
open Go.RowKit
open Go.Lib hiding intOf

theorem toksGo_at (f : Nat) (l : List UInt8) (a : Nat) (ha : a < l.length) : toksGo (f + 1) (l.drop a) a = if (tokR (l.drop a)).2.2 = 0 then (⟨(tokR (l.drop a)).1, a, a + (tokR (l.drop a)).2.1⟩ :: (toksGo f (l.drop (a + (tokR (l.drop a)).2.1)) (a + (tokR (l.drop a)).2.1)).1, (toksGo f (l.drop (a + (tokR (l.drop a)).2.1)) (a + (tokR (l.drop a)).2.1)).2) else ([], some (a + (tokR (l.drop a)).2.1, (tokR (l.drop a)).2.2)) := by
  obtain ⟨c, r, hu⟩ : ∃ c r, l.drop a = c :: r := by
    cases h : l.drop a with
    | nil => have := congrArg List.length h; simp at this; omega
    | cons c r => exact ⟨c, r, rfl⟩
  have hd : l.drop (a + (tokR (l.drop a)).2.1) = (l.drop a).drop (tokR (l.drop a)).2.1 := by rw [List.drop_drop]
  rw [hd, hu, toksGo_cons]
/-- What is gathered, and what is still to come. -/
def Gone (l : List UInt8) (ts : List Tok) (a : Nat) : Prop := ts.length ≤ a ∧ a ≤ l.length ∧ ∃ f, l.length ≤ a + f ∧ toksGo l.length l 0 = (ts ++ (toksGo f (l.drop a) a).1, (toksGo f (l.drop a) a).2)
theorem Gone.zero (l : List UInt8) : Gone l [] 0 := ⟨Nat.le_refl _, Nat.zero_le _, l.length, by omega, by rw [List.drop_zero, List.nil_append]⟩
theorem Gone.step {l : List UInt8} {ts : List Tok} {a k n : Nat} (h : Gone l ts a) (ha : a < l.length) (hT : tokR (l.drop a) = (k, n, 0)) : a < a + n ∧ Gone l (ts ++ [⟨k, a, a + n⟩]) (a + n) := by
  obtain ⟨h1, h2, f, h3, h4⟩ := h
  obtain ⟨g, rfl⟩ : ∃ g, f = g + 1 := ⟨f - 1, by omega⟩
  have hne : l.drop a ≠ [] := fun e => by have := congrArg List.length e; simp at this; omega
  have hok := tokR_ok (l.drop a) hne
  rw [hT, List.length_drop] at hok
  simp only [] at hok
  have h0 := hok.2 trivial
  rw [toksGo_at g l a ha, hT] at h4
  simp only [if_true] at h4
  refine ⟨by omega, by rw [List.length_append]; simp; omega, by omega, g, by omega, ?_⟩
  rw [h4, List.append_assoc, List.singleton_append]
theorem Gone.err {l : List UInt8} {ts : List Tok} {a k n : Nat} {er : Int} (h : Gone l ts a) (ha : a < l.length) (hT : tokR (l.drop a) = (k, n, er)) (he : er ≠ 0) : toksGo l.length l 0 = (ts, some (a + n, er)) ∧ a + n ≤ l.length := by
  obtain ⟨h1, h2, f, h3, h4⟩ := h
  obtain ⟨g, rfl⟩ : ∃ g, f = g + 1 := ⟨f - 1, by omega⟩
  have hne : l.drop a ≠ [] := fun e => by have := congrArg List.length e; simp at this; omega
  have hok := (tokR_ok (l.drop a) hne).1
  rw [hT, List.length_drop] at hok
  simp only [] at hok
  rw [toksGo_at g l a ha, hT] at h4
  simp only [if_neg he, List.append_nil] at h4
  exact ⟨h4, by omega⟩
theorem Gone.fin {l : List UInt8} {ts : List Tok} (h : Gone l ts l.length) : toksGo l.length l 0 = (ts, none) := by
  obtain ⟨h1, h2, f, h3, h4⟩ := h
  rw [List.drop_of_length_le (Nat.le_refl _), toksGo_nil] at h4
  simpa using h4
theorem owns_below {B size : Nat} {e : TypeId} {A W : World} {v : Value} {n : Nat} {xs : List Value} (h : A.ownsRow B e size v n xs) (hb : Below A.heap.size A W) : W.ownsRow B e size v n xs :=
  h.kept (grown_of_below hb) (by cases h : v.ownBlock with
    | none => exact .inl rfl
    | some k => exact .inr (by simp))

set_option maxRecDepth 100000 in
set_option maxHeartbeats 4000000 in
theorem refTokens_any (l : List UInt8) (w : World) (hs : l.length ≤ 140737488351232) :
    Calls Tryz.prog 9 #[.string (bs l)] w (TokensE (toksL l) w) := by
  have sl := bs_size l
  by_cases hlong : 65536 < l.length
  · have hR : toksL l = ([], 0, 3) := by unfold toksL; rw [if_pos hlong]
    rw [hR]
    have d1 : decide (65536 < l.length) = true := decide_eq_true hlong
    go_enter Tryz.func9, Tryz.ntmps9
    go_wp2_with fail
    go_ret3
    exact ⟨_, rfl, World.ownsRow_nil _ _ _ _, fun _ => rfl, Below.refl _ _⟩
  have d1 : decide (65536 < l.length) = false := decide_eq_false hlong
  have hfin : ∀ ts, toksGo l.length l 0 = (ts, none) → toksL l = (ts, (l.length : Int), 0) := fun ts h => by rw [toksL_short l (by omega), h]
  have herr : ∀ ts p e, toksGo l.length l 0 = (ts, some (p, e)) → toksL l = ([], (p : Int), e) := fun ts p e h => by rw [toksL_short l (by omega), h]
  have hl' : l.length ≤ 65536 := by omega
  obtain ⟨i0, hi0, hz0, hz1, hz2⟩ := info_parts Tryz.infoTok
  have CO := Lib.hid (fun a w ha => refOne_any l a w (by omega) ha)
  have HFIN := Lib.hid hfin; have HERR := Lib.hid herr
  clear hfin herr hlong
  go_enter Tryz.func9, Tryz.ntmps9
  go_wp2_with fail
  go_loopw [5, 6] (fun s5 s6 wr => ∃ (a : Nat) (ts : List Tok), s6 = .int .i64 a ∧ a ≤ l.length ∧ ts.length ≤ a ∧ Hid (OwnsToks w.heap.size wr s5 ts ∧ (ts = [] → s5 = .slice none 0 0)) ∧ Hid (Below w.heap.size w wr) ∧ Hid (Gone l ts a)) (fun _ s6 _ => l.length - (RowKit.intOf s6).toNat)
  case atStart => exact ⟨0, [], rfl, by omega, by simp, ⟨World.ownsRow_nil _ _ _ _, fun _ => rfl⟩, Below.refl _ _, Gone.zero l⟩
  case round =>
    obtain ⟨a, ts, rfl, ha, hts, HO, HB, HG⟩ := hrel
    by_cases hlt : a < l.length
    · have C1 := Lib.hid (fun w => CO.out a w hlt)
      obtain ⟨T, hT⟩ : ∃ T, tokR (l.drop a) = T := ⟨_, rfl⟩
      obtain ⟨k, n, er⟩ := T
      unfold OneE oneK at C1
      rw [hT] at C1
      simp only [] at C1
      by_cases he : er = 0
      · subst he
        simp only [if_true] at C1
        obtain ⟨hn, hg⟩ := HG.out.step hlt hT
        have han := hg.2.1
        have HG2 := Lib.hid hg
        clear hT hg
        go_wp2_with (first | (go_at_call 24; (with_reducible refine (C1.out _).mono ?_); rintro e w1 ⟨rfl, hb⟩; have HO1 := Lib.hid (owns_below HO.out.1 hb); have HB1 := Lib.hid (below_of_new HB.out hb); clear hb) | (at_builtin; go_must (refine wpList_push rfl _ _ 23 rfl w.heap.size 34 i0 _ 3 24 Tryz.underlying23 hi0 hz0 hz1 hz2 rfl (by decide) w1 u5 ts.length (tokCells ts) rfl HO1.out #[.int .i64 k, .int .i64 a, .int .i64 ((a + n : Nat) : Int)] rfl rfl (by simp [Value.oneCell']) (by omega) (by decide) HB1.out.size ?_); intro v1 w2 hown1 hsz1 hbel1 hkeep1 hne1))
        go_roundw
        case rel => exact ⟨a + n, ts ++ [⟨k, a, a + n⟩], by go_num, han, HG2.out.1, ⟨OwnsToks.snoc hown1, fun h => absurd h (by simp)⟩, HB1.out.trans hbel1, HG2⟩
        case measure => simp [RowKit.intOf]; omega
      · have teb : (er == 0) = false := beq_eq_false_iff_ne.2 he
        have tnb : (er != 0) = true := bne_iff_ne.2 he
        obtain ⟨h1, h2⟩ := HG.out.err hlt hT he
        have HE := Lib.hid h1
        obtain ⟨kd, hkd⟩ : ∃ kd : Int, (if (l.drop a).head? = some 34 then (8 : Int) else 0) = kd := ⟨_, rfl⟩
        simp only [if_neg he, hkd] at C1
        clear hT h1 hkd
        go_wp2_with (go_at_call 24; (with_reducible refine (C1.out _).mono ?_); rintro e w1 ⟨rfl, hb⟩; have HO1 := Lib.hid (owns_below HO.out.1 hb); have HB1 := Lib.hid (below_of_new HB.out hb); clear hb)
        go_ret3
        rw [HERR.out _ _ _ HE.out]
        exact ⟨_, rfl, World.ownsRow_nil _ _ _ _, fun _ => rfl, HB1.out⟩
    · obtain rfl : a = l.length := by omega
      have HF := Lib.hid (HG.out.fin)
      go_wp2_with fail
      go_ret3
      rw [HFIN.out _ HF.out]
      exact ⟨_, rfl, HO.out.1, HO.out.2, HB.out⟩
set_option maxRecDepth 100000 in
set_option maxHeartbeats 4000000 in
theorem refFront_any (l : List UInt8) (w : World) (hs : l.length ≤ 65536) :
    Calls Tryz.prog 8 #[.string (bs l)] w fun e w' => ∃ v, e = .returned v ∧ OwnsToks w.heap.size w' v (toksGo l.length l 0).1 ∧ ((toksGo l.length l 0).1 = [] → v = .slice none 0 0) ∧ Below w.heap.size w w' := by
  have sl := bs_size l
  have hlong : ¬ 65536 < l.length := by omega
  have d1 : decide (65536 < l.length) = false := decide_eq_false hlong
  have d1' : decide (l.length ≤ 65536) = true := decide_eq_true hs
  have hl' : l.length ≤ 65536 := by omega
  obtain ⟨i0, hi0, hz0, hz1, hz2⟩ := info_parts Tryz.infoTok
  have CO := Lib.hid (fun a w ha => refOne_any l a w (by omega) ha)
  skip
  clear hlong
  go_enter Tryz.func8, Tryz.ntmps8
  go_wp2_with fail
  go_loopw [3, 4] (fun s3 s4 wr => ∃ (a : Nat) (ts : List Tok), s4 = .int .i64 a ∧ a ≤ l.length ∧ ts.length ≤ a ∧ Hid (OwnsToks w.heap.size wr s3 ts ∧ (ts = [] → s3 = .slice none 0 0)) ∧ Hid (Below w.heap.size w wr) ∧ Hid (Gone l ts a)) (fun _ s4 _ => l.length - (RowKit.intOf s4).toNat)
  case atStart => exact ⟨0, [], rfl, by omega, by simp, ⟨World.ownsRow_nil _ _ _ _, fun _ => rfl⟩, Below.refl _ _, Gone.zero l⟩
  case round =>
    obtain ⟨a, ts, rfl, ha, hts, HO, HB, HG⟩ := hrel
    by_cases hlt : a < l.length
    · have C1 := Lib.hid (fun w => CO.out a w hlt)
      obtain ⟨T, hT⟩ : ∃ T, tokR (l.drop a) = T := ⟨_, rfl⟩
      obtain ⟨k, n, er⟩ := T
      unfold OneE oneK at C1
      rw [hT] at C1
      simp only [] at C1
      by_cases he : er = 0
      · subst he
        simp only [if_true] at C1
        obtain ⟨hn, hg⟩ := HG.out.step hlt hT
        have han := hg.2.1
        have HG2 := Lib.hid hg
        clear hT hg
        go_wp2_with (first | (go_at_call 24; (with_reducible refine (C1.out _).mono ?_); rintro e w1 ⟨rfl, hb⟩; have HO1 := Lib.hid (owns_below HO.out.1 hb); have HB1 := Lib.hid (below_of_new HB.out hb); clear hb) | (at_builtin; go_must (refine wpList_push rfl _ _ 23 rfl w.heap.size 34 i0 _ 3 24 Tryz.underlying23 hi0 hz0 hz1 hz2 rfl (by decide) w1 u3 ts.length (tokCells ts) rfl HO1.out #[.int .i64 k, .int .i64 a, .int .i64 ((a + n : Nat) : Int)] rfl rfl (by simp [Value.oneCell']) (by omega) (by decide) HB1.out.size ?_); intro v1 w2 hown1 hsz1 hbel1 hkeep1 hne1))
        go_roundw
        case rel => exact ⟨a + n, ts ++ [⟨k, a, a + n⟩], by go_num, han, HG2.out.1, ⟨OwnsToks.snoc hown1, fun h => absurd h (by simp)⟩, HB1.out.trans hbel1, HG2⟩
        case measure => simp [RowKit.intOf]; omega
      · have teb : (er == 0) = false := beq_eq_false_iff_ne.2 he
        have tnb : (er != 0) = true := bne_iff_ne.2 he
        obtain ⟨h1, h2⟩ := HG.out.err hlt hT he
        have HE := Lib.hid h1
        obtain ⟨kd, hkd⟩ : ∃ kd : Int, (if (l.drop a).head? = some 34 then (8 : Int) else 0) = kd := ⟨_, rfl⟩
        simp only [if_neg he, hkd] at C1
        clear hT h1 hkd
        go_wp2_with (go_at_call 24; (with_reducible refine (C1.out _).mono ?_); rintro e w1 ⟨rfl, hb⟩; have HO1 := Lib.hid (owns_below HO.out.1 hb); have HB1 := Lib.hid (below_of_new HB.out hb); clear hb)
        go_ret
        rw [HE.out]
        exact ⟨_, rfl, HO1.out, HO.out.2, HB1.out⟩
    · obtain rfl : a = l.length := by omega
      have HF := Lib.hid (HG.out.fin)
      go_wp2_with fail
      go_ret
      rw [HF.out]
      exact ⟨_, rfl, HO.out.1, HO.out.2, HB.out⟩
end Go.Proofs.YtbbjgdnbekoaeaaGreatDoor

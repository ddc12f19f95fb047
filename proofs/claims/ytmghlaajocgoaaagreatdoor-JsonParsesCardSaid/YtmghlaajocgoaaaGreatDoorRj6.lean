import Derived.Test.YtmghlaajocgoaaaGreatDoorRj5
import Derived.Test.YtmghlaajocgoaaaGreatDoorJsM
import Derived.Test.YtmghlaajocgoaaaGreatDoorLexR
import Derived.Test.YtmghlaajocgoaaaGreatDoorJsN
/-! The walk of the document's Parse. -/
namespace Go.Proofs.YtmghlaajocgoaaaGreatDoor
set_option linter.unusedSimpArgs false
set_option linter.unusedVariables false
set_option linter.unnecessarySimpa false
open Go.RowKit Go.Maps Go.WideMaps
open Go.Lib hiding intOf
theorem tokR_six (l : List UInt8) (h0 : (tokR l).2.2 = 0) (h : (tokR l).1 = 6) : (tokR l).2.1 = 1 := by
  unfold tokR at h0 h ⊢
  cases l with
  | nil => simp at h
  | cons c r =>
    simp only [] at h0 h ⊢
    cases hs : signI c with
    | some k => rfl
    | none =>
      rw [hs] at h0 h
      simp only [] at h0 h ⊢
      split at h
      · simp at h
      · split at h
        · split at h
          · simp at h
          · simp at h
        · split at h
          · split at h
            · simp at h
            · simp at h
          · split at h
            · simp at h
            · exfalso
              simp only [] at h
              unfold wordL at h
              (repeat' split at h) <;> omega
theorem toks_six : ∀ (f : Nat) (l : List UInt8) (i : Nat), ∀ t ∈ (toksGo f l i).1, t.kind = 6 → t.st = t.sf + 1
  | f, [], i, t, ht => by rw [toksGo_nil] at ht; cases ht
  | 0, c :: r, i, t, ht => by cases ht
  | f + 1, c :: r, i, t, ht => by
    rw [toksGo_cons] at ht
    split at ht
    · rename_i h0
      rcases List.mem_cons.1 ht with rfl | ht
      · intro h6
        have := tokR_six (c :: r) h0 h6
        simp only []; omega
      · exact toks_six f _ _ t ht
    · cases ht
theorem toksL_six (l : List UInt8) : ∀ t ∈ (toksL l).1, t.kind = 6 → t.st = t.sf + 1 := by
  unfold toksL
  split
  · intro t h; cases h
  · split
    · exact toks_six _ _ _
    · intro t h; cases h
theorem QBox.toks {w : World} {P : Nat} {txt : List UInt8} {lv nv : Value} {k a : Nat} {er : Int} (h : QBox w P txt lv k nv a er) (lv2 : Value) : QBox (w.setCell ⟨P, 1, none⟩ lv2) P txt lv2 k nv a er := by
  unfold QBox at h ⊢
  simp [World.setCell, Array.getElem?_modify, h]
theorem QBox.offT {w w' : World} {P B : Nat} {txt : List UInt8} {lv nv : Value} {k a : Nat} {er : Int} (h : QBox w P txt lv k nv a er) {ts : List Tok} {v : Value} (hr : OwnsToks B w v ts) (hg : w.grownBy w' v.ownBlock) : QBox w' P txt lv k nv a er :=
  (hg.block P h.lt (fun e => by
    rcases own_off hr h (by decide) with h1 | h1
    · rw [h1] at e; cases e
    · exact h1 e.symm)).trans h
theorem qtok_push {w w2 w5 : World} {P : Nat} {txt : List UInt8} {lv nv kv : Value} {k a : Nat} {er : Int} {ts : List Tok} {t : Tok} (h1 : QBox w P txt lv k nv a er) (hr : OwnsToks (P + 1) w lv ts) (hb : Below P w2 w) (hg : w.grownBy w5 lv.ownBlock) (ho : OwnsToks (P + 1) w5 kv (ts ++ [t])) :
    QBox (w5.setCell ⟨P, 1, none⟩ kv) P txt kv k nv a er ∧ OwnsToks (P + 1) (w5.setCell ⟨P, 1, none⟩ kv) kv (ts ++ [t]) ∧ Below P w2 (w5.setCell ⟨P, 1, none⟩ kv) ∧ w5.cell? ⟨P, 1, none⟩ = some lv ∧ w5.frozen? ⟨P, 1, none⟩ = false := by
  have j5 := h1.offT hr hg
  refine ⟨j5.toks kv, ho.kept (grown_set w5 P 1 kv) (own_off ho j5 (by decide)), (hb.grown hg (by have := h1.lt; omega) (fun k hk => by have := (hr.lt k hk).1; omega)).setCell (by simp) _, j5.cells.2.1, j5.cells.2.2.2.2.2.2.1⟩
set_option maxRecDepth 100000 in
set_option maxHeartbeats 8000000 in
theorem qparse_any (l : List UInt8) (w : World) (hs : l.length ≤ 140737488351232) :
    Calls Tryz.prog 10 #[.string (bs l)] w (ParseE l (parseJ l) w) := by
  have sl := bs_size l
  obtain ⟨ht1, ht2, ht3⟩ := toksL_tb l
  have HT6 := Lib.hid (toksL_six l)
  have hp : parseJ l = if (toksL l).2.2 ≠ 0 then ([], (toksL l).2.1, (toksL l).2.2) else
    endP l.length (valueM l 32 (noBlank (toksL l).1) (0, 0) [] (0, 0)) := by
    unfold parseJ noBlank endP
    rfl
  rw [hp]
  clear hp
  have b1 := below_alloc1 w (.cells #[.string ⟨#[]⟩, .slice none 0 0] 25)
  have C := refTokens_any l (w.alloc (.cells #[.string ⟨#[]⟩, .slice none 0 0] 25)) hs
  obtain ⟨r, hr⟩ : ∃ r, toksL l = r := ⟨_, rfl⟩
  rw [hr] at C HT6 ht1 ht2 ht3 ⊢
  obtain ⟨T, at_, er⟩ := r
  have CT := Lib.hid C
  have HB1 := Lib.hid b1
  simp only [] at ht1 ht2 ht3 HT6
  by_cases he : er = 0
  case neg =>
    have hen : (er != 0) = true := bne_iff_ne.2 he
    clear C b1 hr ht2 ht3
    go_enter Tryz.func10, Tryz.ntmps10
    go_wp2_with fail
    refine CT.out.mono ?_
    rintro e w2 ⟨v, rfl, ho, hn, hb⟩
    have hD : w2.heap[w.heap.size]? = some (.cells #[.string ⟨#[]⟩, .slice none 0 0] 25) := (hb.block _ (by simp)).trans (heap_alloc_new w _)
    obtain ⟨c0, c1⟩ := cells_at2 hD
    obtain ⟨f0, f1⟩ := cells_fr2 hD
    have hB : Below w.heap.size w w2 := HB1.out.trans (hb.mono (by simp))
    have HB := Lib.hid hB
    clear hD ho hn hb hB
    go_wp2_with fail
    try simp only [Exit.inBlock, Exit.then]
    refine bodyPost_ret (results_doc rfl _ _ rfl (u := .string ⟨#[]⟩) (v := .slice none 0 0) ?_ ?_) rfl ?_
    · simp [go_sem, c0, c1]
    · simp [go_sem, c0, c1]
    · refine ⟨_, rfl, ⟨[], .slice none 0 0, rfl, rfl, NodesAt.nil _ _⟩, (HB.out.setCell (by simp) _).setCell (by simp) _⟩
  subst he
  obtain ⟨R, hR⟩ : ∃ R, valueM l 32 (noBlank T) (0, 0) [] (0, 0) = R := ⟨_, rfl⟩
  rw [if_neg (by simp)]
  simp only []
  rw [hR]
  have hl := ht3 rfl
  have HR := Lib.hid hR
  have HT2 := Lib.hid ht2
  clear C b1 hr hR ht2 ht3
  go_enter Tryz.func10, Tryz.ntmps10
  go_wp2_with fail
  refine CT.out.mono ?_
  rintro e w2 ⟨v, rfl, ho, hn, hb⟩
  have hD : w2.heap[w.heap.size]? = some (.cells #[.string ⟨#[]⟩, .slice none 0 0] 25) := (hb.block _ (by simp)).trans (heap_alloc_new w _)
  have hB : Below w.heap.size w w2 := HB1.out.trans (hb.mono (by simp))
  have HB := Lib.hid hB
  have HDv := Lib.hid hD
  have hDl : w.heap.size < w2.heap.size := cell_it hD
  obtain ⟨p0, c0, hv, hvc, hat⟩ := OwnsToks.toTV ho
  subst hv
  have HAt : Hid (∀ j t, T[j]? = some t → ∃ g o, p0 = some ⟨g, o, none⟩ ∧ g < w2.heap.size ∧ w2.cell? ⟨g, o + j * 3, none⟩ = some (.int .i64 t.kind) ∧ w2.cell? ⟨g, o + j * 3 + 1, none⟩ = some (.int .i64 t.sf) ∧ w2.cell? ⟨g, o + j * 3 + 2, none⟩ = some (.int .i64 t.st)) := Lib.hid (fun j t hj => by
    rcases hat with h0 | ⟨g, o, cur, h0, h1, h2⟩
    · simp only [] at h0; rw [h0] at hj; simp at hj
    · exact ⟨g, o, h0, cell_it h1, h2 j t hj⟩)
  clear hD ho hn hb hB hat
  obtain ⟨P, hP⟩ : ∃ P, w2.heap.size = P := ⟨_, rfl⟩
  have hJ0 : QBox (w2.alloc (.cells #[.string (bs l), .slice none 0 0, .int .i64 0, .slice none 0 0, .int .i64 0, .int .i64 0] 49)) P l (.slice none 0 0) 0 (.slice none 0 0) 0 0 := by
    rw [← hP]; exact heap_alloc_new w2 _
  have HJ0 := Lib.hid hJ0
  have HB0 : Hid (Below P w2 (w2.alloc (.cells #[.string (bs l), .slice none 0 0, .int .i64 0, .slice none 0 0, .int .i64 0, .int .i64 0] 49))) := Lib.hid (by rw [← hP]; exact below_alloc1 w2 _)
  have HO0 : Hid (OwnsToks (P + 1) (w2.alloc (.cells #[.string (bs l), .slice none 0 0, .int .i64 0, .slice none 0 0, .int .i64 0, .int .i64 0] 49)) (.slice none 0 0) (noBlank (T.take 0))) := Lib.hid ⟨rfl, .inl ⟨rfl, rfl⟩⟩
  clear hJ0
  rw [hP] at hDl HAt
  go_wp2_with fail
  go_loopw [9] (fun s9 wr => ∃ (k : Nat) (rv : Value), s9 = .int .i64 (k : Int) ∧ k ≤ T.length ∧ Hid (QBox wr P l rv 0 (.slice none 0 0) 0 0) ∧ Hid (OwnsToks (P + 1) wr rv (noBlank (T.take k))) ∧ Hid (Below P w2 wr)) (fun s9 _ => T.length - (RowKit.intOf s9).toNat)
  case atStart => exact ⟨0, _, rfl, by omega, HJ0, HO0, HB0⟩
  case round =>
    obtain ⟨k, rv, rfl, hk, HJ, HO, HBr⟩ := hrel
    by_cases hkl : k < T.length
    · obtain ⟨t, ht⟩ : ∃ t, T[k]? = some t := ⟨_, List.getElem?_eq_getElem hkl⟩
      obtain ⟨g, o, rfl, hg, e0, e1, e2⟩ := HAt.out k t ht
      have hgP : g < P := hg
      have a0 : wr.cell? ⟨g, o + k * 3, none⟩ = some (.int .i64 (t.kind : Int)) := by rw [HBr.out.cell (p := ⟨g, o + k * 3, none⟩) hg]; exact e0
      have a1 : wr.cell? ⟨g, o + k * 3 + 1, none⟩ = some (.int .i64 (t.sf : Int)) := by rw [HBr.out.cell (p := ⟨g, o + k * 3 + 1, none⟩) hg]; exact e1
      have a2 : wr.cell? ⟨g, o + k * 3 + 2, none⟩ = some (.int .i64 (t.st : Int)) := by rw [HBr.out.cell (p := ⟨g, o + k * 3 + 2, none⟩) hg]; exact e2
      have hk0 : (0 : Int) ≤ (k : Int) := by omega
      have hk1 : (k : Int) < (T.length : Int) := by omega
      have dk : decide ((k : Int) < (T.length : Int)) = true := decide_eq_true hk1
      obtain ⟨k1, hk1e⟩ : ∃ k1, k + 1 = k1 := ⟨_, rfl⟩
      have hk1z : (k : Int) + 1 = (k1 : Int) := by omega
      have hstep := noBlank_step T k t ht
      rw [hk1e] at hstep
      have hkk : k1 ≤ T.length := by omega
      have hPr := HJ.out.lt
      by_cases h1 : t.kind = 1
      · have d1 : ((t.kind : Int) != 1) = false := by rw [h1]; rfl
        rw [if_pos h1, List.append_nil] at hstep
        have HO2 := HO
        rw [← hstep] at HO2
        clear e0 e1 e2 hstep ht h1
        go_wp2_with fail
        go_roundw
        · exact ⟨k1, rv, by rw [← hk1z], hkk, HJ, HO2, HBr⟩
        · simp only [RowKit.intOf]; omega
      · have d1 : ((t.kind : Int) != 1) = true := bne_iff_ne.2 (by omega)
        rw [if_neg h1] at hstep
        clear e0 e1 e2 ht h1
        go_upto_region 9 with fail
        have q1 := HJ.out.cells.2.1
        have hlen : (noBlank (T.take k)).length ≤ 4294967295 := by
          refine Nat.le_trans (List.length_filter_le _ _) ?_
          rw [List.length_take]; omega
        have hOd : OwnsToks (P + 1) wr.drew rv (noBlank (T.take k)) := HO.out
        go_region_law (refine step_tok (by rfl) (.tmp 41) (.tmp 46) (by rfl) (P + 1) wr.drew rv (noBlank (T.take k)) t (by rfl) hOd (by rfl) hlen hPr ?_; intro kv w5 ho5 hg5; obtain ⟨j5, o5, b5, c5, f5⟩ := qtok_push (w := wr.drew) (w2 := w2) (HJ.out.keep (Below.refl _ _).drew) hOd HBr.out.drew hg5 ho5; obtain ⟨gk, pk, rfl⟩ := own_tok ho5)
        all_goals
          rw [← hstep] at o5
          have HJ5 := Lib.hid j5
          have HO5 := Lib.hid o5
          have HB5 := Lib.hid b5
          clear j5 o5 b5 c5 f5 ho5 hg5 hstep hOd q1
          go_wp2_with fail
          go_roundw
          · exact ⟨k1, _, by rw [← hk1z], hkk, HJ5, HO5, HB5⟩
          · simp only [RowKit.intOf]; omega
    · have hke : k = T.length := by omega
      subst hke
      rw [List.take_length] at HO
      have dk : decide ((T.length : Int) < (T.length : Int)) = false := decide_eq_false (by omega)
      have hPr := HJ.out.lt
      have hj : QJ w2.heap.size P l (noBlank T) 0 [] wr := ⟨[], .slice none 0 0, rfl, rv, HJ.out, OwnsToks.toTV HO.out, by omega, NodesAt.nil _ _, by omega⟩
      have hnl : (noBlank T).length ≤ 65536 := Nat.le_trans (List.length_filter_le _ _) ht1
      have hbw : Below w2.heap.size w2 wr := by rw [hP]; exact HBr.out
      have CV := qvalue_any w2 P l (noBlank T) hnl hl (fun t ht => HT2.out t (List.mem_filter.1 ht).1) (fun t ht => HT6.out t (List.mem_filter.1 ht).1) 32 (by omega) wr 0 (0, 0) [] (0, 0) 1 hj hbw (by rw [List.drop_zero, List.length_nil]; omega) (by simp) (by omega)
      rw [List.drop_zero, HR.out] at CV
      have HCV := Lib.hid CV
      have HBw := Lib.hid hbw
      clear CV hj hbw
      cases R with
      | bad a er =>
        go_wp2_with fail
        refine HCV.out.mono ?_
        rintro e w4 ⟨rfl, ⟨txt', lv4, k4, z4, nv4, jb, -, -, -⟩, hf⟩
        obtain ⟨_, _, _, _, c4, c5, _⟩ := jb.cells
        obtain ⟨d0, d1, d2, d3, dD⟩ := doc_at HDv.out HBw.out hf
        have HB4 : Hid (Below w.heap.size w w4) := Lib.hid (HB.out.trans ((HBw.out.trans hf.bel).mono (by omega)))
        have hDP : w.heap.size ≠ P := by omega
        clear hf jb
        go_upto_region 11 with fail
        go_region
        go_upto_region 15 with fail
        go_region
        all_goals
          go_wp2_with fail
          try simp only [Exit.inBlock, Exit.then]
          refine bodyPost_ret (results_doc rfl _ _ rfl (u := .string ⟨#[]⟩) (v := .slice none 0 0) ?_ ?_) rfl ?_
          · simp [go_sem, d0, d1]
          · simp [go_sem, d0, d1]
          · exact doc_bad (((HB4.out.drew.setCell (Nat.le_refl _) _).setCell (Nat.le_refl _) _).drew) _ rfl
      | ok rr l2 ns =>
        obtain ⟨more, hne, hm1, hm2, _⟩ := value_ext l 32 _ _ _ _ _ _ _ HR.out
        go_wp2_with fail
        refine HCV.out.mono ?_
        rintro e w4 ⟨rfl, ⟨k5, t5, hrr, hLt5, hl2, hj5⟩, hf⟩
        have HJ5 := Lib.hid hj5
        have hk5 := (List.getElem?_eq_some_iff.1 hLt5).1
        obtain ⟨z5, nv5, hz5, hq5⟩ := hj5
        have HQ5 := Lib.hid hq5
        have HF4 := Lib.hid hf
        obtain ⟨lv5, qb5, qt5, _, qn5, _⟩ := hq5
        obtain ⟨p6, c6, rfl⟩ := qt5.slice
        obtain ⟨_, e1, e2, _⟩ := qb5.cells
        obtain ⟨kk, hkk⟩ : ∃ kk, k5 + 1 = kk := ⟨_, rfl⟩
        have HZ5 := Lib.hid hz5
        have HRR := Lib.hid hrr
        rw [hkk] at e2 HQ5 HRR HJ5
        clear qb5 qt5 qn5 hf hrr hz5
        have hkk2 : kk ≤ (noBlank T).length := by omega
        by_cases hkl : kk < (noBlank T).length
        · have dlt : decide ((kk : Int) < ((noBlank T).length : Int)) = true := decide_eq_true (by omega)
          have dlt2 : decide (kk < (noBlank T).length) = true := decide_eq_true hkl
          obtain ⟨tn, htn⟩ : ∃ tn, (noBlank T)[kk]? = some tn := ⟨_, List.getElem?_eq_getElem hkl⟩
          have CW := Lib.hid (qwrong_any _ P l (noBlank T) kk z5 nv5 2 w4.drew (HQ5.out.keep (Below.refl _ w4).drew) (by omega) (by omega))
          have hdr : (noBlank T).drop kk = tn :: (noBlank T).drop (kk + 1) := by
            rw [List.drop_eq_getElem_cons hkl]
            congr 1
            exact (List.getElem?_eq_some_iff.1 htn).2
          have HE : Hid (endP l.length (.ok rr l2 ns) = ([], (tn.sf : Int), 2)) := Lib.hid (by
            rw [HRR.out, hdr]; rfl)
          have HH : Hid (hereT l.length ((noBlank T).drop kk) = tn.sf) := Lib.hid (by rw [hdr]; rfl)
          clear hdr htn
          go_upto_region 11 with fail
          go_region
          go_wp2_with fail
          refine CW.out.mono ?_
          rintro e w5 ⟨rfl, ⟨lv6, jb⟩, ho⟩
          have hsz := HF4.out.sz
          have hf5 : Fr w2.heap.size P wr w5 := HF4.out.trans ((Fr.of_below (Below.refl _ w4).drew (by omega)).trans (OnlyP.fr ho (by omega) (show w2.heap.size ≤ w4.heap.size by omega)))
          obtain ⟨_, _, _, _, c4, c5, _⟩ := jb.cells
          rw [HH.out] at c4
          obtain ⟨d0, d1, d2, d3, dD⟩ := doc_at HDv.out HBw.out hf5
          have HB4 : Hid (Below w.heap.size w w5) := Lib.hid (HB.out.trans ((HBw.out.trans hf5.bel).mono (by omega)))
          have hDP : w.heap.size ≠ P := by omega
          clear hf5 jb ho dlt dlt2 e1 e2
          go_upto_region 15 with fail
          go_region
          all_goals
            go_wp2_with fail
            try simp only [Exit.inBlock, Exit.then]
            refine bodyPost_ret (results_doc rfl _ _ rfl (u := .string ⟨#[]⟩) (v := .slice none 0 0) ?_ ?_) rfl ?_
            · simp [go_sem, d0, d1]
            · simp [go_sem, d0, d1]
            · exact doc_bad (((HB4.out.setCell (Nat.le_refl _) _).setCell (Nat.le_refl _) _).drew) _ HE.out
        · have dlt : decide ((kk : Int) < ((noBlank T).length : Int)) = false := decide_eq_false (by omega)
          have dlt2 : decide (kk < (noBlank T).length) = false := decide_eq_false hkl
          have hrn : rr = [] := by rw [HRR.out]; exact List.drop_eq_nil_of_le (by omega)
          subst hrn
          obtain ⟨p5, c5, rfl⟩ := HQ5.out.at_.slice
          have q4 := HQ5.out.c3
          obtain ⟨d0, d1, d2, d3, dD⟩ := doc_at HDv.out HBw.out HF4.out
          have HB4 : Hid (Below w.heap.size w w4) := Lib.hid (HB.out.trans ((HBw.out.trans HF4.out.bel).mono (by omega)))
          have hDP : w.heap.size ≠ P := by omega
          have HDD := Lib.hid dD
          clear dD
          go_upto_region 11 with fail
          go_region
          go_wp2_with fail
          try simp only [Exit.inBlock, Exit.then]
          refine bodyPost_ret (results_doc rfl _ _ rfl (u := .string (bs l)) (v := .slice p5 z5.length c5) ?_ ?_) rfl ?_
          · simp [go_sem, d0, d1]
          · simp [go_sem, d0, d1]
          · refine ⟨_, rfl, ⟨z5, .slice p5 z5.length c5, ?_, HZ5.out, ?_⟩, (HB4.out.drew.setCell (Nat.le_refl _) _).setCell (Nat.le_refl _) _⟩
            · have hd : docT l (endP l.length (JR.ok [] l2 ns)).1 = l := by
                rw [List.nil_append] at hne
                subst hne
                cases ns with
                | nil => simp at hm1
                | cons y ys => rfl
              rw [hd]
            · exact ((HQ5.out.keep (Below.refl _ w4).drew).at_.other HDD.out (by decide) (by decide) (by decide) (grown_trans (grown_set w4.drew w.heap.size 0 (.string (bs l))) (grown_set _ w.heap.size 1 (.slice p5 z5.length c5)))).base (by omega)
end Go.Proofs.YtmghlaajocgoaaaGreatDoor
/-! The walk of the document's Same. -/
namespace Go.Proofs.YtmghlaajocgoaaaGreatDoor
set_option linter.unusedSimpArgs false
set_option linter.unusedVariables false
set_option linter.unnecessarySimpa false
open Go.RowKit Go.Maps Go.WideMaps
open Go.Lib hiding intOf
theorem SpansR.cells {w w' : World} {p : Option Addr} {n c : Nat} {l : List Sp} (h : SpansR w (.slice p n c) l) (hb : Below w.heap.size w w') {j : Nat} {k : Sp} (hj : l[j]? = some k) : ∃ g, p = some ⟨g, 0, none⟩ ∧ w'.cell? ⟨g, j * 2, none⟩ = some (.int .i64 (k.1 : Int)) ∧ w'.cell? ⟨g, j * 2 + 1, none⟩ = some (.int .i64 (k.2 : Int)) := by
  obtain ⟨p', c', e, h⟩ := h.keep hb
  injection e with e1 e2 e3
  subst e1
  exact h j k hj
theorem IntsR.cells {w w' : World} {p : Option Addr} {n c : Nat} {l : List Nat} (h : IntsR w (.slice p n c) l) (hb : Below w.heap.size w w') {j : Nat} {k : Nat} (hj : l[j]? = some k) : ∃ g, p = some ⟨g, 0, none⟩ ∧ w'.cell? ⟨g, j, none⟩ = some (.int .i64 (k : Int)) := by
  obtain ⟨p', c', e, h⟩ := h.keep hb
  injection e with e1 e2 e3
  subst e1
  exact h j k hj
set_option maxHeartbeats 4000000 in
theorem sameSpans_read (l : List Sp) (p1 p2 : Option Addr) (c1 c2 : Nat) (w : World) (h1 : SpansR w (.slice p1 l.length c1) l) (h2 : SpansR w (.slice p2 l.length c2) l) (hn : l.length ≤ 4294967296) :
    Calls Tryz.prog 24 #[.slice p1 l.length c1, .slice p2 l.length c2] w fun e w' => e = .returned (.bool true) ∧ Below w.heap.size w w' := by
  have H1 := Lib.hid h1
  have H2 := Lib.hid h2
  clear h1 h2
  go_enter Tryz.func24, Tryz.ntmps24
  go_wp2_with fail
  go_loopw [5] (fun i wr => ∃ j : Nat, j ≤ l.length ∧ i = .int .i64 j ∧ Hid (Below w.heap.size w wr)) (fun i _ => l.length - (RowKit.intOf i).toNat)
  case atStart => exact ⟨0, by omega, rfl, Below.refl _ _⟩
  case round =>
    obtain ⟨j, hj, rfl, HJ⟩ := hrel
    by_cases hlt : j < l.length
    · obtain ⟨⟨a, b⟩, hab⟩ : ∃ k, l[j]? = some k := ⟨_, List.getElem?_eq_getElem hlt⟩
      obtain ⟨g1, rfl, ca, cb⟩ := H1.out.cells HJ.out hab
      obtain ⟨g2, rfl, da, db⟩ := H2.out.cells HJ.out hab
      simp only [] at ca cb da db
      have hlz : (j : Int) < (l.length : Int) := by omega
      clear hab
      go_wp2_with fail
      go_quiet (fail)
      go_wp2_with fail
      go_roundw
      case rel => exact ⟨j + 1, by omega, by go_num, below_drewN HJ.out _⟩
      case measure => simp [RowKit.intOf]; omega
    · go_wp2_with fail
      go_ret
      exact ⟨rfl, HJ.out⟩
/-- What stays while two documents are held to each other. -/
def SameB (t : List UInt8) (n : Nat) (p1 p2 : Option Addr) (c1 c2 : Nat) (w wr : World) : Prop := Below w.heap.size w wr ∧ wr.heap[w.heap.size]? = some (.cells #[.string (bs t), .slice p1 n c1] 25) ∧ wr.heap[w.heap.size + 1]? = some (.cells #[.string (bs t), .slice p2 n c2] 25)
theorem SameB.first (t : List UInt8) (n : Nat) (p1 p2 : Option Addr) (c1 c2 : Nat) (w : World) : SameB t n p1 p2 c1 c2 w ((w.alloc (.cells #[.string (bs t), .slice p1 n c1] 25)).alloc (.cells #[.string (bs t), .slice p2 n c2] 25)) := by
  have b1 := below_alloc1 w (.cells #[.string (bs t), .slice p1 n c1] 25)
  have b2 := below_alloc1 (w.alloc (.cells #[.string (bs t), .slice p1 n c1] 25)) (.cells #[.string (bs t), .slice p2 n c2] 25)
  refine ⟨b1.trans (b2.mono (by simp)), (b2.block _ (by simp)).trans (heap_alloc_new w _), ?_⟩
  have := heap_alloc_new (w.alloc (.cells #[.string (bs t), .slice p1 n c1] 25)) (.cells #[.string (bs t), .slice p2 n c2] 25)
  simpa using this
theorem SameB.step {t : List UInt8} {n : Nat} {p1 p2 : Option Addr} {c1 c2 : Nat} {w wr w2 : World} (h : SameB t n p1 p2 c1 c2 w wr) (hb : Below wr.heap.size wr w2) : SameB t n p1 p2 c1 c2 w w2 := by
  obtain ⟨h1, h2, h3⟩ := h
  exact ⟨below_of_new h1 hb, (hb.block _ (cell_it h2)).trans h2, (hb.block _ (cell_it h3)).trans h3⟩
set_option maxRecDepth 100000 in
set_option maxHeartbeats 8000000 in
theorem same_any (t : List UInt8) (nodes : List NodeD) (p1 p2 : Option Addr) (c1 c2 : Nat) (w : World) (ht : t.length ≤ 4294967296) (hn : nodes.length ≤ 65536) (h1 : NodesR w p1 nodes) (h2 : NodesR w p2 nodes)
    (hk : ∀ x ∈ nodes, x.kids.length ≤ 65536 ∧ x.pcs.length ≤ 65536) :
    Calls Tryz.prog 12 #[.agg #[.string (bs t), .slice p1 nodes.length c1], .agg #[.string (bs t), .slice p2 nodes.length c2]] w fun e w' => e = .returned (.bool true) ∧ Below w.heap.size w w' := by
  have st := bs_size t
  have H1 := Lib.hid h1
  have H2 := Lib.hid h2
  have HK := Lib.hid hk
  clear h1 h2 hk
  go_enter Tryz.func12, Tryz.ntmps12
  go_wp2_with fail
  go_loopw [5] (fun i wr => ∃ j : Nat, j ≤ nodes.length ∧ i = .int .i64 j ∧ Hid (SameB t nodes.length p1 p2 c1 c2 w wr)) (fun i _ => nodes.length - (RowKit.intOf i).toNat)
  case atStart => exact ⟨0, by omega, rfl, SameB.first t nodes.length p1 p2 c1 c2 w⟩
  case round =>
    obtain ⟨j, hj, rfl, HJ⟩ := hrel
    obtain ⟨a0, a1⟩ := cells_at2 HJ.out.2.1
    obtain ⟨b0, b1⟩ := cells_at2 HJ.out.2.2
    by_cases hlt : j < nodes.length
    · obtain ⟨x, hx⟩ : ∃ k, nodes[j]? = some k := ⟨_, List.getElem?_eq_getElem hlt⟩
      obtain ⟨g1, rfl, kv1, pv1, x0, x1, x2, x3, x4, x5, x6, xk, xp⟩ := H1.out.keep HJ.out.1 j x hx
      obtain ⟨g2, rfl, kv2, pv2, y0, y1, y2, y3, y4, y5, y6, yk, yp⟩ := H2.out.keep HJ.out.1 j x hx
      have hj0 : (0 : Int) ≤ (j : Int) := by omega
      have hlz : (j : Int) < (nodes.length : Int) := by omega
      obtain ⟨q1, d1, rfl, _⟩ := id xk
      obtain ⟨q2, d2, rfl, _⟩ := id yk
      obtain ⟨r1, e1, rfl, _⟩ := id xp
      obtain ⟨r2, e2, rfl, _⟩ := id yp
      have XK := Lib.hid xk
      have YK := Lib.hid yk
      have XP := Lib.hid xp
      have YP := Lib.hid yp
      have hkx := HK.out x (List.mem_of_getElem? hx)
      have HKX := Lib.hid hkx
      clear hx xk yk xp yp hkx
      obtain ⟨OX, hOX⟩ : ∃ ob : Obj, .cells #[.int .i64 (x.kind : Int), .int .i64 (x.sf : Int), .int .i64 (x.st : Int), .int .i64 (x.key.1 : Int), .int .i64 (x.key.2 : Int), .slice q1 x.kids.length d1, .slice r1 x.pcs.length e1] 37 = ob := ⟨_, rfl⟩
      obtain ⟨OY, hOY⟩ : ∃ ob : Obj, .cells #[.int .i64 (x.kind : Int), .int .i64 (x.sf : Int), .int .i64 (x.st : Int), .int .i64 (x.key.1 : Int), .int .i64 (x.key.2 : Int), .slice q2 x.kids.length d2, .slice r2 x.pcs.length e2] 37 = ob := ⟨_, rfl⟩
      have bX := below_alloc1 wr OX
      have nX := heap_alloc_new wr OX
      obtain ⟨X, hX⟩ : ∃ X, wr.heap.size = X := ⟨_, rfl⟩
      obtain ⟨W1, hW1⟩ : ∃ W, wr.alloc OX = W := ⟨_, rfl⟩
      rw [hW1] at bX nX
      have b1' := cell_keep b1 bX
      have y0' := cell_keep y0 bX
      have y1' := cell_keep y1 bX
      have y2' := cell_keep y2 bX
      have y3' := cell_keep y3 bX
      have y4' := cell_keep y4 bX
      have y5' := cell_keep y5 bX
      have y6' := cell_keep y6 bX
      rw [hX] at nX
      go_upto_region 7 with fail
      try rw [hOX]
      try rw [hW1]
      try rw [hX]
      clear hW1 hX
      clear y0 y1 y2 y3 y4 y5 y6 b1 x0 x1 x2 x3 x4 x5 x6
      have bY := below_alloc1 W1 OY
      have nY := heap_alloc_new W1 OY
      obtain ⟨Y, hY⟩ : ∃ X, W1.heap.size = X := ⟨_, rfl⟩
      obtain ⟨W2, hW2⟩ : ∃ W, W1.alloc OY = W := ⟨_, rfl⟩
      rw [hW2] at bY nY
      rw [hY] at nY
      have nX2 := (bY.block _ (cell_it nX)).trans nX
      go_upto_region 8 with fail
      try rw [hOY]
      try rw [hW2]
      try rw [hY]
      clear hW2 hY
      have HB2 := Lib.hid (HJ.out.step (below_of_new bX bY))
      have bW2 := (below_of_new bX bY)
      have CP := Lib.hid (sameSpans_read x.pcs r1 r2 e1 e2 W2 (XP.out.keep bW2) (YP.out.keep bW2) (by have := HKX.out.2; omega))
      have XK2 := Lib.hid (XK.out.keep bW2)
      have YK2 := Lib.hid (YK.out.keep bW2)
      rw [← hOX] at nX2
      rw [← hOY] at nY
      have x0 : W2.cell? ⟨X, 0, none⟩ = some (.int .i64 (x.kind : Int)) := cell_of_row W2 X 0 _ _ (0, 0) nX2
      have x1 : W2.cell? ⟨X, 1, none⟩ = some (.int .i64 (x.sf : Int)) := cell_of_row W2 X 1 _ _ (0, 0) nX2
      have x2 : W2.cell? ⟨X, 2, none⟩ = some (.int .i64 (x.st : Int)) := cell_of_row W2 X 2 _ _ (0, 0) nX2
      have x3 : W2.cell? ⟨X, 3, none⟩ = some (.int .i64 (x.key.1 : Int)) := cell_of_row W2 X 3 _ _ (0, 0) nX2
      have x4 : W2.cell? ⟨X, 4, none⟩ = some (.int .i64 (x.key.2 : Int)) := cell_of_row W2 X 4 _ _ (0, 0) nX2
      have x5 : W2.cell? ⟨X, 5, none⟩ = some (.slice q1 x.kids.length d1) := cell_of_row W2 X 5 _ _ (0, 0) nX2
      have x6 : W2.cell? ⟨X, 6, none⟩ = some (.slice r1 x.pcs.length e1) := cell_of_row W2 X 6 _ _ (0, 0) nX2
      have y0 : W2.cell? ⟨Y, 0, none⟩ = some (.int .i64 (x.kind : Int)) := cell_of_row W2 Y 0 _ _ (0, 0) nY
      have y1 : W2.cell? ⟨Y, 1, none⟩ = some (.int .i64 (x.sf : Int)) := cell_of_row W2 Y 1 _ _ (0, 0) nY
      have y2 : W2.cell? ⟨Y, 2, none⟩ = some (.int .i64 (x.st : Int)) := cell_of_row W2 Y 2 _ _ (0, 0) nY
      have y3 : W2.cell? ⟨Y, 3, none⟩ = some (.int .i64 (x.key.1 : Int)) := cell_of_row W2 Y 3 _ _ (0, 0) nY
      have y4 : W2.cell? ⟨Y, 4, none⟩ = some (.int .i64 (x.key.2 : Int)) := cell_of_row W2 Y 4 _ _ (0, 0) nY
      have y5 : W2.cell? ⟨Y, 5, none⟩ = some (.slice q2 x.kids.length d2) := cell_of_row W2 Y 5 _ _ (0, 0) nY
      have y6 : W2.cell? ⟨Y, 6, none⟩ = some (.slice r2 x.pcs.length e2) := cell_of_row W2 Y 6 _ _ (0, 0) nY
      clear hOX hOY b1' y0' y1' y2' y3' y4' y5' y6' bX bY nX bW2 XK YK XP YP
      go_wp2_with (go_at_call 24; (with_reducible refine CP.out.mono ?_); rintro e w3 ⟨rfl, hb3⟩)
      have HB3 := Lib.hid hb3
      have hXk := cell_keep x5 hb3
      have hXy := cell_keep y5 hb3
      have HX5 := Lib.hid x5
      have HY5 := Lib.hid y5
      clear x0 x1 x2 x3 x4 x5 x6 y0 y1 y2 y3 y4 y5 y6 nX2 nY hb3 a0 a1 b0 hXk hXy
      go_loopw [8] (fun i wq => ∃ m : Nat, m ≤ x.kids.length ∧ i = .int .i64 m ∧ Hid (Below W2.heap.size W2 wq)) (fun i _ => x.kids.length - (RowKit.intOf i).toNat)
      case atStart => exact ⟨0, by omega, rfl, HB3⟩
      case round =>
        obtain ⟨m, hm, rfl, HM⟩ := hrel
        have x5 := cell_keep HX5.out HM.out
        have hkb := HKX.out.1
        have y5 := cell_keep HY5.out HM.out
        by_cases hmt : m < x.kids.length
        · obtain ⟨kd, hkd⟩ : ∃ k, x.kids[m]? = some k := ⟨_, List.getElem?_eq_getElem hmt⟩
          obtain ⟨g3, rfl, z1⟩ := XK2.out.cells HM.out hkd
          obtain ⟨g4, rfl, z2⟩ := YK2.out.cells HM.out hkd
          have hm0 : (0 : Int) ≤ (m : Int) := by omega
          have hmz : (m : Int) < (x.kids.length : Int) := by omega
          clear hkd
          go_wp2_with fail
          go_quiet (fail)
          go_wp2_with fail
          go_roundw
          case rel => exact ⟨m + 1, by omega, by go_num, below_drewN HM.out _⟩
          case measure => simp [RowKit.intOf]; omega
        · have HE := Lib.hid (HB2.out.step HM.out)
          go_wp2_with fail
          exact ⟨⟨j + 1, by omega, by go_num, HE⟩, by simp [RowKit.intOf]; omega⟩
    · go_wp2_with fail
      go_ret
      exact ⟨rfl, HJ.out.1⟩
end Go.Proofs.YtmghlaajocgoaaaGreatDoor
/-! A document whose cells are spoilt: what stays of its shape. -/
namespace Go.Proofs.YtmghlaajocgoaaaGreatDoor
set_option linter.unusedSimpArgs false
set_option linter.unusedVariables false
set_option linter.unnecessarySimpa false
open Go.RowKit Go.Maps Go.WideMaps
open Go.Lib hiding intOf
/-- A row stays a row, whatever is laid into any block. -/
theorem own_any_set {w : World} {B : Nat} {e : TypeId} {s : Nat} {v : Value} {n : Nat} {xs : List Value} (h : w.ownsRow B e s v n xs) (g j : Nat) (u : Value) : ∃ xs', (w.setCell ⟨g, j, none⟩ u).ownsRow B e s v n xs' := by
  have h0 := h
  rcases h.2 with ⟨h1, h2⟩ | ⟨g', cap, cur, rfl, h2, h3, h4⟩
  · exact ⟨xs, h.1, .inl ⟨h1, h2⟩⟩
  · by_cases hg : g' = g
    · subst hg
      exact ⟨_, (World.ownsRow.stored h0 j u).1⟩
    · refine ⟨xs, h0.kept (grown_set w g j u) (.inr ?_)⟩
      intro e
      exact hg (Option.some.inj e)
structure Spo (B : Nat) (z : List ND) (nv : Value) (w : World) : Prop where
  row : ∃ xs, w.ownsRow B 37 7 nv z.length xs ∧ ∀ i y, z[i]? = some y → xs[i * 7 + 5]? = some y.2.1 ∧ xs[i * 7 + 6]? = some y.2.2
  kids : ∀ y ∈ z, ∃ xs, w.ownsRow B 3 1 y.2.1 y.1.kids.length xs
  pcs : ∀ y ∈ z, ∃ xs, w.ownsRow B 33 2 y.2.2 y.1.pcs.length xs
theorem Spo.of {B : Nat} {z : List ND} {nv : Value} {w : World} (h : NodesAt B z nv w) : Spo B z nv w :=
  ⟨⟨_, h.row, fun i y hy => ⟨(nodeCells_at z i y hy 5 (by omega)).trans rfl, (nodeCells_at z i y hy 6 (by omega)).trans rfl⟩⟩, fun y hy => ⟨_, h.kids y hy⟩, fun y hy => ⟨_, h.pcs y hy⟩⟩
section
variable {B : Nat} {z : List ND} {nv : Value} {w : World}
theorem Spo.setOff (h : Spo B z nv w) {g : Nat} {cur : Array Value} {t : TypeId} (hg : w.heap[g]? = some (.cells cur t (0, 0))) (ht : 37 ≠ t) (j : Nat) (u : Value) : Spo B z nv (w.setCell ⟨g, j, none⟩ u) := by
  obtain ⟨⟨xs, h1, h2⟩, h3, h4⟩ := h
  exact ⟨⟨xs, h1.kept (grown_set w g j u) (own_off h1 hg ht), h2⟩, fun y hy => by obtain ⟨x, hx⟩ := h3 y hy; exact own_any_set hx g j u, fun y hy => by obtain ⟨x, hx⟩ := h4 y hy; exact own_any_set hx g j u⟩
theorem Spo.setNode {g n cap : Nat} (h : Spo B z (.slice (some ⟨g, 0, none⟩) n cap) w) (i : Nat) (u : Value) : Spo B z (.slice (some ⟨g, 0, none⟩) n cap) (w.setCell ⟨g, i * 7, none⟩ u) := by
  obtain ⟨⟨xs, h1, h2⟩, h3, h4⟩ := h
  have hn : n = z.length := by
    rcases h1.2 with ⟨h0, _⟩ | ⟨g', cap', cur, h0, _⟩
    · simp at h0
    · injection h0
  subst hn
  refine ⟨⟨_, (World.ownsRow.stored h1 (i * 7) u).1, fun k y hy => ?_⟩, fun y hy => by obtain ⟨x, hx⟩ := h3 y hy; exact own_any_set hx g _ u, fun y hy => by obtain ⟨x, hx⟩ := h4 y hy; exact own_any_set hx g _ u⟩
  rw [List.getElem?_set_ne (by omega), List.getElem?_set_ne (by omega)]
  exact h2 k y hy
theorem Spo.below {w2 : World} (h : Spo B z nv w) (hb : Below w.heap.size w w2) : Spo B z nv w2 := by
  obtain ⟨⟨xs, h1, h2⟩, h3, h4⟩ := h
  exact ⟨⟨xs, owns_below h1 hb, h2⟩, fun y hy => by obtain ⟨x, hx⟩ := h3 y hy; exact ⟨x, owns_below hx hb⟩, fun y hy => by obtain ⟨x, hx⟩ := h4 y hy; exact ⟨x, owns_below hx hb⟩⟩
end
end Go.Proofs.YtmghlaajocgoaaaGreatDoor
/-! The walk of spoil. -/
namespace Go.Proofs.YtmghlaajocgoaaaGreatDoor
set_option linter.unusedSimpArgs false
set_option linter.unusedVariables false
set_option linter.unnecessarySimpa false
open Go.RowKit Go.Maps Go.WideMaps
open Go.Lib hiding intOf
theorem own_it {w : World} {B : Nat} {e : TypeId} {s : Nat} {v : Value} {n : Nat} {xs : List Value} (h : w.ownsRow B e s v n xs) (hn : n ≠ 0) : ∃ g cap cur, v = .slice (some ⟨g, 0, none⟩) n cap ∧ B ≤ g ∧ w.heap[g]? = some (.cells cur e (0, 0)) ∧ ∀ i u, xs[i]? = some u → w.cell? ⟨g, i, none⟩ = some u ∧ w.frozen? ⟨g, i, none⟩ = false := by
  have h0 := h
  rcases h.2 with ⟨h1, h2⟩ | ⟨g, cap, cur, rfl, h2, h3, h4⟩
  · exact absurd h2 hn
  · refine ⟨g, cap, cur, rfl, h2, h3, fun i u hi => ⟨?_, World.ownsRow.frozenAt h0 _⟩⟩
    have hc := h0.cells (g := g) rfl
    have ha : ((⟨g, 0, none⟩ : Addr).add i) = ⟨g, i, none⟩ := by unfold Addr.add; split <;> simp_all
    rw [← ha]
    exact hc _ _ hi
theorem own_slice {w : World} {B : Nat} {e : TypeId} {s : Nat} {v : Value} {n : Nat} {xs : List Value} (h : w.ownsRow B e s v n xs) : ∃ p c, v = .slice p n c := by
  rcases h.2 with ⟨h1, h2⟩ | ⟨g, cap, cur, rfl, _⟩
  · exact ⟨none, 0, by rw [h1, h2]⟩
  · exact ⟨_, _, rfl⟩
theorem Spo.at_ {B : Nat} {z : List ND} {nv : Value} {w : World} (h : Spo B z nv w) {i : Nat} {y : ND} (hy : z[i]? = some y) : ∃ g cap u, nv = .slice (some ⟨g, 0, none⟩) z.length cap ∧ B ≤ g ∧ w.cell? ⟨g, i * 7, none⟩ = some u ∧ w.frozen? ⟨g, i * 7, none⟩ = false ∧ w.cell? ⟨g, i * 7 + 5, none⟩ = some y.2.1 ∧ w.cell? ⟨g, i * 7 + 6, none⟩ = some y.2.2 := by
  obtain ⟨xs, h1, h2⟩ := h.row
  have hi := (List.getElem?_eq_some_iff.1 hy).1
  obtain ⟨g, cap, cur, e, hB, hg, hc⟩ := own_it h1 (by omega)
  obtain ⟨a, b⟩ := h2 i y hy
  have hl := (List.getElem?_eq_some_iff.1 a).1
  exact ⟨g, cap, xs[i * 7]'(by omega), e, hB, (hc _ _ (List.getElem?_eq_getElem (by omega))).1, (hc _ _ (List.getElem?_eq_getElem (by omega))).2, (hc _ _ a).1, (hc _ _ b).1⟩
theorem Spo.at2 {B g c : Nat} {z : List ND} {w : World} (h : Spo B z (.slice (some ⟨g, 0, none⟩) z.length c) w) {i : Nat} {y : ND} (hy : z[i]? = some y) : B ≤ g ∧ ∃ u, w.cell? ⟨g, i * 7, none⟩ = some u ∧ w.frozen? ⟨g, i * 7, none⟩ = false ∧ w.cell? ⟨g, i * 7 + 5, none⟩ = some y.2.1 ∧ w.cell? ⟨g, i * 7 + 6, none⟩ = some y.2.2 := by
  obtain ⟨g', cap, u, e, h1, h2⟩ := h.at_ hy
  injection e with e1 e2 e3
  have e4 : g = g' := by injection e1 with e1; injection e1
  subst e4
  exact ⟨h1, u, h2⟩
/-- What stays while a document is spoilt. -/
def SpE (B : Nat) (z : List ND) (nv : Value) (t : ByteArray) (w wr : World) : Prop := Below B w wr ∧ Spo B z nv wr ∧ wr.heap[w.heap.size]? = some (.cells #[.string t, nv] 25) ∧ B ≤ wr.heap.size
section
variable {B : Nat} {z : List ND} {nv : Value} {t : ByteArray} {w wr : World}
theorem SpE.first (h : Spo B z nv w) (hB : B ≤ w.heap.size) : SpE B z nv t w (w.alloc (.cells #[.string t, nv] 25)) := by
  have b := below_alloc1 w (.cells #[.string t, nv] 25)
  exact ⟨b.mono hB, h.below b, heap_alloc_new w _, Nat.le_trans hB b.size⟩
theorem SpE.off (h : SpE B z nv t w wr) {g : Nat} {cur : Array Value} {e : TypeId} (hg : wr.heap[g]? = some (.cells cur e (0, 0))) (he : 37 ≠ e) (he2 : 25 ≠ e) (hB : B ≤ g) (j : Nat) (u : Value) : SpE B z nv t w (wr.setCell ⟨g, j, none⟩ u) := by
  obtain ⟨h1, h2, h3, h4⟩ := h
  refine ⟨h1.setCell hB u, h2.setOff hg he j u, ?_, by simpa using h4⟩
  rw [Below.heap_setCell wr ⟨g, j, none⟩ u _ (fun e0 => by
    have e0 : w.heap.size = g := e0
    rw [← e0, h3] at hg
    injection hg with hg
    injection hg with _ hg
    exact he2 hg)]
  exact h3
theorem SpE.drewn (h : SpE B z nv t w wr) : SpE B z nv t w wr.drew := by
  obtain ⟨h1, h2, h3, h4⟩ := h
  exact ⟨h1.drew, h2.below (Below.refl _ wr).drew, h3, h4⟩
theorem SpE.node {g n c : Nat} (h : SpE B z (.slice (some ⟨g, 0, none⟩) n c) t w wr) (hB : B ≤ g) {cur : Array Value} (hg : wr.heap[g]? = some (.cells cur 37 (0, 0))) (i : Nat) (u : Value) : SpE B z (.slice (some ⟨g, 0, none⟩) n c) t w (wr.setCell ⟨g, i * 7, none⟩ u) := by
  obtain ⟨h1, h2, h3, h4⟩ := h
  refine ⟨h1.setCell hB u, h2.setNode i u, ?_, by simpa using h4⟩
  rw [Below.heap_setCell wr ⟨g, i * 7, none⟩ u _ (fun e0 => by
    have e0 : w.heap.size = g := e0
    rw [← e0, h3] at hg
    injection hg with hg
    injection hg with _ hg
    exact absurd hg (by decide))]
  exact h3
end
set_option maxRecDepth 100000 in
set_option maxHeartbeats 8000000 in
theorem spoil_any (B : Nat) (z : List ND) (nv : Value) (t : ByteArray) (w : World) (h : Spo B z nv w) (hB : B ≤ w.heap.size) (hn : z.length ≤ 65536) (hk : ∀ y ∈ z, y.1.kids.length ≤ 65536 ∧ y.1.pcs.length ≤ 65536) :
    Calls Tryz.prog 13 #[.agg #[.string t, nv]] w fun e w' => e = .returned (.tuple #[]) ∧ Below B w w' := by
  obtain ⟨xs0, hr0, _⟩ := id h.row
  obtain ⟨p, c, rfl⟩ := own_slice hr0
  have H := Lib.hid h
  have HK := Lib.hid hk
  clear h hk hr0
  go_enter Tryz.func13, Tryz.ntmps13
  go_wp2_with fail
  go_loopw [2] (fun s2 wr => ∃ i : Nat, i ≤ z.length ∧ s2 = .int .i64 i ∧ Hid (SpE B z (.slice p z.length c) t w wr)) (fun s2 _ => z.length - (RowKit.intOf s2).toNat)
  case atStart => exact ⟨0, by omega, rfl, SpE.first H.out hB⟩
  case round =>
    obtain ⟨i, hi, rfl, HE⟩ := hrel
    obtain ⟨d0, d1⟩ := cells_at2 HE.out.2.2.1
    by_cases hlt : i < z.length
    · obtain ⟨⟨x, kv, pv⟩, hy⟩ : ∃ y, z[i]? = some y := ⟨_, List.getElem?_eq_getElem hlt⟩
      obtain ⟨g, cap, u, e, _⟩ := HE.out.2.1.at_ hy
      injection e with e1 e2 e3
      subst e1
      have hm := List.mem_of_getElem? hy
      obtain ⟨xk, hxk⟩ := HE.out.2.1.kids _ hm
      obtain ⟨xp, hxp⟩ := HE.out.2.1.pcs _ hm
      obtain ⟨pk, ck, ek⟩ := own_slice hxk
      obtain ⟨pp, cp, ep⟩ := own_slice hxp
      simp only [] at ek ep
      subst ek
      subst ep
      obtain ⟨hkl, hpl⟩ := HK.out _ hm
      simp only [] at hkl hpl
      have hi0 : (0 : Int) ≤ (i : Int) := by omega
      have hiz : (i : Int) < (z.length : Int) := by omega
      have HY := Lib.hid hy
      have HM := Lib.hid hm
      have hiu : (i : Int) ≤ 65536 := by omega
      clear hxk hxp hy hm e3
      go_wp2_with fail
      clear d0 d1
      go_loopw [3] (fun s3 wr => ∃ m : Nat, m ≤ x.kids.length ∧ s3 = .int .i64 m ∧ Hid (SpE B z (.slice (some ⟨g, 0, none⟩) z.length c) t w wr)) (fun s3 _ => x.kids.length - (RowKit.intOf s3).toNat)
      case atStart => exact ⟨0, by omega, rfl, HE⟩
      case round =>
        obtain ⟨m, hm, rfl, HI⟩ := hrel
        obtain ⟨d0, d1⟩ := cells_at2 HI.out.2.2.1
        obtain ⟨hBg, u0, n0, f0, n5, n6⟩ := HI.out.2.1.at2 HY.out
        simp only [] at n5 n6
        by_cases hmt : m < x.kids.length
        · obtain ⟨xk, hxk⟩ := HI.out.2.1.kids _ HM.out
          simp only [] at hxk
          obtain ⟨gk, capk, curk, ek, hBk, hgk, hck⟩ := own_it hxk (by omega)
          injection ek with ek1 ek2 ek3
          subst ek1
          have hxl := hxk.1
          obtain ⟨uk, huk⟩ : ∃ uk, xk[m]? = some uk := ⟨_, List.getElem?_eq_getElem (by omega)⟩
          obtain ⟨c0, fz0⟩ := hck m uk huk
          have HS := Lib.hid (HI.out.off hgk (by decide) (by decide) hBk m (.int .i64 (-7)))
          have hm0 : (0 : Int) ≤ (m : Int) := by omega
          have hmz : (m : Int) < (x.kids.length : Int) := by omega
          clear huk hck hxk hxl hgk n6 n0 f0 ek3
          go_wp2_with fail
          go_roundw
          case rel => exact ⟨m + 1, by omega, by go_num, HS⟩
          case measure => simp [RowKit.intOf]; omega
        · go_wp2_with fail
          clear d0 d1 n5 n6 n0 f0 hm hmt
          go_loopw [4] (fun s4 wr => ∃ m : Nat, m ≤ x.pcs.length ∧ s4 = .int .i64 m ∧ Hid (SpE B z (.slice (some ⟨g, 0, none⟩) z.length c) t w wr)) (fun s4 _ => x.pcs.length - (RowKit.intOf s4).toNat)
          case atStart => exact ⟨0, by omega, rfl, HI⟩
          case round =>
            obtain ⟨m, hm, rfl, HI⟩ := hrel
            obtain ⟨d0, d1⟩ := cells_at2 HI.out.2.2.1
            obtain ⟨hBg, u0, n0, f0, n5, n6⟩ := HI.out.2.1.at2 HY.out
            simp only [] at n5 n6
            by_cases hmt : m < x.pcs.length
            · obtain ⟨xk, hxk⟩ := HI.out.2.1.pcs _ HM.out
              simp only [] at hxk
              obtain ⟨gk, capk, curk, ek, hBk, hgk, hck⟩ := own_it hxk (by omega)
              injection ek with ek1 ek2 ek3
              subst ek1
              have hxl := hxk.1
              obtain ⟨uk, huk⟩ : ∃ uk, xk[m * 2]? = some uk := ⟨_, List.getElem?_eq_getElem (by omega)⟩
              obtain ⟨c0, fz0⟩ := hck (m * 2) uk huk
              have HS := Lib.hid (HI.out.off hgk (by decide) (by decide) hBk (m * 2) (.int .i64 (-7)))
              have hm0 : (0 : Int) ≤ (m : Int) := by omega
              have hmz : (m : Int) < (x.pcs.length : Int) := by omega
              clear huk hck hxk hxl hgk n5 n0 f0 ek3
              go_wp2_with fail
              go_roundw
              case rel => exact ⟨m + 1, by omega, by go_num, HS⟩
              case measure => simp [RowKit.intOf]; omega
            · obtain ⟨xr, hxr, _⟩ := HI.out.2.1.row
              obtain ⟨g9, cap9, cur9, e9, hB9, hg9, _⟩ := own_it hxr (by omega)
              injection e9 with e91 _ _
              have e99 : g = g9 := by injection e91 with e91; injection e91
              subst e99
              have HS := Lib.hid (HI.out.node hBg hg9 i (.int .i64 (-7)))
              clear hxr hg9 e91 n5
              go_wp2_with fail
              go_roundw
              case rel => exact ⟨i + 1, by omega, by go_num, HS⟩
              case measure => simp [RowKit.intOf]; omega
    · go_wp2_with fail
      go_end0
      exact ⟨rfl, HE.out.1⟩
end Go.Proofs.YtmghlaajocgoaaaGreatDoor

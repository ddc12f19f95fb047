import Derived.Test.YtbbjgdnbekoaeaaGreatDoorYlI
/-! The walk of yline.Line: it returns lineL. -/
namespace Go.Proofs.YtbbjgdnbekoaeaaGreatDoor
set_option linter.unusedSimpArgs false
set_option linter.unusedVariables false
open Go.RowKit
open Go.Lib hiding intOf

def SpanBox (w : World) (S : Nat) (a b : Int) : Prop := w.heap[S]? = some (.cells #[.int .i64 a, .int .i64 b] 32 (0, 0))
abbrev SpanCells (w : World) (S : Nat) (a b : Int) : Prop := w.cell? ⟨S, 0, none⟩ = some (.int .i64 a) ∧ w.cell? ⟨S, 1, none⟩ = some (.int .i64 b)
theorem SpanBox.cells {w : World} {S : Nat} {a b : Int} (h : SpanBox w S a b) : SpanCells w S a b := ⟨blk_cell h 0, blk_cell h 1⟩
theorem SpanBox.keep {w w' : World} {S : Nat} {a b : Int} (h : SpanBox w S a b) (hb : Below w.heap.size w w') : SpanBox w' S a b := (hb.block S (cell_it h)).trans h
def lineV (r : LineR) : Value := .agg #[.int .i64 r.kind, .int .i64 r.sf, .int .i64 r.st, .int .i64 r.ind, .int .i64 r.kf, .int .i64 r.kt, .int .i64 r.rf, .int .i64 r.rt, .int .i64 r.nf, .int .i64 r.nt]
def LineE (x : LineR × Int × Int) : Ending := .returned (.tuple #[lineV x.1, .int .i64 x.2.1, .int .i64 x.2.2])
/-- What Line holds: its span, its result, and below it nothing has turned. -/
structure LSt (w : World) (a b : Int) (r : LineR) (w' : World) : Prop where
  s : SpanBox w' w.heap.size a b
  l : LineBox w' (w.heap.size + 1) r
  b : Below w.heap.size w w'
  z : w.heap.size + 2 ≤ w'.heap.size
theorem LSt.start (w : World) (a b : Int) : LSt w a b noLine ((w.alloc (.cells #[.int .i64 a, .int .i64 b] 32)).alloc (.cells #[.int .i64 0, .int .i64 0, .int .i64 0, .int .i64 0, .int .i64 0, .int .i64 0, .int .i64 0, .int .i64 0, .int .i64 0, .int .i64 0] 42)) := by
  refine ⟨?_, ?_, ?_, by simp⟩
  · exact (Below.heap_alloc _ _ w.heap.size (by simp)).trans (heap_alloc_new w _)
  · have := heap_alloc_new (w.alloc (.cells #[.int .i64 a, .int .i64 b] 32)) (.cells #[.int .i64 0, .int .i64 0, .int .i64 0, .int .i64 0, .int .i64 0, .int .i64 0, .int .i64 0, .int .i64 0, .int .i64 0, .int .i64 0] 42)
    rw [World.size_alloc] at this
    exact this
  · exact (below_alloc1 w _).trans ((below_alloc1 (w.alloc (.cells #[.int .i64 a, .int .i64 b] 32)) _).mono (by simp))
theorem LSt.keep {w w1 w2 : World} {a b : Int} {r : LineR} (h : LSt w a b r w1) (hb : Below w1.heap.size w1 w2) : LSt w a b r w2 :=
  ⟨h.s.keep hb, h.l.keep hb, h.b.trans (hb.mono h.b.size), Nat.le_trans h.z hb.size⟩
theorem set_far {w : World} {p : Addr} {u : Value} {g : Nat} (h : g ≠ p.block) : (w.setCell p u).heap[g]? = w.heap[g]? := Below.heap_setCell w p u g h
theorem LSt.set {w w1 : World} {a b : Int} {r : LineR} (h : LSt w a b r w1) {X : Nat} (hX : w.heap.size + 2 ≤ X) (i : Nat) (u : Value) : LSt w a b r (w1.setCell ⟨X, i, none⟩ u) :=
  ⟨(set_far (show w.heap.size ≠ X by omega)).trans h.s, (set_far (show w.heap.size + 1 ≠ X by omega)).trans h.l, h.b.setCell (p := ⟨X, i, none⟩) (by show w.heap.size ≤ X; omega) u, by have := h.z; simpa [World.setCell] using this⟩
theorem LSt.drew {w w1 : World} {a b : Int} {r : LineR} (h : LSt w a b r w1) : LSt w a b r w1.drew := ⟨h.s, h.l, h.b.drew, h.z⟩
/-- The result is set. -/
def putR (w : World) (X : Nat) (r : LineR) : World :=
  (((((((((w.setCell ⟨X, 0, none⟩ (.int .i64 r.kind)).setCell ⟨X, 1, none⟩ (.int .i64 r.sf)).setCell ⟨X, 2, none⟩ (.int .i64 r.st)).setCell ⟨X, 3, none⟩ (.int .i64 r.ind)).setCell ⟨X, 4, none⟩ (.int .i64 r.kf)).setCell ⟨X, 5, none⟩ (.int .i64 r.kt)).setCell ⟨X, 6, none⟩ (.int .i64 r.rf)).setCell ⟨X, 7, none⟩ (.int .i64 r.rt)).setCell ⟨X, 8, none⟩ (.int .i64 r.nf)).setCell ⟨X, 9, none⟩ (.int .i64 r.nt)
theorem LineBox.put {w : World} {X : Nat} {r r2 : LineR} (h : LineBox w X r) : LineBox (putR w X r2) X r2 := by
  unfold LineBox at h ⊢
  unfold putR
  simp [World.setCell, Array.getElem?_modify, h]
theorem far_put {w : World} {X g : Nat} {r : LineR} (h : g ≠ X) : (putR w X r).heap[g]? = w.heap[g]? := by
  have h2 : ¬ X = g := fun e => h e.symm
  unfold putR
  simp [World.setCell, Array.getElem?_modify, h2]
theorem size_put (w : World) (X : Nat) (r : LineR) : (putR w X r).heap.size = w.heap.size := by unfold putR; simp [World.setCell]
theorem os_put (w : World) (X : Nat) (r : LineR) : (putR w X r).os = w.os := by unfold putR; simp [World.setCell]
theorem tape_put (w : World) (X : Nat) (r : LineR) : (putR w X r).tape = w.tape := by unfold putR; simp [World.setCell]
theorem output_put (w : World) (X : Nat) (r : LineR) : (putR w X r).output = w.output := by unfold putR; simp [World.setCell]
theorem LSt.put {w w1 : World} {a b : Int} {r r2 : LineR} (h : LSt w a b r w1) : LSt w a b r2 (putR w1 (w.heap.size + 1) r2) := by
  refine ⟨?_, LineBox.put h.l, ⟨?_, ?_, ?_, ?_, ?_⟩, ?_⟩
  · have h1 := far_put (w := w1) (X := w.heap.size + 1) (g := w.heap.size) (r := r2) (by omega)
    unfold SpanBox
    rw [h1]; exact h.s
  · rw [os_put]; exact h.b.os
  · rw [tape_put]; exact h.b.tape
  · rw [output_put]; exact h.b.output
  · rw [size_put]; exact h.b.size
  · intro i hi
    rw [far_put (by omega)]; exact h.b.block i hi
  · rw [size_put]; exact h.z
theorem split_sp (T : List UInt8) : T = List.replicate (spL T) 32 ++ T.drop (spL T) := by
  have h : T.take (spL T) = List.replicate (spL T) 32 := by
    apply List.ext_getElem?
    intro i
    by_cases hi : i < spL T
    · rw [List.getElem?_take, if_pos hi, spL_at T i hi, List.getElem?_replicate, if_pos hi]
    · rw [List.getElem?_take, if_neg hi, List.getElem?_replicate, if_neg hi]
  rw [← h, List.take_append_drop]
theorem rep_drop (n k : Nat) (U : List UInt8) : (List.replicate n (32 : UInt8) ++ U).drop (n + k) = U.drop k := by
  rw [List.drop_append, List.length_replicate, List.drop_of_length_le (by rw [List.length_replicate]; omega), List.nil_append]
  congr 1; omega
theorem rest_core (U : List UInt8) (n f : Nat) (h35 : U.head? ≠ some 35) (r : LineR) :
    restR (List.replicate n 32 ++ U) (n + f) r = ⟨r.kind, r.sf, r.st, r.ind, r.kf, r.kt, r.sf + (n + behindL U f), r.sf + (n + (behindL U f + trL ((U.take (noteL U (behindL U f + qdL (U.drop (behindL U f))))).drop (behindL U f)))),
      if noteL U (behindL U f + qdL (U.drop (behindL U f))) < U.length then r.sf + (n + noteL U (behindL U f + qdL (U.drop (behindL U f)))) else r.nf, if noteL U (behindL U f + qdL (U.drop (behindL U f))) < U.length then r.st else r.nt⟩ := by
  have hb : behindL (List.replicate n 32 ++ U) (n + f) = n + behindL U f := by
    unfold behindL
    rw [rep_drop]; omega
  unfold restR
  rw [hb, rep_drop, show n + behindL U f + qdL (U.drop (behindL U f)) = n + (behindL U f + qdL (U.drop (behindL U f))) by omega, noteL_shift n _ U h35]
  unfold restAt
  have hlen : (List.replicate n (32 : UInt8) ++ U).length = n + U.length := by rw [List.length_append, List.length_replicate]
  obtain ⟨tw, htw⟩ : ∃ tw, noteL U (behindL U f + qdL (U.drop (behindL U f))) = tw := ⟨_, rfl⟩
  obtain ⟨f2, hf2⟩ : ∃ f2, behindL U f = f2 := ⟨_, rfl⟩
  rw [htw, hf2, hlen]
  have htk : ((List.replicate n (32 : UInt8) ++ U).take (n + tw)).drop (n + f2) = (U.take tw).drop f2 := by
    rw [List.take_append, List.length_replicate, List.take_of_length_le (by rw [List.length_replicate]; omega), show n + tw - n = tw by omega, rep_drop]
  rw [htk]
  by_cases ht : tw < U.length
  · rw [if_pos ht, if_pos ht, if_pos (by omega), if_pos (by omega)]
    simp only [LineR.mk.injEq, true_and, and_true]
    omega
  · rw [if_neg ht, if_neg ht, if_neg (by omega), if_neg (by omega)]
    simp only [LineR.mk.injEq, true_and, and_true]
    omega
theorem LSt.only {w w1 w2 : World} {a b : Int} {r : LineR} (h : LSt w a b r w1) {X : Nat} (hX : w.heap.size + 2 ≤ X) (ho : Only X w1 w2) : LSt w a b r w2 :=
  ⟨(ho.block w.heap.size (cell_it h.s) (by intro e; injection e; omega)).trans h.s, (ho.block (w.heap.size + 1) (cell_it h.l) (by intro e; injection e; omega)).trans h.l,
   ⟨ho.os.trans h.b.os, ho.tape.trans h.b.tape, ho.output.trans h.b.output, Nat.le_trans h.b.size ho.size, fun i hi => (ho.block i (Nat.lt_of_lt_of_le hi h.b.size) (by intro e; injection e; omega)).trans (h.b.block i hi)⟩, Nat.le_trans h.z ho.size⟩
def lineG (x y : Int) (n : Nat) (o : Option Core) : LineR × Int × Int := match o with | none => (noLine, x + n, 2) | some c => (lineOf x y n c, y, 0)
theorem lineE_of {x y : Int} {n : Nat} {c : Core} {r : LineR} (h : lineOf x y n c = r) : Ending.returned (.tuple #[lineV r, .int .i64 y, .int .i64 0]) = LineE (lineG x y n (some c)) := by unfold LineE lineG; simp only []; rw [h]
theorem lineOf_rest (U T : List UInt8) (n : Nat) (x y : Int) (H : Nat × Nat) (h35 : U.head? ≠ some 35) (hT : T = List.replicate n 32 ++ U) (r : LineR) (hr : r = ⟨H.1, x, y, n, if H.1 = 4 then x + n else 0, if H.1 = 4 then x + n + H.2 else 0, x + n, x + n, 0, 0⟩) :
    lineOf x y n (restL U H (behindL U (fromL H)) (noteL U (behindL U (fromL H) + qdL (U.drop (behindL U (fromL H)))))) = restR T (n + fromL H) r := by
  rw [hT, rest_core U n (fromL H) h35 r, hr]
  unfold lineOf restL
  obtain ⟨tw, htw⟩ : ∃ tw, noteL U (behindL U (fromL H) + qdL (U.drop (behindL U (fromL H)))) = tw := ⟨_, rfl⟩
  obtain ⟨f2, hf2⟩ : ∃ f2, behindL U (fromL H) = f2 := ⟨_, rfl⟩
  rw [htw, hf2]
  by_cases ht : tw < U.length
  · simp only [if_pos ht, LineR.mk.injEq, true_and, and_true]
    omega
  · simp only [if_neg ht, LineR.mk.injEq, true_and, and_true]
    omega
set_option maxRecDepth 100000 in
set_option maxHeartbeats 4000000 in
theorem line_gen (l : List UInt8) (x y : Nat) (w : World) (hs : l.length ≤ 1073741824) (hxy : x ≤ y) (hyl : y ≤ l.length) (T : List UInt8) (hTd : (l.drop x).take (y - x) = T) (h10 : T.contains 10 = false) (hV : SVar w) (hT : Tabs w) (hM : MVar w) (hw : wrL true T = T.length) :
    Calls Tryz.prog 17 #[.string (bs l), .agg #[.int .i64 x, .int .i64 y]] w fun e w' => e = LineE (lineG x y (spL T) (coreL (T.drop (spL T)))) ∧ Below w.heap.size w w' := by
  have sl := bs_size l
  have hTl : T.length = y - x := by rw [← hTd, List.length_take, List.length_drop]; omega
  have CW : Hid (∀ w, Calls Tryz.prog 27 #[.string (bs l), .agg #[.int .i64 x, .int .i64 y]] w fun e w' => e = .returned (.bool true) ∧ Below w.heap.size w w') := Lib.hid (fun w => by
    have := whole_any l x y w hs
    have e : wholeB l x y = true := by
      unfold wholeB
      rw [if_neg (by omega), Int.toNat_natCast, show ((y : Int) - (x : Int)).toNat = y - x by omega, hTd, h10]; rfl
    rw [e] at this
    exact this)
  have hex : (bs l).extract x y = bs T := by rw [bs_extract, bs_data, hTd]
  have CG : Hid (∀ w, Tabs w → Calls Tryz.prog 28 #[.string (bs T)] w fun e w' => e = .returned (.tuple #[.int .i64 0, .bool false]) ∧ Below w.heap.size w w') := Lib.hid (fun w hT => by
    have := wrong_any T w (by have := hTl; omega) hT
    rw [wrP_no hw] at this
    exact this)
  obtain ⟨n, hn⟩ : ∃ n, spL T = n := ⟨_, rfl⟩
  have hnl := spL_le T
  rw [hn] at hnl
  have CL : Hid (∀ w, Calls Tryz.prog 29 #[.string (bs T), .string ⟨#[32]⟩] w fun e w' => e = .returned (.string (bs (T.drop n))) ∧ w = w') := Lib.hid (fun w => by rw [← hn]; exact trimLeft_any T w)
  have sU := bs_size (T.drop n)
  rw [List.length_drop] at sU
  have hsub : (T.length : Int) - ((T.length - n : Nat) : Int) = (n : Int) := by omega
  obtain ⟨U, hU⟩ : ∃ U, T.drop n = U := ⟨_, rfl⟩
  rw [hU] at CL sU
  rw [hn, hU]
  have hUb : U.length ≤ 1073741824 := by rw [← bs_size U, sU]; omega
  have sT := bs_size T
  have HTl := Lib.hid hTl
  have hTb : T.length ≤ 1073741824 := by omega
  clear hTl
  have HV := Lib.hid hV; have HT := Lib.hid hT; have HM := Lib.hid hM
  clear hV hT hM hw
  have hxyi : (x : Int) ≤ (y : Int) := by omega
  have hyli : (y : Int) ≤ (l.length : Int) := by omega
  go_enter Tryz.func17, Tryz.ntmps17
  go_wp2_with fail
  have HL0 := Lib.hid (LSt.start w x y)
  with_reducible refine (CW.out _).mono ?_
  rintro e w1 ⟨rfl, hb1⟩
  have HL1 := Lib.hid (HL0.out.keep hb1); clear hb1
  obtain ⟨s0, s1⟩ := HL1.out.s.cells
  go_wp2_with fail
  have HT1 := Lib.hid (HT.out.keep HL1.out.b)
  with_reducible refine (CG.out _ HT1.out).mono ?_
  rintro e w2 ⟨rfl, hb2⟩
  have HL2 := Lib.hid (HL1.out.keep hb2); clear hb2 s0 s1
  obtain ⟨s0, s1⟩ := HL2.out.s.cells
  go_upto_region 8 with (go_at_call 29; refine (CL.out _).mono ?_; rintro e w' ⟨rfl, rfl⟩)
  go_cut [4, 5, 6, 7, 10, 11] (fun s4 s5 s6 s7 s10 s11 wx => ∃ X : Nat, s4 = .pointer (some ⟨w.heap.size + 1, 0, none⟩) ∧ s5 = .int .i64 0 ∧ s6 = .int .i64 0 ∧ s7 = .string (bs T) ∧ s10 = .string (bs U) ∧ s11 = .pointer (some ⟨X, 0, none⟩) ∧ w.heap.size + 2 ≤ X ∧ Hid (LSt w x y noLine wx ∧ LineBox wx X ⟨1, x, y, n, 0, 0, 0, 0, 0, 0⟩))
  case first =>
    go_wp2_with fail
    go_meet
    exact ⟨w2.heap.size, rfl, rfl, rfl, rfl, rfl, rfl, HL2.out.z, HL2.out.keep (below_alloc1 _ _), heap_alloc_new w2 _⟩
  obtain ⟨X, rfl, rfl, rfl, rfl, rfl, rfl, hX, HS⟩ := hcut
  obtain ⟨s0, s1⟩ := HS.out.1.s.cells
  obtain ⟨a0, a1, a2, a3, a4, a5, a6, a7, a8, a9, g0, g1, g2, g3, g4, g5, g6, g7, g8, g9⟩ := HS.out.2.cells
  go_upto_region 10 with fail
  go_cut [12] (fun s12 wx => s12 = .int .i64 ((x : Int) + (n : Int)) ∧ Hid (LSt w x y noLine wx ∧ LineBox wx X ⟨1, x, y, n, 0, 0, x + n, x + n, 0, 0⟩))
  case first =>
    go_wp2_with fail
    go_meet
    exact ⟨rfl, (HS.out.1.set hX 6 _).set hX 7 _, blk_set (blk_set HS.out.2 6 _) 7 _⟩
  clear s0 s1 a0 a1 a2 a3 a4 a5 a6 a7 a8 a9 g0 g1 g2 g3 g4 g5 g6 g7 g8 g9
  obtain ⟨rfl, HS2⟩ := hcut
  obtain ⟨s0, s1⟩ := HS2.out.1.s.cells
  obtain ⟨a0, a1, a2, a3, a4, a5, a6, a7, a8, a9, g0, g1, g2, g3, g4, g5, g6, g7, g8, g9⟩ := HS2.out.2.cells
  obtain ⟨b0, b1, b2, b3, b4, b5, b6, b7, b8, b9, h0, h1, h2, h3, h4, h5, h6, h7, h8, h9⟩ := HS2.out.1.l.cells
  by_cases hUe : U = []
  · have he : (bs U).toList = [] := by rw [Lib.toList_data, bs_data, hUe]
    have he2 : (bs U).toList.isEmpty = true := by rw [he]; rfl
    have HC : Hid (coreL U = some ⟨1, 0, 0, 0, none⟩) := Lib.hid (by rw [hUe]; rfl)
    clear hU hUe
    go_wp2_with fail
    go_region
    obtain ⟨W, hW⟩ : ∃ W, (putR wc (w.heap.size + 1) ⟨1, x, y, n, 0, 0, x + n, x + n, 0, 0⟩).drew = W := ⟨_, rfl⟩
    have HF := (LSt.put (r2 := ⟨1, x, y, n, 0, 0, x + n, x + n, 0, 0⟩) HS2.out.1).drew
    rw [hW] at HF
    have HF2 := Lib.hid HF; clear HF
    dsimp only [putR] at hW
    rw [hW]
    clear hW
    clear s0 s1 a0 a1 a2 a3 a4 a5 a6 a7 a8 a9 g0 g1 g2 g3 g4 g5 g6 g7 g8 g9 b0 b1 b2 b3 b4 b5 b6 b7 b8 b9 h0 h1 h2 h3 h4 h5 h6 h7 h8 h9
    obtain ⟨c0, c1, c2, c3, c4, c5, c6, c7, c8, c9, _⟩ := HF2.out.l.cells
    go_wp2_with fail
    refine bodyPost_ret (v := .tuple #[lineV ⟨1, x, y, n, 0, 0, x + n, x + n, 0, 0⟩, .int .i64 y, .int .i64 0]) ?_ rfl ⟨?_, HF2.out.b⟩
    · simp [results, Tryz.results17, go_sem, lineV, noLine, c0, c1, c2, c3, c4, c5, c6, c7, c8, c9]
    · rw [HC.out]
      exact lineE_of (by unfold lineOf; simp)
  · have hu0 : 0 < (bs U).size := by rw [bs_size]; exact List.length_pos_iff.2 hUe
    have hne : (bs U).toList.isEmpty = false := by rw [Lib.toList_data, bs_data]; cases U with | nil => exact absurd rfl hUe | cons _ _ => rfl
    have hne2 : ¬ (bs U).toList = [] := by rw [Lib.toList_data, bs_data]; exact hUe
    have T35 := head_is U 35 35 rfl hu0
    have T34 := head_is U 34 34 rfl hu0
    have T39 := head_is U 39 39 rfl hu0
    obtain ⟨cc, hcc⟩ : ∃ cc : Int, (((bs U)[0]'hu0).toNat : Int) = cc := ⟨_, rfl⟩
    rw [hcc] at T35 T34 T39
    have hcore : coreL U = if U.head? = some 35 then some ⟨2, 0, 0, 0, some 0⟩ else if (U.head? = some 34 ∨ U.head? = some 39) ∧ qdL U = 0 then none else some (restL U (headL U) (behindL U (fromL (headL U))) (noteL U (behindL U (fromL (headL U)) + qdL (U.drop (behindL U (fromL (headL U))))))) := by unfold coreL; rw [if_neg hUe]
    by_cases h35 : U.head? = some 35
    · rw [if_pos h35] at hcore
      have HC := Lib.hid hcore
      have t35 : (cc == 35) = true := by rw [T35, h35]; rfl
      clear hcore T35 T34 T39 h35 hU hUe
      go_upto_region 14 with fail
      go_cut [] (fun wx => Hid (LSt w x y noLine wx ∧ LineBox wx X ⟨2, x, y, n, 0, 0, x + n, x + n, x + n, y⟩))
      case first =>
        go_region
        all_goals go_wp2_with fail
        all_goals go_meet
        all_goals first
          | exact ⟨(((HS2.out.1.set hX 0 _).set hX 8 _).set hX 9 _).drew, blk_set (blk_set (blk_set HS2.out.2 0 _) 8 _) 9 _⟩
          | exact ⟨(((HS2.out.1.set hX 8 _).set hX 9 _).set hX 0 _).drew, blk_set (blk_set (blk_set HS2.out.2 8 _) 9 _) 0 _⟩
      have HS3 := hcut
      clear s0 s1 a0 a1 a2 a3 a4 a5 a6 a7 a8 a9 g0 g1 g2 g3 g4 g5 g6 g7 g8 g9 b0 b1 b2 b3 b4 b5 b6 b7 b8 b9 h0 h1 h2 h3 h4 h5 h6 h7 h8 h9
      obtain ⟨s0, s1⟩ := HS3.out.1.s.cells
      obtain ⟨a0, a1, a2, a3, a4, a5, a6, a7, a8, a9, g0, g1, g2, g3, g4, g5, g6, g7, g8, g9⟩ := HS3.out.2.cells
      obtain ⟨b0, b1, b2, b3, b4, b5, b6, b7, b8, b9, h0, h1, h2, h3, h4, h5, h6, h7, h8, h9⟩ := HS3.out.1.l.cells
      go_wp2_with fail
      go_region
      obtain ⟨W, hW⟩ : ∃ W, (putR wc (w.heap.size + 1) ⟨2, x, y, n, 0, 0, x + n, x + n, x + n, y⟩).drew = W := ⟨_, rfl⟩
      have HF := (LSt.put (r2 := ⟨2, x, y, n, 0, 0, x + n, x + n, x + n, y⟩) HS3.out.1).drew
      rw [hW] at HF
      have HF2 := Lib.hid HF; clear HF
      dsimp only [putR] at hW
      rw [hW]
      clear hW
      clear s0 s1 a0 a1 a2 a3 a4 a5 a6 a7 a8 a9 g0 g1 g2 g3 g4 g5 g6 g7 g8 g9 b0 b1 b2 b3 b4 b5 b6 b7 b8 b9 h0 h1 h2 h3 h4 h5 h6 h7 h8 h9
      obtain ⟨c0, c1, c2, c3, c4, c5, c6, c7, c8, c9, _⟩ := HF2.out.l.cells
      go_wp2_with fail
      refine bodyPost_ret (v := .tuple #[lineV ⟨2, x, y, n, 0, 0, x + n, x + n, x + n, y⟩, .int .i64 y, .int .i64 0]) ?_ rfl ⟨?_, HF2.out.b⟩
      · simp [results, Tryz.results17, go_sem, lineV, noLine, c0, c1, c2, c3, c4, c5, c6, c7, c8, c9]
      · rw [HC.out]
        exact lineE_of (by unfold lineOf; simp)
    rw [if_neg h35] at hcore
    rw [show (U.head? == some 35) = false from beq_eq_false_iff_ne.2 h35] at T35
    have CQ := Lib.hid (fun w hV hT => qd_any U w (by omega) hV hT)
    by_cases hbq : (U.head? = some 34 ∨ U.head? = some 39) ∧ qdL U = 0
    · rw [if_pos hbq] at hcore
      have HC := Lib.hid hcore
      rw [hbq.2] at CQ
      have TQ : ((cc == 34) || (cc == 39)) = true := by
        rw [T34, T39]
        rcases hbq.1 with h | h <;> rw [h] <;> rfl
      clear hcore h35 hU hUe hbq
      by_cases hc34 : cc = 34
      · subst hc34
        clear T34 T39 TQ T35
        go_wp2_with fail
        with_reducible refine (CQ.out _ (HV.out.keep HS2.out.1.b) (HT.out.keep HS2.out.1.b)).mono ?_
        rintro e w3 ⟨rfl, hb3⟩
        have HS3 := Lib.hid (And.intro (HS2.out.1.keep hb3) (HS2.out.2.keep hb3)); clear hb3
        clear s0 s1 a0 a1 a2 a3 a4 a5 a6 a7 a8 a9 g0 g1 g2 g3 g4 g5 g6 g7 g8 g9 b0 b1 b2 b3 b4 b5 b6 b7 b8 b9 h0 h1 h2 h3 h4 h5 h6 h7 h8 h9
        obtain ⟨s0, s1⟩ := HS3.out.1.s.cells
        obtain ⟨a0, a1, a2, a3, a4, a5, a6, a7, a8, a9, g0, g1, g2, g3, g4, g5, g6, g7, g8, g9⟩ := HS3.out.2.cells
        obtain ⟨b0, b1, b2, b3, b4, b5, b6, b7, b8, b9, h0, h1, h2, h3, h4, h5, h6, h7, h8, h9⟩ := HS3.out.1.l.cells
        go_wp2_with fail
        obtain ⟨W, hW⟩ : ∃ W, (putR w3 (w.heap.size + 1) noLine) = W := ⟨_, rfl⟩
        have HF := (LSt.put (r2 := noLine) HS3.out.1)
        rw [hW] at HF
        have HF2 := Lib.hid HF; clear HF
        dsimp only [putR, noLine] at hW
        rw [hW]
        clear hW
        clear s0 s1 a0 a1 a2 a3 a4 a5 a6 a7 a8 a9 g0 g1 g2 g3 g4 g5 g6 g7 g8 g9 b0 b1 b2 b3 b4 b5 b6 b7 b8 b9 h0 h1 h2 h3 h4 h5 h6 h7 h8 h9
        obtain ⟨c0, c1, c2, c3, c4, c5, c6, c7, c8, c9, _⟩ := HF2.out.l.cells
        go_wp2_with fail
        refine bodyPost_ret (v := .tuple #[lineV noLine, .int .i64 ((x : Int) + (n : Int)), .int .i64 2]) ?_ rfl ⟨?_, HF2.out.b⟩
        · simp [results, Tryz.results17, go_sem, lineV, noLine, c0, c1, c2, c3, c4, c5, c6, c7, c8, c9]
        · rw [HC.out]; rfl
      · have t34 : (cc == 34) = false := beq_eq_false_iff_ne.2 hc34
        have t39 : (cc == 39) = true := by rw [t34] at TQ; simpa using TQ
        clear T34 T39 TQ hc34
        go_wp2_with fail
        with_reducible refine (CQ.out _ (HV.out.keep HS2.out.1.b) (HT.out.keep HS2.out.1.b)).mono ?_
        rintro e w3 ⟨rfl, hb3⟩
        have HS3 := Lib.hid (And.intro (HS2.out.1.keep hb3) (HS2.out.2.keep hb3)); clear hb3
        clear s0 s1 a0 a1 a2 a3 a4 a5 a6 a7 a8 a9 g0 g1 g2 g3 g4 g5 g6 g7 g8 g9 b0 b1 b2 b3 b4 b5 b6 b7 b8 b9 h0 h1 h2 h3 h4 h5 h6 h7 h8 h9
        obtain ⟨s0, s1⟩ := HS3.out.1.s.cells
        obtain ⟨a0, a1, a2, a3, a4, a5, a6, a7, a8, a9, g0, g1, g2, g3, g4, g5, g6, g7, g8, g9⟩ := HS3.out.2.cells
        obtain ⟨b0, b1, b2, b3, b4, b5, b6, b7, b8, b9, h0, h1, h2, h3, h4, h5, h6, h7, h8, h9⟩ := HS3.out.1.l.cells
        go_wp2_with fail
        obtain ⟨W, hW⟩ : ∃ W, (putR w3 (w.heap.size + 1) noLine) = W := ⟨_, rfl⟩
        have HF := (LSt.put (r2 := noLine) HS3.out.1)
        rw [hW] at HF
        have HF2 := Lib.hid HF; clear HF
        dsimp only [putR, noLine] at hW
        rw [hW]
        clear hW
        clear s0 s1 a0 a1 a2 a3 a4 a5 a6 a7 a8 a9 g0 g1 g2 g3 g4 g5 g6 g7 g8 g9 b0 b1 b2 b3 b4 b5 b6 b7 b8 b9 h0 h1 h2 h3 h4 h5 h6 h7 h8 h9
        obtain ⟨c0, c1, c2, c3, c4, c5, c6, c7, c8, c9, _⟩ := HF2.out.l.cells
        go_wp2_with fail
        refine bodyPost_ret (v := .tuple #[lineV noLine, .int .i64 ((x : Int) + (n : Int)), .int .i64 2]) ?_ rfl ⟨?_, HF2.out.b⟩
        · simp [results, Tryz.results17, go_sem, lineV, noLine, c0, c1, c2, c3, c4, c5, c6, c7, c8, c9]
        · rw [HC.out]; rfl
    · rw [if_neg hbq] at hcore
      have HC := Lib.hid hcore
      have hsp := headL_spec U hbq
      have CH := Lib.hid (fun w hV hT hM => head_any U w hUe hUb hV hT hM)
      have HU35 := Lib.hid h35
      have HTU : Hid (T = List.replicate n 32 ++ U) := Lib.hid (by have := split_sp T; rw [hn, hU] at this; exact this)
      obtain ⟨H, hH⟩ : ∃ H, headL U = H := ⟨_, rfl⟩
      rw [hH] at HC hsp CH
      obtain ⟨q, hqq⟩ : ∃ q, qdL U = q := ⟨_, rfl⟩
      rw [hqq] at hbq CQ
      clear hcore h35 hU hH hqq
      go_upto_region 16 with fail
      go_cut [75] (fun s75 wx => s75 = .bool false ∧ Hid (LSt w x y noLine wx ∧ LineBox wx X ⟨1, x, y, n, 0, 0, x + n, x + n, 0, 0⟩))
      case first =>
        by_cases hc34 : cc = 34
        · have hq0 : ((q : Int) == 0) = false := beq_eq_false_iff_ne.2 (fun e => hbq ⟨.inl (by rw [hc34] at T34; exact beq_iff_eq.1 T34.symm), by omega⟩)
          subst hc34
          clear hbq T34 T39 T35
          go_wp2_with fail
          with_reducible refine (CQ.out _ (HV.out.keep HS2.out.1.b) (HT.out.keep HS2.out.1.b)).mono ?_
          rintro e w3 ⟨rfl, hb3⟩
          go_wp2_with fail
          go_meet
          exact ⟨rfl, HS2.out.1.keep hb3, HS2.out.2.keep hb3⟩
        · have t34 : (cc == 34) = false := beq_eq_false_iff_ne.2 hc34
          by_cases hc39 : cc = 39
          · have hq0 : ((q : Int) == 0) = false := beq_eq_false_iff_ne.2 (fun e => hbq ⟨.inr (by rw [hc39] at T39; exact beq_iff_eq.1 T39.symm), by omega⟩)
            subst hc39
            clear hbq T34 T39 T35
            go_wp2_with fail
            with_reducible refine (CQ.out _ (HV.out.keep HS2.out.1.b) (HT.out.keep HS2.out.1.b)).mono ?_
            rintro e w3 ⟨rfl, hb3⟩
            go_wp2_with fail
            go_meet
            exact ⟨rfl, HS2.out.1.keep hb3, HS2.out.2.keep hb3⟩
          · have t39 : (cc == 39) = false := beq_eq_false_iff_ne.2 hc39
            clear hbq T34 T39 T35
            go_wp2_with fail
            go_meet
            exact ⟨rfl, HS2.out⟩
      obtain ⟨rfl, HS3⟩ := hcut
      clear s0 s1 a0 a1 a2 a3 a4 a5 a6 a7 a8 a9 g0 g1 g2 g3 g4 g5 g6 g7 g8 g9 b0 b1 b2 b3 b4 b5 b6 b7 b8 b9 h0 h1 h2 h3 h4 h5 h6 h7 h8 h9
      clear hbq T34 T39 T35 hcc
      obtain ⟨s0, s1⟩ := HS3.out.1.s.cells
      obtain ⟨a0, a1, a2, a3, a4, a5, a6, a7, a8, a9, g0, g1, g2, g3, g4, g5, g6, g7, g8, g9⟩ := HS3.out.2.cells
      obtain ⟨b0, b1, b2, b3, b4, b5, b6, b7, b8, b9, h0, h1, h2, h3, h4, h5, h6, h7, h8, h9⟩ := HS3.out.1.l.cells
      go_wp2_with fail
      with_reducible refine (CH.out _ (HV.out.keep HS3.out.1.b) (HT.out.keep HS3.out.1.b) (HM.out.keep HS3.out.1.b)).mono ?_
      unfold HeadE
      rintro e w4 ⟨rfl, hb4⟩
      have HS4 := Lib.hid (And.intro (HS3.out.1.keep hb4) (HS3.out.2.keep hb4)); clear hb4
      clear s0 s1 a0 a1 a2 a3 a4 a5 a6 a7 a8 a9 g0 g1 g2 g3 g4 g5 g6 g7 g8 g9 b0 b1 b2 b3 b4 b5 b6 b7 b8 b9 h0 h1 h2 h3 h4 h5 h6 h7 h8 h9
      obtain ⟨s0, s1⟩ := HS4.out.1.s.cells
      obtain ⟨a0, a1, a2, a3, a4, a5, a6, a7, a8, a9, g0, g1, g2, g3, g4, g5, g6, g7, g8, g9⟩ := HS4.out.2.cells
      obtain ⟨b0, b1, b2, b3, b4, b5, b6, b7, b8, b9, h0, h1, h2, h3, h4, h5, h6, h7, h8, h9⟩ := HS4.out.1.l.cells
      have hxb : (x : Int) ≤ 1073741824 := by omega
      rcases hsp with ⟨rfl, _⟩ | rfl | ⟨k, rfl, hk1, hk, hk3⟩
      · obtain ⟨R, hR⟩ : ∃ R, restR T (n + 1) ⟨3, x, y, n, 0, 0, x + n, x + n, 0, 0⟩ = R := ⟨_, rfl⟩
        have CR : Hid (∀ W, LineBox W X ⟨3, x, y, n, 0, 0, x + n, x + n, 0, 0⟩ → SVar W → Tabs W → MVar W → Calls Tryz.prog 32 #[.pointer (some ⟨X, 0, none⟩), .string (bs T), .int .i64 ((n : Int) + 1)] W fun e w' => (∃ v, e = .returned v) ∧ LineBox w' X R ∧ Only X W w') := Lib.hid (fun W h1 h2 h3 h4 => by
          have := rest_any T (n + 1) X ⟨3, x, y, n, 0, 0, x + n, x + n, 0, 0⟩ W hTb (by have := bs_size U; omega) h1 (by show (0 : Int) ≤ (x : Int); omega) hxb h2 h3 h4
          rw [hR] at this
          rw [show ((n : Int) + 1) = ((n + 1 : Nat) : Int) by omega]
          exact this)
        have HR := Lib.hid hR; clear hR
        go_wp2_with fail
        have HS5 := Lib.hid (And.intro (HS4.out.1.set hX 0 (.int .i64 (3))) (show LineBox (w4.setCell ⟨X, 0, none⟩ (.int .i64 (3))) X ⟨3, x, y, n, 0, 0, x + n, x + n, 0, 0⟩ from (blk_set HS4.out.2 0 (.int .i64 (3)))))
        clear s0 s1 a0 a1 a2 a3 a4 a5 a6 a7 a8 a9 g0 g1 g2 g3 g4 g5 g6 g7 g8 g9 b0 b1 b2 b3 b4 b5 b6 b7 b8 b9 h0 h1 h2 h3 h4 h5 h6 h7 h8 h9
        refine (CR.out _ HS5.out.2 (HV.out.keep HS5.out.1.b) (HT.out.keep HS5.out.1.b) (HM.out.keep HS5.out.1.b)).mono ?_
        rintro e w5 ⟨⟨v, rfl⟩, hL6, hO6⟩
        have HS6 := Lib.hid (And.intro (HS5.out.1.only hX hO6) hL6); clear hL6 hO6
        obtain ⟨s0, s1⟩ := HS6.out.1.s.cells
        obtain ⟨a0, a1, a2, a3, a4, a5, a6, a7, a8, a9, g0, g1, g2, g3, g4, g5, g6, g7, g8, g9⟩ := HS6.out.2.cells
        obtain ⟨b0, b1, b2, b3, b4, b5, b6, b7, b8, b9, h0, h1, h2, h3, h4, h5, h6, h7, h8, h9⟩ := HS6.out.1.l.cells
        go_wp2_with fail
        go_region
        obtain ⟨W, hW⟩ : ∃ W, (putR w5 (w.heap.size + 1) R).drew = W := ⟨_, rfl⟩
        have HF := (LSt.put (r2 := R) HS6.out.1).drew
        rw [hW] at HF
        have HF2 := Lib.hid HF; clear HF
        dsimp only [putR] at hW
        rw [hW]
        clear hW
        clear s0 s1 a0 a1 a2 a3 a4 a5 a6 a7 a8 a9 g0 g1 g2 g3 g4 g5 g6 g7 g8 g9 b0 b1 b2 b3 b4 b5 b6 b7 b8 b9 h0 h1 h2 h3 h4 h5 h6 h7 h8 h9
        obtain ⟨c0, c1, c2, c3, c4, c5, c6, c7, c8, c9, _⟩ := HF2.out.l.cells
        go_wp2_with fail
        refine bodyPost_ret (v := .tuple #[lineV R, .int .i64 y, .int .i64 0]) ?_ rfl ⟨?_, HF2.out.b⟩
        · simp [results, Tryz.results17, go_sem, lineV, noLine, c0, c1, c2, c3, c4, c5, c6, c7, c8, c9]
        · rw [HC.out]
          exact lineE_of ((lineOf_rest U T n x y (3, 0) HU35.out HTU.out ⟨3, x, y, n, 0, 0, x + n, x + n, 0, 0⟩ rfl).trans HR.out)
      · obtain ⟨R, hR⟩ : ∃ R, restR T (n + 0) ⟨5, x, y, n, 0, 0, x + n, x + n, 0, 0⟩ = R := ⟨_, rfl⟩
        have CR : Hid (∀ W, LineBox W X ⟨5, x, y, n, 0, 0, x + n, x + n, 0, 0⟩ → SVar W → Tabs W → MVar W → Calls Tryz.prog 32 #[.pointer (some ⟨X, 0, none⟩), .string (bs T), .int .i64 (n : Int)] W fun e w' => (∃ v, e = .returned v) ∧ LineBox w' X R ∧ Only X W w') := Lib.hid (fun W h1 h2 h3 h4 => by
          have := rest_any T (n + 0) X ⟨5, x, y, n, 0, 0, x + n, x + n, 0, 0⟩ W hTb (by have := bs_size U; omega) h1 (by show (0 : Int) ≤ (x : Int); omega) hxb h2 h3 h4
          rw [hR] at this
          rw [show (n : Int) = ((n + 0 : Nat) : Int) by omega]
          exact this)
        have HR := Lib.hid hR; clear hR
        go_wp2_with fail
        have HS5 := Lib.hid (And.intro (HS4.out.1.set hX 0 (.int .i64 (5))) (show LineBox (w4.setCell ⟨X, 0, none⟩ (.int .i64 (5))) X ⟨5, x, y, n, 0, 0, x + n, x + n, 0, 0⟩ from (blk_set HS4.out.2 0 (.int .i64 (5)))))
        clear s0 s1 a0 a1 a2 a3 a4 a5 a6 a7 a8 a9 g0 g1 g2 g3 g4 g5 g6 g7 g8 g9 b0 b1 b2 b3 b4 b5 b6 b7 b8 b9 h0 h1 h2 h3 h4 h5 h6 h7 h8 h9
        refine (CR.out _ HS5.out.2 (HV.out.keep HS5.out.1.b) (HT.out.keep HS5.out.1.b) (HM.out.keep HS5.out.1.b)).mono ?_
        rintro e w5 ⟨⟨v, rfl⟩, hL6, hO6⟩
        have HS6 := Lib.hid (And.intro (HS5.out.1.only hX hO6) hL6); clear hL6 hO6
        obtain ⟨s0, s1⟩ := HS6.out.1.s.cells
        obtain ⟨a0, a1, a2, a3, a4, a5, a6, a7, a8, a9, g0, g1, g2, g3, g4, g5, g6, g7, g8, g9⟩ := HS6.out.2.cells
        obtain ⟨b0, b1, b2, b3, b4, b5, b6, b7, b8, b9, h0, h1, h2, h3, h4, h5, h6, h7, h8, h9⟩ := HS6.out.1.l.cells
        go_wp2_with fail
        go_region
        obtain ⟨W, hW⟩ : ∃ W, (putR w5 (w.heap.size + 1) R).drew = W := ⟨_, rfl⟩
        have HF := (LSt.put (r2 := R) HS6.out.1).drew
        rw [hW] at HF
        have HF2 := Lib.hid HF; clear HF
        dsimp only [putR] at hW
        rw [hW]
        clear hW
        clear s0 s1 a0 a1 a2 a3 a4 a5 a6 a7 a8 a9 g0 g1 g2 g3 g4 g5 g6 g7 g8 g9 b0 b1 b2 b3 b4 b5 b6 b7 b8 b9 h0 h1 h2 h3 h4 h5 h6 h7 h8 h9
        obtain ⟨c0, c1, c2, c3, c4, c5, c6, c7, c8, c9, _⟩ := HF2.out.l.cells
        go_wp2_with fail
        refine bodyPost_ret (v := .tuple #[lineV R, .int .i64 y, .int .i64 0]) ?_ rfl ⟨?_, HF2.out.b⟩
        · simp [results, Tryz.results17, go_sem, lineV, noLine, c0, c1, c2, c3, c4, c5, c6, c7, c8, c9]
        · rw [HC.out]
          exact lineE_of ((lineOf_rest U T n x y (5, 0) HU35.out HTU.out ⟨5, x, y, n, 0, 0, x + n, x + n, 0, 0⟩ rfl).trans HR.out)
      · obtain ⟨R, hR⟩ : ∃ R, restR T (n + (k + 1)) ⟨4, x, y, n, x + n, x + n + k, x + n, x + n, 0, 0⟩ = R := ⟨_, rfl⟩
        have CR : Hid (∀ W, LineBox W X ⟨4, x, y, n, x + n, x + n + k, x + n, x + n, 0, 0⟩ → SVar W → Tabs W → MVar W → Calls Tryz.prog 32 #[.pointer (some ⟨X, 0, none⟩), .string (bs T), .int .i64 ((n : Int) + ((k : Int) + 1))] W fun e w' => (∃ v, e = .returned v) ∧ LineBox w' X R ∧ Only X W w') := Lib.hid (fun W h1 h2 h3 h4 => by
          have := rest_any T (n + (k + 1)) X ⟨4, x, y, n, x + n, x + n + k, x + n, x + n, 0, 0⟩ W hTb (by have := bs_size U; omega) h1 (by show (0 : Int) ≤ (x : Int); omega) hxb h2 h3 h4
          rw [hR] at this
          rw [show ((n : Int) + ((k : Int) + 1)) = ((n + (k + 1) : Nat) : Int) by omega]
          exact this)
        have HR := Lib.hid hR; clear hR
        go_wp2_with fail
        have HS5 := Lib.hid (And.intro (((HS4.out.1.set hX 0 (.int .i64 (4))).set hX 4 (.int .i64 ((x : Int) + (n : Int)))).set hX 5 (.int .i64 ((x : Int) + (n : Int) + (k : Int)))) (show LineBox (((w4.setCell ⟨X, 0, none⟩ (.int .i64 (4))).setCell ⟨X, 4, none⟩ (.int .i64 ((x : Int) + (n : Int)))).setCell ⟨X, 5, none⟩ (.int .i64 ((x : Int) + (n : Int) + (k : Int)))) X ⟨4, x, y, n, x + n, x + n + k, x + n, x + n, 0, 0⟩ from (blk_set (blk_set (blk_set HS4.out.2 0 (.int .i64 (4))) 4 (.int .i64 ((x : Int) + (n : Int)))) 5 (.int .i64 ((x : Int) + (n : Int) + (k : Int))))))
        clear s0 s1 a0 a1 a2 a3 a4 a5 a6 a7 a8 a9 g0 g1 g2 g3 g4 g5 g6 g7 g8 g9 b0 b1 b2 b3 b4 b5 b6 b7 b8 b9 h0 h1 h2 h3 h4 h5 h6 h7 h8 h9
        refine (CR.out _ HS5.out.2 (HV.out.keep HS5.out.1.b) (HT.out.keep HS5.out.1.b) (HM.out.keep HS5.out.1.b)).mono ?_
        rintro e w5 ⟨⟨v, rfl⟩, hL6, hO6⟩
        have HS6 := Lib.hid (And.intro (HS5.out.1.only hX hO6) hL6); clear hL6 hO6
        obtain ⟨s0, s1⟩ := HS6.out.1.s.cells
        obtain ⟨a0, a1, a2, a3, a4, a5, a6, a7, a8, a9, g0, g1, g2, g3, g4, g5, g6, g7, g8, g9⟩ := HS6.out.2.cells
        obtain ⟨b0, b1, b2, b3, b4, b5, b6, b7, b8, b9, h0, h1, h2, h3, h4, h5, h6, h7, h8, h9⟩ := HS6.out.1.l.cells
        go_wp2_with fail
        go_region
        obtain ⟨W, hW⟩ : ∃ W, (putR w5 (w.heap.size + 1) R).drew = W := ⟨_, rfl⟩
        have HF := (LSt.put (r2 := R) HS6.out.1).drew
        rw [hW] at HF
        have HF2 := Lib.hid HF; clear HF
        dsimp only [putR] at hW
        rw [hW]
        clear hW
        clear s0 s1 a0 a1 a2 a3 a4 a5 a6 a7 a8 a9 g0 g1 g2 g3 g4 g5 g6 g7 g8 g9 b0 b1 b2 b3 b4 b5 b6 b7 b8 b9 h0 h1 h2 h3 h4 h5 h6 h7 h8 h9
        obtain ⟨c0, c1, c2, c3, c4, c5, c6, c7, c8, c9, _⟩ := HF2.out.l.cells
        go_wp2_with fail
        refine bodyPost_ret (v := .tuple #[lineV R, .int .i64 y, .int .i64 0]) ?_ rfl ⟨?_, HF2.out.b⟩
        · simp [results, Tryz.results17, go_sem, lineV, noLine, c0, c1, c2, c3, c4, c5, c6, c7, c8, c9]
        · rw [HC.out]
          exact lineE_of ((lineOf_rest U T n x y (4, k) HU35.out HTU.out ⟨4, x, y, n, x + n, x + n + k, x + n, x + n, 0, 0⟩ rfl).trans HR.out)
end Go.Proofs.YtbbjgdnbekoaeaaGreatDoor

import Derived.Test.YtbbjgdnbekoaeaaGreatDoorLexW
/-! The walk of the law LexWalks: its loop's body; the law. -/
namespace Go.Proofs.YtbbjgdnbekoaeaaGreatDoor
set_option linter.unusedSimpArgs false
set_option linter.unusedVariables false
open Go.RowKit Go.Shelf
open Go.Lib hiding intOf

/-- Between two calls of the body: how many there were, all fine, not over. -/
def WJ (m st : Nat) (S : World) (pre : List Ev) (W : World) : Prop := pre.length ≤ st ∧ Boxed W m 3 (.int .i64 pre.length) ∧ Boxed W (m + 1) 4 (.bool true) ∧ Boxed W (m + 2) 4 (.bool false) ∧ Below m S W
/-- Behind the last call. -/
def WX (m st : Nat) (S : World) (pre : List Ev) (W : World) : Prop := pre.length = st + 1 ∧ Boxed W m 3 (.int .i64 pre.length) ∧ Boxed W (m + 1) 4 (.bool true) ∧ Boxed W (m + 2) 4 (.bool true) ∧ Below m S W
theorem boxed_below {W W' : World} {B : Nat} {t : TypeId} {v : Value} (h : Boxed W B t v) (hb : Below W.heap.size W W') : Boxed W' B t v := (hb.block B h.lt).trans h
theorem boxed_under {m : Nat} {W W' : World} {B : Nat} {t : TypeId} {v : Value} (h : Boxed W B t v) (hb : Below m W W') (hB : B < m) : Boxed W' B t v := (hb.block B hB).trans h
theorem WJ.keep {m st : Nat} {S A B : World} {pre : List Ev} (h : WJ m st S pre A) (hb : Below A.heap.size A B) : WJ m st S pre B :=
  ⟨h.1, boxed_below h.2.1 hb, boxed_below h.2.2.1 hb, boxed_below h.2.2.2.1 hb, h.2.2.2.2.trans (hb.mono (by have := h.2.1.lt; omega))⟩
def bodyC (W : World) (m : Nat) (n : Int) (b : Bool) : World :=
  (((W.setCell ⟨m + 1, 0, none⟩ (.bool true)).setCell ⟨m + 1, 0, none⟩ (.bool true)).setCell ⟨m, 0, none⟩ (.int .i64 n)).setCell ⟨m + 2, 0, none⟩ (.bool b)
def bodyW (W : World) (m : Nat) (T : Obj) (d : World → World) (n : Int) (b : Bool) : World := d ((bodyC W m n b).alloc T)
theorem bodyC_size (W : World) (m : Nat) (n : Int) (b : Bool) : (bodyC W m n b).heap.size = W.heap.size := by unfold bodyC; simp [World.setCell]
theorem bodyW_is {W S : World} {m st : Nat} {pre : List Ev} (h : WJ m st S pre W) (T : Obj) (d : World → World) (hd : d = id ∨ d = World.drew) (n : Int) (b : Bool) :
    Boxed (bodyW W m T d n b) m 3 (.int .i64 n) ∧ Boxed (bodyW W m T d n b) (m + 1) 4 (.bool true) ∧ Boxed (bodyW W m T d n b) (m + 2) 4 (.bool b) ∧ Below m S (bodyW W m T d n b) ∧ KpX m (m + 3) W (bodyW W m T d n b) := by
  obtain ⟨_, h0, h1, h2, hb⟩ := h
  have hm := h0.lt
  have k0 : Boxed (bodyC W m n b) m 3 (.int .i64 n) := (((h0.other (B' := m + 1) (by omega) (.bool true)).other (B' := m + 1) (by omega) (.bool true)).set (.int .i64 n)).other (by omega) _
  have k1 : Boxed (bodyC W m n b) (m + 1) 4 (.bool true) := (((h1.set (.bool true)).set (.bool true)).other (B' := m) (by omega) _).other (by omega) _
  have k2 : Boxed (bodyC W m n b) (m + 2) 4 (.bool b) := (((h2.other (B' := m + 1) (by omega) (.bool true)).other (B' := m + 1) (by omega) (.bool true)).other (B' := m) (by omega) _).set _
  have kb : Below m W (bodyC W m n b) :=
    ((((Below.refl m W).setCell (p := ⟨m + 1, 0, none⟩) (Nat.le_succ m) (.bool true)).setCell (p := ⟨m + 1, 0, none⟩) (Nat.le_succ m) (.bool true)).setCell (p := ⟨m, 0, none⟩) (Nat.le_refl m) _).setCell (p := ⟨m + 2, 0, none⟩) (by show m ≤ m + 2; omega) _
  have kh : ∀ i, m + 3 ≤ i → (bodyC W m n b).heap[i]? = W.heap[i]? := fun i hi => by
    unfold bodyC
    rw [Below.heap_setCell _ ⟨m + 2, 0, none⟩ _ i (by show i ≠ m + 2; omega), Below.heap_setCell _ ⟨m, 0, none⟩ _ i (by show i ≠ m; omega), Below.heap_setCell _ ⟨m + 1, 0, none⟩ _ i (by show i ≠ m + 1; omega), Below.heap_setCell _ ⟨m + 1, 0, none⟩ _ i (by show i ≠ m + 1; omega)]
  have hz := bodyC_size W m n b
  obtain ⟨C, hC⟩ : ∃ C, bodyC W m n b = C := ⟨_, rfl⟩
  unfold bodyW
  rw [hC] at k0 k1 k2 kb kh hz ⊢
  have kb2 : Below m W (C.alloc T) := kb.alloc (by omega) T
  have kh2 : ∀ i, m + 3 ≤ i → i < W.heap.size → (C.alloc T).heap[i]? = W.heap[i]? := fun i hi hl => by
    rw [Below.heap_alloc _ _ _ (by omega)]
    exact kh i hi
  rcases hd with rfl | rfl
  · exact ⟨k0.alloc T, k1.alloc T, k2.alloc T, hb.trans kb2, kb2, kh2⟩
  · exact ⟨k0.alloc T, k1.alloc T, k2.alloc T, hb.trans kb2.drew, kb2.drew, kh2⟩
theorem body_end {W S : World} {m st : Nat} {pre : List Ev} (x : Ev) (h : WJ m st S pre W) (T : Obj) (d : World → World) (hd : d = id ∨ d = World.drew) (n : Int) (hn : n = (pre.length : Int) + 1) (b : Bool) (hb : b = decide ((st : Int) < (pre.length : Int) + 1)) (e : Ending) (he : e = .returned (.bool (!b))) (W' : World) (hW : bodyW W m T d n b = W') :
    ((e = .returned (.bool true) ∧ WJ m st S (pre ++ [x]) W') ∨ (e = .returned (.bool false) ∧ WX m st S (pre ++ [x]) W')) ∧ KpX m (m + 3) W W' := by
  subst hW he
  obtain ⟨h0, h1, h2, h3, h4⟩ := bodyW_is h T d hd n b
  have hl : ((pre ++ [x]).length : Int) = n := by rw [hn]; simp
  refine ⟨?_, h4⟩
  by_cases hs : (st : Int) < (pre.length : Int) + 1
  · right
    rw [decide_eq_true hs] at hb
    subst hb
    exact ⟨rfl, by have := h.1; rw [List.length_append]; simp; omega, by rw [hl]; exact h0, h1, h2, h3⟩
  · left
    rw [decide_eq_false hs] at hb
    subst hb
    exact ⟨rfl, by rw [List.length_append]; simp; omega, by rw [hl]; exact h0, h1, h2, h3⟩
/-- The events of a text: its tokens, and where it is wrong. -/
def evE (ts : List Tok) (at_ er : Int) : List Ev := ts.map evT ++ (if er = 0 then [] else [(0, at_, at_, er)])
theorem evE_at {ts : List Tok} {p er : Int} {pre : List Ev} {x : Ev} (h : pre ++ [x] <+: evE ts p er) : (∃ t, ts[pre.length]? = some t ∧ x = evT t) ∨ (pre.length = ts.length ∧ er ≠ 0 ∧ x = (0, p, p, er)) := by
  obtain ⟨r, hr⟩ := h
  have hx : (evE ts p er)[pre.length]? = some x := by rw [← hr]; simp
  unfold evE at hx
  by_cases hl : pre.length < ts.length
  · left
    rw [List.getElem?_append_left (by simpa using hl), List.getElem?_map] at hx
    obtain ⟨t, ht⟩ : ∃ t, ts[pre.length]? = some t := ⟨_, List.getElem?_eq_getElem hl⟩
    rw [ht] at hx
    exact ⟨t, ht, (Option.some.inj hx).symm⟩
  · right
    rw [List.getElem?_append_right (by simpa using hl)] at hx
    by_cases he : er = 0
    · rw [if_pos he] at hx; simp at hx
    · rw [if_neg he] at hx
      have h0 := (List.getElem?_eq_some_iff.1 hx).1
      simp at h0
      have e : pre.length = ts.length := by omega
      rw [e] at hx
      simp at hx
      exact ⟨e, he, hx.symm⟩
set_option maxRecDepth 100000 in
set_option maxHeartbeats 4000000 in
theorem body_any (m st bw be ba bt : Nat) (stop er p : Int) (v : Value) (ts : List Tok) (S : World) (hst : bits .and .i64 stop 63 = st) (hst2 : st ≤ 63)
    (iw : Boxed S bw 23 v) (hv : ToksV S v ts) (ie : Boxed S be 25 (.int .i64 er)) (ia : Boxed S ba 3 (.int .i64 p)) (it : Boxed S bt 3 (.int .i64 stop)) (hSm : S.heap.size = m)
    (pre : List Ev) (x : Ev) (W : World) (hJ : WJ m st S pre W) (hp : pre ++ [x] <+: evE ts p er) :
    Calls Tryz.prog 11 (bodyA x (m + 1) (m + 2) m bw be ba bt) W fun e W' =>
      ((e = .returned (.bool true) ∧ WJ m st S (pre ++ [x]) W') ∨ (e = .returned (.bool false) ∧ WX m st S (pre ++ [x]) W')) ∧ KpX m (m + 3) W W' := by
  have hx := evE_at hp
  have HJ := Lib.hid hJ
  obtain ⟨hls, h0, h1, h2, hB⟩ := hJ
  have lw : bw < m := hSm ▸ iw.lt
  have le_ : be < m := hSm ▸ ie.lt
  have la : ba < m := hSm ▸ ia.lt
  have lt_ : bt < m := hSm ▸ it.lt
  have jw := boxed_under iw hB lw
  have je := boxed_under ie hB le_
  have ja := boxed_under ia hB la
  have jt := boxed_under it hB lt_
  have hWm : m + 2 < W.heap.size := h2.lt
  have hv2 : (ts = [] ∧ v = .slice none 0 0) ∨ ∃ g c, v = .slice (some ⟨g, 0, none⟩) ts.length c ∧ g < m ∧ TokAt W g ts := by
    rcases hv with h | ⟨g, c, e1, e2, e3⟩
    · exact .inl h
    · refine .inr ⟨g, c, e1, by omega, fun j t hj => ?_⟩
      have := e3 j t hj
      rw [hB.cell (p := ⟨g, j * 3, none⟩) (by show g < m; omega), hB.cell (p := ⟨g, j * 3 + 1, none⟩) (by show g < m; omega), hB.cell (p := ⟨g, j * 3 + 2, none⟩) (by show g < m; omega)]
      exact this
  have z0 : m < W.heap.size := by omega
  have z1 : m + 1 < W.heap.size := by omega
  have z_bw : bw < W.heap.size := by omega
  have n0_bw : bw ≠ m := by omega
  have n1_bw : bw ≠ m + 1 := by omega
  have n2_bw : bw ≠ m + 2 := by omega
  have z_be : be < W.heap.size := by omega
  have n0_be : be ≠ m := by omega
  have n1_be : be ≠ m + 1 := by omega
  have n2_be : be ≠ m + 2 := by omega
  have z_ba : ba < W.heap.size := by omega
  have n0_ba : ba ≠ m := by omega
  have n1_ba : ba ≠ m + 1 := by omega
  have n2_ba : ba ≠ m + 2 := by omega
  have z_bt : bt < W.heap.size := by omega
  have n0_bt : bt ≠ m := by omega
  have n1_bt : bt ≠ m + 1 := by omega
  have n2_bt : bt ≠ m + 2 := by omega
  have d0 := h0.cell; have d1 := h1.cell; have d2 := h2.cell
  have f0 := h0.frozen; have f1 := h1.frozen; have f2 := h2.frozen
  have dw := jw.cell; have de := je.cell; have da := ja.cell; have dt := jt.cell
  have fw := jw.frozen; have fe := je.frozen; have fa := ja.frozen; have ft := jt.frozen
  have hll : (pre.length : Int) ≤ 63 := by omega
  obtain ⟨b, hb⟩ : ∃ b, decide ((st : Int) < (pre.length : Int) + 1) = b := ⟨_, rfl⟩
  have hb2 : decide (st < pre.length + 1) = b := by rw [← hb]; exact decide_eq_decide.2 (by omega)
  have HE := Lib.hid (fun d hd n hn T e he W' hW => body_end (W := W) (S := S) (m := m) (st := st) (pre := pre) x HJ.out T d hd n hn b hb.symm e he W' hW)
  obtain ⟨n, hn⟩ : ∃ n, pre.length = n := ⟨_, rfl⟩
  have HN := Lib.hid hn
  rw [hn] at hx d0 hll hb hb2 
  clear hn h0 h1 h2 hB jw je ja jt iw ie ia it hv hp hls
  rcases hx with ⟨t, ht, rfl⟩ | ⟨hnl, hne, rfl⟩
  · have hlt := (List.getElem?_eq_some_iff.1 ht).1
    obtain ⟨g, c, rfl, hg, hat⟩ := hv2.resolve_left (fun h => by rw [h.1] at hlt; simp at hlt)
    obtain ⟨t0, t1, t2⟩ := hat n t ht
    have hlz : (n : Int) < (ts.length : Int) := by omega
    have dn : decide ((n : Int) < (ts.length : Int)) = true := decide_eq_true hlz
    have hgm : g < W.heap.size := by omega
    have n0_g : g ≠ m := by omega
    have n1_g : g ≠ m + 1 := by omega
    have n2_g : g ≠ m + 2 := by omega
    clear hat hv2
    unfold bodyA evT
    simp only []
    clear ht
    go_enter Tryz.func11, Tryz.ntmps11
    go_wp2_with fail
    go_region
    go_wp2_with fail
    go_ret
    exact HE.out World.drew (.inr rfl) _ (by rw [HN.out]) (.cells #[.int .i64 t.kind, .int .i64 t.sf, .int .i64 t.st] 34) _ rfl _ rfl
  · have tne : (er != 0) = true := bne_iff_ne.2 hne
    obtain ⟨pp, c, rfl⟩ : ∃ pp c, v = .slice pp ts.length c := by
      rcases hv2 with ⟨e1, e2⟩ | ⟨g, c, e1, _⟩
      · exact ⟨none, 0, by rw [e2, e1]; rfl⟩
      · exact ⟨_, c, e1⟩
    clear hv2
    subst hnl
    unfold bodyA
    simp only []
    go_enter Tryz.func11, Tryz.ntmps11
    go_wp2_with fail
    go_ret
    exact HE.out id (.inl rfl) _ (by rw [HN.out]) (.cells #[.int .i64 0, .int .i64 p, .int .i64 p] 34) _ rfl _ rfl
end Go.Proofs.YtbbjgdnbekoaeaaGreatDoor

import Derived.Test.YtmghlaajocgoaaaGreatDoorJsH
/-! The walk of the parser's value: where it fails. -/
namespace Go.Proofs.YtmghlaajocgoaaaGreatDoor
set_option linter.unusedSimpArgs false
set_option linter.unusedVariables false
open Go.RowKit Go.Maps Go.WideMaps
open Go.Lib hiding intOf

/-- The two boxes that value makes. -/
def W1 (w : World) (P : Nat) (key : Sp) : World := (w.alloc (.cells #[.pointer (some ⟨P, 0, none⟩)] 54)).alloc (.cells #[.int .i64 (key.1 : Int), .int .i64 (key.2 : Int)] 33)
theorem W1.bel (w : World) (P : Nat) (key : Sp) : Below w.heap.size w (W1 w P key) := (below_alloc1 w _).trans ((below_alloc1 _ _).mono (by simp))
theorem W1.X (w : World) (P : Nat) (key : Sp) : (W1 w P key).heap[w.heap.size]? = some (.cells #[.pointer (some ⟨P, 0, none⟩)] 54) := by
  have h := (below_alloc1 (w.alloc (.cells #[.pointer (some ⟨P, 0, none⟩)] 54)) (.cells #[.int .i64 (key.1 : Int), .int .i64 (key.2 : Int)] 33)).block w.heap.size (by simp)
  exact h.trans (heap_alloc_new w _)
theorem W1.Y (w : World) (P : Nat) (key : Sp) : (W1 w P key).heap[w.heap.size + 1]? = some (.cells #[.int .i64 (key.1 : Int), .int .i64 (key.2 : Int)] 33) := by
  have h := heap_alloc_new (w.alloc (.cells #[.pointer (some ⟨P, 0, none⟩)] 54)) (.cells #[.int .i64 (key.1 : Int), .int .i64 (key.2 : Int)] 33)
  have e : (w.alloc (.cells #[.pointer (some ⟨P, 0, none⟩)] 54)).heap.size = w.heap.size + 1 := by simp
  rw [e] at h
  exact h
theorem cells_at2 {w : World} {X : Nat} {u v : Value} {t : TypeId} (h : w.heap[X]? = some (.cells #[u, v] t)) : w.cell? ⟨X, 0, none⟩ = some u ∧ w.cell? ⟨X, 1, none⟩ = some v := by
  have h0 := World.news_of_block h 0 u rfl
  have h1 := World.news_of_block h 1 v rfl
  have ha : ((⟨X, 0, none⟩ : Addr).add 0) = ⟨X, 0, none⟩ := by unfold Addr.add; split <;> simp_all
  have hb : ((⟨X, 0, none⟩ : Addr).add 1) = ⟨X, 1, none⟩ := by unfold Addr.add; split <;> simp_all
  rw [ha] at h0
  rw [hb] at h1
  exact ⟨h0, h1⟩
theorem VE.bad_of {B P : Nat} {txt : List UInt8} {a : Nat} {er : Int} {w w1 w' : World} {e : Ending} (h : BadE B P a er w1 e w') (hn : nodesN P w ≤ nodesN P w1) (hf : Fr B P w w1) : VE B P txt (.bad a er) w e w' :=
  ⟨h.1, h.2.1.mono hn, hf.trans h.2.2⟩
set_option maxRecDepth 100000 in
set_option maxHeartbeats 8000000 in
theorem value_form (w0 : World) (P : Nat) (txt : List UInt8) (hs : txt.length ≤ 65536) (w : World) (rest : List Tok) (l : Sp) (nodes : List NodeD) (key : Sp) (lev : Int) (h : J w0.heap.size P txt rest l nodes w) (hb : Below w0.heap.size w0 w) (hr : rest.length ≤ 65537)
    (hk : kindOfT (kindT rest) = 0) :
    Calls Tryz.prog 22 #[.pointer (some ⟨P, 0, none⟩), .int .i64 lev, .agg #[.int .i64 (key.1 : Int), .int .i64 (key.2 : Int)]] w (VE w0.heap.size P txt (.bad (hereT txt.length rest) 2) w) := by
  have h1 := h.keep (W1.bel w P key)
  have CK := Lib.hid (kind_any _ P txt rest l nodes _ h1 (by omega))
  have CO := Lib.hid (kindOf_any (kindT rest) (W1 w P key))
  rw [hk] at CO
  have CF := Lib.hid (fail_any _ P txt rest l nodes 2 _ h1 (by omega) (by omega))
  have hX := (cells_at1 (W1.X w P key)).1
  have HN := Lib.hid (Nat.le_of_eq (h.nodesN.trans h1.nodesN.symm))
  have HF := Lib.hid (Fr.of_below (P := P) (W1.bel w P key) hb.size)
  clear h h1 hb
  go_enter Tryz.func22, Tryz.ntmps22
  go_upto_region 1 with fail
  change Code.wp _ _ _ _ (W1 w P key)
  go_wp2_with fail
  refine CK.out.mono ?_
  rintro e w2 ⟨rfl, rfl⟩
  go_wp2_with fail
  refine CO.out.mono ?_
  rintro e w2 ⟨rfl, rfl⟩
  go_wp2_with fail
  refine CF.out.mono ?_
  rintro e w3 hE
  have HE := Lib.hid (VE.bad_of (txt := txt) hE HN.out HF.out)
  obtain ⟨rfl, -, -⟩ := hE
  go_wp2_with fail
  go_ret
  exact HE.out
set_option maxRecDepth 100000 in
set_option maxHeartbeats 8000000 in
theorem value_deep (w0 : World) (P : Nat) (txt : List UInt8) (hs : txt.length ≤ 65536) (w : World) (rest : List Tok) (l : Sp) (nodes : List NodeD) (key : Sp) (lev : Int) (h : J w0.heap.size P txt rest l nodes w) (hb : Below w0.heap.size w0 w) (hr : rest.length ≤ 65537)
    (hk : kindOfT (kindT rest) ≠ 0) (hlev : 32 < lev) :
    Calls Tryz.prog 22 #[.pointer (some ⟨P, 0, none⟩), .int .i64 lev, .agg #[.int .i64 (key.1 : Int), .int .i64 (key.2 : Int)]] w (VE w0.heap.size P txt (.bad (hereT txt.length rest) 5) w) := by
  have h1 := h.keep (W1.bel w P key)
  have CK := Lib.hid (kind_any _ P txt rest l nodes _ h1 (by omega))
  have CO := Lib.hid (kindOf_any (kindT rest) (W1 w P key))
  obtain ⟨q, hq⟩ : ∃ q, kindOfT (kindT rest) = q := ⟨_, rfl⟩
  rw [hq] at CO hk
  have d0 : ((q : Int) == 0) = false := beq_eq_false_iff_ne.2 (by omega)
  have d1 : decide (32 < lev) = true := decide_eq_true hlev
  have CF := Lib.hid (fail_any _ P txt rest l nodes 5 _ h1 (by omega) (by omega))
  have hX := (cells_at1 (W1.X w P key)).1
  have HN := Lib.hid (Nat.le_of_eq (h.nodesN.trans h1.nodesN.symm))
  have HF := Lib.hid (Fr.of_below (P := P) (W1.bel w P key) hb.size)
  clear h h1 hb
  go_enter Tryz.func22, Tryz.ntmps22
  go_upto_region 1 with fail
  change Code.wp _ _ _ _ (W1 w P key)
  go_wp2_with fail
  refine CK.out.mono ?_
  rintro e w2 ⟨rfl, rfl⟩
  go_wp2_with fail
  refine CO.out.mono ?_
  rintro e w2 ⟨rfl, rfl⟩
  go_wp2_with fail
  refine CF.out.mono ?_
  rintro e w3 hE
  have HE := Lib.hid (VE.bad_of (txt := txt) hE HN.out HF.out)
  obtain ⟨rfl, -, -⟩ := hE
  go_wp2_with fail
  go_ret
  exact HE.out
set_option maxRecDepth 100000 in
set_option maxHeartbeats 8000000 in
theorem value_many (w0 : World) (P : Nat) (txt : List UInt8) (hs : txt.length ≤ 65536) (w : World) (rest : List Tok) (l : Sp) (nodes : List NodeD) (key : Sp) (lev : Int) (h : J w0.heap.size P txt rest l nodes w) (hb : Below w0.heap.size w0 w) (hr : rest.length ≤ 65537)
    (hk : kindOfT (kindT rest) ≠ 0) (hlev : lev ≤ 32) (hm : nodes.length = 4096) :
    Calls Tryz.prog 22 #[.pointer (some ⟨P, 0, none⟩), .int .i64 lev, .agg #[.int .i64 (key.1 : Int), .int .i64 (key.2 : Int)]] w (VE w0.heap.size P txt (.bad (hereT txt.length rest) 6) w) := by
  have h1 := h.keep (W1.bel w P key)
  have CK := Lib.hid (kind_any _ P txt rest l nodes _ h1 (by omega))
  have CO := Lib.hid (kindOf_any (kindT rest) (W1 w P key))
  obtain ⟨q, hq⟩ : ∃ q, kindOfT (kindT rest) = q := ⟨_, rfl⟩
  rw [hq] at CO hk
  have d0 : ((q : Int) == 0) = false := beq_eq_false_iff_ne.2 (by omega)
  have d1 : decide (32 < lev) = false := decide_eq_false (by omega)
  have CF := Lib.hid (fail_any _ P txt rest l nodes 6 _ h1 (by omega) (by omega))
  have hX := (cells_at1 (W1.X w P key)).1
  have HN := Lib.hid (Nat.le_of_eq (h.nodesN.trans h1.nodesN.symm))
  have HF := Lib.hid (Fr.of_below (P := P) (W1.bel w P key) hb.size)
  obtain ⟨rv, z, nv, b1, _, b3, b4, _⟩ := h1
  obtain ⟨p0, c0, rfl⟩ := b4.slice
  have q4 := b1.cells.2.2.2.2.1
  have hz : z.length = 4096 := by rw [← hm, ← b3, List.length_map]
  rw [hz] at q4
  clear h hb b1 b3 b4 hz hm
  go_enter Tryz.func22, Tryz.ntmps22
  go_upto_region 1 with fail
  change Code.wp _ _ _ _ (W1 w P key)
  go_wp2_with fail
  refine CK.out.mono ?_
  rintro e w2 ⟨rfl, rfl⟩
  go_wp2_with fail
  refine CO.out.mono ?_
  rintro e w2 ⟨rfl, rfl⟩
  go_wp2_with fail
  refine CF.out.mono ?_
  rintro e w3 hE
  have HE := Lib.hid (VE.bad_of (txt := txt) hE HN.out HF.out)
  obtain ⟨rfl, -, -⟩ := hE
  go_wp2_with fail
  go_ret
  exact HE.out
/-- What stands behind the kids' reading, ahead of the node's end. -/
def KO (B P : Nat) (txt : List UInt8) (n : Nat) (R : JR) (b : Bool) (w : World) : Prop := match R with
  | .ok rr l ns => b = true ∧ J B P txt rr l ns w ∧ n < ns.length
  | .bad a er => b = false ∧ JBad B P (n + 1) a er w
theorem NodesAt.to {B P : Nat} {txt : List UInt8} {rv nv : Value} {l : Sp} {a : Nat} {er : Int} {z : List ND} {w : World} {n : Nat} (hb : JBox w P txt rv l nv a er) (h : NodesAt B z nv w) (hn : n < z.length) :
    ∃ g cap y, nv = .slice (some ⟨g, 0, none⟩) z.length cap ∧ z[n]? = some y ∧ w.cell? ⟨g, n * 7 + 2, none⟩ = some (.int .i64 (y.1.st : Int)) ∧ w.frozen? ⟨g, n * 7 + 2, none⟩ = false ∧ (∀ X cs t, w.heap[X]? = some (.cells cs t (0, 0)) → 37 ≠ t → X ≠ g) ∧
      JBox (w.setCell ⟨g, n * 7 + 2, none⟩ (.int .i64 (l.2 : Int))) P txt rv l nv a er ∧ (∀ rest, TV w rv rest → TV (w.setCell ⟨g, n * 7 + 2, none⟩ (.int .i64 (l.2 : Int))) rv rest) ∧
      NodesAt B (z.set n ({ y.1 with st := l.2 }, y.2)) nv (w.setCell ⟨g, n * 7 + 2, none⟩ (.int .i64 (l.2 : Int))) ∧ ∀ P', Fr B P' w (w.setCell ⟨g, n * 7 + 2, none⟩ (.int .i64 (l.2 : Int))) := by
  obtain ⟨g, cap, cur, rfl, _, hgB, hcur⟩ := h.form (fun e => by rw [e] at hn; simp at hn)
  have hy : z[n]? = some z[n] := List.getElem?_eq_getElem hn
  obtain ⟨c1, c2⟩ := h.at_ hy 2 (by omega) rfl
  have hf := h.field (y' := ({ z[n].1 with st := l.2 }, z[n].2)) hy 2 (by omega) (.int .i64 (l.2 : Int)) rfl rfl rfl rfl
  rw [List.length_set] at hf
  have hk := fun rest (ht : TV w rv rest) => rest_kept hb ht (grown_set w g (n * 7 + 2) (.int .i64 (l.2 : Int))) (fun k hk => by
    have e : g = k := Option.some.inj hk
    subst e
    exact ⟨cur, _, hcur, by decide, by decide⟩)
  refine ⟨g, cap, z[n], rfl, hy, c1, c2, fun X cs t hX hne e => ?_, ?_, fun rest ht => (hk rest ht).2, hf, fun P' => Fr.setM hcur (by decide) hgB⟩
  · subst e
    rw [hX] at hcur
    injection hcur with hcur
    injection hcur with _ hcur
    exact hne hcur.symm
  · refine ((grown_set w g (n * 7 + 2) (.int .i64 (l.2 : Int))).block P hb.lt (fun e => ?_)).trans hb
    have e : P = g := Option.some.inj e
    subst e
    unfold JBox at hb
    rw [hcur] at hb
    injection hb with hb
    injection hb with _ hb
    exact absurd hb (by decide)
theorem KO.fin {B P : Nat} {txt : List UInt8} {n : Nat} {R : JR} {b : Bool} {w : World} (h : KO B P txt n R b w) : ∃ (lt g cap len st : Nat), w.cell? ⟨P, 3, none⟩ = some (.int .i64 (lt : Int)) ∧ w.cell? ⟨P, 4, none⟩ = some (.slice (some ⟨g, 0, none⟩) len cap) ∧ n < len ∧
    w.cell? ⟨g, n * 7 + 2, none⟩ = some (.int .i64 (st : Int)) ∧ w.frozen? ⟨g, n * 7 + 2, none⟩ = false ∧ (∀ X cs t, w.heap[X]? = some (.cells cs t (0, 0)) → 37 ≠ t → X ≠ g) ∧ P ≠ g ∧
    (∀ w00, nodesN P w00 ≤ n + 1 → Fr B P w00 w → VE B P txt (endM n R) w00 (.returned (.bool b)) (w.setCell ⟨g, n * 7 + 2, none⟩ (.int .i64 (lt : Int)))) := by
  cases R with
  | ok rr l ns =>
    obtain ⟨rfl, ⟨rv, z, nv, h1, h2, rfl, h4, h5⟩, h6⟩ := h
    rw [List.length_map] at h6
    obtain ⟨g, cap, y, rfl, hy, c1, c2, hX, a1, a2, a3, a4⟩ := NodesAt.to h1 h4 h6
    obtain ⟨_, _, _, e3, e4, _⟩ := h1.cells
    refine ⟨l.2, g, cap, z.length, y.1.st, e3, e4, h6, c1, c2, hX, hX P _ _ h1 (by decide), fun w00 _ hf => ⟨rfl, ⟨rv, _, _, a1, a2 _ h2, ?_, a3, h5⟩, hf.trans (a4 P)⟩⟩
    unfold setTo
    rw [modN_set _ n _ y.1 (by rw [List.getElem?_map, hy]; rfl), List.map_set]
  | bad a er =>
    obtain ⟨rfl, txt', rv, l, z, nv, h1, h4, h5, h6⟩ := h
    obtain ⟨g, cap, y, rfl, hy, c1, c2, hX, a1, a2, a3, a4⟩ := NodesAt.to h1 h4 (show n < z.length by omega)
    obtain ⟨_, _, _, e3, e4, _⟩ := h1.cells
    exact ⟨l.2, g, cap, z.length, y.1.st, e3, e4, by omega, c1, c2, hX, hX P _ _ h1 (by decide), fun w00 hn hf => ⟨rfl, ⟨txt', rv, l, _, _, a1, a3, h5, by rw [List.length_set]; omega⟩, hf.trans (a4 P)⟩⟩
theorem kindOf_ne {k : Nat} (h4 : k ≠ 4) (h2 : k ≠ 2) : kindOfT k ≠ 5 ∧ kindOfT k ≠ 6 := by
  unfold kindOfT
  rw [if_neg h4, if_neg h2]
  constructor <;> (repeat' split) <;> decide
theorem Mid.lt {pre : List NodeD} {x : NodeD} {post nodes : List NodeD} (h : Mid pre x post nodes) : pre.length < nodes.length := by
  rw [h.1, List.length_append, List.length_cons]; omega
theorem KO.of {B P : Nat} {txt : List UInt8} {n : Nat} {R : JR} {w w' : World} {e : Ending} (h : VE B P txt R w e w') (hn : nodesN P w = n + 1) (hl : ∀ rr l ns, R = .ok rr l ns → n < ns.length) :
    ∃ b, e = .returned (.bool b) ∧ KO B P txt n R b w' ∧ Fr B P w w' := by
  cases R with
  | ok rr l ns => exact ⟨true, h.1, ⟨rfl, h.2.1, hl _ _ _ rfl⟩, h.2.2⟩
  | bad a er =>
    refine ⟨false, h.1, ⟨rfl, ?_⟩, h.2.2⟩
    have := h.2.1
    rw [hn] at this
    exact this
theorem KO.ofX {B P b0 : Nat} {txt : List UInt8} {n : Nat} {R : JR} {w w' : World} {e : Ending} (h : KE B P b0 txt R w e w') (hn : nodesN P w = n + 1) (hl : ∀ rr l ns, R = .ok rr l ns → n < ns.length) :
    ∃ b, e = .returned (.bool b) ∧ KO B P txt n R b w' ∧ FrX B P b0 w w' := by
  cases R with
  | ok rr l ns => exact ⟨true, h.1, ⟨rfl, h.2.1, hl _ _ _ rfl⟩, h.2.2⟩
  | bad a er =>
    refine ⟨false, h.1, ⟨rfl, ?_⟩, h.2.2⟩
    have := h.2.1
    rw [hn] at this
    exact this
theorem VE.drew {B P : Nat} {txt : List UInt8} {R : JR} {w w' : World} {e : Ending} (h : VE B P txt R w e w') : VE B P txt R w e w'.drew := by
  cases R with
  | ok rr l ns => exact ⟨h.1, h.2.1.keep (Below.refl _ _).drew, h.2.2.trans (Fr.of_below (Below.refl _ _).drew (by have := h.2.1.box; omega))⟩
  | bad a er =>
    obtain ⟨h1, ⟨txt', rv, l, z, nv, j1, j2, j3, j4⟩, h3⟩ := h
    exact ⟨h1, ⟨txt', rv, l, z, nv, j1.keep (Below.refl _ _).drew, j2.keep (Below.refl _ _).drew, j3, j4⟩, h3.trans (Fr.of_below (Below.refl _ _).drew (by have := j1.lt; omega))⟩
/-- A map made and boxed. -/
def WM (w : World) : World := (w.alloc (.map #[] 0)).alloc (.cells #[.map (some w.heap.size)] 68)
theorem WM.facts (w : World) : Below w.heap.size w (WM w) ∧ HM w.heap.size [] (WM w) ∧ (WM w).heap[w.heap.size + 1]? = some (.cells #[.map (some w.heap.size)] 68) := by
  have b1 := below_alloc1 w (.map #[] 0)
  have b2 := below_alloc1 (w.alloc (.map #[] 0)) (.cells #[.map (some w.heap.size)] 68)
  have hz : (w.alloc (.map #[] 0)).heap.size = w.heap.size + 1 := by simp
  have h1 := heap_alloc_new (w.alloc (.map #[] 0)) (.cells #[.map (some w.heap.size)] 68)
  rw [hz] at h1
  exact ⟨b1.trans (b2.mono (by simp)), World.ownsMap.alloc (World.ownsMap_made w _ _ _) _, h1⟩
end Go.Proofs.YtmghlaajocgoaaaGreatDoor

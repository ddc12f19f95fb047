import Derived.Test.YtmghlaajocgoaaaGreatDoorJsC
import Derived.Maps.Own
import Derived.Maps.OwnOps
import Derived.Maps.Views
import Derived.Deep.RegionHeld3
/-! The walks of the parser's item, member, and of value's closure: one kid, by what a value is. -/
namespace Go.Proofs.YtmghlaajocgoaaaGreatDoor
set_option linter.unusedSimpArgs false
set_option linter.unusedVariables false
open Go.RowKit Go.Maps Go.WideMaps
open Go.Lib hiding intOf

/-- The keys that were had, as a map reads. -/
def hadD : List (List UInt8) → DataW Unit
  | [] => .map []
  | k :: l => (hadD l).put (.string k) (.lit (.bool true))
theorem hadD_map : ∀ l, IsMap (hadD l)
  | [] => isMap_empty
  | k :: l => (hadD_map l).put _ _
theorem hadD_at (k : List UInt8) : ∀ l, (hadD l).atKey (.string k) (.lit (.bool false)) = .lit (.bool (decide (k ∈ l)))
  | [] => rfl
  | x :: l => by
    unfold hadD
    by_cases h : k = x
    · subst h
      rw [atKey_put_same (hadD_map l) (show WideAt.IsKeyLit (.string k) from trivial), decide_eq_true List.mem_cons_self]
    · rw [atKey_put_other (fun e => h (by injection e)), hadD_at k l]
      congr 2
      rw [decide_eq_decide]
      exact ⟨fun h1 => List.mem_cons_of_mem _ h1, fun h1 => (List.mem_cons.1 h1).resolve_left h⟩
def HM (b : Nat) (had : List (List UInt8)) (w : World) : Prop := w.ownsMap Tryz.prog 9 (plainElem Tryz.prog 4) b had.length (hadD had)
theorem lawK : Keyed Tryz.prog 9 := string_keyed Tryz.underlying9
theorem zeroB (w : World) : (zeroValue 4).run Tryz.prog w = .ok (.bool false) w := by kernel_rfl
theorem HM.look {b : Nat} {had : List (List UInt8)} {w : World} (h : HM b had w) (k : List UInt8) (hk : k.length ≤ 1073741824) : (Instr.lookup 68 (.map (some b)) (.string (bs k)) false).run Tryz.prog w = .ok (.bool (decide (k ∈ had))) w := by
  have hkey : keyOf Tryz.prog 9 (.string (bs k)) = some (.string k) := by
    have := keyOf_string_mk (P := Tryz.prog) Tryz.underlying9 (s := bs k) (by rw [bs_size]; unfold maxLen; omega)
    rw [bs_data] at this
    exact this
  obtain ⟨v, ps, hrun, hv⟩ := World.ownsMap.lookup h lawK Tryz.underlying68 (zeroB w) (plainElem_bool Tryz.underlying4 false) hkey
  rw [hadD_at] at hv
  have hvv : v = .bool (decide (k ∈ had)) := by
    unfold plainElem at hv
    rw [show Tryz.prog.underlying 4 = some .bool from Tryz.underlying4] at hv
    cases v <;> simp at hv
    rw [hv.1]
  rw [hrun, hvv]
theorem HM.put {b : Nat} {had : List (List UInt8)} {w w' : World} {k : List UInt8} (h : w'.ownsMap Tryz.prog 9 (plainElem Tryz.prog 4) b (had.length + 1) ((hadD had).put (.string k) (.lit (.bool true)))) : HM b (k :: had) w' := h
theorem HM.lt {b : Nat} {had : List (List UInt8)} {w : World} (h : HM b had w) : b < w.heap.size := World.ownsMap.lt h
theorem HM.obj {b : Nat} {had : List (List UInt8)} {w : World} (h : HM b had w) : ∃ es c, w.heap[b]? = some (.map es c) := by
  obtain ⟨es, c, h1, _⟩ := h
  exact ⟨es, c, h1⟩
theorem HM.same {b : Nat} {had : List (List UInt8)} {w w' : World} (h : HM b had w) (hs : w'.heap[b]? = w.heap[b]?) : HM b had w' := by
  obtain ⟨es, c, h1, h2, h3, h4⟩ := h
  exact ⟨es, c, hs.trans h1, h2, h3, h4⟩
/-- As Fr, and one block more may turn. -/
structure FrX (B P b : Nat) (w w' : World) : Prop where
  bel : Below B w w'
  sz : w.heap.size ≤ w'.heap.size
  blk : ∀ (k : Nat) (o : Obj), w.heap[k]? = some o → k ≠ P → k ≠ b → Safe o → w'.heap[k]? = some o
theorem FrX.trans {B P b : Nat} {w w1 w2 : World} (h1 : FrX B P b w w1) (h2 : FrX B P b w1 w2) : FrX B P b w w2 :=
  ⟨h1.bel.trans h2.bel, Nat.le_trans h1.sz h2.sz, fun k o hk hP hb hs => h2.blk k o (h1.blk k o hk hP hb hs) hP hb hs⟩
theorem Fr.toX {B P b : Nat} {w w' : World} (h : Fr B P w w') : FrX B P b w w' := ⟨h.bel, h.sz, fun k o hk hP _ hs => h.blk k o hk hP hs⟩
theorem FrX.grown {B P b : Nat} {w w' : World} (hg : w.grownBy w' (some b)) (hB : B ≤ w.heap.size) (hb : B ≤ b) : FrX B P b w w' :=
  ⟨(Below.refl B w).grown hg hB (fun k hk => by cases hk; exact hb), hg.size, fun k o hk _ hne _ => by rw [hg.block k (cell_it hk) (fun e => hne (Option.some.inj e))]; exact hk⟩
theorem FrX.out {B P b : Nat} {w w1 w2 : World} (h1 : Fr B P w w1) (h2 : FrX B P b w1 w2) (hb : w.heap.size ≤ b) : Fr B P w w2 :=
  ⟨h1.bel.trans h2.bel, Nat.le_trans h1.sz h2.sz, fun k o hk hP hs => h2.blk k o (h1.blk k o hk hP hs) hP (by have := cell_it hk; omega) hs⟩
theorem HM.fr {B P b : Nat} {had : List (List UInt8)} {w w' : World} (h : HM b had w) (hf : Fr B P w w') (hP : b ≠ P) : HM b had w' := by
  obtain ⟨es, c, h1⟩ := h.obj
  exact h.same ((hf.blk b _ h1 hP trivial).trans h1.symm)
/-- The map turns; the parser stays. -/
theorem J.map {B P b : Nat} {txt : List UInt8} {rest : List Tok} {l : Sp} {nodes : List NodeD} {w w' : World} (h : J B P txt rest l nodes w) {es : Array MapEntry} {c : Nat} (hb : w.heap[b]? = some (.map es c)) (hg : w.grownBy w' (some b)) : J B P txt rest l nodes w' := by
  obtain ⟨rv, z, nv, h1, h2, h3, h4, h5⟩ := h
  have hne : ∀ (k : Nat) (o : Obj), w.heap[k]? = some o → (∀ es c, o ≠ .map es c) → w'.heap[k]? = w.heap[k]? := fun k o hk ho => hg.block k (cell_it hk) (fun e => by
    have e2 : k = b := Option.some.inj e
    subst e2
    rw [hb] at hk
    exact ho es c (Option.some.inj hk).symm)
  have hrow : ∀ {e : TypeId} {s : Nat} {v : Value} {n : Nat} {xs : List Value}, w.ownsRow B e s v n xs → w'.ownsRow B e s v n xs := fun {e s v n xs} hr => hr.kept hg (by
    rcases hr.2 with ⟨rfl, _⟩ | ⟨g, cap, cur, rfl, _, hgc, _⟩
    · exact .inl rfl
    · refine .inr (fun e2 => ?_)
      have e3 : g = b := Option.some.inj e2
      subst e3
      rw [hb] at hgc
      cases hgc)
  refine ⟨rv, z, nv, ?_, h2.same (fun g cur hk => hne g _ hk (fun _ _ h => by cases h)), h3, ⟨hrow h4.row, fun y hy => hrow (h4.kids y hy), fun y hy => hrow (h4.pcs y hy), h4.ak, h4.ap⟩, h5⟩
  have := hne P _ h1 (fun _ _ h => by cases h)
  exact this.trans h1
/-- Tokens that lie in the text. -/
def TB (txt : List UInt8) (rest : List Tok) : Prop := rest.length ≤ 65537 ∧ ∀ t ∈ rest, t.sf ≤ t.st ∧ t.st ≤ txt.length
theorem TB.drop {txt : List UInt8} {rest : List Tok} (h : TB txt rest) (k : Nat) : TB txt (rest.drop k) := ⟨by rw [List.length_drop]; have := h.1; omega, fun t ht => h.2 t (List.mem_of_mem_drop ht)⟩
/-- What a value's reading leaves. -/
def VE (B P : Nat) (txt : List UInt8) (r : JR) (w : World) (e : Ending) (w' : World) : Prop := match r with
  | .ok rr l ns => e = .returned (.bool true) ∧ J B P txt rr l ns w' ∧ Fr B P w w'
  | .bad a er => BadE B P a er w e w'
def VC (w0 : World) (P : Nat) (txt : List UInt8) (lv : Nat) : Prop := ∀ (w : World) (rest : List Tok) (l : Sp) (nodes : List NodeD) (key : Sp) (lev : Int), J w0.heap.size P txt rest l nodes w → Below w0.heap.size w0 w → TB txt rest → nodes.length + rest.length ≤ 131074 → lev = 33 - (lv : Int) →
  Calls Tryz.prog 22 #[.pointer (some ⟨P, 0, none⟩), .int .i64 lev, .agg #[.int .i64 (key.1 : Int), .int .i64 (key.2 : Int)]] w (VE w0.heap.size P txt (valueM txt lv rest l nodes key) w)
theorem item_any (w0 : World) (P : Nat) (txt : List UInt8) (lv : Nat) (IH : VC w0 P txt lv) (w : World) (rest : List Tok) (l : Sp) (nodes : List NodeD) (lev : Int) (h : J w0.heap.size P txt rest l nodes w) (hb : Below w0.heap.size w0 w) (ht : TB txt rest) (hN : nodes.length + rest.length ≤ 131074) (hl : lev = 33 - (lv : Int)) :
    Calls Tryz.prog 35 #[.pointer (some ⟨P, 0, none⟩), .int .i64 lev] w (VE w0.heap.size P txt (valueM txt lv rest l nodes (0, 0)) w) := by
  have C := Lib.hid (IH w rest l nodes (0, 0) lev h hb ht hN hl)
  obtain ⟨R, hR⟩ : ∃ R, valueM txt lv rest l nodes (0, 0) = R := ⟨_, rfl⟩
  rw [hR] at C ⊢
  clear hR h hb ht hl IH
  cases R with
  | ok rr l2 ns =>
    go_enter Tryz.func35, Tryz.ntmps35
    go_wp2_with fail
    refine C.out.mono ?_
    rintro e w1 ⟨rfl, hj, hf⟩
    go_wp2_with fail
    go_ret
    exact ⟨rfl, hj, hf⟩
  | bad a er =>
    go_enter Tryz.func35, Tryz.ntmps35
    go_wp2_with fail
    refine C.out.mono ?_
    rintro e w1 ⟨rfl, hj, hf⟩
    go_wp2_with fail
    go_ret
    exact ⟨rfl, hj, hf⟩
end Go.Proofs.YtmghlaajocgoaaaGreatDoor

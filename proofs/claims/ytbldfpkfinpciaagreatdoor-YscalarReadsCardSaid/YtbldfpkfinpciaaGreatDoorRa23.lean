import Derived.Test.YtbldfpkfinpciaaGreatDoorRa22
namespace Go.Proofs.YtbldfpkfinpciaaGreatDoor
set_option linter.unusedSimpArgs false
set_option linter.unusedVariables false
set_option linter.unnecessarySimpa false
open Go.RowKit Go.Maps Go.WideMaps
open Go.Lib hiding intOf
def QBox (w : World) (P : Nat) (txt : List UInt8) (lv : Value) (k : Nat) (nv : Value) (a : Nat) (er : Int) : Prop :=
 w.heap[P]? = some (.cells #[.string (bs txt), lv, .int .i64 (k : Int), nv, .int .i64 (a : Int), .int .i64 er] 195 (0, 0))
abbrev QCells (w : World) (P : Nat) (txt : List UInt8) (lv : Value) (k : Nat) (nv : Value) (a : Nat) (er : Int) : Prop :=
 w.cell? ⟨P, 0, none⟩ = some (.string (bs txt)) ∧ w.cell? ⟨P, 1, none⟩ = some lv ∧ w.cell? ⟨P, 2, none⟩ = some (.int .i64 (k : Int)) ∧ w.cell? ⟨P, 3, none⟩ = some nv ∧ w.cell? ⟨P, 4, none⟩ = some (.int .i64 (a : Int)) ∧ w.cell? ⟨P, 5, none⟩ = some (.int .i64 er) ∧
 w.frozen? ⟨P, 1, none⟩ = false ∧ w.frozen? ⟨P, 2, none⟩ = false ∧ w.frozen? ⟨P, 3, none⟩ = false ∧ w.frozen? ⟨P, 4, none⟩ = false ∧ w.frozen? ⟨P, 5, none⟩ = false
section
variable {w w' : World} {P : Nat} {txt : List UInt8} {lv nv : Value} {k : Nat} {a : Nat} {er : Int}
theorem QBox.cells (h : QBox w P txt lv k nv a er) : QCells w P txt lv k nv a er := by
 unfold QBox at h
 refine ⟨?_, ?_, ?_, ?_, ?_, ?_, ?_, ?_, ?_, ?_, ?_⟩ <;> simp [World.cell?, World.frozen?, h]
theorem QBox.lt (h : QBox w P txt lv k nv a er) : P < w.heap.size := cell_it h
theorem QBox.keep (h : QBox w P txt lv k nv a er) (hb : Below w.heap.size w w') : QBox w' P txt lv k nv a er := (hb.block P h.lt).trans h
theorem QBox.setK (h : QBox w P txt lv k nv a er) (k2 : Nat) : QBox (w.setCell ⟨P, 2, none⟩ (.int .i64 (k2 : Int))) P txt lv k2 nv a er := by
 unfold QBox at h ⊢
 simp [World.setCell, Array.getElem?_modify, h]
theorem QBox.put (h : QBox w P txt lv k nv a er) (a2 : Nat) (e2 : Int) : QBox ((w.setCell ⟨P, 4, none⟩ (.int .i64 (a2 : Int))).setCell ⟨P, 5, none⟩ (.int .i64 e2)) P txt lv k nv a2 e2 := by
 unfold QBox at h ⊢
 simp [World.setCell, Array.getElem?_modify, h]
theorem QBox.nodes (h : QBox w P txt lv k nv a er) (nv2 : Value) : QBox (w.setCell ⟨P, 3, none⟩ nv2) P txt lv k nv2 a er := by
 unfold QBox at h ⊢
 simp [World.setCell, Array.getElem?_modify, h]
end
theorem TV.tok {w : World} {v : Value} {L : List Tok} (h : TV w v L) {j : Nat} {t : Tok} (hj : L[j]? = some t) : ∃ g o c, v = .slice (some ⟨g, o, none⟩) L.length c ∧ L.length ≤ c ∧ w.cell? ⟨g, o + j * 3, none⟩ = some (.int .i64 t.kind) ∧ w.cell? ⟨g, o + j * 3 + 1, none⟩ = some (.int .i64 t.sf) ∧ w.cell? ⟨g, o + j * 3 + 2, none⟩ = some (.int .i64 t.st) ∧ ∃ cur, w.heap[g]? = some (.cells cur 183 (0, 0)) := by
 obtain ⟨p, c, h1, h2, h3⟩ := h
 rcases h3 with rfl | ⟨g, o, cur, rfl, h4, h5⟩
 ·simp at hj
 ·obtain ⟨a, b, d⟩ := h5 j t hj
  exact ⟨g, o, c, h1, h2, a, b, d, cur, h4⟩
theorem TV.slice {w : World} {v : Value} {L : List Tok} (h : TV w v L) : ∃ p c, v = .slice p L.length c := by
 obtain ⟨p, c, h1, _⟩ := h
 exact ⟨p, c, h1⟩
def QZ (B P : Nat) (txt : List UInt8) (L : List Tok) (k : Nat) (z : List ND) (nv : Value) (w : World) : Prop := ∃ lv, QBox w P txt lv k nv 0 0 ∧ TV w lv L ∧ k ≤ L.length ∧ NodesAt B z nv w ∧ B ≤ P
def QJ (B P : Nat) (txt : List UInt8) (L : List Tok) (k : Nat) (nodes : List NodeD) (w : World) : Prop := ∃ z nv, z.map (·.1) = nodes ∧ QZ B P txt L k z nv w
section
variable {B P : Nat} {txt : List UInt8} {L : List Tok} {k : Nat} {z : List ND} {nv : Value} {nodes : List NodeD} {w w' : World}
theorem QZ.keep (h : QZ B P txt L k z nv w) (hb : Below w.heap.size w w') : QZ B P txt L k z nv w' := by
 obtain ⟨lv, h1, h2, h3, h4, h5⟩ := h
 exact ⟨lv, h1.keep hb, h2.keep hb, h3, h4.keep hb, h5⟩
theorem QJ.keep (h : QJ B P txt L k nodes w) (hb : Below w.heap.size w w') : QJ B P txt L k nodes w' := by
 obtain ⟨z, nv, h1, h2⟩ := h
 exact ⟨z, nv, h1, h2.keep hb⟩
theorem QZ.toJ (h : QZ B P txt L k z nv w) : QJ B P txt L k (z.map (·.1)) w := ⟨z, nv, rfl, h⟩
theorem QJ.le (h : QJ B P txt L k nodes w) : k ≤ L.length := by
 obtain ⟨z, nv, _, lv, _, _, h3, _⟩ := h
 exact h3
theorem QJ.ptr (h : QJ B P txt L k nodes w) : P < w.heap.size ∧ B ≤ P := by
 obtain ⟨z, nv, _, lv, h1, _, _, _, h5⟩ := h
 exact ⟨h1.lt, h5⟩
end
def qN (P : Nat) (w : World) : Nat := match w.cell? ⟨P, 3, none⟩ with
 | some (.slice _ n _) => n
 | _ => 0
theorem QJ.qN {B P : Nat} {txt : List UInt8} {L : List Tok} {k : Nat} {nodes : List NodeD} {w : World} (h : QJ B P txt L k nodes w) : qN P w = nodes.length := by
 obtain ⟨z, nv, h3, lv, h1, h2, _, h4, h5⟩ := h
 obtain ⟨p, c, rfl⟩ := h4.slice
 have := h1.cells.2.2.2.1
 unfold Go.Proofs.YtbldfpkfinpciaaGreatDoor.qN
 rw [this, ← h3, List.length_map]
def QBad (B P N : Nat) (a : Nat) (er : Int) (w : World) : Prop := ∃ txt lv k z nv, QBox w P txt lv k nv a er ∧ NodesAt B z nv w ∧ B ≤ P ∧ N ≤ z.length
theorem QBad.mono {B P N M : Nat} {a : Nat} {er : Int} {w : World} (h : QBad B P N a er w) (hm : M ≤ N) : QBad B P M a er w := by
 obtain ⟨txt, lv, k, z, nv, h1, h2, h3, h4⟩ := h
 exact ⟨txt, lv, k, z, nv, h1, h2, h3, Nat.le_trans hm h4⟩
theorem QBad.keep {B P N : Nat} {a : Nat} {er : Int} {w w' : World} (h : QBad B P N a er w) (hb : Below w.heap.size w w') : QBad B P N a er w' := by
 obtain ⟨txt, lv, k, z, nv, h1, h2, h3, h4⟩ := h
 exact ⟨txt, lv, k, z, nv, h1.keep hb, h2.keep hb, h3, h4⟩
abbrev OnlyP (P : Nat) (w w' : World) : Prop := w.grownBy w' (some P)
theorem OnlyP.of_below {P : Nat} {w w' : World} (h : Below w.heap.size w w') : OnlyP P w w' := ⟨h.os, h.tape, h.output, h.size, fun g hg _ => h.block g hg⟩
theorem OnlyP.new {P X i : Nat} {w w1 : World} {u : Value} (h : OnlyP P w w1) (hX : w.heap.size ≤ X) : OnlyP P w (w1.setCell ⟨X, i, none⟩ u) :=
 ⟨h.os, h.tape, h.output, by have := h.size; simp [World.setCell]; exact this, fun g hg hne => by rw [Below.heap_setCell w1 ⟨X, i, none⟩ u g (by simp; omega)]; exact h.block g hg hne⟩
theorem OnlyP.fr {B P : Nat} {w w' : World} (h : OnlyP P w w') (hBP : B ≤ P) (hB : B ≤ w.heap.size) : Fr B P w w' := Fr.ofP h hBP hB
theorem NodesAt.only {B P : Nat} {z : List ND} {nv : Value} {w w' : World} {txt : List UInt8} {lv nv2 : Value} {k a : Nat} {er : Int} (h : NodesAt B z nv w) (hb : QBox w P txt lv k nv2 a er) (hg : OnlyP P w w') : NodesAt B z nv w' :=
 h.other hb (by decide) (by decide) (by decide) hg
theorem QBad.of {B P : Nat} {txt : List UInt8} {L : List Tok} {k k2 : Nat} {z : List ND} {nv : Value} {w w' : World} {lv2 : Value} {txt2 : List UInt8} {a : Nat} {er : Int} (h : QZ B P txt L k z nv w) (hg : OnlyP P w w') (hb : QBox w' P txt2 lv2 k2 nv a er) : QBad B P z.length a er w' := by
 obtain ⟨lv, h1, h2, h3, h4, h5⟩ := h
 exact ⟨_, _, _, z, nv, hb, h4.only h1 hg, h5, Nat.le_refl _⟩
theorem drop_at {L : List Tok} {k : Nat} {t : Tok} (h : L[k]? = some t) : L.drop k = t :: L.drop (k + 1) := by
 have hk := (List.getElem?_eq_some_iff.1 h).1
 rw [List.drop_eq_getElem_cons hk]
 rw [List.getElem?_eq_getElem hk] at h
 rw [Option.some.inj h]
theorem qkind_any (B P : Nat) (txt : List UInt8) (L : List Tok) (k : Nat) (nodes : List NodeD) (w : World) (h : QJ B P txt L k nodes w) (hL : L.length ≤ 1073741824) :
  Calls Tryz.prog 218 #[.pointer (some ⟨P, 0, none⟩)] w fun e w' => e = .returned (.int .i64 (kindT (L.drop k) : Int)) ∧ Below w.heap.size w w' := by
 have hle := h.le
 obtain ⟨z, nv, _, lv, hb, ht, _⟩ := h
 obtain ⟨c0, c1, c2, c3, c4, c5, _⟩ := hb.cells
 have hk0 : (0 : Int) ≤ (k : Int) := by omega
 have HB := Lib.hid (Below.refl w.heap.size w)
 by_cases hk : k < L.length
 ·obtain ⟨t, hLt⟩ : ∃ t, L[k]? = some t := ⟨_, List.getElem?_eq_getElem hk⟩
  obtain ⟨g, o, c, rfl, hc, k0, k1, k2, _⟩ := ht.tok hLt
  have e : kindT (L.drop k) = t.kind := by rw [drop_at hLt]; rfl
  rw [e]
  have d0 : decide ((L.length : Int) ≤ (k : Int)) = false := decide_eq_false (by omega)
  have d1 : decide (L.length ≤ k) = false := decide_eq_false (by omega)
  have hk1 : (k : Int) < (L.length : Int) := by omega
  clear hb ht hLt e
  go_enter Tryz.func218, Tryz.ntmps218
  go_wp2_with fail
  go_region
  go_wp2_with fail
  go_region
  go_wp2_with fail
  go_ret
  exact ⟨rfl, HB.out.drew.drew⟩
 ·have e : kindT (L.drop k) = 0 := by rw [List.drop_of_length_le (by omega)]; rfl
  rw [e]
  obtain ⟨p, c, rfl⟩ := ht.slice
  have d0 : decide ((L.length : Int) ≤ (k : Int)) = true := decide_eq_true (by omega)
  have d1 : decide (L.length ≤ k) = true := decide_eq_true (by omega)
  clear hb ht e
  go_enter Tryz.func218, Tryz.ntmps218
  go_wp2_with fail
  go_region
  go_wp2_with fail
  go_ret
  exact ⟨rfl, HB.out.drew⟩
theorem qhere_any (B P : Nat) (txt : List UInt8) (L : List Tok) (k : Nat) (nodes : List NodeD) (w : World) (h : QJ B P txt L k nodes w) (hL : L.length ≤ 1073741824) (hs : txt.length ≤ 1073741824) :
  Calls Tryz.prog 220 #[.pointer (some ⟨P, 0, none⟩)] w fun e w' => e = .returned (.int .i64 (hereT txt.length (L.drop k) : Int)) ∧ Below w.heap.size w w' := by
 have hle := h.le
 have sl := bs_size txt
 obtain ⟨z, nv, _, lv, hb, ht, _⟩ := h
 obtain ⟨c0, c1, c2, c3, c4, c5, _⟩ := hb.cells
 have hk0 : (0 : Int) ≤ (k : Int) := by omega
 have HB := Lib.hid (Below.refl w.heap.size w)
 by_cases hk : k < L.length
 ·obtain ⟨t, hLt⟩ : ∃ t, L[k]? = some t := ⟨_, List.getElem?_eq_getElem hk⟩
  obtain ⟨g, o, c, rfl, hc, k0, k1, k2, _⟩ := ht.tok hLt
  have e : hereT txt.length (L.drop k) = t.sf := by rw [drop_at hLt]; rfl
  rw [e]
  have d0 : decide ((L.length : Int) ≤ (k : Int)) = false := decide_eq_false (by omega)
  have d1 : decide (L.length ≤ k) = false := decide_eq_false (by omega)
  have hk1 : (k : Int) < (L.length : Int) := by omega
  clear hb ht hLt e
  go_enter Tryz.func220, Tryz.ntmps220
  go_wp2_with fail
  go_region
  go_wp2_with fail
  go_region
  go_wp2_with fail
  go_ret
  exact ⟨rfl, HB.out.drew.drew⟩
 ·have e : hereT txt.length (L.drop k) = txt.length := by rw [List.drop_of_length_le (by omega)]; rfl
  rw [e]
  obtain ⟨p, c, rfl⟩ := ht.slice
  have d0 : decide ((L.length : Int) ≤ (k : Int)) = true := decide_eq_true (by omega)
  have d1 : decide (L.length ≤ k) = true := decide_eq_true (by omega)
  clear hb ht e
  go_enter Tryz.func220, Tryz.ntmps220
  go_wp2_with fail
  go_region
  go_wp2_with fail
  go_ret
  exact ⟨rfl, HB.out.drew⟩
theorem qwrong_any (B P : Nat) (txt : List UInt8) (L : List Tok) (k : Nat) (z : List ND) (nv : Value) (er : Int) (w : World) (h : QZ B P txt L k z nv w) (hL : L.length ≤ 1073741824) (hs : txt.length ≤ 1073741824) :
  Calls Tryz.prog 172 #[.pointer (some ⟨P, 0, none⟩), .int .i64 er] w (fun e w' => e = .returned (.bool false) ∧ (∃ lv, QBox w' P txt lv k nv (hereT txt.length (L.drop k)) er) ∧ OnlyP P w w') := by
 have C := Lib.hid (qhere_any B P txt L k _ w h.toJ hL hs)
 have HJ := Lib.hid h
 clear h
 go_enter Tryz.func172, Tryz.ntmps172
 go_wp2_with fail
 refine C.out.mono ?_
 rintro e w1 ⟨rfl, hb1⟩
 obtain ⟨lv, hb, ht, hk, hna, hBP⟩ := HJ.out.keep hb1
 obtain ⟨c0, c1, c2, c3, c4, c5, f1, f2, f3, f4, f5⟩ := hb.cells
 have HP := Lib.hid (hb.put (hereT txt.length (L.drop k)) er)
 have HO : Hid (OnlyP P w ((w1.setCell ⟨P, 4, none⟩ (.int .i64 (hereT txt.length (L.drop k) : Int))).setCell ⟨P, 5, none⟩ (.int .i64 er))) := Lib.hid (grown_trans (OnlyP.of_below hb1) (grown_trans (grown_set w1 P 4 _) (grown_set _ P 5 _)))
 clear hb ht hna hb1
 go_wp2_with fail
 go_ret
 exact ⟨rfl, ⟨_, HP.out⟩, HO.out⟩
theorem QZ.step {B P : Nat} {txt : List UInt8} {L : List Tok} {k : Nat} {z : List ND} {nv : Value} {w : World} (h : QZ B P txt L k z nv w) (hk : k < L.length) : QZ B P txt L (k + 1) z nv (w.setCell ⟨P, 2, none⟩ (.int .i64 ((k + 1 : Nat) : Int))) := by
 obtain ⟨lv, hb, ht, _, hn, hBP⟩ := h
 refine ⟨lv, hb.setK (k + 1), ht.same (fun g cur hg => ?_), hk, hn.other hb (by decide) (by decide) (by decide) (grown_set w P 2 _), hBP⟩
 refine (grown_set w P 2 (.int .i64 ((k + 1 : Nat) : Int))).block g (cell_it hg) (fun e => ?_)
 have e2 : g = P := Option.some.inj e
 subst e2
 unfold QBox at hb
 rw [hb] at hg
 injection hg with hg
 injection hg with _ hg
 exact absurd hg (by decide)
theorem kindT_lt {L : List Tok} {k : Nat} (h : kindT (L.drop k) ≠ 0) : k < L.length := by
 apply Classical.byContradiction
 intro hk
 rw [List.drop_of_length_le (by omega)] at h
 exact h rfl
theorem qsign_yes (B P : Nat) (txt : List UInt8) (L : List Tok) (k : Nat) (z : List ND) (nv : Value) (w : World) (h : QZ B P txt L k z nv w) (hL : L.length ≤ 1073741824) (kd : Nat) (hkd : kindT (L.drop k) = kd) (h0 : kd ≠ 0) :
  Calls Tryz.prog 278 #[.pointer (some ⟨P, 0, none⟩), .int .i64 (kd : Int)] w fun e w' => e = .returned (.bool true) ∧ QZ B P txt L (k + 1) z nv w' ∧ OnlyP P w w' := by
 have hlt := kindT_lt (L := L) (k := k) (by rw [hkd]; exact h0)
 have C := Lib.hid (qkind_any B P txt L k _ w h.toJ hL)
 rw [hkd] at C
 have HJ := Lib.hid h
 have d0 : ((kd : Int) != (kd : Int)) = false := by simp
 clear h hkd
 go_enter Tryz.func278, Tryz.ntmps278
 go_wp2_with fail
 refine C.out.mono ?_
 rintro e w1 ⟨rfl, hb1⟩
 have hj1 := HJ.out.keep hb1
 have hj2 := hj1.step hlt
 obtain ⟨lv, hb, ht, hk, hna, hBP⟩ := hj1
 obtain ⟨c0, c1, c2, c3, c4, c5, f1, f2, f3, f4, f5⟩ := hb.cells
 have HJ2 := Lib.hid hj2
 have HO2 : Hid (OnlyP P w (w1.setCell ⟨P, 2, none⟩ (.int .i64 ((k + 1 : Nat) : Int)))) := Lib.hid (grown_trans (OnlyP.of_below hb1) (grown_set w1 P 2 _))
 have ek : ((k + 1 : Nat) : Int) = (k : Int) + 1 := by omega
 rw [ek] at HJ2 HO2
 clear hb ht hna hb1 hj2 ek
 go_wp2_with fail
 go_ret
 exact ⟨rfl, HJ2.out, HO2.out⟩
theorem qsign_no (B P : Nat) (txt : List UInt8) (L : List Tok) (k : Nat) (z : List ND) (nv : Value) (w : World) (h : QZ B P txt L k z nv w) (hL : L.length ≤ 1073741824) (hs : txt.length ≤ 1073741824) (kd : Nat) (hkd : kindT (L.drop k) ≠ kd) :
  Calls Tryz.prog 278 #[.pointer (some ⟨P, 0, none⟩), .int .i64 (kd : Int)] w (fun e w' => e = .returned (.bool false) ∧ (∃ lv, QBox w' P txt lv k nv (hereT txt.length (L.drop k)) 2) ∧ OnlyP P w w') := by
 obtain ⟨q, hq⟩ : ∃ q, kindT (L.drop k) = q := ⟨_, rfl⟩
 have C := Lib.hid (qkind_any B P txt L k _ w h.toJ hL)
 rw [hq] at C hkd
 have HJ := Lib.hid h
 have d0 : ((q : Int) != (kd : Int)) = true := bne_iff_ne.2 (by omega)
 have d1 : (q != kd) = true := bne_iff_ne.2 hkd
 clear h hkd hq
 go_enter Tryz.func278, Tryz.ntmps278
 go_wp2_with fail
 refine C.out.mono ?_
 rintro e w1 ⟨rfl, hb1⟩
 have CW := Lib.hid (qwrong_any B P txt L k z nv 2 w1 (HJ.out.keep hb1) hL hs)
 have HO := Lib.hid (OnlyP.of_below (P := P) hb1)
 clear hb1
 go_wp2_with fail
 refine CW.out.mono ?_
 rintro e w2 ⟨rfl, hj, ho⟩
 have HJ2 := Lib.hid hj
 have HO2 := Lib.hid (grown_trans HO.out ho)
 clear hj ho
 go_wp2_with fail
 go_ret
 exact ⟨rfl, HJ2.out, HO2.out⟩
def scalarT (k : Nat) : Nat := if k = 12 then 1 else if k = 10 ∨ k = 11 then 2 else if k = 9 then 3 else if k = 8 then 4 else 0
theorem scalarT_kind (k : Nat) : kindOfT k = if k = 2 then 6 else if k = 4 then 5 else scalarT k := by
 unfold kindOfT scalarT
 by_cases h2 : k = 2
 ·subst h2; rfl
 by_cases h4 : k = 4
 ·subst h4; rfl
 rw [if_neg h2, if_neg h4]
 simp only [h4, h2, if_false]
theorem qscalar_any (k : Nat) (w : World) : Calls Tryz.prog 217 #[.int .i64 (k : Int)] w fun e w' => e = .returned (.int .i64 (scalarT k : Int)) ∧ w = w' := by
 unfold scalarT
 by_cases h12 : k = 12
 ·subst h12
  go_enter Tryz.func217, Tryz.ntmps217
  go_wp2_with fail
  go_ret
  exact ⟨rfl, rfl⟩
 have d12 : ((k : Int) == 12) = false := beq_eq_false_iff_ne.2 (by omega)
 rw [if_neg h12]
 by_cases h10 : k = 10
 ·subst h10
  go_enter Tryz.func217, Tryz.ntmps217
  go_wp2_with fail
  go_ret
  exact ⟨rfl, rfl⟩
 have d10 : ((k : Int) == 10) = false := beq_eq_false_iff_ne.2 (by omega)
 by_cases h11 : k = 11
 ·subst h11
  go_enter Tryz.func217, Tryz.ntmps217
  go_wp2_with fail
  go_ret
  exact ⟨rfl, rfl⟩
 have d11 : ((k : Int) == 11) = false := beq_eq_false_iff_ne.2 (by omega)
 rw [if_neg (by omega)]
 by_cases h9 : k = 9
 ·subst h9
  go_enter Tryz.func217, Tryz.ntmps217
  go_wp2_with fail
  go_ret
  exact ⟨rfl, rfl⟩
 have d9 : ((k : Int) == 9) = false := beq_eq_false_iff_ne.2 (by omega)
 rw [if_neg h9]
 by_cases h8 : k = 8
 ·subst h8
  go_enter Tryz.func217, Tryz.ntmps217
  go_wp2_with fail
  go_ret
  exact ⟨rfl, rfl⟩
 have d8 : ((k : Int) == 8) = false := beq_eq_false_iff_ne.2 (by omega)
 rw [if_neg h8]
 clear h12 h10 h11 h9 h8
 go_enter Tryz.func217, Tryz.ntmps217
 go_wp2_with fail
 go_ret
 exact ⟨rfl, rfl⟩
def strCellsQ (hm : List (List UInt8)) : List Value := hm.map fun s => .string (bs s)
def HadV (B : Nat) (w : World) (v : Value) (hm : List (List UInt8)) : Prop := w.ownsRow B 9 1 v hm.length (strCellsQ hm)
theorem HadV.fr {B B2 P : Nat} {w w' : World} {v : Value} {hm : List (List UInt8)} (h : HadV B w v hm) (hf : Fr B2 P w w') (hP : ∀ cs t fz, w.heap[P]? = some (.cells cs t fz) → t ≠ 9) : HadV B w' v hm := by
 refine ⟨h.1, ?_⟩
 rcases h.2 with h2 | ⟨g, cap, cur, h2, h3, h4, h5⟩
 ·exact .inl h2
 ·exact .inr ⟨g, cap, cur, h2, h3, hf.blk g _ h4 (fun e => by subst e; exact hP _ _ _ h4 rfl) (show mutT 9 = false by decide), h5⟩
theorem HadV.keep {B : Nat} {w w' : World} {v : Value} {hm : List (List UInt8)} (h : HadV B w v hm) (hb : Below w.heap.size w w') : HadV B w' v hm := owns_below h hb
inductive KR where
 | bad (a : Nat) (er : Int)
 | ok (key : List UInt8) (t : Tok)
def keyR (txt : List UInt8) (hm : List (List UInt8)) : List Tok → KR
 | [] => .bad txt.length 2
 | t :: r => if t.kind ≠ 8 then .bad t.sf 2 else if (unqL ((txt.drop t.sf).take (t.st - t.sf))).1 ∈ hm then .bad t.sf 7 else
  match r with
  | [] => .bad txt.length 2
  | c :: _ => if c.kind ≠ 7 then .bad c.sf 2 else .ok (unqL ((txt.drop t.sf).take (t.st - t.sf))).1 t
theorem cells_of2 {w : World} {X : Nat} {u v : Value} {t : TypeId} (h : w.heap[X]? = some (.cells #[u, v] t)) : w.cell? ⟨X, 0, none⟩ = some u ∧ w.cell? ⟨X, 1, none⟩ = some v ∧ w.frozen? ⟨X, 0, none⟩ = false ∧ w.frozen? ⟨X, 1, none⟩ = false := by
 refine ⟨?_, ?_, ?_, ?_⟩ <;> simp [World.cell?, World.frozen?, h]
def QKE (B P : Nat) (txt : List UInt8) (L : List Tok) (k : Nat) (z : List ND) (nv : Value) (r : KR) (w : World) (e : Ending) (w' : World) : Prop := match r with
 | .bad a er => (∃ s x y, e = .returned (.tuple #[.string s, .agg #[.int .i64 x, .int .i64 y], .bool false])) ∧ QBad B P z.length a er w' ∧ OnlyP P w w'
 | .ok key t => e = .returned (.tuple #[.string (bs key), .agg #[.int .i64 (t.sf : Int), .int .i64 (t.st : Int)], .bool true]) ∧ QZ B P txt L (k + 2) z nv w' ∧ OnlyP P w w'
theorem QBox.off {w : World} {P X i : Nat} {txt : List UInt8} {lv nv : Value} {k a : Nat} {er : Int} {u : Value} (h : QBox w P txt lv k nv a er) (hX : X ≠ P) : QBox (w.setCell ⟨X, i, none⟩ u) P txt lv k nv a er := by
 unfold QBox at h ⊢
 rw [Below.heap_setCell w ⟨X, i, none⟩ u P (fun e => hX e.symm)]
 exact h
theorem QZ.off {B P X i : Nat} {txt : List UInt8} {L : List Tok} {k : Nat} {z : List ND} {nv : Value} {w0 w1 : World} {u : Value} {k0 : Nat} {cs : Array Value} (h0 : QZ B P txt L k0 z nv w0) (hw : OnlyP P w0 w1) (h : QZ B P txt L k z nv w1) (hX : w0.heap.size ≤ X) (hXs : w1.heap[X]? = some (.cells cs 42)) : QZ B P txt L k z nv (w1.setCell ⟨X, i, none⟩ u) := by
 obtain ⟨lv0, hb0, ht0, hk0, hn0, hB0⟩ := h0
 obtain ⟨lv, hb, ht, hk, hn, hB⟩ := h
 have hPX : X ≠ P := by have := hb0.lt; omega
 have hg : OnlyP P w0 (w1.setCell ⟨X, i, none⟩ u) := OnlyP.new hw hX
 refine ⟨lv, hb.off hPX, ht.same (fun g cur hg2 => ?_), hk, hn0.only hb0 hg, hB0⟩
 refine Below.heap_setCell w1 ⟨X, i, none⟩ u g (fun e => ?_)
 have e2 : g = X := e
 subst e2
 rw [hXs] at hg2
 injection hg2 with hg2
 injection hg2 with _ hg2
 exact absurd hg2 (by decide)
set_option maxRecDepth 100000 in
set_option maxHeartbeats 8000000 in
theorem qkey_any (B P : Nat) (txt : List UInt8) (L : List Tok) (k : Nat) (z : List ND) (nv : Value) (w : World) (h : QZ B P txt L k z nv w) (Bh : Nat) (hv : Value) (hm : List (List UInt8)) (hH : HadV Bh w hv hm) (hL : L.length ≤ 65536) (hs : txt.length ≤ 65536) (hTB : ∀ t ∈ L, t.sf ≤ t.st ∧ t.st ≤ txt.length) (hml : hm.length ≤ 65537) :
  Calls Tryz.prog 251 #[.pointer (some ⟨P, 0, none⟩), hv] w (QKE B P txt L k z nv (keyR txt hm (L.drop k)) w) := by
 have b0 := below_alloc1 w (.cells #[.int .i64 0, .int .i64 0] 42)
 have hX0 := heap_alloc_new w (.cells #[.int .i64 0, .int .i64 0] 42)
 obtain ⟨W, hW⟩ : ∃ W, w.alloc (.cells #[.int .i64 0, .int .i64 0] 42) = W := ⟨_, rfl⟩
 obtain ⟨X, hX⟩ : ∃ X, w.heap.size = X := ⟨_, rfl⟩
 rw [hW] at b0 hX0
 rw [hX] at hX0
 have hJ0 := h.keep b0
 have HJW := Lib.hid h
 have HJ0 := Lib.hid hJ0
 have HH0 := Lib.hid (hH.keep b0)
 have HX0 := Lib.hid hX0
 have HO0 := Lib.hid (OnlyP.of_below (P := P) b0)
 have hXl : w.heap.size ≤ X := Nat.le_of_eq hX
 have CK := Lib.hid (qkind_any B P txt L k _ W hJ0.toJ (by omega))
 have hXP : X ≠ P := by obtain ⟨lv, hb, _⟩ := h; have := hb.lt; omega
 have HXl := Lib.hid hXl
 by_cases h8 : kindT (L.drop k) = 8
 case neg =>
  have hr : keyR txt hm (L.drop k) = .bad (hereT txt.length (L.drop k)) 2 := by
   cases hd : L.drop k with
   | nil => rfl
   | cons t r =>
    rw [hd] at h8
    exact if_pos (show t.kind ≠ 8 from h8)
  rw [hr]
  obtain ⟨q, hq⟩ : ∃ q, kindT (L.drop k) = q := ⟨_, rfl⟩
  rw [hq] at CK h8
  have d0 : ((q : Int) != 8) = true := bne_iff_ne.2 (by omega)
  clear hX0 hJ0 b0 h hq h8 hr hH hXl
  go_enter Tryz.func251, Tryz.ntmps251
  go_upto_region 1 with fail
  go_wp2_with fail
  refine CK.out.mono ?_
  rintro e w1 ⟨rfl, hb1⟩
  have CW := Lib.hid (qwrong_any B P txt L k z nv 2 w1 (HJ0.out.keep hb1) (by omega) (by omega))
  have HO1 := Lib.hid (grown_trans HO0.out (OnlyP.of_below (P := P) hb1))
  have HX1 := Lib.hid ((hb1.block _ (cell_it HX0.out)).trans HX0.out)
  clear hb1 CK
  go_wp2_with fail
  refine CW.out.mono ?_
  rintro e w2 ⟨rfl, ⟨lv2, hj⟩, ho⟩
  have hx2 := (ho.block X (cell_it HX1.out) (by simpa using hXP)).trans HX1.out
  obtain ⟨x0, x1, fx0, fx1⟩ := cells_of2 hx2
  have HJ2 := Lib.hid hj
  have HO2 := Lib.hid (grown_trans HO1.out ho)
  have HX2 := Lib.hid hx2
  clear hj ho hx2
  go_wp2_with fail
  have HX3 := Lib.hid (box_set (box_set HX2.out 0 (.int .i64 0)) 1 (.int .i64 0))
  have HO3 := Lib.hid (OnlyP.new (i := 1) (u := .int .i64 0) (OnlyP.new (i := 0) (u := .int .i64 0) HO2.out HXl.out) HXl.out)
  have HJ3 := Lib.hid ((HJ2.out.off (i := 0) (u := .int .i64 0) hXP).off (i := 1) (u := .int .i64 0) hXP)
  obtain ⟨W3, hW3⟩ : ∃ W, (w2.setCell ⟨X, 0, none⟩ (.int .i64 0)).setCell ⟨X, 1, none⟩ (.int .i64 0) = W := ⟨_, rfl⟩
  rw [hW3] at HX3 HO3 HJ3
  rw [hW3]
  obtain ⟨d0, d1, _, _⟩ := cells_of2 HX3.out
  refine bodyPost_ret (v := .tuple #[.string ⟨#[]⟩, .agg #[.int .i64 0, .int .i64 0], .bool false]) ?_ rfl ⟨⟨_, _, _, rfl⟩, QBad.of HJW.out HO3.out HJ3.out, HO3.out⟩
  simp [results, Tryz.results251, go_sem, d0, d1]
 have hlt := kindT_lt (L := L) (k := k) (by rw [h8]; decide)
 obtain ⟨t, hLt⟩ : ∃ t, L[k]? = some t := ⟨_, List.getElem?_eq_getElem hlt⟩
 have hdr := drop_at hLt
 obtain ⟨hss, hst⟩ := hTB t (List.mem_of_getElem? hLt)
 obtain ⟨U, hU⟩ : ∃ U, unqL ((txt.drop t.sf).take (t.st - t.sf)) = U := ⟨_, rfl⟩
 obtain ⟨key, un, ue⟩ := U
 have ht8 : t.kind = 8 := by rw [hdr] at h8; exact h8
 have hKR : keyR txt hm (L.drop k) = if key ∈ hm then .bad t.sf 7 else
   match L.drop (k + 1) with
   | [] => .bad txt.length 2
   | c :: _ => if c.kind ≠ 7 then .bad c.sf 2 else .ok key t := by
  rw [hdr]
  unfold keyR
  simp only [ht8]
  rw [if_neg (by simp), hU]
 have HKR := Lib.hid hKR
 have CU : Hid (∀ w', Calls Tryz.prog 61 #[.string ((bs txt).extract t.sf t.st)] w' fun e w2 => e = .returned (.tuple #[.string (bs key), .int .i64 un, .int .i64 ue]) ∧ Below w'.heap.size w' w2) := Lib.hid (fun w' => by
  have := refUnquote_any ((txt.drop t.sf).take (t.st - t.sf)) w' (by rw [List.length_take, List.length_drop]; omega)
  rw [hU] at this
  have e : (bs txt).extract t.sf t.st = bs ((txt.drop t.sf).take (t.st - t.sf)) := by rw [bs_extract, bs_data]
  rw [e]
  exact this)
 have i1 : (0 : Int) ≤ (t.sf : Int) := by omega
 have i2 : (t.sf : Int) ≤ (t.st : Int) := by omega
 have i3 : (t.st : Int) ≤ (txt.length : Int) := by omega
 have sl := bs_size txt
 have hk0 : (0 : Int) ≤ (k : Int) := by omega
 have hk1 : (k : Int) < (L.length : Int) := by omega
 rw [h8] at CK
 have HLt := Lib.hid hLt
 have HDR := Lib.hid hdr
 clear hX0 hJ0 b0 h h8 hH hXl hKR hU hdr ht8 hLt
 go_enter Tryz.func251, Tryz.ntmps251
 go_upto_region 1 with fail
 go_wp2_with fail
 refine CK.out.mono ?_
 rintro e w1 ⟨rfl, hb1⟩
 have HO1 := Lib.hid (grown_trans HO0.out (OnlyP.of_below (P := P) hb1))
 have HX1 := Lib.hid ((hb1.block _ (cell_it HX0.out)).trans HX0.out)
 have HJ1 := Lib.hid (HJ0.out.keep hb1)
 have HH1 := Lib.hid (HH0.out.keep hb1)
 clear hb1 CK
 obtain ⟨lv, qb, qt, _⟩ := HJ1.out
 obtain ⟨c0, c1, c2, c3, c4, c5, f1, f2, f3, f4, f5⟩ := qb.cells
 obtain ⟨g, o, c, rfl, hc, t0, t1, t2, _⟩ := qt.tok HLt.out
 have lP := qb.lt
 have lg := World.block_lt_of_cell? w1 _ t0
 simp only [] at lg
 clear qb qt
 go_upto_region 3 with fail
 go_region
 have b2 : Below w1.heap.size w1 (w1.alloc (.cells #[.int .i64 (t.sf : Int), .int .i64 (t.st : Int)] 42)).drew := ((Below.refl _ _).alloc (Nat.le_refl _) _).drew
 have hY : (w1.alloc (.cells #[.int .i64 (t.sf : Int), .int .i64 (t.st : Int)] 42)).drew.heap[w1.heap.size]? = some (.cells #[.int .i64 (t.sf : Int), .int .i64 (t.st : Int)] 42) := heap_alloc_new w1 _
 obtain ⟨Y, hYe⟩ : ∃ Y, w1.heap.size = Y := ⟨_, rfl⟩
 obtain ⟨W2, hW2⟩ : ∃ W, (w1.alloc (.cells #[.int .i64 (t.sf : Int), .int .i64 (t.st : Int)] 42)).drew = W := ⟨_, rfl⟩
 rw [hW2] at b2 hY
 rw [hYe] at hY
 rw [hW2, hYe]
 have hXl1 := cell_it HX1.out
 have hPY : Y ≠ P := by omega
 have hXY : X ≠ Y := by omega
 have HO2 := Lib.hid (grown_trans HO1.out (OnlyP.of_below (P := P) b2))
 have HX2 := Lib.hid ((b2.block _ (cell_it HX1.out)).trans HX1.out)
 have HJ2 := Lib.hid (HJ1.out.keep b2)
 have HH2 := Lib.hid (HH1.out.keep b2)
 have HY2 := Lib.hid hY
 clear b2 hY hW2 hYe c0 c1 c2 c3 c4 c5 f1 f2 f3 f4 f5 t0 t1 t2 lP lg hXl1
 obtain ⟨lv2, qb, _⟩ := HJ2.out
 have q0 := qb.cells.1
 obtain ⟨y0, y1⟩ := cells_at2 HY2.out
 have hS : SpH W2 Y P txt t W2 := ⟨q0, y0, y1, Lib.hid ⟨Below.refl _ _, qb.lt, cell_it HY2.out⟩⟩
 clear qb q0 y0 y1
 go_wp2_with fail
 go_region_held3 (fun w' => SpH W2 Y P txt t w') ((first | exact SpH.drew (by assumption) | exact SpH.step (by assumption) (by assumption) | assumption))
  ((go_at_call 61; (with_reducible refine (CU.out _).mono ?_); rintro e w5 ⟨rfl, hb5⟩; have hn5 : SpH W2 Y P txt t w5 := SpH.step (by assumption) hb5))
 have hbel := hn5.bel
 have HO5 := Lib.hid (grown_trans HO2.out (OnlyP.of_below (P := P) hbel))
 have HX5 := Lib.hid ((hbel.block _ (cell_it HX2.out)).trans HX2.out)
 have HJ5 := Lib.hid (HJ2.out.keep hbel)
 have HH5 := Lib.hid (HH2.out.keep hbel)
 have HY5 := Lib.hid ((hbel.block _ (cell_it HY2.out)).trans HY2.out)
 clear hn5 hbel hS HO2 HX2 HJ2 HH2 HY2 HO1 HX1 HJ1 HH1
 obtain ⟨ph, ch, rfl, hread⟩ := own_read HH5.out
 have HRd := Lib.hid hread
 clear hread
 go_wp2_with fail
 go_loopw [11] (fun s11 wr => ∃ (i : Nat), s11 = .int .i64 (i : Int) ∧ i ≤ hm.length ∧ Hid (∀ j, j < i → hm[j]? ≠ some key) ∧ Hid (Below w5.heap.size w5 wr)) (fun s11 _ => hm.length - (RowKit.intOf s11).toNat)
 case atStart => exact ⟨0, rfl, by omega, Lib.hid (fun j hj => by omega), Lib.hid (Below.refl _ _)⟩
 case round =>
  obtain ⟨i, rfl, hi, HNo, HBr⟩ := hrel
  have hi0 : (0 : Int) ≤ (i : Int) := by omega
  have HJr := Lib.hid (HJ5.out.keep HBr.out)
  have HOr := Lib.hid (grown_trans HO5.out (OnlyP.of_below (P := P) HBr.out))
  have HXr := Lib.hid ((HBr.out.block _ (cell_it HX5.out)).trans HX5.out)
  have HYr := Lib.hid ((HBr.out.block _ (cell_it HY5.out)).trans HY5.out)
  by_cases hil : i < hm.length
  ·obtain ⟨u, hu⟩ : ∃ u, hm[i]? = some u := ⟨_, List.getElem?_eq_getElem hil⟩
   obtain ⟨gh, rfl, hcell⟩ := HRd.out (by omega)
   have hcu := cell_keep (hcell i (.string (bs u)) (by unfold strCellsQ; rw [List.getElem?_map, hu]; rfl)) HBr.out
   have hi1 : (i : Int) < (hm.length : Int) := by omega
   have di : decide ((i : Int) < (hm.length : Int)) = true := decide_eq_true hi1
   obtain ⟨i1, hi1e⟩ : ∃ k1, i + 1 = k1 := ⟨_, rfl⟩
   have hi1z : (i : Int) + 1 = (i1 : Int) := by omega
   by_cases he : u = key
   ·subst he
    have hin : u ∈ hm := List.mem_of_getElem? hu
    have hr : keyR txt hm (L.drop k) = .bad (hereT txt.length (L.drop k)) 7 := by
     rw [HKR.out, if_pos hin, HDR.out]; rfl
    have de : ((bs u).toList == (bs u).toList) = true := by simp
    rw [hr]
    have CW := Lib.hid (qwrong_any B P txt L k z nv 7 wr HJr.out (by omega) (by omega))
    clear hu hin hr hcell hi1z hi1e
    go_wp2_with fail
    refine CW.out.mono ?_
    rintro e w6 ⟨rfl, ⟨lv6, hj⟩, ho⟩
    have hx6 := (ho.block X (cell_it HXr.out) (by simpa using hXP)).trans HXr.out
    obtain ⟨x0, x1, fx0, fx1⟩ := cells_of2 hx6
    have HJ6 := Lib.hid hj
    have HO6 := Lib.hid (grown_trans HOr.out ho)
    have HX6 := Lib.hid hx6
    clear hj ho hx6
    go_wp2_with fail
    have HX3 := Lib.hid (box_set (box_set HX6.out 0 (.int .i64 0)) 1 (.int .i64 0))
    have HO3 := Lib.hid (OnlyP.new (i := 1) (u := .int .i64 0) (OnlyP.new (i := 0) (u := .int .i64 0) HO6.out HXl.out) HXl.out)
    have HJ3 := Lib.hid ((HJ6.out.off (i := 0) (u := .int .i64 0) hXP).off (i := 1) (u := .int .i64 0) hXP)
    obtain ⟨W3, hW3⟩ : ∃ W, (w6.setCell ⟨X, 0, none⟩ (.int .i64 0)).setCell ⟨X, 1, none⟩ (.int .i64 0) = W := ⟨_, rfl⟩
    rw [hW3] at HX3 HO3 HJ3
    rw [hW3]
    obtain ⟨d0, d1, _, _⟩ := cells_of2 HX3.out
    refine bodyPost_ret (v := .tuple #[.string ⟨#[]⟩, .agg #[.int .i64 0, .int .i64 0], .bool false]) ?_ rfl ⟨⟨_, _, _, rfl⟩, QBad.of HJW.out HO3.out HJ3.out, HO3.out⟩
    simp [results, Tryz.results251, go_sem, d0, d1]
   ·have de : ((bs u).toList == (bs key).toList) = false := by rw [Lib.toList_data, Lib.toList_data, bs_data, bs_data]; exact beq_eq_false_iff_ne.2 he
    have HNo1 : Hid (∀ j, j < i1 → hm[j]? ≠ some key) := Lib.hid (fun j hj h2 => by
     by_cases hji : j = i
     ·subst hji
      rw [hu] at h2
      exact he (Option.some.inj h2)
     ·exact HNo.out j (by omega) h2)
    clear hu he hcell hi1e
    go_wp2_with fail
    go_roundw
    ·exact ⟨i1, by rw [← hi1z], by omega, HNo1, HBr⟩
    ·(try simp only [RowKit.intOf]); omega
  ·obtain rfl : i = hm.length := by omega
   have di : decide ((hm.length : Int) < (hm.length : Int)) = false := decide_eq_false (by omega)
   have hnin : key ∉ hm := fun hin => by
    obtain ⟨j, hj, he⟩ := List.mem_iff_getElem.1 hin
    exact HNo.out j hj (by rw [List.getElem?_eq_getElem hj, he])
   have hKR2 := HKR.out
   rw [if_neg hnin] at hKR2
   have HKR2 := Lib.hid hKR2
   clear hKR2 hnin
   have hst := HJr.out.step hlt
   have ek : ((k + 1 : Nat) : Int) = (k : Int) + 1 := by omega
   rw [ek] at hst
   obtain ⟨lvr, qb, _⟩ := HJr.out
   obtain ⟨_, _, c2, _, _, _, _, f2, _⟩ := qb.cells
   have HSt := Lib.hid hst
   have HOs := Lib.hid (grown_trans HOr.out (grown_set wr P 2 (.int .i64 ((k : Int) + 1))))
   have HXs := Lib.hid ((Below.heap_setCell wr ⟨P, 2, none⟩ (.int .i64 ((k : Int) + 1)) X (by simpa using hXP)).trans HXr.out)
   have HYs := Lib.hid ((Below.heap_setCell wr ⟨P, 2, none⟩ (.int .i64 ((k : Int) + 1)) Y (by simpa using hPY)).trans HYr.out)
   clear qb hst ek
   go_upto_region 11 with fail
   obtain ⟨W6, hW6⟩ : ∃ W, wr.setCell ⟨P, 2, none⟩ (.int .i64 ((k : Int) + 1)) = W := ⟨_, rfl⟩
   rw [hW6] at HSt HOs HXs HYs
   rw [hW6]
   clear hW6 c2 f2
   have hYd : W6.drew.heap[Y]? = some (.cells #[.int .i64 (t.sf : Int), .int .i64 (t.st : Int)] 42) := HYs.out
   have hXd : W6.drew.heap[X]? = some (.cells #[.int .i64 0, .int .i64 0] 42) := HXs.out
   have hYl := cell_it hYd
   have hXld := cell_it hXd
   have hOd : OnlyP P w W6.drew := grown_trans HOs.out (OnlyP.of_below (Below.refl _ _).drew)
   have hJd := HSt.out.keep (Below.refl _ _).drew
   obtain ⟨y0, y1, _, _⟩ := cells_of2 HYs.out
   by_cases h7 : kindT (L.drop (k + 1)) = 7
   ·have CS := Lib.hid (qsign_yes B P txt L (k + 1) z nv W6.drew hJd (by omega) 7 h7 (by decide))
    have hr : keyR txt hm (L.drop k) = .ok key t := by
     rw [HKR2.out]
     cases hd : L.drop (k + 1) with
     | nil => rw [hd] at h7; cases h7
     | cons c q =>
      rw [hd] at h7
      have h7' : c.kind = 7 := h7
      simp only [h7']
      rw [if_neg (by simp)]
    have HRr := Lib.hid hr
    clear hr h7 hJd
    go_region_with (go_at_call 278; refine CS.out.mono ?_; rintro e w7 ⟨rfl, hj7, ho7⟩; have HY7 := Lib.hid ((ho7.block Y hYl (by simpa using hPY)).trans hYd); have HX7 := Lib.hid ((ho7.block X hXld (by simpa using hXP)).trans hXd); have HO7 := Lib.hid (grown_trans hOd ho7); have HJ7 := Lib.hid hj7; clear hj7 ho7; obtain ⟨y0, y1, _, _⟩ := cells_of2 HY7.out; obtain ⟨x0, x1, fx0, fx1⟩ := cells_of2 HX7.out)
    all_goals
     go_wp2_with fail
     have HX3 := Lib.hid (box_set (box_set HX7.out 0 (.int .i64 (t.sf : Int))) 1 (.int .i64 (t.st : Int)))
     have HO3 := Lib.hid (OnlyP.new (i := 1) (u := .int .i64 (t.st : Int)) (OnlyP.new (i := 0) (u := .int .i64 (t.sf : Int)) HO7.out HXl.out) HXl.out)
     have HJ3 := Lib.hid (QZ.off (i := 1) (u := .int .i64 (t.st : Int)) HJW.out (OnlyP.new (i := 0) (u := .int .i64 (t.sf : Int)) HO7.out HXl.out) (QZ.off (i := 0) (u := .int .i64 (t.sf : Int)) HJW.out HO7.out HJ7.out HXl.out HX7.out) HXl.out (box_set HX7.out 0 _))
     obtain ⟨W3, hW3⟩ : ∃ W, (w7.setCell ⟨X, 0, none⟩ (.int .i64 (t.sf : Int))).setCell ⟨X, 1, none⟩ (.int .i64 (t.st : Int)) = W := ⟨_, rfl⟩
     rw [hW3] at HX3 HO3 HJ3
     rw [hW3]
     obtain ⟨d0, d1, _, _⟩ := cells_of2 HX3.out
     rw [HRr.out]
     refine bodyPost_ret (v := .tuple #[.string (bs key), .agg #[.int .i64 (t.sf : Int), .int .i64 (t.st : Int)], .bool true]) ?_ rfl ⟨rfl, HJ3.out, HO3.out⟩
     simp [results, Tryz.results251, go_sem, d0, d1]
   ·have CS := Lib.hid (qsign_no B P txt L (k + 1) z nv W6.drew hJd (by omega) (by omega) 7 h7)
    have hr : keyR txt hm (L.drop k) = .bad (hereT txt.length (L.drop (k + 1))) 2 := by
     rw [HKR2.out]
     cases hd : L.drop (k + 1) with
     | nil => rfl
     | cons c q =>
      rw [hd] at h7
      exact if_pos (show c.kind ≠ 7 from h7)
    have HRr := Lib.hid hr
    clear hr h7 hJd
    go_region_with (go_at_call 278; refine CS.out.mono ?_; rintro e w7 ⟨rfl, ⟨lv7, hj7⟩, ho7⟩; have HY7 := Lib.hid ((ho7.block Y hYl (by simpa using hPY)).trans hYd); have HX7 := Lib.hid ((ho7.block X hXld (by simpa using hXP)).trans hXd); have HO7 := Lib.hid (grown_trans hOd ho7); have HJ7 := Lib.hid hj7; clear hj7 ho7; obtain ⟨y0, y1, _, _⟩ := cells_of2 HY7.out; obtain ⟨x0, x1, fx0, fx1⟩ := cells_of2 HX7.out)
    all_goals
     go_wp2_with fail
     have HX3 := Lib.hid (box_set (box_set HX7.out 0 (.int .i64 (t.sf : Int))) 1 (.int .i64 (t.st : Int)))
     have HO3 := Lib.hid (OnlyP.new (i := 1) (u := .int .i64 (t.st : Int)) (OnlyP.new (i := 0) (u := .int .i64 (t.sf : Int)) HO7.out HXl.out) HXl.out)
     have HJ3 := Lib.hid ((HJ7.out.off (i := 0) (u := .int .i64 (t.sf : Int)) hXP).off (i := 1) (u := .int .i64 (t.st : Int)) hXP)
     obtain ⟨W3, hW3⟩ : ∃ W, (w7.setCell ⟨X, 0, none⟩ (.int .i64 (t.sf : Int))).setCell ⟨X, 1, none⟩ (.int .i64 (t.st : Int)) = W := ⟨_, rfl⟩
     rw [hW3] at HX3 HO3 HJ3
     rw [hW3]
     obtain ⟨d0, d1, _, _⟩ := cells_of2 HX3.out
     rw [HRr.out]
     refine bodyPost_ret (v := .tuple #[.string (bs key), .agg #[.int .i64 (t.sf : Int), .int .i64 (t.st : Int)], .bool false]) ?_ rfl ⟨⟨_, _, _, rfl⟩, QBad.of HJW.out HO3.out HJ3.out, HO3.out⟩
     simp [results, Tryz.results251, go_sem, d0, d1]
theorem qrest_kept {w w' : World} {P : Nat} {txt : List UInt8} {lv nv : Value} {k a : Nat} {er : Int} {L : List Tok} {r : Option Nat} (hb : QBox w P txt lv k nv a er) (ht : TV w lv L) (hg : w.grownBy w' r)
  (hr : ∀ k, r = some k → ∃ cs t, w.heap[k]? = some (.cells cs t (0, 0)) ∧ t ≠ 195 ∧ t ≠ 183) : QBox w' P txt lv k nv a er ∧ TV w' lv L := by
 refine ⟨?_, ht.same (fun g cur hk => hg.block g (cell_it hk) (fun e => ?_))⟩
 ·refine (hg.block P hb.lt (fun e => ?_)).trans hb
  obtain ⟨cs, t, h1, h2, _⟩ := hr P e.symm
  have h0 := hb
  unfold QBox at h0
  rw [h1] at h0
  injection h0 with h0
  injection h0 with _ h0
  exact h2 h0
 ·obtain ⟨cs, t, h1, _, h2⟩ := hr g e.symm
  rw [h1] at hk
  injection hk with hk
  injection hk with _ hk
  exact h2 hk
section
variable {B P : Nat} {txt : List UInt8} {L : List Tok} {k : Nat} {z : List ND} {nv : Value} {w w1 : World} {g cap : Nat}
theorem QZ.form (h : QZ B P txt L k z nv w) (hz : z ≠ []) : ∃ g cap, nv = .slice (some ⟨g, 0, none⟩) z.length cap ∧ z.length ≤ cap := by
 obtain ⟨lv, h1, h2, _, h3, h4⟩ := h
 obtain ⟨g, cap, cur, e1, e2, _⟩ := h3.form hz
 exact ⟨g, cap, e1, e2⟩
theorem QZ.at_ (h : QZ B P txt L k z nv w) : NodesAt B z nv w := by
 obtain ⟨lv, h1, h2, _, h3, h4⟩ := h
 exact h3
theorem QZ.c3 (h : QZ B P txt L k z nv w) : w.cell? ⟨P, 3, none⟩ = some nv := by
 obtain ⟨lv, h1, _⟩ := h
 exact h1.cells.2.2.2.1
theorem QZ.c3_kids (h : QZ B P txt L k z nv w) {y : ND} (hy : y ∈ z) (hg : w.grownBy w1 y.2.1.ownBlock) : w1.cell? ⟨P, 3, none⟩ = some nv := by
 obtain ⟨lv, h1, h2, _, h3, h4⟩ := h
 exact (qrest_kept h1 h2 hg (fun k hk => by
  obtain ⟨cur, hc⟩ := own_obj (h3.kids y hy) k hk
  exact ⟨cur, _, hc, by decide, by decide⟩)).1.cells.2.2.2.1
theorem QZ.c3_pcs (h : QZ B P txt L k z nv w) {y : ND} (hy : y ∈ z) (hg : w.grownBy w1 y.2.2.ownBlock) : w1.cell? ⟨P, 3, none⟩ = some nv := by
 obtain ⟨lv, h1, h2, _, h3, h4⟩ := h
 exact (qrest_kept h1 h2 hg (fun k hk => by
  obtain ⟨cur, hc⟩ := own_obj (h3.pcs y hy) k hk
  exact ⟨cur, _, hc, by decide, by decide⟩)).1.cells.2.2.2.1
theorem QZ.kid (h : QZ B P txt L k z (.slice (some ⟨g, 0, none⟩) z.length cap) w) {n m : Nat} {y : ND} (hy : z[n]? = some y) {kv : Value} {H : Nat} (hH : w.heap.size ≤ H) (hB : B ≤ w.heap.size)
  (hr : w1.ownsRow B 3 1 kv (y.1.kids.length + 1) (intCells y.1.kids ++ [.int .i64 (m : Int)])) (hg : w.grownBy w1 y.2.1.ownBlock) (hat : kv.ownBlock = y.2.1.ownBlock ∨ kv.ownBlock = some H) :
  QZ B P txt L k (z.set n ({ y.1 with kids := y.1.kids ++ [m] }, kv, y.2.2)) (.slice (some ⟨g, 0, none⟩) (z.set n ({ y.1 with kids := y.1.kids ++ [m] }, kv, y.2.2)).length cap) (w1.setCell ⟨g, n * 7 + 5, none⟩ kv) ∧ Fr B P w (w1.setCell ⟨g, n * 7 + 5, none⟩ kv) := by
 obtain ⟨lv, h1, h2, hk, h3, h4⟩ := h
 have hkm := h3.kids y (List.mem_of_getElem? hy)
 obtain ⟨a1, a2⟩ := qrest_kept h1 h2 hg (fun k hk => by
  obtain ⟨cur, hc⟩ := own_obj hkm k hk
  exact ⟨cur, _, hc, by decide, by decide⟩)
 have hrow1 := h3.row.kept hg (own_ne h3.row hkm (by decide))
 obtain ⟨cur, hcur⟩ := own_obj hrow1 g rfl
 obtain ⟨b1, b2⟩ := qrest_kept a1 a2 (grown_set w1 g (n * 7 + 5) kv) (fun k hk => by
  have e : g = k := Option.some.inj hk
  subst e
  exact ⟨cur, _, hcur, by decide, by decide⟩)
 have hgB : B ≤ g := (World.ownsRow.lt hrow1 g rfl).1
 refine ⟨⟨lv, ?_, b2, hk, h3.kid hy hH hr hg hat, h4⟩, (Fr.grown hkm (by decide) hg hB).trans (Fr.setM hcur (by decide) hgB)⟩
 rw [List.length_set]
 exact b1
theorem QZ.pc (h : QZ B P txt L k z (.slice (some ⟨g, 0, none⟩) z.length cap) w) {n : Nat} {m : Sp} {y : ND} (hy : z[n]? = some y) {kv : Value} {H : Nat} (hH : w.heap.size ≤ H) (hB : B ≤ w.heap.size)
  (hr : w1.ownsRow B 42 2 kv (y.1.pcs.length + 1) (spCells y.1.pcs ++ [.int .i64 (m.1 : Int), .int .i64 (m.2 : Int)])) (hg : w.grownBy w1 y.2.2.ownBlock) (hat : kv.ownBlock = y.2.2.ownBlock ∨ kv.ownBlock = some H) :
  QZ B P txt L k (z.set n ({ y.1 with pcs := y.1.pcs ++ [m] }, y.2.1, kv)) (.slice (some ⟨g, 0, none⟩) (z.set n ({ y.1 with pcs := y.1.pcs ++ [m] }, y.2.1, kv)).length cap) (w1.setCell ⟨g, n * 7 + 6, none⟩ kv) ∧ Fr B P w (w1.setCell ⟨g, n * 7 + 6, none⟩ kv) := by
 obtain ⟨lv, h1, h2, hk, h3, h4⟩ := h
 have hkm := h3.pcs y (List.mem_of_getElem? hy)
 obtain ⟨a1, a2⟩ := qrest_kept h1 h2 hg (fun k hk => by
  obtain ⟨cur, hc⟩ := own_obj hkm k hk
  exact ⟨cur, _, hc, by decide, by decide⟩)
 have hrow1 := h3.row.kept hg (own_ne h3.row hkm (by decide))
 obtain ⟨cur, hcur⟩ := own_obj hrow1 g rfl
 obtain ⟨b1, b2⟩ := qrest_kept a1 a2 (grown_set w1 g (n * 7 + 6) kv) (fun k hk => by
  have e : g = k := Option.some.inj hk
  subst e
  exact ⟨cur, _, hcur, by decide, by decide⟩)
 have hgB : B ≤ g := (World.ownsRow.lt hrow1 g rfl).1
 refine ⟨⟨lv, ?_, b2, hk, h3.pc hy hH hr hg hat, h4⟩, (Fr.grown hkm (by decide) hg hB).trans (Fr.setM hcur (by decide) hgB)⟩
 rw [List.length_set]
 exact b1
end
theorem step_kid {ops : Array Oper} {o : Oper} {a : Act} {K : Act → World → Prop} {Q : Exit → Act → World → Prop} {E : Prop} (hgd : o.guard = none) (s x : Operand)
  (ho : o.op = .call { callee := .builtin .append, args := #[s, x], argTypes := #[43, 43] })
  (B : Nat) (w : World) (v : Value) (l : List Nat) (k : Nat) (hs : a.eval s = v) (hown : w.ownsRow B 3 1 v l.length (intCells l)) (hx : a.eval x = .slice (some ⟨w.heap.size, 0, none⟩) 1 1) (hl : l.length ≤ 4294967295) (hB : B ≤ w.heap.size)
  (hK : ∀ kv w', w'.ownsRow B 3 1 kv (l.length + 1) (intCells l ++ [.int .i64 (k : Int)]) → w.grownBy w' v.ownBlock → (kv.ownBlock = v.ownBlock ∨ kv.ownBlock = some (w.heap.size + 1)) → K (a.put o.dst kv) w') :
  if Region.wanted o (yielded ops a.tmps) = true then Oper.wp Tryz.prog o a (w.alloc (.cells #[.int .i64 (k : Int)] 3)) K Q else E := by
 obtain ⟨i0, hi0, hz0, hz1, hz2⟩ := info_parts Tryz.infoInt
 refine step_append_lies _ hgd s x 43 ho B 3 i0 _ 1 8 Tryz.underlying43 hi0 hz0 hz1 hz2 rfl (by decide) v _ (intCells l) hs (World.ownsRow.alloc hown _) ⟨w.heap.size, 0, none⟩ 1 1 [.int .i64 (k : Int)] hx (by rfl) (one_news w #[.int .i64 (k : Int)] _)
  (fun u hu => by rw [List.mem_singleton.1 hu]; rfl) (by decide) (by unfold maxLen; omega) (by omega) (by simp; omega) _ rfl ?_
 intro g cap w' h5 h6 h7 _
 refine hK _ w' h5 (grown_of_alloc h6) ?_
 rcases h7 with h7 | h7
 ·exact .inl h7.symm
 ·exact .inr (by rw [h7]; simp [Value.ownBlock])
def QVE (B P : Nat) (txt : List UInt8) (L : List Tok) (r : JR) (w : World) (e : Ending) (w' : World) : Prop := match r with
 | .ok rest l ns => e = .returned (.bool true) ∧ (∃ k t, rest = L.drop (k + 1) ∧ L[k]? = some t ∧ l = (t.sf, t.st) ∧ QJ B P txt L (k + 1) ns w') ∧ Fr B P w w'
 | .bad a er => e = .returned (.bool false) ∧ QBad B P (qN P w) a er w' ∧ Fr B P w w'
def QVC (w0 : World) (P : Nat) (txt : List UInt8) (L : List Tok) (lv : Nat) : Prop := ∀ (w : World) (k : Nat) (l : Sp) (nodes : List NodeD) (key : Sp) (lev : Int), QJ w0.heap.size P txt L k nodes w → Below w0.heap.size w0 w → nodes.length + (L.drop k).length ≤ 131074 → nodes.length ≤ 4096 → lev = 33 - (lv : Int) →
 Calls Tryz.prog 171 #[.pointer (some ⟨P, 0, none⟩), .int .i64 lev, .agg #[.int .i64 (key.1 : Int), .int .i64 (key.2 : Int)]] w (QVE w0.heap.size P txt L (valueM txt lv (L.drop k) l nodes key) w)
theorem Fr.new {B P b : Nat} {w w1 w2 : World} (h : Fr B P w w1) (hg : w1.grownBy w2 (some b)) (hb : w.heap.size ≤ b) (hB : B ≤ w.heap.size) : Fr B P w w2 :=
 ⟨h.bel.grown hg (Nat.le_trans hB h.sz) (fun k hk => by have e : b = k := Option.some.inj hk; omega), Nat.le_trans h.sz hg.size, fun k o hk hP hs => by
  have h1 := h.blk k o hk hP hs
  rw [hg.block k (cell_it h1) (fun e => by have e : k = b := Option.some.inj e; have := cell_it hk; omega)]
  exact h1⟩
theorem Fr.newN {B P : Nat} {w w1 w2 : World} {r : Option Nat} (h : Fr B P w w1) (hg : w1.grownBy w2 r) (hb : ∀ b, r = some b → w.heap.size ≤ b) (hB : B ≤ w.heap.size) : Fr B P w w2 := by
 cases r with
 | none => exact h.new (b := w1.heap.size) ⟨hg.os, hg.tape, hg.output, hg.size, fun k hk hne => hg.block k hk (by simp)⟩ h.sz hB
 | some b => exact h.new hg (hb b rfl) hB
theorem owns_grown {B size : Nat} {e : TypeId} {A W : World} {v : Value} {n : Nat} {xs : List Value} (h : A.ownsRow B e size v n xs) (hg : A.grownBy W none) : W.ownsRow B e size v n xs :=
 h.kept hg (by cases h : v.ownBlock with
  | none => exact .inl rfl
  | some k => exact .inr (by simp))
theorem QZ.grow {B P Bh : Nat} {txt : List UInt8} {L : List Tok} {k : Nat} {z : List ND} {nv : Value} {w w' : World} {v : Value} {hm : List (List UInt8)} (h : QZ B P txt L k z nv w) (hv : HadV Bh w v hm) (hg : w.grownBy w' v.ownBlock) : QZ B P txt L k z nv w' := by
 obtain ⟨lv, h1, h2, hk, h3, h4⟩ := h
 obtain ⟨a1, a2⟩ := qrest_kept h1 h2 hg (fun k hk => by
  obtain ⟨cur, hc⟩ := own_obj hv k hk
  exact ⟨cur, _, hc, by decide, by decide⟩)
 refine ⟨lv, a1, a2, hk, ?_, h4⟩
 cases ho : v.ownBlock with
 | none =>
  rw [ho] at hg
  exact ⟨owns_grown h3.row hg, fun y hy => owns_grown (h3.kids y hy) hg, fun y hy => owns_grown (h3.pcs y hy) hg, h3.ak, h3.ap⟩
 | some b =>
  rw [ho] at hg
  obtain ⟨cur, hc⟩ := own_obj hv b ho
  exact h3.other hc (by decide) (by decide) (by decide) hg
theorem QJ.cast {B P : Nat} {txt : List UInt8} {L : List Tok} {k : Nat} {nodes nodes2 : List NodeD} {w : World} (h : QJ B P txt L k nodes w) (e : nodes = nodes2) : QJ B P txt L k nodes2 w := e ▸ h
def Cap (V : VF) : Prop := ∀ rest last nodes key r l ns, V rest last nodes key = .ok r l ns → nodes.length ≤ 4096 → ns.length ≤ 4096
theorem kid_cap {txt : List UInt8} {V : VF} (hV : Cap V) {obj : Bool} {had had' : List (List UInt8)} {rest r : List Tok} {last l : Sp} {nodes ns : List NodeD} (h : kidM txt V obj had rest last nodes = (.ok r l ns, had')) (hn : nodes.length ≤ 4096) : ns.length ≤ 4096 := by
 unfold kidM at h
 split at h
 ·injection h with h _; exact hV _ _ _ _ _ _ _ h hn
 ·split at h
  ·injection h with h _; cases h
  ·split at h
   ·injection h with h _; cases h
   ·split at h
    ·injection h with h _; cases h
    ·split at h
     ·injection h with h _; cases h
     ·split at h
      ·injection h with h _; cases h
      ·injection h with h _
       exact hV _ _ _ _ _ _ _ h hn
theorem loop_cap {txt : List UInt8} {V : VF} (hV : Cap V) {closing : Nat} {obj : Bool} {n : Nat} : ∀ (f : Nat) {had : List (List UInt8)} {rest r : List Tok} {last l : Sp} {nodes ns : List NodeD}, loopM txt V closing obj n f had rest last nodes = .ok r l ns → nodes.length ≤ 4096 → ns.length ≤ 4096
 | 0, _, _, _, _, _, _, _, h, _ => by cases h
 | f + 1, had, rest, r, last, l, nodes, ns, h, hn => by
  unfold loopM at h
  split at h
  ·cases h
  ·rename_i r1 l1 ns1 had1 hk
   have h1 := kid_cap hV hk hn
   split at h
   ·cases h
   ·split at h
    ·injection h with _ _ h; rw [← h]; unfold addKid; rw [modN_len]; exact h1
    ·split at h
     ·exact loop_cap hV f h (by unfold addKid; rw [modN_len]; exact h1)
     ·cases h
theorem kids_cap {txt : List UInt8} {V : VF} (hV : Cap V) {closing : Nat} {obj : Bool} {n : Nat} {rest r : List Tok} {last l : Sp} {nodes ns : List NodeD} (h : kidsM txt V closing obj n rest last nodes = .ok r l ns) (hn : nodes.length ≤ 4096) : ns.length ≤ 4096 := by
 unfold kidsM at h
 split at h
 ·exact loop_cap hV 1 h hn
 ·split at h
  ·injection h with _ _ h; rw [← h]; exact hn
  ·exact loop_cap hV _ h hn
theorem value_cap (txt : List UInt8) : ∀ lv, Cap (valueM txt lv)
 | 0 => fun rest last nodes key r l ns h _ => by
  unfold valueM at h
  split at h <;> cases h
 | lv + 1 => fun rest last nodes key r l ns h hn => by
  have ih := value_cap txt lv
  unfold valueM at h
  split at h
  ·cases h
  ·rename_i hk
   split at h
   ·cases h
   ·rename_i hm
    cases rest with
    | nil => exact absurd rfl hk
    | cons t q =>
     simp only [] at h
     obtain ⟨ns0, h1, rfl⟩ := endM_ok h
     have hl : (nodes ++ [(⟨kindOfT t.kind, t.sf, t.st, key, [], []⟩ : NodeD)]).length ≤ 4096 := by
      rw [List.length_append, List.length_singleton]; omega
     unfold setTo
     rw [modN_len]
     split at h1
     ·exact kids_cap ih h1 hl
     ·split at h1
      ·exact kids_cap ih h1 hl
      ·injection h1 with _ _ h1; rw [← h1]; exact hl
theorem QZ.offK {B P X i : Nat} {txt : List UInt8} {L : List Tok} {k : Nat} {z : List ND} {nv : Value} {w0 w1 : World} {u : Value} {cs : Array Value} (h : QZ B P txt L k z nv w1) (h0 : NodesAt B z nv w0) (hX : w0.heap.size ≤ X) (hXP : X ≠ P) (hXs : w1.heap[X]? = some (.cells cs 42)) : QZ B P txt L k z nv (w1.setCell ⟨X, i, none⟩ u) := by
 obtain ⟨lv, hb, ht, hk, hn, hB⟩ := h
 have hg := grown_set w1 X i u
 have key : ∀ {e : TypeId} {s n : Nat} {v : Value} {xs ys : List Value}, w0.ownsRow B e s v n xs → w1.ownsRow B e s v n ys → (w1.setCell ⟨X, i, none⟩ u).ownsRow B e s v n ys := fun {e s n v xs ys} h1 h2 =>
  h2.kept hg (by cases ho : v.ownBlock with
   | none => exact .inl rfl
   | some b =>
    right
    intro hbx
    have e2 : b = X := Option.some.inj hbx
    have := (World.ownsRow.lt h1 b ho).2
    omega)
 refine ⟨lv, hb.off hXP, ht.same (fun g cur hg2 => ?_), hk, ⟨key h0.row hn.row, fun y hy => key (h0.kids y hy) (hn.kids y hy), fun y hy => key (h0.pcs y hy) (hn.pcs y hy), hn.ak, hn.ap⟩, hB⟩
 refine Below.heap_setCell w1 ⟨X, i, none⟩ u g (fun e => ?_)
 have e2 : g = X := e
 subst e2
 rw [hXs] at hg2
 injection hg2 with hg2
 injection hg2 with _ hg2
 exact absurd hg2 (by decide)
theorem Tryz.infoStrQ : (Tryz.prog.info? 9).map (fun i => (i.zero, i.size, i.bytes)) = some (some (.string ⟨#[]⟩), 1, 16) := by kernel_rfl
theorem wpList_had {ops : Array Oper} {rest : List Oper} {o : Oper} {a : Act} {Q : Exit → Act → World → Prop} (hgd : o.guard = none) (s x : Operand)
  (ho : o.op = .call { callee := .builtin .append, args := #[s, x], argTypes := #[33, 33] })
  (B : Nat) (w : World) (v : Value) (l : List (List UInt8)) (k : List UInt8) (hs : a.eval s = v) (hown : HadV B w v l) (hx : a.eval x = .slice (some ⟨w.heap.size, 0, none⟩) 1 1) (hl : l.length ≤ 4294967295) (hB : B ≤ w.heap.size)
  (hK : ∀ kv w', HadV B w' kv (l ++ [k]) → w.grownBy w' v.ownBlock → wpList Tryz.prog ops Q rest (a.put o.dst kv) w') :
  wpList Tryz.prog ops Q (o :: rest) a (w.alloc (.cells #[.string (bs k)] 9)) := by
 obtain ⟨i0, hi0, hz0, hz1, hz2⟩ := info_parts Tryz.infoStrQ
 refine wpList_append_lies _ hgd s x 33 ho B 9 i0 _ 1 16 Tryz.underlying33 hi0 hz0 hz1 hz2 rfl (by decide) v _ (strCellsQ l) hs (World.ownsRow.alloc hown _) ⟨w.heap.size, 0, none⟩ 1 1 [.string (bs k)] hx (by rfl) (one_news w #[.string (bs k)] _)
  (fun u hu => by rw [List.mem_singleton.1 hu]; rfl) (by decide) (by unfold maxLen; omega) (by omega) (by simp; omega) _ rfl ?_
 intro g cap w' h5 h6 h7 _
 refine hK _ w' ?_ (grown_of_alloc h6)
 unfold HadV strCellsQ
 rw [List.length_append, List.length_singleton, List.map_append]
 exact h5
theorem keyR_bad {txt : List UInt8} {V : VF} {hm : List (List UInt8)} {rest : List Tok} {a : Nat} {er : Int} {ls : Sp} {ns : List NodeD} (h : keyR txt hm rest = .bad a er) : ∃ h', kidM txt V true hm.reverse rest ls ns = (.bad a er, h') := by
 unfold kidM
 rw [if_neg (by decide)]
 cases rest with
 | nil => injection h with h1 h2; subst h1 h2; exact ⟨_, rfl⟩
 | cons t r =>
  unfold keyR at h
  simp only [] at h ⊢
  by_cases h8 : t.kind ≠ 8
  ·rw [if_pos h8] at h ⊢
   injection h with h1 h2; subst h1 h2; exact ⟨_, rfl⟩
  ·rw [if_neg h8] at h ⊢
   by_cases hin : (unqL ((txt.drop t.sf).take (t.st - t.sf))).1 ∈ hm
   ·rw [if_pos hin] at h
    rw [if_pos (List.mem_reverse.2 hin)]
    injection h with h1 h2; subst h1 h2; exact ⟨_, rfl⟩
   ·rw [if_neg hin] at h
    rw [if_neg (fun h => hin (List.mem_reverse.1 h))]
    cases r with
    | nil => injection h with h1 h2; subst h1 h2; exact ⟨_, rfl⟩
    | cons c r2 =>
     simp only [] at h ⊢
     by_cases h7 : c.kind ≠ 7
     ·rw [if_pos h7] at h ⊢
      injection h with h1 h2; subst h1 h2; exact ⟨_, rfl⟩
     ·rw [if_neg h7] at h; cases h
theorem keyR_ok {txt : List UInt8} {V : VF} {hm : List (List UInt8)} {rest : List Tok} {key : List UInt8} {t : Tok} {ls : Sp} {ns : List NodeD} (h : keyR txt hm rest = .ok key t) : ∃ c r2, rest = t :: c :: r2 ∧ kidM txt V true hm.reverse rest ls ns = (V r2 (c.sf, c.st) ns (t.sf, t.st), key :: hm.reverse) := by
 unfold kidM
 rw [if_neg (by decide)]
 cases rest with
 | nil => cases h
 | cons t' r =>
  unfold keyR at h
  simp only [] at h ⊢
  by_cases h8 : t'.kind ≠ 8
  ·rw [if_pos h8] at h; cases h
  ·rw [if_neg h8] at h ⊢
   by_cases hin : (unqL ((txt.drop t'.sf).take (t'.st - t'.sf))).1 ∈ hm
   ·rw [if_pos hin] at h; cases h
   ·rw [if_neg hin] at h
    rw [if_neg (fun h => hin (List.mem_reverse.1 h))]
    cases r with
    | nil => cases h
    | cons c r2 =>
     simp only [] at h ⊢
     by_cases h7 : c.kind ≠ 7
     ·rw [if_pos h7] at h; cases h
     ·rw [if_neg h7] at h ⊢
      injection h with h1 h2
      subst h1 h2
      exact ⟨c, r2, rfl, rfl⟩
end Go.Proofs.YtbldfpkfinpciaaGreatDoor

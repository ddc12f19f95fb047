import Derived.Test.YtbldfpkfinpciaaGreatDoorRa25
namespace Go.Proofs.YtbldfpkfinpciaaGreatDoor
set_option linter.unusedSimpArgs false
set_option linter.unusedVariables false
set_option linter.unnecessarySimpa false
open Go.RowKit Go.Maps Go.WideMaps
open Go.Lib hiding intOf
structure QF (val : Nat → Value) (S : World → Prop) (W0 : World) (ob : Obj) (Own : Value → World → Prop) (P : Nat) (d : Nat → Bool) (v : Nat → Value) (w' : World) : Prop where
 cl : ∀ i, i < 23 → i ≠ 20 → d i = true → v (40 + i) = val i
 st : S w'
 up : d 20 = true → d 19 = true ∧ d 4 = true
 up2 : d 23 = true → d 20 = true
 w0 : d 19 = false → w' = W0
 w1 : d 19 = true → d 20 = false → w' = W0.alloc ob
 w2 : d 20 = true → d 23 = false → Own (v 60) w'
 w3 : d 23 = true → ∃ nv w1, Own nv w1 ∧ w' = w1.setCell ⟨P, 3, none⟩ nv
section
variable {val : Nat → Value} {S : World → Prop} {W0 : World} {ob : Obj} {Own : Value → World → Prop} {P : Nat} {d : Nat → Bool} {v : Nat → Value} {w' : World}
theorem QF.clSet (h : QF val S W0 ob Own P d v w') {i k : Nat} (hk : k = 40 + i) {x : Value} (hx : i = 20 ∨ x = val i) : ∀ j, j < 23 → j ≠ 20 → setB d i j = true → setV v (some k) x (40 + j) = val j := by
 subst hk
 intro j hj h20 hd
 by_cases hji : j = i
 ·subst hji
  rw [setV_eq]
  exact hx.resolve_left h20
 ·rw [setV_ne (by omega)]
  exact h.cl j hj h20 ((setB_or hd).resolve_left hji)
theorem QF.pure (h : QF val S W0 ob Own P d v w') {i k : Nat} (hk : k = 40 + i) {x : Value} (hx : x = val i) (h19 : i ≠ 19) (h20 : i ≠ 20) (h23 : i ≠ 23) : QF val S W0 ob Own P (setB d i) (setV v (some k) x) w' := by
 have e19 : setB d i 19 = d 19 := setB_ne (Ne.symm h19)
 have e20 : setB d i 20 = d 20 := setB_ne (Ne.symm h20)
 have e23 : setB d i 23 = d 23 := setB_ne (Ne.symm h23)
 refine ⟨h.clSet hk (.inr hx), h.st, fun a => ?_, fun a => ?_, fun a => ?_, fun a b => ?_, fun a b => ?_, fun a => ?_⟩
 ·rw [e20] at a
  obtain ⟨a1, a2⟩ := h.up a
  refine ⟨by rw [e19]; exact a1, ?_⟩
  by_cases h4 : 4 = i
  ·rw [h4]; exact setB_eq
  ·rw [setB_ne h4]; exact a2
 ·rw [e23] at a; rw [e20]; exact h.up2 a
 ·rw [e19] at a; exact h.w0 a
 ·rw [e19] at a; rw [e20] at b; exact h.w1 a b
 ·rw [e20] at a; rw [e23] at b
  rw [setV_ne (by omega)]
  exact h.w2 a b
 ·rw [e23] at a; exact h.w3 a
theorem QF.mkA (h : QF val S W0 ob Own P d v w') (hd : d 19 = false) {x : Value} (hx : x = val 19) (hS : S (W0.alloc ob)) : QF val S W0 ob Own P (setB d 19) (setV v (some 59) x) (W0.alloc ob) := by
 have e20 : setB d 19 20 = d 20 := setB_ne (by decide)
 have e23 : setB d 19 23 = d 23 := setB_ne (by decide)
 have h20 : d 20 = false := by
  cases hc : d 20 with
  | false => rfl
  | true => have := (h.up hc).1; rw [hd] at this; cases this
 have h23 : d 23 = false := by
  cases hc : d 23 with
  | false => rfl
  | true => have := h.up2 hc; rw [h20] at this; cases this
 refine ⟨h.clSet rfl (.inr hx), hS, fun a => ?_, fun a => ?_, fun a => ?_, fun _ _ => rfl, fun a => ?_, fun a => ?_⟩
 ·rw [e20, h20] at a; cases a
 ·rw [e23, h23] at a; cases a
 ·rw [setB_eq] at a; cases a
 ·rw [e20, h20] at a; cases a
 ·rw [e23, h23] at a; cases a
theorem QF.app (h : QF val S W0 ob Own P d v w') (h19 : d 19 = true) (h4 : d 4 = true) (h20 : d 20 = false) {x : Value} {w2 : World} (hS : S w2) (ho : Own x w2) : QF val S W0 ob Own P (setB d 20) (setV v (some 60) x) w2 := by
 have e19 : setB d 20 19 = d 19 := setB_ne (by decide)
 have e4 : setB d 20 4 = d 4 := setB_ne (by decide)
 have e23 : setB d 20 23 = d 23 := setB_ne (by decide)
 have h23 : d 23 = false := by
  cases hc : d 23 with
  | false => rfl
  | true => have := h.up2 hc; rw [h20] at this; cases this
 refine ⟨h.clSet rfl (.inl rfl), hS, fun a => ⟨by rw [e19]; exact h19, by rw [e4]; exact h4⟩, fun a => setB_eq, fun a => ?_, fun a b => ?_, fun a b => ?_, fun a => ?_⟩
 ·rw [e19, h19] at a; cases a
 ·rw [setB_eq] at b; cases b
 ·rw [setV_eq]; exact ho
 ·rw [e23, h23] at a; cases a
theorem QF.sto (h : QF val S W0 ob Own P d v w') (h20 : d 20 = true) (h23 : d 23 = false) {x : Value} {k : Option Tmp} (hk : k = none) (hS : S (w'.setCell ⟨P, 3, none⟩ (v 60))) : QF val S W0 ob Own P (setB d 23) (setV v k x) (w'.setCell ⟨P, 3, none⟩ (v 60)) := by
 subst hk
 have e19 : setB d 23 19 = d 19 := setB_ne (by decide)
 have e4 : setB d 23 4 = d 4 := setB_ne (by decide)
 have e20 : setB d 23 20 = d 20 := setB_ne (by decide)
 refine ⟨fun j hj h1 h2 => ?_, hS, fun a => ?_, fun a => by rw [e20]; exact h20, fun a => ?_, fun a b => ?_, fun a b => ?_, fun a => ⟨v 60, w', h.w2 h20 h23, rfl⟩⟩
 ·rw [setB_ne (by omega)] at h2
  exact h.cl j hj h1 h2
 ·rw [e19, e4]; exact h.up h20
 ·rw [e19, (h.up h20).1] at a; cases a
 ·rw [e20, h20] at b; cases b
 ·rw [setB_eq] at b; cases b
end
theorem lt24 {i : Nat} (h : i < 24) : i = 0 ∨ i = 1 ∨ i = 2 ∨ i = 3 ∨ i = 4 ∨ i = 5 ∨ i = 6 ∨ i = 7 ∨ i = 8 ∨ i = 9 ∨ i = 10 ∨ i = 11 ∨ i = 12 ∨ i = 13 ∨ i = 14 ∨ i = 15 ∨ i = 16 ∨ i = 17 ∨ i = 18 ∨ i = 19 ∨ i = 20 ∨ i = 21 ∨ i = 22 ∨ i = 23 := by omega
def valQ (P : Nat) (p0 : Option Addr) (nodes : List NodeD) (c0 q g o ll c k : Nat) (t : Tok) (key : Sp) (H : Nat) : Nat → Value
 | 0 => .pointer (some ⟨P, 0, none⟩)
 | 1 => .pointer (some ⟨P, 0, none⟩)
 | 2 => .pointer (some ⟨P, 0, none⟩)
 | 3 => .pointer (some ⟨P, 3, none⟩)
 | 4 => .slice p0 nodes.length c0
 | 5 => .int .i64 (q : Int)
 | 6 => .pointer (some ⟨P, 0, none⟩)
 | 7 => .pointer (some ⟨P, 0, none⟩)
 | 8 => .pointer (some ⟨P, 1, none⟩)
 | 9 => .slice (some ⟨g, o, none⟩) ll c
 | 10 => .pointer (some ⟨P, 0, none⟩)
 | 11 => .pointer (some ⟨P, 0, none⟩)
 | 12 => .pointer (some ⟨P, 2, none⟩)
 | 13 => .int .i64 (k : Int)
 | 14 => .pointer (some ⟨g, o + k * 3, none⟩)
 | 15 => .pointer (some ⟨g, o + k * 3 + 1, none⟩)
 | 16 => .agg #[.int .i64 (t.sf : Int), .int .i64 (t.st : Int)]
 | 17 => .agg #[.int .i64 (key.1 : Int), .int .i64 (key.2 : Int)]
 | 18 => .agg #[.int .i64 (q : Int), .int .i64 (t.sf : Int), .int .i64 (t.st : Int), .int .i64 (key.1 : Int), .int .i64 (key.2 : Int), .slice none 0 0, .slice none 0 0]
 | 19 => .slice (some ⟨H, 0, none⟩) 1 1
 | 21 => .pointer (some ⟨P, 0, none⟩)
 | 22 => .pointer (some ⟨P, 3, none⟩)
 | _ => undef
def SQ (W0 : World) (K g P : Nat) (lvv : Value) (k : Nat) (w' : World) : Prop := (w'.heap[K]? = W0.heap[K]? ∧ w'.heap[g]? = W0.heap[g]?) ∧ w'.cell? ⟨P, 1, none⟩ = some lvv ∧ w'.cell? ⟨P, 2, none⟩ = some (.int .i64 (k : Int))
theorem QZ.node {B P : Nat} {txt : List UInt8} {L : List Tok} {k : Nat} {z : List ND} {nv : Value} {w w2 : World} (h : QZ B P txt L k z nv w) {x : NodeD} (hk : x.kids = []) (hp : x.pcs = []) (hB : B ≤ w.heap.size) {nv2 : Value}
  (hr : w2.ownsRow B 187 7 nv2 (z.length + 1) (nodeCells z ++ ndCells (x, .slice none 0 0, .slice none 0 0))) (hg : w.grownBy w2 nv.ownBlock) :
  QJ B P txt L k (z.map (·.1) ++ [x]) (w2.setCell ⟨P, 3, none⟩ nv2) ∧ Fr B P w (w2.setCell ⟨P, 3, none⟩ nv2) := by
 obtain ⟨lv, h1, h2, hk', h3, h4⟩ := h
 obtain ⟨a1, a2⟩ := qrest_kept h1 h2 hg (fun k hk => by
  obtain ⟨cur, hc⟩ := own_obj h3.row k hk
  exact ⟨cur, _, hc, by decide, by decide⟩)
 have hp2 := h3.push hk hp hr hg
 refine ⟨⟨z ++ [(x, .slice none 0 0, .slice none 0 0)], nv2, by simp, lv, a1.nodes nv2, ?_, hk', hp2.other a1 (by decide) (by decide) (by decide) (grown_set w2 P 3 nv2), h4⟩, (Fr.grown h3.row (by decide) hg hB).trans (Fr.setP h4)⟩
 exact a2.same (fun g cur hg2 => (grown_set w2 P 3 nv2).block g (cell_it hg2) (fun e => by
  have e2 : g = P := Option.some.inj e
  subst e2
  unfold QBox at a1
  rw [a1] at hg2
  injection hg2 with hg2
  injection hg2 with _ hg2
  exact absurd hg2 (by decide)))
theorem kindOf_not5 {k : Nat} (h4 : k ≠ 4) : kindOfT k ≠ 5 := by
 unfold kindOfT
 rw [if_neg h4]
 (repeat' split) <;> decide
theorem kindOf_not6 {k : Nat} (h2 : k ≠ 2) : kindOfT k ≠ 6 := by
 unfold kindOfT
 rw [if_neg h2]
 (repeat' split) <;> decide
theorem QZ.to {B P : Nat} {txt : List UInt8} {L : List Tok} {k : Nat} {z : List ND} {nv : Value} {w : World} (h : QZ B P txt L k z nv w) {n : Nat} (hn : n < z.length) (e : Nat) :
  ∃ g cap y, nv = .slice (some ⟨g, 0, none⟩) z.length cap ∧ z[n]? = some y ∧ w.cell? ⟨g, n * 7 + 2, none⟩ = some (.int .i64 (y.1.st : Int)) ∧ w.frozen? ⟨g, n * 7 + 2, none⟩ = false ∧
   QZ B P txt L k (z.set n ({ y.1 with st := e }, y.2)) nv (w.setCell ⟨g, n * 7 + 2, none⟩ (.int .i64 (e : Int))) ∧ Fr B P w (w.setCell ⟨g, n * 7 + 2, none⟩ (.int .i64 (e : Int))) := by
 obtain ⟨lv, h1, h2, hk, h3, h4⟩ := h
 obtain ⟨g, cap, cur, rfl, _, hgB, hcur⟩ := h3.form (fun e => by rw [e] at hn; simp at hn)
 have hy : z[n]? = some z[n] := List.getElem?_eq_getElem hn
 obtain ⟨c1, c2⟩ := h3.at_ hy 2 (by omega) rfl
 have hf := h3.field (y' := ({ z[n].1 with st := e }, z[n].2)) hy 2 (by omega) (.int .i64 (e : Int)) rfl rfl rfl rfl
 rw [List.length_set] at hf
 obtain ⟨b1, b2⟩ := qrest_kept h1 h2 (grown_set w g (n * 7 + 2) (.int .i64 (e : Int))) (fun k hk => by
  have e : g = k := Option.some.inj hk
  subst e
  exact ⟨cur, _, hcur, by decide, by decide⟩)
 exact ⟨g, cap, z[n], rfl, hy, c1, c2, ⟨lv, b1, b2, hk, hf, h4⟩, Fr.setM hcur (by decide) hgB⟩
theorem QJ.to {B P : Nat} {txt : List UInt8} {L : List Tok} {k : Nat} {ns : List NodeD} {w : World} (h : QJ B P txt L k ns w) {n : Nat} (hn : n < ns.length) (e : Nat) :
  ∃ g cap st, w.cell? ⟨P, 3, none⟩ = some (.slice (some ⟨g, 0, none⟩) ns.length cap) ∧ ns.length ≤ cap ∧ w.cell? ⟨g, n * 7 + 2, none⟩ = some (.int .i64 st) ∧ w.frozen? ⟨g, n * 7 + 2, none⟩ = false ∧
   QJ B P txt L k (setTo n e ns) (w.setCell ⟨g, n * 7 + 2, none⟩ (.int .i64 (e : Int))) ∧ Fr B P w (w.setCell ⟨g, n * 7 + 2, none⟩ (.int .i64 (e : Int))) := by
 obtain ⟨z, nv, rfl, h⟩ := h
 rw [List.length_map] at hn
 obtain ⟨g, cap, y, rfl, hy, c1, c2, h1, h2⟩ := h.to hn e
 obtain ⟨g', cap', e', hle⟩ := h.form (fun e => by rw [e] at hn; simp at hn)
 injection e' with _ _ e4
 refine ⟨g, cap, _, by rw [List.length_map]; exact h.c3, by rw [List.length_map, e4]; exact hle, c1, c2, ⟨_, _, ?_, h1⟩, h2⟩
 unfold setTo
 rw [modN_set _ n _ y.1 (by rw [List.getElem?_map, hy]; rfl), List.map_set]
theorem QVE.drewn {B P : Nat} {txt : List UInt8} {L : List Tok} {R : JR} {w w' : World} {e : Ending} (h : QVE B P txt L R w e w') (hB : B ≤ w.heap.size) : QVE B P txt L R w e w'.drew := by
 cases R with
 | ok rr l ns =>
  obtain ⟨h1, ⟨k, t, a, b, c, d⟩, h3⟩ := h
  exact ⟨h1, ⟨k, t, a, b, c, d.keep (Below.refl _ w').drew⟩, h3.trans (Fr.of_below (Below.refl _ w').drew (Nat.le_trans hB h3.sz))⟩
 | bad a er =>
  obtain ⟨h1, h2, h3⟩ := h
  exact ⟨h1, h2.keep (Below.refl _ w').drew, h3.trans (Fr.of_below (Below.refl _ w').drew (Nat.le_trans hB h3.sz))⟩
def QKO (B P : Nat) (txt : List UInt8) (L : List Tok) (n : Nat) (R : JR) (b : Bool) (w : World) : Prop := match R with
 | .ok rest l ns => b = true ∧ (∃ k t, rest = L.drop (k + 1) ∧ L[k]? = some t ∧ l = (t.sf, t.st) ∧ QJ B P txt L (k + 1) ns w) ∧ n < ns.length
 | .bad a er => b = false ∧ QBad B P (n + 1) a er w
theorem QKO.of {B P : Nat} {txt : List UInt8} {L : List Tok} {n : Nat} {R : JR} {w w' : World} {e : Ending} (h : QVE B P txt L R w e w') (hn : qN P w = n + 1) (hl : ∀ rr l ns, R = .ok rr l ns → n < ns.length) :
  ∃ b, e = .returned (.bool b) ∧ QKO B P txt L n R b w' ∧ Fr B P w w' := by
 cases R with
 | ok rr l ns =>
  obtain ⟨h1, h2, h3⟩ := h
  exact ⟨true, h1, ⟨rfl, h2, hl rr l ns rfl⟩, h3⟩
 | bad a er =>
  obtain ⟨h1, h2, h3⟩ := h
  rw [hn] at h2
  exact ⟨false, h1, ⟨rfl, h2⟩, h3⟩
set_option maxRecDepth 100000 in
set_option maxHeartbeats 8000000 in
theorem qvalue_step (w0 : World) (P : Nat) (txt : List UInt8) (L : List Tok) (hL : L.length ≤ 65536) (hs : txt.length ≤ 65536) (hTB : ∀ t ∈ L, t.sf ≤ t.st ∧ t.st ≤ txt.length) (hsg : ∀ t ∈ L, t.kind = 6 → t.st = t.sf + 1) (lv : Nat) (hlv : lv ≤ 32) (IH : ∀ m, lv = m + 1 → QVC w0 P txt L m) : QVC w0 P txt L lv := by
 intro w k l nodes key lev h hb hN hN4 hl
 obtain ⟨R, hR⟩ : ∃ R, valueM txt lv (L.drop k) l nodes key = R := ⟨_, rfl⟩
 rw [hR]
 have HR := Lib.hid hR
 have HIH := Lib.hid IH
 have HTB := Lib.hid hTB
 have HSG := Lib.hid hsg
 have HB := Lib.hid hb
 have hBw : w0.heap.size ≤ w.heap.size := hb.size
 have hqn := h.qN
 have HQN := Lib.hid hqn
 obtain ⟨hPl, hBP⟩ := h.ptr
 obtain ⟨q, hq⟩ : ∃ q, kindT (L.drop k) = q := ⟨_, rfl⟩
 have HQq := Lib.hid hq
 have b0 := below_alloc1 w (.cells #[.int .i64 (key.1 : Int), .int .i64 (key.2 : Int)] 42)
 have hX0 := heap_alloc_new w (.cells #[.int .i64 (key.1 : Int), .int .i64 (key.2 : Int)] 42)
 obtain ⟨K, hKe⟩ : ∃ K, w.heap.size = K := ⟨_, rfl⟩
 obtain ⟨W1, hW1⟩ : ∃ W, w.alloc (.cells #[.int .i64 (key.1 : Int), .int .i64 (key.2 : Int)] 42) = W := ⟨_, rfl⟩
 rw [hW1] at b0 hX0
 rw [hKe] at hX0
 have HJ1 := Lib.hid (h.keep b0)
 have HX1 := Lib.hid hX0
 have HF1 := Lib.hid (Fr.of_below (P := P) b0 hBw)
 have hBW1 : w0.heap.size ≤ W1.heap.size := Nat.le_trans hBw HF1.out.sz
 have CK : Hid (∀ w', Below W1.heap.size W1 w' → Calls Tryz.prog 218 #[.pointer (some ⟨P, 0, none⟩)] w' fun e w2 => e = .returned (.int .i64 (q : Int)) ∧ Below w'.heap.size w' w2) := Lib.hid (fun w' hb' => by
  have := qkind_any _ P txt L k nodes w' (HJ1.out.keep hb') (by omega)
  rw [hq] at this
  exact this)
 have CS := Lib.hid (fun w' => qscalar_any q w')
 obtain ⟨kd, hkd⟩ : ∃ kd, kindOfT q = kd := ⟨_, rfl⟩
 have HKD := Lib.hid hkd
 obtain ⟨sc, hsc⟩ : ∃ sc, scalarT q = sc := ⟨_, rfl⟩
 rw [hsc] at CS
 have hks : (if q = 2 then 6 else if q = 4 then 5 else sc) = kd := by rw [← hsc, ← scalarT_kind, hkd]
 have HKS := Lib.hid hks
 clear hb hqn hq b0 hX0 h hkd hks hR hTB hsg hsc IH
 have HLv := Lib.hid hl
 clear hl
 go_enter Tryz.func171, Tryz.ntmps171
 go_upto_region 1 with fail
 clear hW1 hKe
 go_wp2_with fail
 refine (CK.out _ (Below.refl _ _)).mono ?_
 rintro e w2 ⟨rfl, hb2⟩
 have HB2 := Lib.hid hb2
 clear hb2
 go_wp2_with fail
 refine (CS.out _).mono ?_
 rintro e w3 ⟨rfl, rfl⟩
 go_wp2_with fail
 refine (CK.out _ HB2.out).mono ?_
 rintro e w4 ⟨rfl, hb4⟩
 have HB4 := Lib.hid (below_of_new HB2.out hb4)
 clear hb4
 go_upto_if 15 with fail
 obtain ⟨k1, hk1⟩ : ∃ k1, (if q = 4 then 5 else sc) = k1 := ⟨_, rfl⟩
 have HK1 := Lib.hid hk1
 clear hk1
 go_cut [7] (fun s7 wx => s7 = .int .i64 (k1 : Int) ∧ w4 = wx)
 case first =>
  have hk1 := HK1.out
  by_cases h4 : q = 4
  ·rw [if_pos h4] at hk1
   subst hk1
   have d4 : ((q : Int) == 4) = true := by rw [h4]; rfl
   clear h4
   go_wp2_with fail
   go_meet
   exact ⟨rfl, rfl⟩
  ·rw [if_neg h4] at hk1
   subst hk1
   have d4 : ((q : Int) == 4) = false := by simp; omega
   clear h4
   go_wp2_with fail
   go_meet
   exact ⟨rfl, rfl⟩
 obtain ⟨rfl, rfl⟩ := hcut
 go_wp2_with fail
 refine (CK.out _ HB4.out).mono ?_
 rintro e w5 ⟨rfl, hb5⟩
 have HB5 := Lib.hid (below_of_new HB4.out hb5)
 clear hb5
 go_upto_if 18 with fail
 go_cut [7] (fun s7 wx => s7 = .int .i64 (kd : Int) ∧ w5 = wx)
 case first =>
  have hks := HKS.out
  have hk1 := HK1.out
  by_cases h2 : q = 2
  ·rw [if_pos h2] at hks
   subst hks
   have d2 : ((q : Int) == 2) = true := by rw [h2]; rfl
   clear h2 hk1
   go_wp2_with fail
   go_meet
   exact ⟨rfl, rfl⟩
  ·rw [if_neg h2, hk1] at hks
   subst hks
   have d2 : ((q : Int) == 2) = false := by simp; omega
   clear h2 hk1
   go_wp2_with fail
   go_meet
   exact ⟨rfl, rfl⟩
 obtain ⟨rfl, rfl⟩ := hcut
 obtain ⟨z, nv, hz, hQ5⟩ := HJ1.out.keep HB5.out
 have hzl : z.length = nodes.length := by rw [← hz, List.length_map]
 have HQ5 := Lib.hid hQ5
 have HZ := Lib.hid hz
 have HF5 := Lib.hid (HF1.out.trans (Fr.of_below (P := P) HB5.out hBW1))
 have HX5 := Lib.hid ((HB5.out.block _ (cell_it HX1.out)).trans HX1.out)
 have CW := Lib.hid (fun er => qwrong_any _ P txt L k z nv er w5 hQ5 (by omega) (by omega))
 clear hz hQ5 HB2 HB4 HK1 HKS CS CK HJ1 HX1 HF1
 have badEnd : Hid (∀ er w6, (∃ lv6, QBox w6 P txt lv6 k nv (hereT txt.length (L.drop k)) er) → OnlyP P w5 w6 → R = .bad (hereT txt.length (L.drop k)) er → QVE w0.heap.size P txt L R w (.returned (.bool false)) w6) := Lib.hid (fun er w6 hbx ho hR => by
  obtain ⟨lv6, hbx⟩ := hbx
  rw [hR]
  refine ⟨rfl, (QBad.of HQ5.out ho hbx).mono ?_, HF5.out.trans (OnlyP.fr ho hBP (Nat.le_trans hBw HF5.out.sz))⟩
  have h1 := HQN.out
  omega)
 by_cases hA : kd = 0
 ·have hR : R = .bad (hereT txt.length (L.drop k)) 2 := by
   rw [← HR.out]
   have h0 : kindOfT (kindT (L.drop k)) = 0 := by rw [HQq.out, HKD.out, hA]
   cases lv with
   | zero => exact if_pos h0
   | succ m => exact if_pos h0
  have d0 : ((kd : Int) == 0) = true := by rw [hA]; rfl
  have HRR := Lib.hid hR
  clear hR hA
  go_wp2_with fail
  refine (CW.out 2).mono ?_
  rintro e w6 ⟨rfl, hbx, ho⟩
  have HE := Lib.hid (badEnd.out 2 w6 hbx ho HRR.out)
  clear hbx ho
  go_wp2_with fail
  go_ret
  exact HE.out
 have d0 : ((kd : Int) == 0) = false := by simp; omega
 have hk0 : ¬ kindOfT (kindT (L.drop k)) = 0 := by rw [HQq.out, HKD.out]; exact hA
 by_cases hlv0 : lv = 0
 ·subst hlv0
  have hR : R = .bad (hereT txt.length (L.drop k)) 5 := by
   rw [← HR.out]
   exact if_neg hk0
  have dl : decide (32 < lev) = true := decide_eq_true (by have h := HLv.out; omega)
  have HRR := Lib.hid hR
  clear hR hA hk0
  go_wp2_with fail
  refine (CW.out 5).mono ?_
  rintro e w6 ⟨rfl, hbx, ho⟩
  have HE := Lib.hid (badEnd.out 5 w6 hbx ho HRR.out)
  clear hbx ho
  go_wp2_with fail
  go_ret
  exact HE.out
 obtain ⟨m, rfl⟩ : ∃ m, lv = m + 1 := ⟨lv - 1, by omega⟩
 have dl : decide (32 < lev) = false := decide_eq_false (by have h := HLv.out; omega)
 obtain ⟨p3, cp3, rfl⟩ := HQ5.out.at_.slice
 have c3 := HQ5.out.c3
 rw [hzl] at c3
 by_cases hM : nodes.length = 4096
 ·have hR : R = .bad (hereT txt.length (L.drop k)) 6 := by
   rw [← HR.out]
   show (if _ then _ else _) = _
   rw [if_neg hk0, if_pos hM]
  have dm : decide ((4096 : Int) ≤ (nodes.length : Int)) = true := decide_eq_true (by omega)
  have dm2 : decide (4096 ≤ nodes.length) = true := decide_eq_true (by omega)
  have HRR := Lib.hid hR
  clear hR hA hk0 hM
  go_wp2_with fail
  refine (CW.out 6).mono ?_
  rintro e w6 ⟨rfl, hbx, ho⟩
  have HE := Lib.hid (badEnd.out 6 w6 hbx ho HRR.out)
  clear hbx ho
  go_wp2_with fail
  go_ret
  exact HE.out
 have dm : decide ((4096 : Int) ≤ (nodes.length : Int)) = false := decide_eq_false (by omega)
 have dm2 : decide (4096 ≤ nodes.length) = false := decide_eq_false (by omega)
 clear CW badEnd
 have hq0 : kindT (L.drop k) ≠ 0 := fun h => hk0 (by rw [h]; rfl)
 obtain ⟨t, hLt⟩ : ∃ t, L[k]? = some t := ⟨_, List.getElem?_eq_getElem (kindT_lt hq0)⟩
 have hkl := (List.getElem?_eq_some_iff.1 hLt).1
 have hk0' : (0 : Int) ≤ (k : Int) := by omega
 have hk1' : (k : Int) < (L.length : Int) := by omega
 have HLt := Lib.hid hLt
 obtain ⟨q', hq'⟩ : ∃ q', kd = q' := ⟨_, rfl⟩
 obtain ⟨lvv, qb, qt, _, qn, _⟩ := HQ5.out
 obtain ⟨g, o, c, rfl, hcc, t0, t1, t2, gcur, hgT⟩ := qt.tok hLt
 have qc := qb.cells
 have hQd := HQ5.out.keep (Below.refl _ w5).drew
 have HQd := Lib.hid hQd
 have HZ0 := Lib.hid hQd.at_
 have hW0' : w0.heap.size ≤ w5.drew.heap.size := Nat.le_trans hBw HF5.out.sz
 have hY0 : w5.drew.cell? ⟨K, 0, none⟩ = some (.int .i64 (key.1 : Int)) := (cells_of2 HX5.out).1
 have hY1 : w5.drew.cell? ⟨K, 1, none⟩ = some (.int .i64 (key.2 : Int)) := (cells_of2 HX5.out).2.1
 have k1' : w5.drew.cell? ⟨g, o + k * 3 + 1, none⟩ = some (.int .i64 (t.sf : Int)) := t1
 have k2' : w5.drew.cell? ⟨g, o + k * 3 + 2, none⟩ = some (.int .i64 (t.st : Int)) := t2
 have hXl := cell_it HX5.out
 have hgl := cell_it hgT
 have hPl5 := qb.lt
 have q4 : w5.drew.cell? ⟨P, 3, none⟩ = some (.slice p3 nodes.length cp3) := by rw [← hzl]; exact HQ5.out.c3
 have HSs : SQ w5.drew K g P (.slice (some ⟨g, o, none⟩) L.length c) k w5.drew := ⟨⟨rfl, rfl⟩, qc.2.1, qc.2.2.1⟩
 obtain ⟨OB, hOB⟩ : ∃ ob : Obj, .cells #[.int .i64 (kd : Int), .int .i64 (t.sf : Int), .int .i64 (t.st : Int), .int .i64 (key.1 : Int), .int .i64 (key.2 : Int), .slice none 0 0, .slice none 0 0] 187 = ob := ⟨_, rfl⟩
 have ba := below_alloc1 w5.drew OB
 have HS1 : Hid (SQ w5.drew K g P (.slice (some ⟨g, o, none⟩) L.length c) k (w5.drew.alloc OB)) := Lib.hid ⟨⟨ba.block _ hXl, ba.block _ hgl⟩, by rw [ba.cell (p := ⟨P, 1, none⟩) hPl5]; exact qc.2.1, by rw [ba.cell (p := ⟨P, 2, none⟩) hPl5]; exact qc.2.2.1⟩
 have hgP : g ≠ P := fun e => by
  have hq := qb
  unfold QBox at hq
  rw [← e, hgT] at hq
  injection hq with hq
  injection hq with _ hq
  exact absurd hq (by decide)
 have hKP : K ≠ P := fun e => by
  have hq := qb
  unfold QBox at hq
  rw [← e, HX5.out] at hq
  injection hq with hq
  injection hq with _ hq
  exact absurd hq (by decide)
 have HS2 : Hid (∀ w2, w5.drew.grownBy w2 (Value.slice p3 z.length cp3).ownBlock → SQ w5.drew K g P (.slice (some ⟨g, o, none⟩) L.length c) k w2 ∧ w2.cell? ⟨P, 3, none⟩ = some (.slice p3 nodes.length cp3) ∧ w2.frozen? ⟨P, 3, none⟩ = false ∧ ∀ u, SQ w5.drew K g P (.slice (some ⟨g, o, none⟩) L.length c) k (w2.setCell ⟨P, 3, none⟩ u)) := Lib.hid (fun w2 hg => by
  have off : ∀ (k : Nat) (cs : Array Value) (tt : TypeId), w5.drew.heap[k]? = some (.cells cs tt (0, 0)) → 187 ≠ tt → w2.heap[k]? = w5.drew.heap[k]? := fun k cs tt hk hne => hg.block k (cell_it hk) (fun e => by
   obtain ⟨cur, hc⟩ := own_obj HZ0.out.row k e.symm
   rw [hk] at hc
   injection hc with hc
   injection hc with _ hc
   exact hne hc.symm)
  have oX := off K _ _ HX5.out (by decide)
  have oG := off g _ _ hgT (by decide)
  have oP := off P _ _ qb (by decide)
  have j2 : QBox w2 P txt (.slice (some ⟨g, o, none⟩) L.length c) k (.slice p3 z.length cp3) 0 0 := oP.trans qb
  obtain ⟨_, e1, e2, e3, _, _, _, _, g3, _⟩ := j2.cells
  rw [hzl] at e3
  refine ⟨⟨⟨oX, oG⟩, e1, e2⟩, e3, g3, fun u => ⟨⟨?_, ?_⟩, (j2.nodes u).cells.2.1, (j2.nodes u).cells.2.2.1⟩⟩
  ·rw [Below.heap_setCell w2 ⟨P, 3, none⟩ u _ hKP]; exact oX
  ·rw [Below.heap_setCell w2 ⟨P, 3, none⟩ u _ hgP]; exact oG)
 have HP4 : Hid (∀ d v w', QF (valQ P p3 nodes cp3 kd g o L.length c k t key (w5.drew).heap.size) (SQ w5.drew K g P (.slice (some ⟨g, o, none⟩) L.length c) k) w5.drew OB (fun nv w2 => w2.ownsRow w0.heap.size 187 7 nv (z.length + 1) (nodeCells z ++ ndCells (⟨kd, t.sf, t.st, key, [], []⟩, .slice none 0 0, .slice none 0 0)) ∧ w5.drew.grownBy w2 (Value.slice p3 z.length cp3).ownBlock) P d v w' → d 4 = false → w'.cell? ⟨P, 3, none⟩ = some (.slice p3 nodes.length cp3)) := Lib.hid (fun d v w' hF h4 => by
  have h20 : d 20 = false := by
   cases hc : d 20 with
   | false => rfl
   | true => have := (hF.up hc).2; rw [h4] at this; cases this
  cases h19 : d 19 with
  | false => rw [hF.w0 h19]; exact q4
  | true => rw [hF.w1 h19 h20, ba.cell (p := ⟨P, 3, none⟩) hPl5]; exact q4)
 have hM4 : nodes.length < 4096 := by omega
 have HM4 := Lib.hid hM4
 have hdr : L.drop k = t :: L.drop (k + 1) := by
  rw [List.drop_eq_getElem_cons hkl]
  congr 1
  have := (List.getElem?_eq_some_iff.1 hLt).2
  exact this
 have hkt : kindOfT t.kind = kd := by
  rw [← HKD.out, ← HQq.out, hdr]
  rfl
 obtain ⟨R1, hR1⟩ : ∃ R1, (if t.kind = 4 then kidsM txt (valueM txt m) 5 false nodes.length (L.drop (k + 1)) (t.sf, t.st) (nodes ++ [⟨kd, t.sf, t.st, key, [], []⟩]) else if t.kind = 2 then kidsM txt (valueM txt m) 3 true nodes.length (L.drop (k + 1)) (t.sf, t.st) (nodes ++ [⟨kd, t.sf, t.st, key, [], []⟩]) else .ok (L.drop (k + 1)) (t.sf, t.st) (nodes ++ [⟨kd, t.sf, t.st, key, [], []⟩])) = R1 := ⟨_, rfl⟩
 have HRE : Hid (endM nodes.length R1 = R) := Lib.hid (by
  rw [← HR.out, ← hR1]
  conv => rhs; unfold valueM
  rw [if_neg hk0, if_neg hM, hdr]
  simp only [hkt])
 have HR1 := Lib.hid hR1
 have HKT := Lib.hid hkt
 have HKL := Lib.hid hkl
 have hNN : (nodes ++ [(⟨kd, t.sf, t.st, key, [], []⟩ : NodeD)]).length + (L.drop (k + 1)).length ≤ 131074 := by
  rw [List.length_append, List.length_singleton]
  rw [hdr, List.length_cons] at hN
  omega
 have HNN := Lib.hid hNN
 have hfol : Tryz.prog.follows .mixedOrders = true := by kernel_rfl
 clear hLt hM4 hdr hkt hR1 hNN qb qt qn qc t0 t1 t2 hQd ba hgT hXl hgl hPl5 hq' hA hk0 hM hq0 q'
 go_upto_region 13 with fail
 clear d0 dl dm dm2 c3
 obtain ⟨W0, hW0e⟩ : ∃ W, w5.drew = W := ⟨_, rfl⟩
 refine wp_region_facts hfol [40, 41, 42, 43, 44, 45, 46, 47, 48, 49, 50, 51, 52, 53, 54, 55, 56, 57, 58, 59, 60, 61, 62] 105 rfl (by kernel_rfl) (by kernel_rfl) (fun d v w' => QF (valQ P p3 nodes cp3 kd g o L.length c k t key (w5.drew).heap.size) (SQ w5.drew K g P (.slice (some ⟨g, o, none⟩) L.length c) k) w5.drew OB (fun nv w2 => w2.ownsRow w0.heap.size 187 7 nv (z.length + 1) (nodeCells z ++ ndCells (⟨kd, t.sf, t.st, key, [], []⟩, .slice none 0 0, .slice none 0 0)) ∧ w5.drew.grownBy w2 (Value.slice p3 z.length cp3).ownBlock) P d v w') ⟨fun _ _ _ h => absurd h (by decide), HSs, fun h => absurd h (by decide), fun h => absurd h (by decide), fun _ => rfl, fun h => absurd h (by decide), fun h => absurd h (by decide), fun h => absurd h (by decide)⟩ ?_ ?_
 ·intro d a w' i o' ho hi hall hfr hF R' hR
  have hi20 : i < 24 := (Array.getElem?_eq_some_iff.1 ho).1
  have q0 : a.tmps[0]?.getD undef = .pointer (some ⟨P, 0, none⟩) := by rw [← Array.getD_eq_getD_getElem?]; exact hfr 0 (by decide)
  have q5 : a.tmps[5]?.getD undef = .pointer (some ⟨K, 0, none⟩) := by rw [← Array.getD_eq_getD_getElem?]; exact hfr 5 (by decide)
  have q7 : a.tmps[7]?.getD undef = .int .i64 (kd : Int) := by rw [← Array.getD_eq_getD_getElem?]; exact hfr 7 (by decide)
  clear hfr
  rw [hW0e] at hF hR hY0 hY1 k1' k2' HP4 HS1 HS2 HZ0 hW0'
  rcases lt24 hi20 with rfl | rfl | rfl | rfl | rfl | rfl | rfl | rfl | rfl | rfl | rfl | rfl | rfl | rfl | rfl | rfl | rfl | rfl | rfl | rfl | rfl | rfl | rfl | rfl <;> simp only [List.getElem?_toArray, List.getElem?_cons_zero, List.getElem?_cons_succ, Option.some.injEq] at ho <;> subst ho
  ·go_simp
   exact hR _ _ (hF.pure (i := 0) rfl rfl (by decide) (by decide) (by decide))
  ·go_simp
   exact hR _ _ (hF.pure (i := 1) rfl rfl (by decide) (by decide) (by decide))
  ·simp [Region.binds] at hall
   have c41 : a.tmps[41]?.getD undef = .pointer (some ⟨P, 0, none⟩) := by rw [← Array.getD_eq_getD_getElem?]; exact hF.cl 1 (by decide) (by decide) (by simp [hall])
   go_simp
   exact hR _ _ (hF.pure (i := 2) rfl rfl (by decide) (by decide) (by decide))
  ·simp [Region.binds] at hall
   have c42 : a.tmps[42]?.getD undef = .pointer (some ⟨P, 0, none⟩) := by rw [← Array.getD_eq_getD_getElem?]; exact hF.cl 2 (by decide) (by decide) (by simp [hall])
   go_simp
   exact hR _ _ (hF.pure (i := 3) rfl rfl (by decide) (by decide) (by decide))
  ·simp [Region.binds] at hall
   have c43 : a.tmps[43]?.getD undef = .pointer (some ⟨P, 3, none⟩) := by rw [← Array.getD_eq_getD_getElem?]; exact hF.cl 3 (by decide) (by decide) (by simp [hall])
   have x4 := HP4.out d _ w' hF hi
   go_simp
   exact hR _ _ (hF.pure (i := 4) rfl rfl (by decide) (by decide) (by decide))
  ·go_simp
   exact hR _ _ (hF.pure (i := 5) rfl rfl (by decide) (by decide) (by decide))
  ·go_simp
   exact hR _ _ (hF.pure (i := 6) rfl rfl (by decide) (by decide) (by decide))
  ·simp [Region.binds] at hall
   have c46 : a.tmps[46]?.getD undef = .pointer (some ⟨P, 0, none⟩) := by rw [← Array.getD_eq_getD_getElem?]; exact hF.cl 6 (by decide) (by decide) (by simp [hall])
   go_simp
   exact hR _ _ (hF.pure (i := 7) rfl rfl (by decide) (by decide) (by decide))
  ·simp [Region.binds] at hall
   have c47 : a.tmps[47]?.getD undef = .pointer (some ⟨P, 0, none⟩) := by rw [← Array.getD_eq_getD_getElem?]; exact hF.cl 7 (by decide) (by decide) (by simp [hall])
   go_simp
   exact hR _ _ (hF.pure (i := 8) rfl rfl (by decide) (by decide) (by decide))
  ·simp [Region.binds] at hall
   have c48 : a.tmps[48]?.getD undef = .pointer (some ⟨P, 1, none⟩) := by rw [← Array.getD_eq_getD_getElem?]; exact hF.cl 8 (by decide) (by decide) (by simp [hall])
   have x0 := hF.st.2.1
   go_simp
   exact hR _ _ (hF.pure (i := 9) rfl rfl (by decide) (by decide) (by decide))
  ·go_simp
   exact hR _ _ (hF.pure (i := 10) rfl rfl (by decide) (by decide) (by decide))
  ·simp [Region.binds] at hall
   have c50 : a.tmps[50]?.getD undef = .pointer (some ⟨P, 0, none⟩) := by rw [← Array.getD_eq_getD_getElem?]; exact hF.cl 10 (by decide) (by decide) (by simp [hall])
   go_simp
   exact hR _ _ (hF.pure (i := 11) rfl rfl (by decide) (by decide) (by decide))
  ·simp [Region.binds] at hall
   have c51 : a.tmps[51]?.getD undef = .pointer (some ⟨P, 0, none⟩) := by rw [← Array.getD_eq_getD_getElem?]; exact hF.cl 11 (by decide) (by decide) (by simp [hall])
   go_simp
   exact hR _ _ (hF.pure (i := 12) rfl rfl (by decide) (by decide) (by decide))
  ·simp [Region.binds] at hall
   have c52 : a.tmps[52]?.getD undef = .pointer (some ⟨P, 2, none⟩) := by rw [← Array.getD_eq_getD_getElem?]; exact hF.cl 12 (by decide) (by decide) (by simp [hall])
   have x0 := hF.st.2.2
   go_simp
   exact hR _ _ (hF.pure (i := 13) rfl rfl (by decide) (by decide) (by decide))
  ·simp [Region.binds] at hall
   have c49 : a.tmps[49]?.getD undef = .slice (some ⟨g, o, none⟩) L.length c := by rw [← Array.getD_eq_getD_getElem?]; exact hF.cl 9 (by decide) (by decide) (by simp [hall])
   have c53 : a.tmps[53]?.getD undef = .int .i64 (k : Int) := by rw [← Array.getD_eq_getD_getElem?]; exact hF.cl 13 (by decide) (by decide) (by simp [hall])
   go_simp
   exact hR _ _ (hF.pure (i := 14) rfl rfl (by decide) (by decide) (by decide))
  ·simp [Region.binds] at hall
   have c54 : a.tmps[54]?.getD undef = .pointer (some ⟨g, o + k * 3, none⟩) := by rw [← Array.getD_eq_getD_getElem?]; exact hF.cl 14 (by decide) (by decide) (by simp [hall])
   go_simp
   exact hR _ _ (hF.pure (i := 15) rfl rfl (by decide) (by decide) (by decide))
  ·simp [Region.binds] at hall
   have c55 : a.tmps[55]?.getD undef = .pointer (some ⟨g, o + k * 3 + 1, none⟩) := by rw [← Array.getD_eq_getD_getElem?]; exact hF.cl 15 (by decide) (by decide) (by simp [hall])
   have x1 := (cell_same hF.st.1.2 (o + k * 3 + 1)).trans k1'
   have x2 := (cell_same hF.st.1.2 (o + k * 3 + 2)).trans k2'
   have x2b := x2
   rw [show o + k * 3 + 2 = o + k * 3 + 1 + 1 by omega] at x2b
   go_simp
   exact hR _ _ (hF.pure (i := 16) rfl rfl (by decide) (by decide) (by decide))
  ·have x1 := (cell_same hF.st.1.1 0).trans hY0
   have x2 := (cell_same hF.st.1.1 1).trans hY1
   go_simp
   exact hR _ _ (hF.pure (i := 17) rfl rfl (by decide) (by decide) (by decide))
  ·simp [Region.binds] at hall
   have c45 : a.tmps[45]?.getD undef = .int .i64 (kd : Int) := by rw [← Array.getD_eq_getD_getElem?]; exact hF.cl 5 (by decide) (by decide) (by simp [hall])
   have c56 : a.tmps[56]?.getD undef = .agg #[.int .i64 (t.sf : Int), .int .i64 (t.st : Int)] := by rw [← Array.getD_eq_getD_getElem?]; exact hF.cl 16 (by decide) (by decide) (by simp [hall])
   have c57 : a.tmps[57]?.getD undef = .agg #[.int .i64 (key.1 : Int), .int .i64 (key.2 : Int)] := by rw [← Array.getD_eq_getD_getElem?]; exact hF.cl 17 (by decide) (by decide) (by simp [hall])
   go_simp
   exact hR _ _ (hF.pure (i := 18) rfl rfl (by decide) (by decide) (by decide))
  ·simp [Region.binds] at hall
   have c58 : a.tmps[58]?.getD undef = .agg #[.int .i64 (kd : Int), .int .i64 (t.sf : Int), .int .i64 (t.st : Int), .int .i64 (key.1 : Int), .int .i64 (key.2 : Int), .slice none 0 0, .slice none 0 0] := by rw [← Array.getD_eq_getD_getElem?]; exact hF.cl 18 (by decide) (by decide) (by simp [hall])
   obtain rfl := hF.w0 hi
   go_simp
   exact hR _ _ (hF.mkA hi rfl HS1.out)
  ·simp [Region.binds] at hall
   have e4 : d 4 = true := by simp [hall]
   have e19 : d 19 = true := by simp [hall]
   have c44 : a.tmps.getD 44 undef = .slice p3 nodes.length cp3 := by exact hF.cl 4 (by decide) (by decide) (e4)
   have c59 : a.tmps.getD 59 undef = .slice (some ⟨W0.heap.size, 0, none⟩) 1 1 := by exact hF.cl 19 (by decide) (by decide) (e19)
   obtain rfl := hF.w1 e19 hi
   rw [← hOB]
   exact wp_node rfl (.tmp 44) (.tmp 59) rfl w0.heap.size W0 (.slice p3 z.length cp3) z ⟨kd, t.sf, t.st, key, [], []⟩ _ rfl (by rw [hzl]; exact c44) HZ0.out.row c59 (by omega) hW0' (fun nv w2 hr2 hg2 => hR _ _ (hF.app e19 e4 hi (HS2.out w2 hg2).1 ⟨hr2, hg2⟩))
  ·simp [Region.binds] at hall
   have c40 : a.tmps[40]?.getD undef = .pointer (some ⟨P, 0, none⟩) := by rw [← Array.getD_eq_getD_getElem?]; exact hF.cl 0 (by decide) (by decide) (by simp [hall])
   go_simp
   exact hR _ _ (hF.pure (i := 21) rfl rfl (by decide) (by decide) (by decide))
  ·simp [Region.binds] at hall
   have c61 : a.tmps[61]?.getD undef = .pointer (some ⟨P, 0, none⟩) := by rw [← Array.getD_eq_getD_getElem?]; exact hF.cl 21 (by decide) (by decide) (by simp [hall])
   go_simp
   exact hR _ _ (hF.pure (i := 22) rfl rfl (by decide) (by decide) (by decide))
  ·simp [Region.binds] at hall
   have e20 : d 20 = true := by simp [hall]
   have e22 : d 22 = true := by simp [hall]
   have c62 : a.tmps[62]?.getD undef = .pointer (some ⟨P, 3, none⟩) := by rw [← Array.getD_eq_getD_getElem?]; exact hF.cl 22 (by decide) (by decide) (e22)
   obtain ⟨_, x4, f4, hS4⟩ := HS2.out w' (hF.w2 e20 hi).2
   obtain ⟨gn, cn, hV⟩ := own_succ (hF.w2 e20 hi).1
   have hV : a.tmps.getD 60 undef = .slice (some ⟨gn, 0, none⟩) (z.length + 1) cn := hV
   rw [hzl] at hV
   have c60 : a.tmps[60]?.getD undef = .slice (some ⟨gn, 0, none⟩) (nodes.length + 1) cn := by rw [← Array.getD_eq_getD_getElem?]; exact hV
   have hfin := fun x => hF.sto e20 hi (x := x) (k := none) rfl (hS4 _)
   simp only [hV] at hfin
   go_simp
   exact hR undef _ (hfin undef)
 ·intro v W9 hF
  rw [hW0e] at hF HQd hW0'
  obtain ⟨nv2, w1, ⟨hr2, hg2⟩, hW⟩ := hF.w3 (by decide)
  obtain ⟨hj9, hf9⟩ := HQd.out.node (x := ⟨kd, t.sf, t.st, key, [], []⟩) rfl rfl hW0' hr2 hg2
  rw [← hW] at hj9 hf9
  have hj9 := hj9.cast (congrArg (· ++ [(⟨kd, t.sf, t.st, key, [], []⟩ : NodeD)]) HZ.out)
  have HF9 := Lib.hid (HF5.out.trans ((Fr.of_below (by rw [← hW0e]; exact (Below.refl _ w5).drew) (Nat.le_trans hBw HF5.out.sz)).trans hf9))
  obtain ⟨c2, f2⟩ := hj9.c2
  obtain ⟨hj10, hf10⟩ := hj9.step HKL.out
  have ek : ((k + 1 : Nat) : Int) = (k : Int) + 1 := by omega
  rw [ek] at hj10 hf10
  obtain ⟨w10, hw10e⟩ : ∃ w10, W9.setCell ⟨P, 2, none⟩ (.int .i64 ((k : Int) + 1)) = w10 := ⟨_, rfl⟩
  have HJ10 := Lib.hid hj10
  have HF10 := Lib.hid (HF9.out.trans hf10)
  rw [hw10e] at HJ10 HF10
  simp only [fillT, List.setIfInBounds_toArray, List.set_cons_succ, List.set_cons_zero]
  clear hF hr2 hg2 hW hj9 hf9 hj10 hf10 ek HP4 HS1 HS2 HZ0 HSs hY0 hY1 k1' k2' hW0' q4 HF9 HQd HX5
  have hw10 : w0.heap.size ≤ w10.heap.size := Nat.le_trans hBw HF10.out.sz
  have HB10 : Hid (Below w0.heap.size w0 w10) := Lib.hid (HB.out.trans HF10.out.bel)
  have hn10 : qN P w10 = nodes.length + 1 := by rw [HJ10.out.qN, List.length_append]; rfl
  have HN10 := Lib.hid hn10
  have HMid : Hid (Mid nodes (⟨kd, t.sf, t.st, key, [], []⟩ : NodeD) [] (nodes ++ [(⟨kd, t.sf, t.st, key, [], []⟩ : NodeD)])) := Lib.hid ⟨rfl, by simp, by simp, fun y hy => by cases hy⟩
  have HM5 : Hid ((nodes ++ [(⟨kd, t.sf, t.st, key, [], []⟩ : NodeD)]).length ≤ 4096) := Lib.hid (by rw [List.length_append, List.length_singleton]; have := HM4.out; omega)
  have HLV1 : Hid (lev + 1 = 33 - (m : Int)) := Lib.hid (by have h := HLv.out; omega)
  have HLV2 : Hid (0 ≤ lev ∧ lev ≤ 32) := Lib.hid (by have h := HLv.out; omega)
  clear hn10
  have CKids : Hid (∀ closing obj, ((closing = 5 ∧ obj = false) ∨ (closing = 3 ∧ obj = true)) → kidsM txt (valueM txt m) closing obj nodes.length (L.drop (k + 1)) (t.sf, t.st) (nodes ++ [⟨kd, t.sf, t.st, key, [], []⟩]) = R1 →
    Calls Tryz.prog 219 #[.pointer (some ⟨P, 0, none⟩), .int .i64 (nodes.length : Int), .int .i64 lev, .int .i64 (closing : Int)] w10 (fun e w' => ∃ b, e = .returned (.bool b) ∧ QKO w0.heap.size P txt L nodes.length R1 b w' ∧ Fr w0.heap.size P w10 w')) := Lib.hid (fun closing obj hc hR => by
   refine (qkids_any w0 P txt L m (HIH.out m rfl) w10 k t nodes _ [] _ lev closing obj HJ10.out HLt.out HMid.out HB10.out HNN.out HM5.out HLV1.out HLV2.out hL hs HTB.out HSG.out hc).mono ?_
   intro e w' hE
   rw [hR] at hE
   exact QKO.of hE HN10.out (fun rr ll ns he => by
    obtain ⟨x', post', hm, _⟩ := kids_ext (value_ext txt m) HMid.out (hR.trans he)
    exact hm.lt))
  have HK0 : Hid (t.kind ≠ 4 → t.kind ≠ 2 → QKO w0.heap.size P txt L nodes.length R1 true w10) := Lib.hid (fun h4 h2 => by
   have hR := HR1.out
   rw [if_neg h4, if_neg h2] at hR
   rw [← hR]
   exact ⟨rfl, ⟨k, t, rfl, HLt.out, rfl, HJ10.out⟩, HMid.out.lt⟩)
  clear HMid HM5 HLV1 HLV2 HNN HB10 HIH
  go_upto_if 71 with fail
  go_cut [9] (fun s9 wx => ∃ b, s9 = .bool b ∧ Hid (if t.kind = 4 then QKO w0.heap.size P txt L nodes.length R1 b wx ∧ Fr w0.heap.size P w wx else b = true ∧ wx = w10))
  case first =>
   by_cases h4 : t.kind = 4
   ·have hkd : kd = 5 := by rw [← HKT.out, h4]; rfl
    have hR := HR1.out
    rw [if_pos h4] at hR
    have HCA := Lib.hid (CKids.out 5 false (.inl ⟨rfl, rfl⟩) hR)
    have d5 : ((kd : Int) == 5) = true := by rw [hkd]; rfl
    have H4 := Lib.hid h4
    clear hR h4 HR1 hkd
    go_wp2_with fail
    refine HCA.out.mono ?_
    rintro e w11 ⟨b, rfl, hko, hfr⟩
    have HK11 := Lib.hid hko
    have HF11 := Lib.hid (HF10.out.trans hfr)
    clear hko hfr
    go_wp2_with fail
    go_meet
    exact ⟨b, rfl, Lib.hid (by rw [if_pos H4.out]; exact ⟨HK11.out, HF11.out⟩)⟩
   ·have d5 : ((kd : Int) == 5) = false := beq_eq_false_iff_ne.2 (by
     have := kindOf_not5 h4
     rw [HKT.out] at this
     omega)
    have H4 := Lib.hid h4
    clear h4
    go_wp2_with fail
    go_meet
    exact ⟨true, rfl, Lib.hid (by rw [if_neg H4.out]; exact ⟨rfl, rfl⟩)⟩
  case rest =>
   obtain ⟨b, rfl, HA⟩ := hcut
   go_upto_if 77 with fail
   go_cut [9] (fun s9 wx => ∃ b, s9 = .bool b ∧ Hid (QKO w0.heap.size P txt L nodes.length R1 b wx ∧ Fr w0.heap.size P w wx))
   case first =>
    by_cases h2 : t.kind = 2
    ·have hkd : kd = 6 := by rw [← HKT.out, h2]; rfl
     have h4 : t.kind ≠ 4 := by omega
     have hR := HR1.out
     rw [if_neg h4, if_pos h2] at hR
     have HCA := Lib.hid (CKids.out 3 true (.inr ⟨rfl, rfl⟩) hR)
     have d6 : ((kd : Int) == 6) = true := by rw [hkd]; rfl
     have hA := HA.out
     rw [if_neg h4] at hA
     obtain ⟨rfl, rfl⟩ := hA
     clear hR h4 h2 HR1 hkd
     go_wp2_with fail
     refine HCA.out.mono ?_
     rintro e w11 ⟨b, rfl, hko, hfr⟩
     have HK11 := Lib.hid hko
     have HF11 := Lib.hid (HF10.out.trans hfr)
     clear hko hfr
     go_wp2_with fail
     go_meet
     exact ⟨b, rfl, Lib.hid ⟨HK11.out, HF11.out⟩⟩
    ·have d6 : ((kd : Int) == 6) = false := beq_eq_false_iff_ne.2 (by
      have := kindOf_not6 h2
      rw [HKT.out] at this
      omega)
     have HG : Hid (QKO w0.heap.size P txt L nodes.length R1 b wc ∧ Fr w0.heap.size P w wc) := Lib.hid (by
      have hA := HA.out
      by_cases h4 : t.kind = 4
      ·rw [if_pos h4] at hA
       exact hA
      ·rw [if_neg h4] at hA
       obtain ⟨rfl, rfl⟩ := hA
       exact ⟨HK0.out h4 h2, HF10.out⟩)
     clear h2
     go_wp2_with fail
     go_meet
     exact ⟨b, rfl, HG⟩
   case rest =>
    clear HA
    obtain ⟨b, rfl, HG⟩ := hcut
    obtain ⟨hg1, hg2⟩ := HG.out
    have HG1 := Lib.hid hg1
    have HG2 := Lib.hid hg2
    clear hg1 hg2 HG HJ10 HF10 CKids HK0 HR1
    cases R1 with
    | bad a er =>
     have hb := HG1.out.1
     subst hb
     have HE : Hid (QVE w0.heap.size P txt L R w (.returned (.bool false)) wc) := Lib.hid (by
      rw [← HRE.out]
      refine ⟨rfl, HG1.out.2.mono ?_, HG2.out⟩
      rw [HQN.out]; omega)
     go_wp2_with fail
     go_ret
     exact HE.out
    | ok rr ll ns =>
     obtain ⟨hb, ⟨k5, t5, rfl, hLt5, rfl, hj5⟩, hlt⟩ := HG1.out
     subst hb
     obtain ⟨g5, cap5, st5, n1, n2, n3, n4, hj6, hf6⟩ := hj5.to hlt t5.st
     have HE : Hid (QVE w0.heap.size P txt L R w (.returned (.bool true)) (wc.setCell ⟨g5, nodes.length * 7 + 2, none⟩ (.int .i64 (t5.st : Int)))) := Lib.hid (by
      rw [← HRE.out]
      exact ⟨rfl, ⟨k5, t5, rfl, hLt5, rfl, hj6⟩, HG2.out.trans hf6⟩)
     obtain ⟨z5, nv5, _, lv5, qb5, qt5, _⟩ := hj5
     obtain ⟨g6, o6, c6, rfl, hc6, t60, t61, t62, _⟩ := qt5.tok hLt5
     obtain ⟨_, e1, e2, _⟩ := qb5.cells
     have hk50 : (0 : Int) ≤ (k5 : Int) := by omega
     have hk5l := (List.getElem?_eq_some_iff.1 hLt5).1
     have hk51 : (k5 : Int) < (L.length : Int) := by omega
     have hkz : ((k5 + 1 : Nat) : Int) - 1 = (k5 : Int) := by omega
     obtain ⟨kk5, hkk⟩ : ∃ kk5, k5 + 1 = kk5 := ⟨_, rfl⟩
     rw [hkk] at hkz e2
     have hnz : (0 : Int) ≤ (nodes.length : Int) := by omega
     have hnz2 : (nodes.length : Int) < (ns.length : Int) := by omega
     have t62' : wc.cell? ⟨g6, o6 + k5 * 3 + 1 + 1, none⟩ = some (.int .i64 (t5.st : Int)) := t62
     have n3' : wc.cell? ⟨g5, nodes.length * 7 + 1 + 1, none⟩ = some (.int .i64 st5) := n3
     clear hj6 hf6 hLt5 qb5 qt5 HG1 HG2 HRE hlt hkk hk5l
     go_upto_region 21 with fail
     go_region
     all_goals
      go_wp2_with fail
      go_ret
      exact QVE.drewn HE.out hBw
theorem qvalue_any (w0 : World) (P : Nat) (txt : List UInt8) (L : List Tok) (hL : L.length ≤ 65536) (hs : txt.length ≤ 65536) (hTB : ∀ t ∈ L, t.sf ≤ t.st ∧ t.st ≤ txt.length) (hsg : ∀ t ∈ L, t.kind = 6 → t.st = t.sf + 1) : ∀ (lv : Nat), lv ≤ 32 → QVC w0 P txt L lv
 | 0, h => qvalue_step w0 P txt L hL hs hTB hsg 0 h (fun m hm => absurd hm (by omega))
 | n + 1, h => qvalue_step w0 P txt L hL hs hTB hsg (n + 1) h (fun m hm => by
  have : n = m := by omega
  subst this
  exact qvalue_any w0 P txt L hL hs hTB hsg n (by omega))
theorem tokR_six (l : List UInt8) (h0 : (tokR l).2.2 = 0) (h : (tokR l).1 = 6) : (tokR l).2.1 = 1 := by
 unfold tokR at h0 h ⊢
 cases l with
 | nil => simp at h
 | cons c r =>
  simp only [] at h0 h ⊢
  cases hs : signI c with
  | some k => rfl
  | none =>
   rw [hs] at h0 h
   simp only [] at h0 h ⊢
   split at h
   ·simp at h
   ·split at h
    ·split at h
     ·simp at h
     ·simp at h
    ·split at h
     ·split at h
      ·simp at h
      ·simp at h
     ·split at h
      ·simp at h
      ·exfalso
       simp only [] at h
       unfold wordL at h
       (repeat' split at h) <;> omega
theorem toks_six : ∀ (f : Nat) (l : List UInt8) (i : Nat), ∀ t ∈ (toksGo f l i).1, t.kind = 6 → t.st = t.sf + 1
 | f, [], i, t, ht => by rw [toksGo_nil] at ht; cases ht
 | 0, c :: r, i, t, ht => by cases ht
 | f + 1, c :: r, i, t, ht => by
  rw [toksGo_cons] at ht
  split at ht
  ·rename_i h0
   rcases List.mem_cons.1 ht with rfl | ht
   ·intro h6
    have := tokR_six (c :: r) h0 h6
    simp only []; omega
   ·exact toks_six f _ _ t ht
  ·cases ht
theorem toksL_six (l : List UInt8) : ∀ t ∈ (toksL l).1, t.kind = 6 → t.st = t.sf + 1 := by
 unfold toksL
 split
 ·intro t h; cases h
 ·split
  ·exact toks_six _ _ _
  ·intro t h; cases h
theorem QBox.toks {w : World} {P : Nat} {txt : List UInt8} {lv nv : Value} {k a : Nat} {er : Int} (h : QBox w P txt lv k nv a er) (lv2 : Value) : QBox (w.setCell ⟨P, 1, none⟩ lv2) P txt lv2 k nv a er := by
 unfold QBox at h ⊢
 simp [World.setCell, Array.getElem?_modify, h]
theorem QBox.offT {w w' : World} {P B : Nat} {txt : List UInt8} {lv nv : Value} {k a : Nat} {er : Int} (h : QBox w P txt lv k nv a er) {ts : List Tok} {v : Value} (hr : OwnsToks B w v ts) (hg : w.grownBy w' v.ownBlock) : QBox w' P txt lv k nv a er :=
 (hg.block P h.lt (fun e => by
  rcases own_off hr h (by decide) with h1 | h1
  ·rw [h1] at e; cases e
  ·exact h1 e.symm)).trans h
theorem qtok_push {w w2 w5 : World} {P : Nat} {txt : List UInt8} {lv nv kv : Value} {k a : Nat} {er : Int} {ts : List Tok} {t : Tok} (h1 : QBox w P txt lv k nv a er) (hr : OwnsToks (P + 1) w lv ts) (hb : Below P w2 w) (hg : w.grownBy w5 lv.ownBlock) (ho : OwnsToks (P + 1) w5 kv (ts ++ [t])) :
  QBox (w5.setCell ⟨P, 1, none⟩ kv) P txt kv k nv a er ∧ OwnsToks (P + 1) (w5.setCell ⟨P, 1, none⟩ kv) kv (ts ++ [t]) ∧ Below P w2 (w5.setCell ⟨P, 1, none⟩ kv) ∧ w5.cell? ⟨P, 1, none⟩ = some lv ∧ w5.frozen? ⟨P, 1, none⟩ = false := by
 have j5 := h1.offT hr hg
 refine ⟨j5.toks kv, ho.kept (grown_set w5 P 1 kv) (own_off ho j5 (by decide)), (hb.grown hg (by have := h1.lt; omega) (fun k hk => by have := (hr.lt k hk).1; omega)).setCell (by simp) _, j5.cells.2.1, j5.cells.2.2.2.2.2.2.1⟩
set_option maxRecDepth 100000 in
set_option maxHeartbeats 8000000 in
theorem qparse_any (l : List UInt8) (w : World) (hs : l.length ≤ 140737488351232) :
  Calls Tryz.prog 113 #[.string (bs l)] w (ParseE l (parseJ l) w) := by
 have sl := bs_size l
 obtain ⟨ht1, ht2, ht3⟩ := toksL_tb l
 have HT6 := Lib.hid (toksL_six l)
 have hp : parseJ l = if (toksL l).2.2 ≠ 0 then ([], (toksL l).2.1, (toksL l).2.2) else
  endP l.length (valueM l 32 (noBlank (toksL l).1) (0, 0) [] (0, 0)) := by
  unfold parseJ noBlank endP
  rfl
 rw [hp]
 clear hp
 have b1 := below_alloc1 w (.cells #[.string ⟨#[]⟩, .slice none 0 0] 132)
 have C := refTokens_any l (w.alloc (.cells #[.string ⟨#[]⟩, .slice none 0 0] 132)) hs
 obtain ⟨r, hr⟩ : ∃ r, toksL l = r := ⟨_, rfl⟩
 rw [hr] at C HT6 ht1 ht2 ht3 ⊢
 obtain ⟨T, at_, er⟩ := r
 have CT := Lib.hid C
 have HB1 := Lib.hid b1
 simp only [] at ht1 ht2 ht3 HT6
 by_cases he : er = 0
 case neg =>
  have hen : (er != 0) = true := bne_iff_ne.2 he
  clear C b1 hr ht2 ht3
  go_enter Tryz.func113, Tryz.ntmps113
  go_wp2_with fail
  refine CT.out.mono ?_
  rintro e w2 ⟨v, rfl, ho, hn, hb⟩
  have hD : w2.heap[w.heap.size]? = some (.cells #[.string ⟨#[]⟩, .slice none 0 0] 132) := (hb.block _ (by simp)).trans (heap_alloc_new w _)
  obtain ⟨c0, c1⟩ := cells_at2 hD
  obtain ⟨f0, f1⟩ := cells_fr2 hD
  have hB : Below w.heap.size w w2 := HB1.out.trans (hb.mono (by simp))
  have HB := Lib.hid hB
  clear hD ho hn hb hB
  go_wp2_with fail
  try simp only [Exit.inBlock, Exit.then]
  refine bodyPost_ret (results_doc rfl _ _ rfl (u := .string ⟨#[]⟩) (v := .slice none 0 0) ?_ ?_) rfl ?_
  ·simp [go_sem, c0, c1]
  ·simp [go_sem, c0, c1]
  ·refine ⟨_, rfl, ⟨[], .slice none 0 0, rfl, rfl, NodesAt.nil _ _⟩, (HB.out.setCell (by simp) _).setCell (by simp) _⟩
 subst he
 obtain ⟨R, hR⟩ : ∃ R, valueM l 32 (noBlank T) (0, 0) [] (0, 0) = R := ⟨_, rfl⟩
 rw [if_neg (by simp)]
 simp only []
 rw [hR]
 have hl := ht3 rfl
 have HR := Lib.hid hR
 have HT2 := Lib.hid ht2
 clear C b1 hr hR ht2 ht3
 go_enter Tryz.func113, Tryz.ntmps113
 go_wp2_with fail
 refine CT.out.mono ?_
 rintro e w2 ⟨v, rfl, ho, hn, hb⟩
 have hD : w2.heap[w.heap.size]? = some (.cells #[.string ⟨#[]⟩, .slice none 0 0] 132) := (hb.block _ (by simp)).trans (heap_alloc_new w _)
 have hB : Below w.heap.size w w2 := HB1.out.trans (hb.mono (by simp))
 have HB := Lib.hid hB
 have HDv := Lib.hid hD
 have hDl : w.heap.size < w2.heap.size := cell_it hD
 obtain ⟨p0, c0, hv, hvc, hat⟩ := OwnsToks.toTV ho
 subst hv
 have HAt : Hid (∀ j t, T[j]? = some t → ∃ g o, p0 = some ⟨g, o, none⟩ ∧ g < w2.heap.size ∧ w2.cell? ⟨g, o + j * 3, none⟩ = some (.int .i64 t.kind) ∧ w2.cell? ⟨g, o + j * 3 + 1, none⟩ = some (.int .i64 t.sf) ∧ w2.cell? ⟨g, o + j * 3 + 2, none⟩ = some (.int .i64 t.st)) := Lib.hid (fun j t hj => by
  rcases hat with h0 | ⟨g, o, cur, h0, h1, h2⟩
  ·simp only [] at h0; rw [h0] at hj; simp at hj
  ·exact ⟨g, o, h0, cell_it h1, h2 j t hj⟩)
 clear hD ho hn hb hB hat
 obtain ⟨P, hP⟩ : ∃ P, w2.heap.size = P := ⟨_, rfl⟩
 have hJ0 : QBox (w2.alloc (.cells #[.string (bs l), .slice none 0 0, .int .i64 0, .slice none 0 0, .int .i64 0, .int .i64 0] 195)) P l (.slice none 0 0) 0 (.slice none 0 0) 0 0 := by
  rw [← hP]; exact heap_alloc_new w2 _
 have HJ0 := Lib.hid hJ0
 have HB0 : Hid (Below P w2 (w2.alloc (.cells #[.string (bs l), .slice none 0 0, .int .i64 0, .slice none 0 0, .int .i64 0, .int .i64 0] 195))) := Lib.hid (by rw [← hP]; exact below_alloc1 w2 _)
 have HO0 : Hid (OwnsToks (P + 1) (w2.alloc (.cells #[.string (bs l), .slice none 0 0, .int .i64 0, .slice none 0 0, .int .i64 0, .int .i64 0] 195)) (.slice none 0 0) (noBlank (T.take 0))) := Lib.hid ⟨rfl, .inl ⟨rfl, rfl⟩⟩
 clear hJ0
 rw [hP] at hDl HAt
 go_wp2_with fail
 go_loopw [9] (fun s9 wr => ∃ (k : Nat) (rv : Value), s9 = .int .i64 (k : Int) ∧ k ≤ T.length ∧ Hid (QBox wr P l rv 0 (.slice none 0 0) 0 0) ∧ Hid (OwnsToks (P + 1) wr rv (noBlank (T.take k))) ∧ Hid (Below P w2 wr)) (fun s9 _ => T.length - (RowKit.intOf s9).toNat)
 case atStart => exact ⟨0, _, rfl, by omega, HJ0, HO0, HB0⟩
 case round =>
  obtain ⟨k, rv, rfl, hk, HJ, HO, HBr⟩ := hrel
  by_cases hkl : k < T.length
  ·obtain ⟨t, ht⟩ : ∃ t, T[k]? = some t := ⟨_, List.getElem?_eq_getElem hkl⟩
   obtain ⟨g, o, rfl, hg, e0, e1, e2⟩ := HAt.out k t ht
   have hgP : g < P := hg
   have a0 : wr.cell? ⟨g, o + k * 3, none⟩ = some (.int .i64 (t.kind : Int)) := by rw [HBr.out.cell (p := ⟨g, o + k * 3, none⟩) hg]; exact e0
   have a1 : wr.cell? ⟨g, o + k * 3 + 1, none⟩ = some (.int .i64 (t.sf : Int)) := by rw [HBr.out.cell (p := ⟨g, o + k * 3 + 1, none⟩) hg]; exact e1
   have a2 : wr.cell? ⟨g, o + k * 3 + 2, none⟩ = some (.int .i64 (t.st : Int)) := by rw [HBr.out.cell (p := ⟨g, o + k * 3 + 2, none⟩) hg]; exact e2
   have hk0 : (0 : Int) ≤ (k : Int) := by omega
   have hk1 : (k : Int) < (T.length : Int) := by omega
   have dk : decide ((k : Int) < (T.length : Int)) = true := decide_eq_true hk1
   obtain ⟨k1, hk1e⟩ : ∃ k1, k + 1 = k1 := ⟨_, rfl⟩
   have hk1z : (k : Int) + 1 = (k1 : Int) := by omega
   have hstep := noBlank_step T k t ht
   rw [hk1e] at hstep
   have hkk : k1 ≤ T.length := by omega
   have hPr := HJ.out.lt
   by_cases h1 : t.kind = 1
   ·have d1 : ((t.kind : Int) != 1) = false := by rw [h1]; rfl
    rw [if_pos h1, List.append_nil] at hstep
    have HO2 := HO
    rw [← hstep] at HO2
    clear e0 e1 e2 hstep ht h1
    go_wp2_with fail
    go_roundw
    ·exact ⟨k1, rv, by rw [← hk1z], hkk, HJ, HO2, HBr⟩
    ·simp only [RowKit.intOf]; omega
   ·have d1 : ((t.kind : Int) != 1) = true := bne_iff_ne.2 (by omega)
    rw [if_neg h1] at hstep
    clear e0 e1 e2 ht h1
    go_upto_region 9 with fail
    have q1 := HJ.out.cells.2.1
    have hlen : (noBlank (T.take k)).length ≤ 4294967295 := by
     refine Nat.le_trans (List.length_filter_le _ _) ?_
     rw [List.length_take]; omega
    have hOd : OwnsToks (P + 1) wr.drew rv (noBlank (T.take k)) := HO.out
    go_region_law (refine step_tok (by rfl) (.tmp 41) (.tmp 46) (by rfl) (P + 1) wr.drew rv (noBlank (T.take k)) t (by rfl) hOd (by rfl) hlen hPr ?_; intro kv w5 ho5 hg5; obtain ⟨j5, o5, b5, c5, f5⟩ := qtok_push (w := wr.drew) (w2 := w2) (HJ.out.keep (Below.refl _ _).drew) hOd HBr.out.drew hg5 ho5; obtain ⟨gk, pk, rfl⟩ := own_tok ho5)
    all_goals
     rw [← hstep] at o5
     have HJ5 := Lib.hid j5
     have HO5 := Lib.hid o5
     have HB5 := Lib.hid b5
     clear j5 o5 b5 c5 f5 ho5 hg5 hstep hOd q1
     go_wp2_with fail
     go_roundw
     ·exact ⟨k1, _, by rw [← hk1z], hkk, HJ5, HO5, HB5⟩
     ·simp only [RowKit.intOf]; omega
  ·have hke : k = T.length := by omega
   subst hke
   rw [List.take_length] at HO
   have dk : decide ((T.length : Int) < (T.length : Int)) = false := decide_eq_false (by omega)
   have hPr := HJ.out.lt
   have hj : QJ w2.heap.size P l (noBlank T) 0 [] wr := ⟨[], .slice none 0 0, rfl, rv, HJ.out, OwnsToks.toTV HO.out, by omega, NodesAt.nil _ _, by omega⟩
   have hnl : (noBlank T).length ≤ 65536 := Nat.le_trans (List.length_filter_le _ _) ht1
   have hbw : Below w2.heap.size w2 wr := by rw [hP]; exact HBr.out
   have CV := qvalue_any w2 P l (noBlank T) hnl hl (fun t ht => HT2.out t (List.mem_filter.1 ht).1) (fun t ht => HT6.out t (List.mem_filter.1 ht).1) 32 (by omega) wr 0 (0, 0) [] (0, 0) 1 hj hbw (by rw [List.drop_zero, List.length_nil]; omega) (by simp) (by omega)
   rw [List.drop_zero, HR.out] at CV
   have HCV := Lib.hid CV
   have HBw := Lib.hid hbw
   clear CV hj hbw
   cases R with
   | bad a er =>
    go_wp2_with fail
    refine HCV.out.mono ?_
    rintro e w4 ⟨rfl, ⟨txt', lv4, k4, z4, nv4, jb, -, -, -⟩, hf⟩
    obtain ⟨_, _, _, _, c4, c5, _⟩ := jb.cells
    obtain ⟨d0, d1, d2, d3, dD⟩ := doc_at HDv.out HBw.out hf
    have HB4 : Hid (Below w.heap.size w w4) := Lib.hid (HB.out.trans ((HBw.out.trans hf.bel).mono (by omega)))
    have hDP : w.heap.size ≠ P := by omega
    clear hf jb
    go_upto_region 11 with fail
    go_region
    go_upto_region 15 with fail
    go_region
    all_goals
     go_wp2_with fail
     try simp only [Exit.inBlock, Exit.then]
     refine bodyPost_ret (results_doc rfl _ _ rfl (u := .string ⟨#[]⟩) (v := .slice none 0 0) ?_ ?_) rfl ?_
     ·simp [go_sem, d0, d1]
     ·simp [go_sem, d0, d1]
     ·exact doc_bad (((HB4.out.drew.setCell (Nat.le_refl _) _).setCell (Nat.le_refl _) _).drew) _ rfl
   | ok rr l2 ns =>
    obtain ⟨more, hne, hm1, hm2, _⟩ := value_ext l 32 _ _ _ _ _ _ _ HR.out
    go_wp2_with fail
    refine HCV.out.mono ?_
    rintro e w4 ⟨rfl, ⟨k5, t5, hrr, hLt5, hl2, hj5⟩, hf⟩
    have HJ5 := Lib.hid hj5
    have hk5 := (List.getElem?_eq_some_iff.1 hLt5).1
    obtain ⟨z5, nv5, hz5, hq5⟩ := hj5
    have HQ5 := Lib.hid hq5
    have HF4 := Lib.hid hf
    obtain ⟨lv5, qb5, qt5, _, qn5, _⟩ := hq5
    obtain ⟨p6, c6, rfl⟩ := qt5.slice
    obtain ⟨_, e1, e2, _⟩ := qb5.cells
    obtain ⟨kk, hkk⟩ : ∃ kk, k5 + 1 = kk := ⟨_, rfl⟩
    have HZ5 := Lib.hid hz5
    have HRR := Lib.hid hrr
    rw [hkk] at e2 HQ5 HRR HJ5
    clear qb5 qt5 qn5 hf hrr hz5
    have hkk2 : kk ≤ (noBlank T).length := by omega
    by_cases hkl : kk < (noBlank T).length
    ·have dlt : decide ((kk : Int) < ((noBlank T).length : Int)) = true := decide_eq_true (by omega)
     have dlt2 : decide (kk < (noBlank T).length) = true := decide_eq_true hkl
     obtain ⟨tn, htn⟩ : ∃ tn, (noBlank T)[kk]? = some tn := ⟨_, List.getElem?_eq_getElem hkl⟩
     have CW := Lib.hid (qwrong_any _ P l (noBlank T) kk z5 nv5 2 w4.drew (HQ5.out.keep (Below.refl _ w4).drew) (by omega) (by omega))
     have hdr : (noBlank T).drop kk = tn :: (noBlank T).drop (kk + 1) := by
      rw [List.drop_eq_getElem_cons hkl]
      congr 1
      exact (List.getElem?_eq_some_iff.1 htn).2
     have HE : Hid (endP l.length (.ok rr l2 ns) = ([], (tn.sf : Int), 2)) := Lib.hid (by
      rw [HRR.out, hdr]; rfl)
     have HH : Hid (hereT l.length ((noBlank T).drop kk) = tn.sf) := Lib.hid (by rw [hdr]; rfl)
     clear hdr htn
     go_upto_region 11 with fail
     go_region
     go_wp2_with fail
     refine CW.out.mono ?_
     rintro e w5 ⟨rfl, ⟨lv6, jb⟩, ho⟩
     have hsz := HF4.out.sz
     have hf5 : Fr w2.heap.size P wr w5 := HF4.out.trans ((Fr.of_below (Below.refl _ w4).drew (by omega)).trans (OnlyP.fr ho (by omega) (show w2.heap.size ≤ w4.heap.size by omega)))
     obtain ⟨_, _, _, _, c4, c5, _⟩ := jb.cells
     rw [HH.out] at c4
     obtain ⟨d0, d1, d2, d3, dD⟩ := doc_at HDv.out HBw.out hf5
     have HB4 : Hid (Below w.heap.size w w5) := Lib.hid (HB.out.trans ((HBw.out.trans hf5.bel).mono (by omega)))
     have hDP : w.heap.size ≠ P := by omega
     clear hf5 jb ho dlt dlt2 e1 e2
     go_upto_region 15 with fail
     go_region
     all_goals
      go_wp2_with fail
      try simp only [Exit.inBlock, Exit.then]
      refine bodyPost_ret (results_doc rfl _ _ rfl (u := .string ⟨#[]⟩) (v := .slice none 0 0) ?_ ?_) rfl ?_
      ·simp [go_sem, d0, d1]
      ·simp [go_sem, d0, d1]
      ·exact doc_bad (((HB4.out.setCell (Nat.le_refl _) _).setCell (Nat.le_refl _) _).drew) _ HE.out
    ·have dlt : decide ((kk : Int) < ((noBlank T).length : Int)) = false := decide_eq_false (by omega)
     have dlt2 : decide (kk < (noBlank T).length) = false := decide_eq_false hkl
     have hrn : rr = [] := by rw [HRR.out]; exact List.drop_eq_nil_of_le (by omega)
     subst hrn
     obtain ⟨p5, c5, rfl⟩ := HQ5.out.at_.slice
     have q4 := HQ5.out.c3
     obtain ⟨d0, d1, d2, d3, dD⟩ := doc_at HDv.out HBw.out HF4.out
     have HB4 : Hid (Below w.heap.size w w4) := Lib.hid (HB.out.trans ((HBw.out.trans HF4.out.bel).mono (by omega)))
     have hDP : w.heap.size ≠ P := by omega
     have HDD := Lib.hid dD
     clear dD
     go_upto_region 11 with fail
     go_region
     go_wp2_with fail
     try simp only [Exit.inBlock, Exit.then]
     refine bodyPost_ret (results_doc rfl _ _ rfl (u := .string (bs l)) (v := .slice p5 z5.length c5) ?_ ?_) rfl ?_
     ·simp [go_sem, d0, d1]
     ·simp [go_sem, d0, d1]
     ·refine ⟨_, rfl, ⟨z5, .slice p5 z5.length c5, ?_, HZ5.out, ?_⟩, (HB4.out.drew.setCell (Nat.le_refl _) _).setCell (Nat.le_refl _) _⟩
      ·have hd : docT l (endP l.length (JR.ok [] l2 ns)).1 = l := by
        rw [List.nil_append] at hne
        subst hne
        cases ns with
        | nil => simp at hm1
        | cons y ys => rfl
       rw [hd]
      ·exact ((HQ5.out.keep (Below.refl _ w4).drew).at_.other HDD.out (by decide) (by decide) (by decide) (grown_trans (grown_set w4.drew w.heap.size 0 (.string (bs l))) (grown_set _ w.heap.size 1 (.slice p5 z5.length c5)))).base (by omega)
end Go.Proofs.YtbldfpkfinpciaaGreatDoor
namespace Go.Proofs.YtbldfpkfinpciaaGreatDoor
set_option linter.unusedSimpArgs false
set_option linter.unusedVariables false
open Go.RowKit Go.Maps Go.WideMaps
open Go.Lib hiding intOf
theorem qparse_read (l : List UInt8) (r : List NodeD × Int × Int) (hr : parseJ l = r) (w : World) (hs : l.length ≤ 140737488351232) :
  Calls Tryz.prog 113 #[.string (bs l)] w (ParseR l r w) := by
 subst hr
 refine (qparse_any l w hs).mono fun e w' h => ?_
 obtain ⟨v, he, ⟨z, nv, hv, hz, hn⟩, hb⟩ := h
 subst hv
 obtain ⟨p, c, hnv, hp⟩ := DocR.of hn
 rw [hz] at hnv hp
 subst hnv
 exact ⟨p, c, he, hp, hb⟩
end Go.Proofs.YtbldfpkfinpciaaGreatDoor

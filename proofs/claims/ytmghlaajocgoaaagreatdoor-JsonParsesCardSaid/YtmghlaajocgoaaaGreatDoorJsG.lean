import Derived.Test.YtmghlaajocgoaaaGreatDoorJsF
/-! The walk of the parser's kids, at an array. -/
namespace Go.Proofs.YtmghlaajocgoaaaGreatDoor
set_option linter.unusedSimpArgs false
set_option linter.unusedVariables false
open Go.RowKit Go.Maps Go.WideMaps
open Go.Lib hiding intOf

theorem own_succ {w : World} {B : Nat} {e : TypeId} {s : Nat} {v : Value} {n : Nat} {xs : List Value} (h : w.ownsRow B e s v (n + 1) xs) : ∃ g cap, v = .slice (some ⟨g, 0, none⟩) (n + 1) cap := by
  rcases h.2 with ⟨_, h1⟩ | ⟨g, cap, cur, rfl, _⟩
  · omega
  · exact ⟨g, cap, rfl⟩
theorem modN_set (f : NodeD → NodeD) : ∀ (n : Nat) (l : List NodeD) (x : NodeD), l[n]? = some x → modN f n l = l.set n (f x)
  | n, [], x, h => by simp at h
  | 0, y :: l, x, h => by
    obtain rfl : y = x := by simpa using h
    rfl
  | n + 1, y :: l, x, h => by
    rw [List.getElem?_cons_succ] at h
    rw [modN, modN_set f n l x h]; rfl
/-- The parser, with what its nodes hold. -/
def JZ (B P : Nat) (txt : List UInt8) (rest : List Tok) (l : Sp) (z : List ND) (nv : Value) (w : World) : Prop := ∃ rv, JBox w P txt rv l nv 0 0 ∧ TV w rv rest ∧ NodesAt B z nv w ∧ B ≤ P
theorem J.toZ {B P : Nat} {txt : List UInt8} {rest : List Tok} {l : Sp} {nodes : List NodeD} {w : World} (h : J B P txt rest l nodes w) : ∃ z nv, z.map (·.1) = nodes ∧ JZ B P txt rest l z nv w := by
  obtain ⟨rv, z, nv, h1, h2, h3, h4, h5⟩ := h
  exact ⟨z, nv, h3, rv, h1, h2, h4, h5⟩
theorem JZ.toJ {B P : Nat} {txt : List UInt8} {rest : List Tok} {l : Sp} {z : List ND} {nv : Value} {w : World} (h : JZ B P txt rest l z nv w) : J B P txt rest l (z.map (·.1)) w := by
  obtain ⟨rv, h1, h2, h3, h4⟩ := h
  exact ⟨rv, z, nv, h1, h2, rfl, h3, h4⟩
theorem JZ.cells {B P : Nat} {txt : List UInt8} {rest : List Tok} {l : Sp} {z : List ND} {nv : Value} {w : World} (h : JZ B P txt rest l z nv w) : w.cell? ⟨P, 3, none⟩ = some (.int .i64 (l.2 : Int)) ∧ w.cell? ⟨P, 4, none⟩ = some nv ∧ P < w.heap.size := by
  obtain ⟨rv, h1, h2, h3, h4⟩ := h
  exact ⟨h1.cells.2.2.2.1, h1.cells.2.2.2.2.1, h1.lt⟩
theorem JZ.form {B P : Nat} {txt : List UInt8} {rest : List Tok} {l : Sp} {z : List ND} {nv : Value} {w : World} (h : JZ B P txt rest l z nv w) (hz : z ≠ []) : ∃ g cap, nv = .slice (some ⟨g, 0, none⟩) z.length cap ∧ z.length ≤ cap := by
  obtain ⟨rv, h1, h2, h3, h4⟩ := h
  obtain ⟨g, cap, cur, e1, e2, _⟩ := h3.form hz
  exact ⟨g, cap, e1, e2⟩
theorem JZ.keep {B P : Nat} {txt : List UInt8} {rest : List Tok} {l : Sp} {z : List ND} {nv : Value} {w w' : World} (h : JZ B P txt rest l z nv w) (hb : Below w.heap.size w w') : JZ B P txt rest l z nv w' := by
  obtain ⟨rv, h1, h2, h3, h4⟩ := h
  exact ⟨rv, h1.keep hb, h2.keep hb, h3.keep hb, h4⟩
section
variable {B P : Nat} {txt : List UInt8} {rest : List Tok} {l : Sp} {z : List ND} {w w1 : World} {g cap : Nat}
theorem JZ.at_ (h : JZ B P txt rest l z (.slice (some ⟨g, 0, none⟩) z.length cap) w) : NodesAt B z (.slice (some ⟨g, 0, none⟩) z.length cap) w := by
  obtain ⟨rv, h1, h2, h3, h4⟩ := h
  exact h3
theorem JZ.kid (h : JZ B P txt rest l z (.slice (some ⟨g, 0, none⟩) z.length cap) w) {n k : Nat} {y : ND} (hy : z[n]? = some y) {kv : Value} {H : Nat} (hH : w.heap.size ≤ H) (hB : B ≤ w.heap.size)
    (hr : w1.ownsRow B 3 1 kv (y.1.kids.length + 1) (intCells y.1.kids ++ [.int .i64 (k : Int)])) (hg : w.grownBy w1 y.2.1.ownBlock) (hat : kv.ownBlock = y.2.1.ownBlock ∨ kv.ownBlock = some H) :
    JZ B P txt rest l (z.set n ({ y.1 with kids := y.1.kids ++ [k] }, kv, y.2.2)) (.slice (some ⟨g, 0, none⟩) (z.set n ({ y.1 with kids := y.1.kids ++ [k] }, kv, y.2.2)).length cap) (w1.setCell ⟨g, n * 7 + 5, none⟩ kv) ∧ Fr B P w (w1.setCell ⟨g, n * 7 + 5, none⟩ kv) := by
  obtain ⟨rv, h1, h2, h3, h4⟩ := h
  have hkm := h3.kids y (List.mem_of_getElem? hy)
  obtain ⟨a1, a2⟩ := rest_kept h1 h2 hg (fun k hk => by
    obtain ⟨cur, hc⟩ := own_obj hkm k hk
    exact ⟨cur, _, hc, by decide, by decide⟩)
  have hrow1 := h3.row.kept hg (own_ne h3.row hkm (by decide))
  obtain ⟨cur, hcur⟩ := own_obj hrow1 g rfl
  obtain ⟨b1, b2⟩ := rest_kept a1 a2 (grown_set w1 g (n * 7 + 5) kv) (fun k hk => by
    have e : g = k := Option.some.inj hk
    subst e
    exact ⟨cur, _, hcur, by decide, by decide⟩)
  have hgB : B ≤ g := (World.ownsRow.lt hrow1 g rfl).1
  refine ⟨⟨rv, ?_, b2, h3.kid hy hH hr hg hat, h4⟩, (Fr.grown hkm (by decide) hg hB).trans (Fr.setM hcur (by decide) hgB)⟩
  rw [List.length_set]
  exact b1
theorem JZ.pc (h : JZ B P txt rest l z (.slice (some ⟨g, 0, none⟩) z.length cap) w) {n : Nat} {k : Sp} {y : ND} (hy : z[n]? = some y) {kv : Value} {H : Nat} (hH : w.heap.size ≤ H) (hB : B ≤ w.heap.size)
    (hr : w1.ownsRow B 33 2 kv (y.1.pcs.length + 1) (spCells y.1.pcs ++ [.int .i64 (k.1 : Int), .int .i64 (k.2 : Int)])) (hg : w.grownBy w1 y.2.2.ownBlock) (hat : kv.ownBlock = y.2.2.ownBlock ∨ kv.ownBlock = some H) :
    JZ B P txt rest l (z.set n ({ y.1 with pcs := y.1.pcs ++ [k] }, y.2.1, kv)) (.slice (some ⟨g, 0, none⟩) (z.set n ({ y.1 with pcs := y.1.pcs ++ [k] }, y.2.1, kv)).length cap) (w1.setCell ⟨g, n * 7 + 6, none⟩ kv) ∧ Fr B P w (w1.setCell ⟨g, n * 7 + 6, none⟩ kv) := by
  obtain ⟨rv, h1, h2, h3, h4⟩ := h
  have hkm := h3.pcs y (List.mem_of_getElem? hy)
  obtain ⟨a1, a2⟩ := rest_kept h1 h2 hg (fun k hk => by
    obtain ⟨cur, hc⟩ := own_obj hkm k hk
    exact ⟨cur, _, hc, by decide, by decide⟩)
  have hrow1 := h3.row.kept hg (own_ne h3.row hkm (by decide))
  obtain ⟨cur, hcur⟩ := own_obj hrow1 g rfl
  obtain ⟨b1, b2⟩ := rest_kept a1 a2 (grown_set w1 g (n * 7 + 6) kv) (fun k hk => by
    have e : g = k := Option.some.inj hk
    subst e
    exact ⟨cur, _, hcur, by decide, by decide⟩)
  have hgB : B ≤ g := (World.ownsRow.lt hrow1 g rfl).1
  refine ⟨⟨rv, ?_, b2, h3.pc hy hH hr hg hat, h4⟩, (Fr.grown hkm (by decide) hg hB).trans (Fr.setM hcur (by decide) hgB)⟩
  rw [List.length_set]
  exact b1
end
/-- Both at once, as the plain text says it. -/
theorem set_kid {z : List ND} {n k : Nat} {pc : Sp} {y : ND} {u v : Value} (hy : z[n]? = some y) :
    ((z.set n ({ y.1 with kids := y.1.kids ++ [k] }, u, y.2.2)).set n ({ y.1 with kids := y.1.kids ++ [k], pcs := y.1.pcs ++ [pc] }, u, v)).map (·.1) = addKid n k pc (z.map (·.1)) := by
  unfold addKid
  rw [modN_set _ n _ y.1 (by rw [List.getElem?_map, hy]; rfl), List.map_set, List.map_set, List.set_set]
def restN (P : Nat) (w : World) : Nat := match w.cell? ⟨P, 1, none⟩ with
  | some (.slice _ n _) => n
  | _ => 0
theorem J.restN {B P : Nat} {txt : List UInt8} {rest : List Tok} {l : Sp} {nodes : List NodeD} {w : World} (h : J B P txt rest l nodes w) : restN P w = rest.length := by
  obtain ⟨rv, z, nv, h1, h2, h3, h4, h5⟩ := h
  obtain ⟨p, c, rfl, _⟩ := h2
  have := h1.cells.2.1
  unfold Go.Proofs.YtmghlaajocgoaaaGreatDoor.restN
  rw [this]
theorem J.cast {B P : Nat} {txt : List UInt8} {rest : List Tok} {l : Sp} {nodes nodes2 : List NodeD} {w : World} (h : J B P txt rest l nodes w) (e : nodes = nodes2) : J B P txt rest l nodes2 w := e ▸ h
set_option maxRecDepth 100000 in
set_option maxHeartbeats 8000000 in
theorem kidsArr_any (w0 : World) (P : Nat) (txt : List UInt8) (lv : Nat) (IH : VC w0 P txt lv) (w : World) (rest : List Tok) (l : Sp) (pre : List NodeD) (x : NodeD) (post nodes : List NodeD) (lev : Int)
    (h : J w0.heap.size P txt rest l nodes w) (hmid : Mid pre x post nodes) (hb : Below w0.heap.size w0 w) (ht : TB txt rest) (hN : nodes.length + rest.length ≤ 131074) (hl : lev + 1 = 33 - (lv : Int)) (hlev : 0 ≤ lev ∧ lev ≤ 32) (hs : txt.length ≤ 65536) :
    Calls Tryz.prog 34 #[.pointer (some ⟨P, 0, none⟩), .int .i64 (pre.length : Int), .int .i64 lev, .int .i64 5, .func (.func 35) #[.pointer (some ⟨P, 0, none⟩)] #[]] w
      (VE w0.heap.size P txt (kidsM txt (valueM txt lv) 5 false pre.length rest l nodes) w) := by
  obtain ⟨R, hR⟩ : ∃ R, kidsM txt (valueM txt lv) 5 false pre.length rest l nodes = R := ⟨_, rfl⟩
  rw [hR]
  have htl := ht.1
  have hnw := h.nodesN
  have hBw : w0.heap.size ≤ w.heap.size := hb.size
  obtain ⟨hPl, hBP, _, _⟩ := h.box
  obtain ⟨hl0, hl1⟩ := hlev
  have HB := Lib.hid hb
  have HT := Lib.hid ht
  by_cases h5 : kindT rest = 5
  · cases rest with
    | nil => cases h5
    | cons t r =>
      have h5' : t.kind = 5 := h5
      have hR' : JR.ok r (t.sf, t.st) nodes = R := by
        unfold kidsM at hR
        simp only [h5', if_true] at hR
        exact hR
      have CT := Lib.hid (takes_yes _ P txt t r l nodes w h (by simp only [List.length_cons] at htl; omega) 5 h5')
      subst hR'
      clear hR h hb ht hnw
      go_enter Tryz.func34, Tryz.ntmps34
      go_wp2_with fail
      refine CT.out.mono ?_
      rintro e w1 ⟨rfl, hj, hg⟩
      go_wp2_with fail
      go_ret
      exact ⟨rfl, hj, Fr.ofP hg hBP hBw⟩
  · have hloop : ∃ f, rest.length < f ∧ loopM txt (valueM txt lv) 5 false pre.length f [] rest l nodes = R := by
      unfold kidsM at hR
      cases rest with
      | nil => exact ⟨1, by simp, hR⟩
      | cons t r =>
        have h5' : ¬ t.kind = 5 := h5
        simp only [h5', if_false] at hR
        exact ⟨_, by simp, hR⟩
    obtain ⟨f0, hf0, hLp⟩ := hloop
    have CT := Lib.hid (takes_no _ P txt rest l nodes w h (by omega) 5 h5)
    have HJ := Lib.hid h
    have HL := Lib.hid hLp
    have HM := Lib.hid hmid
    have HNW := Lib.hid hnw
    clear hR h5 hLp h hb ht hmid hnw
    go_enter Tryz.func34, Tryz.ntmps34
    go_wp2_with fail
    refine CT.out.mono ?_
    rintro e w1 ⟨rfl, rfl⟩
    go_wp2_with fail
    go_loopw [11] (fun _ wr => ∃ (rs : List Tok) (ls : Sp) (ns : List NodeD) (x : NodeD) (post : List NodeD) (f : Nat), Hid (J w0.heap.size P txt rs ls ns wr) ∧ Hid (Mid pre x post ns) ∧ Hid (loopM txt (valueM txt lv) 5 false pre.length f [] rs ls ns = R) ∧ rs.length < f ∧ nodes.length ≤ ns.length ∧ Hid (TB txt rs) ∧ ns.length + rs.length ≤ 131074 ∧ Hid (Fr w0.heap.size P w wr)) (fun _ wr => restN P wr)
    case atStart => exact ⟨rest, l, nodes, x, post, f0, HJ, HM, HL, hf0, Nat.le_refl _, HT, hN, Lib.hid (Fr.refl _ _ _)⟩
    case round =>
      clear hN hf0 HM HL HJ CT HT htl
      obtain ⟨rs, ls, ns, x, post, f, HJ, HM, HL, hf, hnn, HT, hN, HFr⟩ := hrel
      obtain ⟨f, rfl⟩ : ∃ f', f = f' + 1 := ⟨f - 1, by omega⟩
      have hrn := HJ.out.restN
      have HNR := Lib.hid HJ.out.nodesN
      have hL := HL.out
      unfold loopM kidM at hL
      rw [if_pos rfl] at hL
      have hwr : w0.heap.size ≤ wr.heap.size := Nat.le_trans hBw HFr.out.sz
      have CI := item_any w0 P txt lv IH
      obtain ⟨Q, hQ⟩ : ∃ Q, valueM txt lv rs ls ns (0, 0) = Q := ⟨_, rfl⟩
      have CI2 : Hid (∀ w', Below wr.heap.size wr w' → Calls Tryz.prog 35 #[.pointer (some ⟨P, 0, none⟩), .int .i64 (33 - (lv : Int))] w' (VE w0.heap.size P txt Q w')) := Lib.hid (fun w' hb' => by
        have := CI w' rs ls ns (33 - (lv : Int)) (HJ.out.keep hb') ((HB.out.trans HFr.out.bel).trans (hb'.mono hwr)) HT.out hN rfl
        rw [hQ] at this
        exact this)
      rw [hQ] at hL
      have HQ := Lib.hid hQ
      obtain ⟨rv, z0, nv0, b1, b2, b3, b4, b5⟩ := HJ.out
      obtain ⟨p0, cap0, rfl⟩ := b4.slice
      obtain ⟨q0, q1, q2, q3, q4, _⟩ := b1.cells
      have hz0 : z0.length = ns.length := by rw [← b3, List.length_map]
      rw [hz0] at q4
      clear b1 b2 b3 b4 CI hQ HL hz0
      cases Q with
      | bad a er =>
        have HNB : Hid (nodesN P w ≤ nodesN P wr.drew) := Lib.hid (by have e1 := HNW.out; have e2 := HNR.out; show nodesN P w ≤ nodesN P wr; omega)
        have HF : Hid (JR.bad a er = R) := Lib.hid hL
        clear hL
        go_wp2_with fail
        go_region
        go_wp2_with fail
        refine (CI2.out _ (Below.refl _ _).drew).mono ?_
        rintro e w4 ⟨rfl, hj4, hf4⟩
        have HF4 := Lib.hid (HFr.out.trans ((Fr.of_below (Below.refl _ _).drew hwr).trans hf4))
        clear hf4
        go_wp2_with fail
        go_ret
        rw [← HF.out]
        exact ⟨rfl, hj4.mono HNB.out, HF4.out⟩
      | ok r1 l1 ns1 =>
        obtain ⟨more, rfl, hm1, hm2, ⟨kd, hkd⟩, hm3⟩ := value_ext txt lv _ _ _ _ _ _ _ HQ.out
        have HMid := Lib.hid (HM.out.add hm3 hm1 ns.length (ls.2, hereT txt.length r1))
        have hT1 : TB txt r1 := by rw [hkd]; exact HT.out.drop kd
        have hT1l := hT1.1
        have hHT : hereT txt.length r1 ≤ 65536 := by
          cases r1 with
          | nil => exact hs
          | cons t r' => have := hT1.2 t List.mem_cons_self; show t.sf ≤ 65536; omega
        have HT1 := Lib.hid hT1
        have hy0 : ∃ x0, (ns ++ more)[pre.length]? = some x0 ∧ x0.kids.length ≤ 131074 ∧ x0.pcs.length ≤ 131074 := by
          obtain ⟨e1, e2, e3, e4⟩ := HM.out
          refine ⟨x, by rw [e1, List.append_assoc, List.getElem?_append_right (Nat.le_refl _), Nat.sub_self]; rfl, ?_, ?_⟩ <;>
          · have := congrArg List.length e1
            simp only [List.length_append, List.length_cons] at this
            omega
        have hpl : pre.length < ns.length := by
          have := congrArg List.length HM.out.1
          simp only [List.length_append, List.length_cons] at this
          omega
        have hLs := Lib.hid hL
        clear hL hT1 hkd hm3 HM HQ HJ HT
        go_wp2_with fail
        go_region
        go_wp2_with fail
        refine (CI2.out _ (Below.refl _ _).drew).mono ?_
        rintro e w4 ⟨rfl, hj4, hf4⟩
        have HF4 := Lib.hid (HFr.out.trans ((Fr.of_below (Below.refl _ _).drew hwr).trans hf4))
        have hw4 : w0.heap.size ≤ w4.heap.size := Nat.le_trans hBw HF4.out.sz
        obtain ⟨z, nv, hz, hJ4⟩ := hj4.toZ
        obtain ⟨x0, hx0, hk0, hp0⟩ := hy0
        obtain ⟨y, hy, rfl⟩ : ∃ y : ND, z[pre.length]? = some y ∧ y.1 = x0 := by
          rw [← hz, List.getElem?_map] at hx0
          obtain ⟨y, h1, h2⟩ := Option.map_eq_some_iff.1 hx0
          exact ⟨y, h1, h2⟩
        have hzl : z.length = ns.length + more.length := by rw [← List.length_map (f := (·.1)), hz, List.length_append]
        obtain ⟨g, cap, rfl, hcap⟩ := hJ4.form (fun e => by rw [e] at hy; simp at hy)
        obtain ⟨a5, _⟩ := hJ4.at_.at_ hy 5 (by omega) rfl
        have hkm := hJ4.at_.kids y (List.mem_of_getElem? hy)
        have c4 := hJ4.cells.2.1
        rw [hzl] at c4
        have hzi : (pre.length : Int) < ((ns.length + more.length : Nat) : Int) := by omega
        have HJ4 := Lib.hid hJ4
        have HY := Lib.hid hy
        have HZ := Lib.hid hz
        have HZL := Lib.hid hzl
        clear hf4 hj4 hx0 hz hzl hJ4 hy q0 q1 q2 q3 q4
        go_wp2_with (at_builtin; go_must (refine wpList_kid (by rfl) (.tmp 42) (.tmp 44) rfl w0.heap.size w4 y.2.1 y.1.kids ns.length rfl hkm rfl (by omega) hw4 ?_); intro kv w5 hr5 hg5 hat5; obtain ⟨ck, fk⟩ := HJ4.out.at_.cellK HY.out hg5; obtain ⟨gk, pk, rfl⟩ := own_succ hr5)
        obtain ⟨hJ6, hF6⟩ := HJ4.out.kid (k := ns.length) HY.out (H := w4.heap.size + 1) (by omega) hw4 hr5 hg5 hat5
        obtain ⟨W6, hW6⟩ : ∃ W, w5.setCell ⟨g, pre.length * 7 + 5, none⟩ (.slice (some ⟨gk, 0, none⟩) (y.1.kids.length + 1) pk) = W := ⟨_, rfl⟩
        rw [hW6] at hJ6 hF6
        rw [hW6]
        obtain ⟨kv, hkv⟩ : ∃ kv, (.slice (some ⟨gk, 0, none⟩) (y.1.kids.length + 1) pk : Value) = kv := ⟨_, rfl⟩
        rw [hkv] at hJ6
        have hpl1 : pre.length < z.length := (List.getElem?_eq_some_iff.1 HY.out).1
        have hy1 : (z.set pre.length ({ y.1 with kids := y.1.kids ++ [ns.length] }, kv, y.2.2))[pre.length]? = some ({ y.1 with kids := y.1.kids ++ [ns.length] }, kv, y.2.2) := by rw [List.getElem?_set, if_pos rfl, if_pos hpl1]
        have HF6 := Lib.hid (HF4.out.trans hF6)
        have hw6 : w0.heap.size ≤ W6.heap.size := Nat.le_trans hBw HF6.out.sz
        have HJ6 := Lib.hid hJ6
        have HY1 := Lib.hid hy1
        have p6 : W6.cell? ⟨g, pre.length * 7 + 6, none⟩ = some y.2.2 := (hJ6.at_.at_ hy1 6 (by omega) rfl).1
        have hg6 : g < W6.heap.size := World.block_lt_of_cell? W6 _ p6
        have hpm := (hJ6.keep (Below.refl _ _).drew).at_.pcs _ (List.mem_of_getElem? hy1)
        have CH := Lib.hid (here_any _ P txt r1 _ _ W6.drew (hJ6.keep (Below.refl _ _).drew).toJ (by omega) (by omega))
        clear ck fk hr5 hg5 hat5 a5 c4 hkm hJ6 hF6 hy1 hW6 hkv
        go_region_law ((first
          | (go_simp; go_at_call 38; (with_reducible refine CH.out.mono ?_); rintro e w' ⟨rfl, rfl⟩)
          | (refine step_pc (by rfl) (.tmp 52) (.tmp 57) (by rfl) w0.heap.size W6.drew y.2.2 y.1.pcs (ls.2, hereT txt.length r1) (by rfl) hpm (by rfl) (by omega) hw6 ?_; intro kv2 w7 hr7 hg7 hat7; obtain ⟨ck7, fk7⟩ := (HJ6.out.keep (Below.refl _ _).drew).at_.cellP HY1.out hg7; obtain ⟨gk2, pk2, rfl⟩ := own_succ hr7)))
        all_goals
          obtain ⟨hJ8, hF8⟩ := (HJ6.out.keep (Below.refl _ _).drew).pc (k := (ls.2, hereT txt.length r1)) HY1.out (H := W6.drew.heap.size + 1) (by omega) hw6 hr7 hg7 hat7
          have hj8 := hJ8.toJ.cast ((set_kid (z := z) (n := pre.length) (k := ns.length) (pc := (ls.2, hereT txt.length r1)) HY.out).trans (congrArg (addKid pre.length ns.length (ls.2, hereT txt.length r1)) HZ.out))
          obtain ⟨W8, hW8⟩ : ∃ W, w7.setCell ⟨g, pre.length * 7 + 6, none⟩ (.slice (some ⟨gk2, 0, none⟩) (y.1.pcs.length + 1) pk2) = W := ⟨_, rfl⟩
          rw [hW8] at hF8 hj8
          rw [hW8]
          have HF8 := Lib.hid (HF6.out.trans ((Fr.of_below (Below.refl _ _).drew hw6).trans hF8))
          have HJ8 := Lib.hid hj8
          clear ck7 fk7 hr7 hg7 hat7 hJ8 hF8 hj8 hW8 HY1 HJ6 HY HJ4 p6 hpm hg6
          by_cases h5 : kindT r1 = 5
          · cases r1 with
            | nil => cases h5
            | cons t r' =>
              have h5' : t.kind = 5 := h5
              have hR : JR.ok r' (t.sf, t.st) (addKid pre.length ns.length (ls.2, t.sf) (ns ++ more)) = R := by
                have := hLs.out
                simp only [h5', if_true] at this
                exact this
              have CT := Lib.hid (takes_yes _ P txt t r' _ _ W8 HJ8.out (by simp only [List.length_cons] at hT1l; omega) 5 h5')
              clear hm1 hm2 hN h5 h5' HMid
              go_wp2_with fail
              refine CT.out.mono ?_
              rintro e w9 ⟨rfl, hj9, hg9⟩
              have HF9 := Lib.hid (HF8.out.trans (Fr.ofP hg9 hBP (Nat.le_trans hBw HF8.out.sz)))
              have HJ9 := Lib.hid hj9
              clear hg9 hj9
              go_wp2_with fail
              go_ret
              rw [← hR]
              exact ⟨rfl, HJ9.out, HF9.out⟩
          · have CT5 := Lib.hid (takes_no _ P txt r1 _ _ W8 HJ8.out (by omega) 5 h5)
            by_cases h6 : kindT r1 = 6
            · cases r1 with
              | nil => cases h6
              | cons t r' =>
                have h6' : t.kind = 6 := h6
                have h5' : ¬ t.kind = 5 := h5
                have hR : loopM txt (valueM txt lv) 5 false pre.length f [] r' (t.sf, t.st) (addKid pre.length ns.length (ls.2, t.sf) (ns ++ more)) = R := by
                  have := hLs.out
                  simp only [h5', h6', if_true, if_false] at this
                  exact this
                have HR := Lib.hid hR
                have CT := Lib.hid (takes_yes _ P txt t r' _ _ W8 HJ8.out (by simp only [List.length_cons] at hT1l; omega) 6 h6')
                have hNN : (addKid pre.length ns.length (ls.2, t.sf) (ns ++ more)).length + r'.length ≤ 131074 := by
                  unfold addKid
                  rw [modN_len, List.length_append]
                  simp only [List.length_cons] at hm2
                  omega
                have hnn2 : nodes.length ≤ (addKid pre.length ns.length (ls.2, t.sf) (ns ++ more)).length := by
                  unfold addKid
                  rw [modN_len, List.length_append]
                  omega
                have hlt : r'.length < rs.length ∧ r'.length < f := by simp only [List.length_cons] at hm2; omega
                have HT2 : Hid (TB txt r') := Lib.hid (HT1.out.drop 1)
                clear hm1 hm2 hN h5 h6 h5' h6' hR
                go_wp2_with fail
                refine CT5.out.mono ?_
                rintro e w9 ⟨rfl, rfl⟩
                go_wp2_with fail
                refine CT.out.mono ?_
                rintro e w9 ⟨rfl, hj9, hg9⟩
                have HF9 := Lib.hid (HF8.out.trans (Fr.ofP hg9 hBP (Nat.le_trans hBw HF8.out.sz)))
                have HJ9 := Lib.hid hj9
                have hr9 := hj9.restN
                clear hg9 hj9
                go_wp2_with fail
                go_roundw
                · exact ⟨r', _, _, _, _, f, HJ9, HMid, HR, hlt.2, hnn2, HT2, hNN, HF9⟩
                · rw [hrn, hr9]; exact hlt.1
            · have CT6 := Lib.hid (takes_no _ P txt r1 _ _ W8 HJ8.out (by omega) 6 h6)
              have hR : JR.bad (hereT txt.length r1) 2 = R := by
                have := hLs.out
                cases r1 with
                | nil => exact this
                | cons t r' =>
                  have h5' : ¬ t.kind = 5 := h5
                  have h6' : ¬ t.kind = 6 := h6
                  simp only [h5', h6', if_false] at this
                  exact this
              have HNB : Hid (nodesN P w ≤ nodesN P W8) := Lib.hid (by
                have e1 := HNW.out
                have e2 := HJ8.out.nodesN
                unfold addKid at e2
                rw [modN_len, List.length_append] at e2
                omega)
              have CF := Lib.hid (fail_any _ P txt r1 _ _ 2 W8 HJ8.out (by omega) (by omega))
              clear hm1 hm2 hN h5 h6 HMid
              go_wp2_with fail
              refine CT5.out.mono ?_
              rintro e w9 ⟨rfl, rfl⟩
              go_wp2_with fail
              refine CT6.out.mono ?_
              rintro e w9 ⟨rfl, rfl⟩
              go_wp2_with fail
              refine CF.out.mono ?_
              rintro e w9 ⟨rfl, hj9, hf9⟩
              have HF9 := Lib.hid (HF8.out.trans hf9)
              have HJ9 := Lib.hid hj9
              clear hf9 hj9
              go_wp2_with fail
              go_ret
              rw [← hR]
              exact ⟨rfl, HJ9.out.mono HNB.out, HF9.out⟩
end Go.Proofs.YtmghlaajocgoaaaGreatDoor

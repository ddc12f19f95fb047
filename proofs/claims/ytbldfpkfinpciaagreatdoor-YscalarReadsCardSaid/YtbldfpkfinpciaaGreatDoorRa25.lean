import Derived.Test.YtbldfpkfinpciaaGreatDoorRa23
import Derived.Test.YtbldfpkfinpciaaGreatDoorRa24
namespace Go.Proofs.YtbldfpkfinpciaaGreatDoor
set_option linter.unusedSimpArgs false
set_option linter.unusedVariables false
set_option linter.unnecessarySimpa false
open Go.RowKit Go.Maps Go.WideMaps
open Go.Lib hiding intOf
theorem cell_setX {w : World} {P j X i : Nat} {u v : Value} (h : w.cell? ⟨P, j, none⟩ = some u) (hne : X ≠ P) : (w.setCell ⟨X, i, none⟩ v).cell? ⟨P, j, none⟩ = some u := by
 rw [cell_same (Below.heap_setCell w ⟨X, i, none⟩ v P (fun e => hne e.symm))]; exact h
theorem QZ.gne {B P : Nat} {txt : List UInt8} {L : List Tok} {k : Nat} {z : List ND} {g n c : Nat} {w : World} (h : QZ B P txt L k z (.slice (some ⟨g, 0, none⟩) n c) w) : g ≠ P := by
 rintro rfl
 obtain ⟨lv, hb, _, _, hn, _⟩ := h
 obtain ⟨cur, hc⟩ := own_obj hn.row g rfl
 unfold QBox at hb
 rw [hb] at hc
 injection hc with hc
 injection hc with _ hc
 exact absurd hc (by decide)
def kN (P : Nat) (w : World) : Nat := match w.cell? ⟨P, 2, none⟩ with
 | some (.int .i64 n) => n.toNat
 | _ => 0
theorem QJ.step {B P : Nat} {txt : List UInt8} {L : List Tok} {k : Nat} {nodes : List NodeD} {w : World} (h : QJ B P txt L k nodes w) (hk : k < L.length) : QJ B P txt L (k + 1) nodes (w.setCell ⟨P, 2, none⟩ (.int .i64 ((k + 1 : Nat) : Int))) ∧ Fr B P w (w.setCell ⟨P, 2, none⟩ (.int .i64 ((k + 1 : Nat) : Int))) := by
 obtain ⟨z, nv, hz, h⟩ := h
 have hBP : B ≤ P := by obtain ⟨_, _, _, _, _, h5⟩ := h; exact h5
 exact ⟨⟨z, nv, hz, h.step hk⟩, Fr.setP hBP⟩
theorem QJ.c2 {B P : Nat} {txt : List UInt8} {L : List Tok} {k : Nat} {nodes : List NodeD} {w : World} (h : QJ B P txt L k nodes w) : w.cell? ⟨P, 2, none⟩ = some (.int .i64 (k : Int)) ∧ w.frozen? ⟨P, 2, none⟩ = false := by
 obtain ⟨z, nv, hz, lv, h, _⟩ := h
 exact ⟨h.cells.2.2.1, h.cells.2.2.2.2.2.2.2.1⟩
theorem QJ.kN {B P : Nat} {txt : List UInt8} {L : List Tok} {k : Nat} {nodes : List NodeD} {w : World} (h : QJ B P txt L k nodes w) : kN P w = k := by
 unfold Go.Proofs.YtbldfpkfinpciaaGreatDoor.kN
 rw [h.c2.1]
 simp
theorem QJ.c3 {B P : Nat} {txt : List UInt8} {L : List Tok} {k : Nat} {nodes : List NodeD} {w : World} (h : QJ B P txt L k nodes w) : ∃ p c, w.cell? ⟨P, 3, none⟩ = some (.slice p nodes.length c) := by
 obtain ⟨z, nv, hz, lv, h, _, _, h4, _⟩ := h
 obtain ⟨p, c, rfl⟩ := h4.slice
 exact ⟨p, c, by rw [h.cells.2.2.2.1, ← hz, List.length_map]⟩
def valK (P gn nl cap pl ml : Nat) (yv : Value) : Nat → Value
 | 0 => .pointer (some ⟨P, 0, none⟩)
 | 1 => .pointer (some ⟨P, 0, none⟩)
 | 2 => .pointer (some ⟨P, 3, none⟩)
 | 3 => .slice (some ⟨gn, 0, none⟩) nl cap
 | 4 => .int .i64 (pl : Int)
 | 5 => .pointer (some ⟨P, 0, none⟩)
 | 6 => .pointer (some ⟨P, 0, none⟩)
 | 7 => .pointer (some ⟨P, 3, none⟩)
 | 8 => .slice (some ⟨gn, 0, none⟩) nl cap
 | 9 => .int .i64 (pl : Int)
 | 10 => .pointer (some ⟨gn, pl * 7, none⟩)
 | 11 => .pointer (some ⟨gn, pl * 7 + 5, none⟩)
 | 12 => yv
 | 13 => .int .i64 (ml : Int)
 | 16 => .pointer (some ⟨gn, pl * 7, none⟩)
 | 17 => .pointer (some ⟨gn, pl * 7 + 5, none⟩)
 | _ => undef
def valC (P gn nl cap pl l2 hh : Nat) (yv : Value) : Nat → Value
 | 0 => .pointer (some ⟨P, 0, none⟩)
 | 1 => .pointer (some ⟨P, 0, none⟩)
 | 2 => .pointer (some ⟨P, 3, none⟩)
 | 3 => .slice (some ⟨gn, 0, none⟩) nl cap
 | 4 => .int .i64 (pl : Int)
 | 5 => .pointer (some ⟨P, 0, none⟩)
 | 6 => .pointer (some ⟨P, 0, none⟩)
 | 7 => .pointer (some ⟨P, 3, none⟩)
 | 8 => .slice (some ⟨gn, 0, none⟩) nl cap
 | 9 => .int .i64 (pl : Int)
 | 10 => .pointer (some ⟨gn, pl * 7, none⟩)
 | 11 => .pointer (some ⟨gn, pl * 7 + 6, none⟩)
 | 12 => yv
 | 13 => .int .i64 (l2 : Int)
 | 14 => .pointer (some ⟨P, 0, none⟩)
 | 15 => .int .i64 (hh : Int)
 | 16 => .agg #[.int .i64 (l2 : Int), .int .i64 (hh : Int)]
 | 19 => .pointer (some ⟨gn, pl * 7, none⟩)
 | 20 => .pointer (some ⟨gn, pl * 7 + 6, none⟩)
 | _ => undef
set_option maxRecDepth 100000 in
set_option maxHeartbeats 80000000 in
theorem qkids_any (w0 : World) (P : Nat) (txt : List UInt8) (L : List Tok) (lv : Nat) (IH : QVC w0 P txt L lv) (w : World) (k : Nat) (tb : Tok) (pre : List NodeD) (x : NodeD) (post nodes : List NodeD) (lev : Int) (closing : Nat) (obj : Bool)
  (h : QJ w0.heap.size P txt L (k + 1) nodes w) (hLb : L[k]? = some tb) (hmid : Mid pre x post nodes) (hb : Below w0.heap.size w0 w) (hN : nodes.length + (L.drop (k + 1)).length ≤ 131074) (hN4 : nodes.length ≤ 4096) (hl : lev + 1 = 33 - (lv : Int)) (hlev : 0 ≤ lev ∧ lev ≤ 32)
  (hL : L.length ≤ 65536) (hs : txt.length ≤ 65536) (hTB : ∀ t ∈ L, t.sf ≤ t.st ∧ t.st ≤ txt.length) (hsg : ∀ t ∈ L, t.kind = 6 → t.st = t.sf + 1) (hc : (closing = 5 ∧ obj = false) ∨ (closing = 3 ∧ obj = true)) :
  Calls Tryz.prog 219 #[.pointer (some ⟨P, 0, none⟩), .int .i64 (pre.length : Int), .int .i64 lev, .int .i64 (closing : Int)] w
   (QVE w0.heap.size P txt L (kidsM txt (valueM txt lv) closing obj pre.length (L.drop (k + 1)) (tb.sf, tb.st) nodes) w) := by
 obtain ⟨R, hR⟩ : ∃ R, kidsM txt (valueM txt lv) closing obj pre.length (L.drop (k + 1)) (tb.sf, tb.st) nodes = R := ⟨_, rfl⟩
 rw [hR]
 have hBw : w0.heap.size ≤ w.heap.size := hb.size
 obtain ⟨hPl, hBP⟩ := h.ptr
 obtain ⟨hl0, hl1⟩ := hlev
 obtain ⟨kk, hkk⟩ : ∃ kk, k + 1 = kk := ⟨_, rfl⟩
 rw [hkk] at h hN hR
 have hkz : (kk : Int) - 1 = (k : Int) := by omega
 have hk0 : (0 : Int) ≤ (k : Int) := by omega
 have hkl : (k : Int) < (L.length : Int) := by have := (List.getElem?_eq_some_iff.1 hLb).1; omega
 have hqn := h.qN
 have HQN := Lib.hid hqn
 have HB := Lib.hid hb
 have HJ := Lib.hid h
 have HMid := Lib.hid hmid
 have HTB := Lib.hid hTB
 have HSG := Lib.hid hsg
 have hkb : (kk : Int) ≤ 65536 := by have := h.le; omega
 obtain ⟨z, nv, hz, lvv, qb, qt, _⟩ := h
 obtain ⟨c0, c1, c2, c3, c4, c5, f1, f2, f3, f4, f5⟩ := qb.cells
 obtain ⟨g, o, c, rfl, hcc, t0, t1, t2, _⟩ := qt.tok hLb
 obtain ⟨q, hq⟩ : ∃ q, kindT (L.drop kk) = q := ⟨_, rfl⟩
 have CK : Hid (∀ w', Below w.heap.size w w' → Calls Tryz.prog 218 #[.pointer (some ⟨P, 0, none⟩)] w' fun e w2 => e = .returned (.int .i64 (q : Int)) ∧ Below w'.heap.size w' w2) := Lib.hid (fun w' hb' => by
  have := qkind_any _ P txt L kk nodes w' (HJ.out.keep hb') (by omega)
  rw [hq] at this
  exact this)
 have hcl0 : closing ≠ 0 := by omega
 by_cases hcl : q = closing
 ·subst hcl
  obtain ⟨t, hLt⟩ : ∃ t, L[kk]? = some t := ⟨_, List.getElem?_eq_getElem (kindT_lt (by omega))⟩
  have hdr := drop_at hLt
  have htk : t.kind = q := by rw [hdr] at hq; exact hq
  have hR' : JR.ok (L.drop (kk + 1)) (t.sf, t.st) nodes = R := by
   rw [← hR, hdr]
   unfold kidsM
   simp only [htk, if_true]
  have de : ((q : Int) == (q : Int)) = true := by simp
  have HR := Lib.hid hR'
  have HLt := Lib.hid hLt
  clear hdr htk hR hR' hLt hq hb hmid hTB hsg qt hqn
  go_enter Tryz.func219, Tryz.ntmps219
  go_upto_region 2 with fail
  go_region
  go_wp2_with fail
  refine (CK.out _ (Below.refl _ _).drew).mono ?_
  rintro e w2 ⟨rfl, hb2⟩
  have hbw := below_of_new (Below.refl w.heap.size w).drew hb2
  have hj2 := HJ.out.keep hbw
  obtain ⟨c2', f2'⟩ := hj2.c2
  obtain ⟨hj3, hf3⟩ := hj2.step (List.getElem?_eq_some_iff.1 HLt.out).1
  have ek : ((kk + 1 : Nat) : Int) = (kk : Int) + 1 := by omega
  rw [ek] at hj3 hf3
  have HJ3 := Lib.hid hj3
  have HF3 := Lib.hid ((Fr.of_below (P := P) hbw hBw).trans hf3)
  clear hj2 hj3 hf3 hbw hb2 ek
  go_wp2_with fail
  go_ret
  rw [← HR.out]
  exact ⟨rfl, ⟨kk, t, rfl, HLt.out, rfl, HJ3.out⟩, HF3.out⟩
 ·have hloop : ∃ f, (L.drop kk).length < f ∧ loopM txt (valueM txt lv) closing obj pre.length f [] (L.drop kk) (tb.sf, tb.st) nodes = R := by
   rw [← hR]
   unfold kidsM
   cases hd : L.drop kk with
   | nil => exact ⟨1, by simp, rfl⟩
   | cons t r =>
    rw [hd] at hq
    have hq' : t.kind = q := hq
    exact ⟨(t :: r).length + 1, by simp, (if_neg (show ¬ t.kind = closing by rw [hq']; exact hcl)).symm⟩
  obtain ⟨f0, hf0, hLp⟩ := hloop
  have HL0 := Lib.hid hLp
  have dcl : ((q : Int) == (closing : Int)) = false := by simp; omega
  have HIH := Lib.hid IH
  have hNN := hN
  clear hLp hR hq hb hmid hTB hsg qt hqn hcl IH hz
  go_enter Tryz.func219, Tryz.ntmps219
  go_upto_region 2 with fail
  go_region
  go_wp2_with fail
  refine (CK.out _ (Below.refl _ _).drew).mono ?_
  rintro e w2 ⟨rfl, hb2⟩
  have hbw := below_of_new (Below.refl w.heap.size w).drew hb2
  have HJ2 := Lib.hid (HJ.out.keep hbw)
  have HF2 := Lib.hid (Fr.of_below (P := P) hbw hBw)
  have hH0 : HadV w.heap.size w2 (.slice none 0 0) [] := ⟨rfl, .inl ⟨rfl, rfl⟩⟩
  have HH0 := Lib.hid hH0
  clear hbw hb2 c0 c1 c2 c3 c4 c5 f1 f2 f3 f4 f5 t0 t1 t2 CK HJ hH0
  go_wp2_with fail
  go_loopw [9, 10] (fun s9 s10 wr => ∃ (hm : List (List UInt8)) (ks : Nat) (ls : Sp) (ns : List NodeD) (x : NodeD) (post : List NodeD) (f : Nat) (hv : Value), s9 = hv ∧ s10 = .int .i64 (ls.2 : Int) ∧ Hid (HadV w.heap.size wr hv hm) ∧ Hid (QJ w0.heap.size P txt L ks ns wr) ∧ Hid (Mid pre x post ns) ∧ Hid (loopM txt (valueM txt lv) closing obj pre.length f hm.reverse (L.drop ks) ls ns = R) ∧ (L.drop ks).length < f ∧ nodes.length ≤ ns.length ∧ ns.length ≤ 4096 ∧ ns.length + (L.drop ks).length ≤ 131074 ∧ hm.length ≤ ks ∧ ls.2 ≤ 65536 ∧ Hid (Fr w0.heap.size P w wr)) (fun _ _ wr => L.length - kN P wr)
  case atStart => exact ⟨[], kk, _, nodes, x, post, f0, _, rfl, rfl, HH0, HJ2, HMid, HL0, hf0, Nat.le_refl _, hN4, hN, Nat.zero_le _, by have := (HTB.out tb (List.mem_of_getElem? hLb)).2; simp only []; omega, HF2⟩
  case round =>
   obtain ⟨hm, ks, ls, ns, x, post, f, hv, rfl, rfl, HH, HJr, HM, HL, hf, hnn, hn4, hN, hhm, hls, HFr⟩ := hrel
   obtain ⟨f, rfl⟩ : ∃ f', f = f' + 1 := ⟨f - 1, by omega⟩
   have hkN := HJr.out.kN
   have hL1 := HL.out
   unfold loopM at hL1
   have HL1 := Lib.hid hL1
   clear hL1 HL
   have hwr : w0.heap.size ≤ wr.heap.size := Nat.le_trans hBw HFr.out.sz
   have b1 := below_alloc1 wr (.cells #[.int .i64 0, .int .i64 0] 42)
   have hX1 := heap_alloc_new wr (.cells #[.int .i64 0, .int .i64 0] 42)
   obtain ⟨K, hKe⟩ : ∃ K, wr.heap.size = K := ⟨_, rfl⟩
   obtain ⟨W1, hW1⟩ : ∃ W, wr.alloc (.cells #[.int .i64 0, .int .i64 0] 42) = W := ⟨_, rfl⟩
   rw [hW1] at b1 hX1
   rw [hKe] at hX1
   have HJ1 := Lib.hid (HJr.out.keep b1)
   have HH1 := Lib.hid (HH.out.keep b1)
   have HX1 := Lib.hid hX1
   have HF1 := Lib.hid (HFr.out.trans (Fr.of_below (P := P) b1 hwr))
   have hKw : w.heap.size ≤ K := by rw [← hKe]; exact HFr.out.sz
   have hKP : K ≠ P := by have := HJr.out.ptr.1; omega
   have hBW1 : w0.heap.size ≤ W1.heap.size := Nat.le_trans hBw HF1.out.sz
   obtain ⟨z, nv, hz, hQr⟩ := HJr.out
   have HQr := Lib.hid (And.intro hz hQr)
   have HQ1 := Lib.hid (hQr.keep b1)
   have hKr : wr.heap.size ≤ K := Nat.le_of_eq hKe
   clear b1 hX1 HJr HH HFr hwr hz hQr
   go_upto_if 43 with fail
   clear hW1 hKe
   go_cut [9, 12, 13, 14, 44, 45, 46, 47, 48, 49, 50, 51, 52, 53, 54, 55, 56, 57] (fun s9 s12 s13 s14 s44 s45 s46 s47 s48 s49 s50 s51 s52 s53 s54 s55 s56 s57 wx => ∃ (hm2 : List (List UInt8)) (k2 : Nat) (lq : Sp) (kp : Sp), Hid (HadV w.heap.size wx s9 hm2) ∧ Hid (QJ w0.heap.size P txt L k2 ns wx) ∧ Hid (wx.heap[K]? = some (.cells #[.int .i64 (kp.1 : Int), .int .i64 (kp.2 : Int)] 42)) ∧ Hid (kidM txt (valueM txt lv) obj hm.reverse (L.drop ks) ls ns = (valueM txt lv (L.drop k2) lq ns kp, hm2.reverse)) ∧ ks ≤ k2 ∧ hm2.length ≤ k2 ∧ Hid (Fr w0.heap.size P w wx))
   case first =>
    rcases hc with ⟨rfl, rfl⟩ | ⟨rfl, rfl⟩
    ·go_wp2_with fail
     go_meet
     exact ⟨hm, ks, ls, (0, 0), HH1, HJ1, HX1, Lib.hid (by unfold kidM; rw [if_pos rfl]), Nat.le_refl _, hhm, HF1⟩
    ·have hks : ks ≤ L.length := HJ1.out.le
     have CKey := qkey_any w0.heap.size P txt L ks z nv W1 HQ1.out w.heap.size u9 hm HH1.out hL hs HTB.out (by omega)
     obtain ⟨KRv, hKR⟩ : ∃ r, keyR txt hm (L.drop ks) = r := ⟨_, rfl⟩
     rw [hKR] at CKey
     have HCK := Lib.hid CKey
     have HKR := Lib.hid hKR
     clear CKey hKR
     cases KRv with
     | bad a er =>
      obtain ⟨h', hkm⟩ := keyR_bad (V := valueM txt lv) (ls := ls) (ns := ns) HKR.out
      have hR := HL1.out
      rw [hkm] at hR
      have HR := Lib.hid (show JR.bad a er = R from hR)
      clear hR hkm
      go_wp2_with fail
      refine HCK.out.mono ?_
      rintro e w3 ⟨⟨s, xx, yy, rfl⟩, hbad, ho⟩
      have HF3 := Lib.hid (HF1.out.trans (OnlyP.fr ho hBP hBW1))
      have HBd := Lib.hid hbad
      have HNz : Hid (qN P w ≤ z.length) := Lib.hid (by
       have h1 := HQN.out
       have h2 := congrArg List.length HQr.out.1
       rw [List.length_map] at h2
       omega)
      clear hbad ho
      go_wp2_with fail
      go_ret
      rw [← HR.out]
      exact ⟨rfl, (HBd.out.keep (below_alloc1 _ _)).mono HNz.out, HF3.out.trans (Fr.of_below (below_alloc1 _ _) (Nat.le_trans hBw HF3.out.sz))⟩
     | ok key t =>
      obtain ⟨c', r2, hdr, hkm⟩ := keyR_ok (V := valueM txt lv) (ls := ls) (ns := ns) HKR.out
      have hdr2 : r2 = L.drop (ks + 2) := by rw [← List.drop_drop, hdr]; rfl
      rw [hdr2] at hkm
      have HKM := Lib.hid hkm
      clear hkm hdr hdr2
      go_wp2_with fail
      refine HCK.out.mono ?_
      rintro e w3 ⟨rfl, hq3, ho⟩
      have HF3 := Lib.hid (HF1.out.trans (OnlyP.fr ho hBP hBW1))
      have hPs : ∀ cs t fz, W1.heap[P]? = some (.cells cs t fz) → t ≠ 9 := fun cs t fz hp => by
       obtain ⟨lv1, hb1, _⟩ := HQ1.out
       unfold QBox at hb1
       rw [hb1] at hp
       injection hp with hp
       injection hp with _ hp
       rw [← hp]; decide
      have HH3 := Lib.hid (HH1.out.fr (OnlyP.fr ho hBP hBW1) hPs)
      have HX3 := Lib.hid ((ho.block K (cell_it HX1.out) (by simpa using hKP)).trans HX1.out)
      have HQ3 := Lib.hid hq3
      clear hPs hq3 ho HCK
      go_upto_region 11 with fail
      have b4 := below_alloc1 w3 (.cells #[.int .i64 (t.sf : Int), .int .i64 (t.st : Int)] 42)
      have hS4 := heap_alloc_new w3 (.cells #[.int .i64 (t.sf : Int), .int .i64 (t.st : Int)] 42)
      obtain ⟨S, hSe⟩ : ∃ S, w3.heap.size = S := ⟨_, rfl⟩
      obtain ⟨W4, hW4⟩ : ∃ W, w3.alloc (.cells #[.int .i64 (t.sf : Int), .int .i64 (t.st : Int)] 42) = W := ⟨_, rfl⟩
      rw [hW4] at b4 hS4
      rw [hSe] at hS4
      rw [hW4, hSe]
      have HF4 := Lib.hid (HF3.out.trans (Fr.of_below (P := P) b4 (Nat.le_trans hBw HF3.out.sz)))
      have HH4 := Lib.hid (HH3.out.keep b4)
      have HX4 := Lib.hid ((b4.block _ (cell_it HX3.out)).trans HX3.out)
      have HS4 := Lib.hid hS4
      have HQ4 := Lib.hid (HQ3.out.keep b4)
      have hww4 : w.heap.size ≤ W4.heap.size := HF4.out.sz
      have hown := HH4.out
      clear hW4 hSe b4 hS4 HH3 HX3 HQ3
      go_wp2_with (at_builtin; go_must (refine wpList_had (by rfl) (.tmp 53) (.tmp 55) rfl w.heap.size W4 u9 hm key rfl hown rfl (by omega) hww4 ?_); intro kv w5 hr5 hg5; have hK5 := (hg5.block K (cell_it HX4.out) (fun e => by rcases own_off HH4.out HX4.out (by decide) with h1 | h1; (· rw [h1] at e; cases e); (· exact h1 e.symm))).trans HX4.out; have hS5 := (hg5.block S (cell_it HS4.out) (fun e => by rcases own_off HH4.out HS4.out (by decide) with h1 | h1; (· rw [h1] at e; cases e); (· exact h1 e.symm))).trans HS4.out; obtain ⟨s0, s1, _, _⟩ := cells_of2 hS5; obtain ⟨x0, x1, fx0, fx1⟩ := cells_of2 hK5)
      have HK5 := Lib.hid hK5
      have HF5 := Lib.hid (HF4.out.newN hg5 (fun b hb => (World.ownsRow.lt HH4.out b hb).1) hBw)
      have HQ5 := Lib.hid (HQ4.out.grow HH4.out hg5)
      have HH5 := Lib.hid hr5
      clear hK5 hS5 hr5 hg5
      have hKB : w0.heap.size ≤ K := Nat.le_trans hBw hKw
      have HK7 := Lib.hid (box_set (box_set HK5.out 0 (.int .i64 (t.sf : Int))) 1 (.int .i64 (t.st : Int)))
      have HQ7 := Lib.hid (QZ.offK (i := 1) (u := .int .i64 (t.st : Int)) (QZ.offK (i := 0) (u := .int .i64 (t.sf : Int)) HQ5.out HQr.out.2.at_ hKr hKP HK5.out) HQr.out.2.at_ hKr hKP (box_set HK5.out 0 _))
      have HF7 := Lib.hid (HF5.out.trans ((Fr.setM (i := 0) (u := .int .i64 (t.sf : Int)) HK5.out (by decide) hKB).trans (Fr.setM (i := 1) (u := .int .i64 (t.st : Int)) (box_set HK5.out 0 _) (by decide) hKB)))
      have HH7 : Hid (HadV w.heap.size ((w5.setCell ⟨K, 0, none⟩ (.int .i64 (t.sf : Int))).setCell ⟨K, 1, none⟩ (.int .i64 (t.st : Int))) kv (hm ++ [key])) := Lib.hid (by
       have h1 : HadV w.heap.size (w5.setCell ⟨K, 0, none⟩ (.int .i64 (t.sf : Int))) kv (hm ++ [key]) := World.ownsRow.kept HH5.out (grown_set w5 K 0 _) (own_off HH5.out HK5.out (by decide))
       exact World.ownsRow.kept h1 (grown_set _ K 1 _) (own_off h1 (box_set HK5.out 0 _) (by decide)))
      go_meet
      exact ⟨hm ++ [key], ks + 2, (c'.sf, c'.st), (t.sf, t.st), HH7, Lib.hid (HQ7.out.toJ.cast HQr.out.1), HK7, Lib.hid (by rw [HKM.out, List.reverse_append]; rfl), by omega, by rw [List.length_append, List.length_singleton]; omega, HF7⟩
   obtain ⟨hm2, k2, lq, kp, HH2, HJ2, HX2, HKM, hk2, hhm2, HF2⟩ := hcut
   have hL2 := HL1.out
   rw [HKM.out] at hL2
   have hdl : (L.drop k2).length ≤ (L.drop ks).length := by rw [List.length_drop, List.length_drop]; omega
   obtain ⟨Q1, hQ1⟩ : ∃ Q, valueM txt lv (L.drop k2) lq ns kp = Q := ⟨_, rfl⟩
   rw [hQ1] at hL2
   have HL2 := Lib.hid hL2
   have HQ1v := Lib.hid hQ1
   have hBwc : w0.heap.size ≤ wc.heap.size := Nat.le_trans hBw HF2.out.sz
   have CV := HIH.out wc k2 lq ns kp (33 - (lv : Int)) HJ2.out (HB.out.trans HF2.out.bel) (by omega) hn4 rfl
   rw [hQ1] at CV
   have HCV := Lib.hid CV
   obtain ⟨p3, cp3, c3⟩ := HJ2.out.c3
   obtain ⟨x0, x1, _, _⟩ := cells_of2 HX2.out
   clear CV hL2 hQ1 HL1 HKM HX1 HH1 HJ1 HQ1 HF1
   go_wp2_with fail
   refine HCV.out.mono ?_
   rintro e w3 hE
   clear c3 x0 x1
   cases Q1 with
   | bad a er =>
    obtain ⟨rfl, hbad, hf⟩ := hE
    have HR := Lib.hid (show JR.bad a er = R from HL2.out)
    have HNq : Hid (qN P w ≤ qN P wc) := Lib.hid (by rw [HQN.out, HJ2.out.qN]; exact hnn)
    have HBd := Lib.hid hbad
    have HF3 := Lib.hid (HF2.out.trans hf)
    clear hbad hf
    go_wp2_with fail
    go_ret
    rw [← HR.out]
    exact ⟨rfl, HBd.out.mono HNq.out, HF3.out⟩
   | ok r1 l1 ns1 =>
    obtain ⟨rfl, ⟨k3, t3, rfl, hLt3, rfl, hj3⟩, hf⟩ := hE
    obtain ⟨more, rfl, hm1, hm2', ⟨kd, hkd⟩, hm3⟩ := value_ext txt lv _ _ _ _ _ _ _ HQ1v.out
    have hcap4 := value_cap txt lv _ _ _ _ _ _ _ HQ1v.out hn4
    have HF3 := Lib.hid (HF2.out.trans hf)
    have HJ3 := Lib.hid hj3
    have HHs := Lib.hid (HH2.out.fr hf (fun cs t fz hp => by
       obtain ⟨z1, nv1, _, lv1, hb1, _⟩ := HJ2.out
       unfold QBox at hb1
       rw [hb1] at hp
       injection hp with hp
       injection hp with _ hp
       rw [← hp]; decide))
    have hL3 := HL2.out
    obtain ⟨q1, hq1⟩ : ∃ q, kindT (L.drop (k3 + 1)) = q := ⟨_, rfl⟩
    have hk3 : k3 + 1 ≤ L.length := hj3.le
    have hk23 : k2 < k3 + 1 := by
     rw [List.length_drop, List.length_drop] at hm2'
     omega
    have CK3 : Hid (∀ w', Below w3.heap.size w3 w' → Calls Tryz.prog 218 #[.pointer (some ⟨P, 0, none⟩)] w' fun e w2 => e = .returned (.int .i64 (q1 : Int)) ∧ Below w'.heap.size w' w2) := Lib.hid (fun w' hb' => by
     have := qkind_any _ P txt L (k3 + 1) (ns ++ more) w' (HJ3.out.keep hb') (by omega)
     rw [hq1] at this
     exact this)
    have HQq := Lib.hid hq1
    have HL3 := Lib.hid hL3
    have HJ3' := Lib.hid hj3
    clear hf hj3 hL3 hq1 hkd HL2 HCV HH2 HF2
    by_cases hgo : q1 = 6 ∨ q1 = closing
    case neg =>
     have d6 : ((q1 : Int) != 6) = true := bne_iff_ne.2 (by omega)
     have dc : ((q1 : Int) != (closing : Int)) = true := bne_iff_ne.2 (by omega)
     have hR : JR.bad (hereT txt.length (L.drop (k3 + 1))) 2 = R := by
      rw [← HL3.out]
      have hq := HQq.out
      cases hd : L.drop (k3 + 1) with
      | nil => rfl
      | cons t r' =>
       rw [hd] at hq
       have hq' : t.kind = q1 := hq
       simp only []
       rw [if_neg (by omega), if_neg (by omega)]
       rfl
     have HR := Lib.hid hR
     clear hR hgo
     go_wp2_with fail
     refine (CK3.out _ (Below.refl _ _)).mono ?_
     rintro e w4 ⟨rfl, hb4⟩
     have HB4 := Lib.hid hb4
     clear hb4
     go_wp2_with fail
     refine (CK3.out _ HB4.out).mono ?_
     rintro e w5 ⟨rfl, hb5⟩
     have HB5 := Lib.hid (below_of_new HB4.out hb5)
     obtain ⟨z5, nv5, hz5, hQ5⟩ := HJ3.out.keep HB5.out
     have CW := Lib.hid (qwrong_any _ P txt L (k3 + 1) z5 nv5 2 w5 hQ5 (by omega) (by omega))
     have HQ5 := Lib.hid hQ5
     have HZ5 := Lib.hid hz5
     clear hb5 hz5 hQ5
     go_wp2_with fail
     refine CW.out.mono ?_
     rintro e w6 ⟨rfl, ⟨lv6, hb6⟩, ho6⟩
     have hbad := QBad.of HQ5.out ho6 hb6
     have HBd := Lib.hid hbad
     have HNq : Hid (qN P w ≤ z5.length) := Lib.hid (by
      have h1 := HQN.out
      have h2 := congrArg List.length HZ5.out
      rw [List.length_map, List.length_append] at h2
      omega)
     have HF6 := Lib.hid (HF3.out.trans ((Fr.of_below (P := P) HB5.out (Nat.le_trans hBw HF3.out.sz)).trans (OnlyP.fr ho6 hBP (by have := HF3.out.sz; have := HB5.out.size; omega))))
     clear hbad ho6 hb6
     go_wp2_with fail
     go_ret
     rw [← HR.out]
     exact ⟨rfl, HBd.out.mono HNq.out, HF6.out⟩
    go_upto_region 17 with fail
    go_cut [71, 72, 73, 74, 75, 76, 77, 78] (fun s71 s72 s73 s74 s75 s76 s77 s78 wx => s78 = .bool false ∧ Hid (Below w3.heap.size w3 wx))
    case first =>
     by_cases h6 : q1 = 6
     ·have d6 : ((q1 : Int) != 6) = false := by rw [h6]; rfl
      clear h6 hgo
      go_wp2_with fail
      refine (CK3.out _ (Below.refl _ _)).mono ?_
      rintro e w4 ⟨rfl, hb4⟩
      have HB4 := Lib.hid hb4
      clear hb4
      go_wp2_with fail
      go_meet
      exact ⟨rfl, HB4⟩
     ·have d6 : ((q1 : Int) != 6) = true := bne_iff_ne.2 (by omega)
      have hq1c : q1 = closing := hgo.resolve_left h6
      have dc : ((q1 : Int) != (closing : Int)) = false := by rw [hq1c]; simp
      clear h6 hgo hq1c
      go_wp2_with fail
      refine (CK3.out _ (Below.refl _ _)).mono ?_
      rintro e w4 ⟨rfl, hb4⟩
      have HB4 := Lib.hid hb4
      clear hb4
      go_wp2_with fail
      refine (CK3.out _ HB4.out).mono ?_
      rintro e w5 ⟨rfl, hb5⟩
      have HB5 := Lib.hid (below_of_new HB4.out hb5)
      clear hb5
      go_wp2_with fail
      go_meet
      exact ⟨rfl, HB5⟩
    obtain ⟨rfl, HBw⟩ := hcut
    have HMid := Lib.hid (HM.out.add hm3 hm1 ns.length (ls.2, hereT txt.length (L.drop (k3 + 1))))
    have hwc : w0.heap.size ≤ wc.heap.size := Nat.le_trans (Nat.le_trans hBw HF3.out.sz) HBw.out.size
    have hw3 : w0.heap.size ≤ w3.heap.size := Nat.le_trans hBw HF3.out.sz
    have HF4 := Lib.hid (Fr.of_below (B := w0.heap.size) (P := P) HBw.out hw3)
    obtain ⟨z4, nv4, hz4, hQ4⟩ := HJ3.out.keep HBw.out
    have hy0 : ∃ x0, (ns ++ more)[pre.length]? = some x0 ∧ x0.kids.length ≤ 131074 ∧ x0.pcs.length ≤ 131074 := by
     obtain ⟨e1, e2, e3, e4⟩ := HM.out
     refine ⟨x, by rw [e1, List.append_assoc, List.getElem?_append_right (Nat.le_refl _), Nat.sub_self]; rfl, ?_, ?_⟩ <;>
     ·have := congrArg List.length e1
      simp only [List.length_append, List.length_cons] at this
      omega
    have hpl : pre.length < ns.length := by
     have := congrArg List.length HM.out.1
     simp only [List.length_append, List.length_cons] at this
     omega
    obtain ⟨x0', hx0, hk0', hp0⟩ := hy0
    obtain ⟨y, hy, rfl⟩ : ∃ y : ND, z4[pre.length]? = some y ∧ y.1 = x0' := by
     rw [← hz4, List.getElem?_map] at hx0
     obtain ⟨y, h1, h2⟩ := Option.map_eq_some_iff.1 hx0
     exact ⟨y, h1, h2⟩
    have hzl : z4.length = ns.length + more.length := by rw [← List.length_map (f := (·.1)), hz4, List.length_append]
    obtain ⟨gn, cap, rfl, hcap⟩ := hQ4.form (fun e => by rw [e] at hy; simp at hy)
    have HQ4 := Lib.hid hQ4
    have HY := Lib.hid hy
    have HZ := Lib.hid hz4
    have HZL := Lib.hid hzl
    have hpl4 : (pre.length : Int) < (z4.length : Int) := by omega
    have hpl0 : (0 : Int) ≤ (pre.length : Int) := by omega
    clear hx0 hz4 hzl hQ4 hy HJ3 CK3
    have HFa := HF4
    go_upto_region 19 with fail
    have hfol : Tryz.prog.follows .mixedOrders = true := by kernel_rfl
    obtain ⟨W0, hW0e⟩ : ∃ W, wc.drew = W := ⟨_, rfl⟩
    have hQd : QZ w0.heap.size P txt L (k3 + 1) z4 (.slice (some ⟨gn, 0, none⟩) z4.length cap) W0 := by rw [← hW0e]; exact HQ4.out.keep (Below.refl _ wc).drew
    have HQd := Lib.hid hQd
    have hwd : w0.heap.size ≤ W0.heap.size := by rw [← hW0e]; exact hwc
    have hFW : Fr w0.heap.size P w3 W0 := by rw [← hW0e]; exact HFa.out.trans (Fr.of_below (P := P) (Below.refl _ wc).drew hwc)
    have HFW := Lib.hid hFW
    obtain ⟨SA, hSA⟩ : ∃ S : World → Prop, (fun w' => w'.cell? ⟨gn, pre.length * 7 + 5, none⟩ = some y.2.1 ∧ w'.frozen? ⟨gn, pre.length * 7 + 5, none⟩ = false) = S := ⟨_, rfl⟩
    obtain ⟨S1, hS1⟩ : ∃ S : World → Prop, (fun w' => w'.cell? ⟨P, 3, none⟩ = some (.slice (some ⟨gn, 0, none⟩) z4.length cap)) = S := ⟨_, rfl⟩
    have HS : Hid (∀ w2, Below W0.heap.size W0 w2 → SA w2) := Lib.hid (fun w2 hb => by
     rw [← hSA]
     exact (HQd.out.keep hb).at_.at_ HY.out 5 (by omega) rfl)
    have HS1 : Hid (∀ w2, Below W0.heap.size W0 w2 → S1 w2) := Lib.hid (fun w2 hb => by
     rw [← hS1]
     exact (HQd.out.keep hb).c3)
    have HSg : Hid (∀ w1 w2, Below W0.heap.size W0 w1 → w1.grownBy w2 (y.2.1).ownBlock → SA w2 ∧ S1 w2 ∧ ∀ u, S1 (w2.setCell ⟨gn, pre.length * 7 + 5, none⟩ u)) := Lib.hid (fun w1 w2 hb hg => by
     have h3 := (HQd.out.keep hb).c3_kids (List.mem_of_getElem? HY.out) hg
     rw [← hSA, ← hS1]
     exact ⟨(HQd.out.keep hb).at_.cellK HY.out hg, h3, fun u => cell_setX h3 HQd.out.gne⟩)
    clear hQd hFW
    refine wp_region_facts hfol [81, 82, 83, 84, 85, 86, 87, 88, 89, 90, 91, 92, 93, 94, 95, 96, 97, 98] 135 rfl (by kernel_rfl) (by kernel_rfl) (fun d v w' => RG 18 81 13 13 12 14 15 18 (valK P gn z4.length cap pre.length ns.length y.2.1) S1 SA (fun w' => Below W0.heap.size W0 w') (fun x w' => ∃ w1, Below W0.heap.size W0 w1 ∧ x = .slice (some ⟨w1.heap.size, 0, none⟩) 1 1 ∧ w' = w1.alloc (.cells #[.int .i64 (ns.length : Int)] 3)) (fun x w' => ∃ w1, Below W0.heap.size W0 w1 ∧ w'.ownsRow w0.heap.size 3 1 x (y.1.kids.length + 1) (intCells y.1.kids ++ [.int .i64 (ns.length : Int)]) ∧ w1.grownBy w' (y.2.1).ownBlock ∧ (x.ownBlock = (y.2.1).ownBlock ∨ x.ownBlock = some (w1.heap.size + 1))) (fun w' => ∃ x w1, ((fun x w' => ∃ w1, Below W0.heap.size W0 w1 ∧ w'.ownsRow w0.heap.size 3 1 x (y.1.kids.length + 1) (intCells y.1.kids ++ [.int .i64 (ns.length : Int)]) ∧ w1.grownBy w' (y.2.1).ownBlock ∧ (x.ownBlock = (y.2.1).ownBlock ∨ x.ownBlock = some (w1.heap.size + 1))) x w1) ∧ w' = w1.setCell ⟨gn, pre.length * 7 + 5, none⟩ x) d v w') ⟨fun _ _ _ _ h => absurd h (by decide), by rw [hW0e]; exact HS1.out _ (Below.refl _ _), fun _ => by rw [hW0e]; exact HS.out _ (Below.refl _ _), fun h => absurd h (by decide), fun h => absurd h (by decide), fun h => absurd h (by decide), fun h => absurd h (by decide), fun h => absurd h (by decide), fun _ => by rw [hW0e]; exact Below.refl _ _, fun h => absurd h (by decide), fun h => absurd h (by decide), fun h => absurd h (by decide)⟩ ?_ ?_
    ·intro d a w' i o' ho hi hall hfr hF R' hR
     have hi20 : i < 19 := (Array.getElem?_eq_some_iff.1 ho).1
     have q0 : a.tmps[0]?.getD undef = .pointer (some ⟨P, 0, none⟩) := by rw [← Array.getD_eq_getD_getElem?]; exact hfr 0 (by decide)
     have q1 : a.tmps[1]?.getD undef = .int .i64 (pre.length : Int) := by rw [← Array.getD_eq_getD_getElem?]; exact hfr 1 (by decide)
     have q15 : a.tmps[15]?.getD undef = .int .i64 (ns.length : Int) := by rw [← Array.getD_eq_getD_getElem?]; exact hfr 15 (by decide)
     clear hfr
     rcases lt19 hi20 with rfl | rfl | rfl | rfl | rfl | rfl | rfl | rfl | rfl | rfl | rfl | rfl | rfl | rfl | rfl | rfl | rfl | rfl | rfl <;> simp only [List.getElem?_toArray, List.getElem?_cons_zero, List.getElem?_cons_succ, Option.some.injEq] at ho <;> subst ho
     ·go_simp
      exact hR _ _ (hF.pure (i := 0) rfl rfl (by decide) (by decide) (by decide) (fun h => absurd h (by decide)))
     ·simp [Region.binds] at hall
      have c81 : a.tmps[81]?.getD undef = .pointer (some ⟨P, 0, none⟩) := by rw [← Array.getD_eq_getD_getElem?]; exact hF.cl 0 (by decide) (by decide) (by decide) (by simp [hall])
      go_simp
      exact hR _ _ (hF.pure (i := 1) rfl rfl (by decide) (by decide) (by decide) (fun h => absurd h (by decide)))
     ·simp [Region.binds] at hall
      have c82 : a.tmps[82]?.getD undef = .pointer (some ⟨P, 0, none⟩) := by rw [← Array.getD_eq_getD_getElem?]; exact hF.cl 1 (by decide) (by decide) (by decide) (by simp [hall])
      go_simp
      exact hR _ _ (hF.pure (i := 2) rfl rfl (by decide) (by decide) (by decide) (fun h => absurd h (by decide)))
     ·simp [Region.binds] at hall
      have c83 : a.tmps[83]?.getD undef = .pointer (some ⟨P, 3, none⟩) := by rw [← Array.getD_eq_getD_getElem?]; exact hF.cl 2 (by decide) (by decide) (by decide) (by simp [hall])
      have x3 := hF.st1
      rw [← hS1] at x3
      go_simp
      exact hR _ _ (hF.pure (i := 3) rfl rfl (by decide) (by decide) (by decide) (fun h => absurd h (by decide)))
     ·go_simp
      exact hR _ _ (hF.pure (i := 4) rfl rfl (by decide) (by decide) (by decide) (fun h => absurd h (by decide)))
     ·go_simp
      exact hR _ _ (hF.pure (i := 5) rfl rfl (by decide) (by decide) (by decide) (fun h => absurd h (by decide)))
     ·simp [Region.binds] at hall
      have c86 : a.tmps[86]?.getD undef = .pointer (some ⟨P, 0, none⟩) := by rw [← Array.getD_eq_getD_getElem?]; exact hF.cl 5 (by decide) (by decide) (by decide) (by simp [hall])
      go_simp
      exact hR _ _ (hF.pure (i := 6) rfl rfl (by decide) (by decide) (by decide) (fun h => absurd h (by decide)))
     ·simp [Region.binds] at hall
      have c87 : a.tmps[87]?.getD undef = .pointer (some ⟨P, 0, none⟩) := by rw [← Array.getD_eq_getD_getElem?]; exact hF.cl 6 (by decide) (by decide) (by decide) (by simp [hall])
      go_simp
      exact hR _ _ (hF.pure (i := 7) rfl rfl (by decide) (by decide) (by decide) (fun h => absurd h (by decide)))
     ·simp [Region.binds] at hall
      have c88 : a.tmps[88]?.getD undef = .pointer (some ⟨P, 3, none⟩) := by rw [← Array.getD_eq_getD_getElem?]; exact hF.cl 7 (by decide) (by decide) (by decide) (by simp [hall])
      have x3 := hF.st1
      rw [← hS1] at x3
      go_simp
      exact hR _ _ (hF.pure (i := 8) rfl rfl (by decide) (by decide) (by decide) (fun h => absurd h (by decide)))
     ·go_simp
      exact hR _ _ (hF.pure (i := 9) rfl rfl (by decide) (by decide) (by decide) (fun h => absurd h (by decide)))
     ·simp [Region.binds] at hall
      have c89 : a.tmps[89]?.getD undef = .slice (some ⟨gn, 0, none⟩) z4.length cap := by rw [← Array.getD_eq_getD_getElem?]; exact hF.cl 8 (by decide) (by decide) (by decide) (by simp [hall])
      have c90 : a.tmps[90]?.getD undef = .int .i64 (pre.length : Int) := by rw [← Array.getD_eq_getD_getElem?]; exact hF.cl 9 (by decide) (by decide) (by decide) (by simp [hall])
      go_simp
      exact hR _ _ (hF.pure (i := 10) rfl rfl (by decide) (by decide) (by decide) (fun h => absurd h (by decide)))
     ·simp [Region.binds] at hall
      have c91 : a.tmps[91]?.getD undef = .pointer (some ⟨gn, pre.length * 7, none⟩) := by rw [← Array.getD_eq_getD_getElem?]; exact hF.cl 10 (by decide) (by decide) (by decide) (by simp [hall])
      go_simp
      exact hR _ _ (hF.pure (i := 11) rfl rfl (by decide) (by decide) (by decide) (fun h => absurd h (by decide)))
     ·simp [Region.binds] at hall
      have c92 : a.tmps[92]?.getD undef = .pointer (some ⟨gn, pre.length * 7 + 5, none⟩) := by rw [← Array.getD_eq_getD_getElem?]; exact hF.cl 11 (by decide) (by decide) (by decide) (by simp [hall])
      have hst := hF.st (not_up hF.up2 (not_up hF.upl hi))
      rw [← hSA] at hst
      obtain ⟨x5, x5f⟩ := hst
      go_simp
      exact hR _ _ (hF.pure (i := 12) rfl rfl (by decide) (by decide) (by decide) (fun h => absurd h (by decide)))
     ·go_simp
      exact hR _ _ (hF.pure (i := 13) rfl rfl (by decide) (by decide) (by decide) (fun h => .inl h))
     ·simp [Region.binds] at hall
      have e0 : d 13 = true := by simp [hall]
      have c94 : a.tmps[94]?.getD undef = .int .i64 (ns.length : Int) := by rw [← Array.getD_eq_getD_getElem?]; exact hF.cl 13 (by decide) (by decide) (by decide) (by simp [hall])
      have hA := hF.w0 hi
      have hA2 := fun ob => below_of_new hA (below_alloc1 w' ob)
      go_simp
      exact hR _ _ (hF.alloc (by decide) hi e0 rfl (HS1.out _ (hA2 _)) (HS.out _ (hA2 _)) ⟨_, hA, rfl, rfl⟩)
     ·simp [Region.binds] at hall
      have e0 : d 12 = true := by simp [hall]
      have e1 : d 14 = true := by simp [hall]
      have hs0 : a.tmps.getD 93 undef = y.2.1 := hF.cl 12 (by decide) (by decide) (by decide) e0
      obtain ⟨w1, hA, hx, rfl⟩ := hF.w1 e1 hi
      have hx : a.tmps.getD 95 undef = .slice (some ⟨w1.heap.size, 0, none⟩) 1 1 := hx
      exact wp_of_step (ops := #[]) (t := a.tmps) (E := True) rfl (step_kid rfl (.tmp 93) (.tmp 95) rfl w0.heap.size w1 (y.2.1) y.1.kids ns.length hs0 ((HQd.out.keep hA).at_.kids _ (List.mem_of_getElem? HY.out)) hx (by omega) (by have := hA.size; omega) (fun kv w7 h1 h2 h3 => hR _ _ (hF.app (by decide) hi e1 e0 rfl (HSg.out _ _ hA h2).2.1 (HSg.out _ _ hA h2).1 ⟨w1, hA, h1, h2, h3⟩)))
     ·simp [Region.binds] at hall
      have c84 : a.tmps[84]?.getD undef = .slice (some ⟨gn, 0, none⟩) z4.length cap := by rw [← Array.getD_eq_getD_getElem?]; exact hF.cl 3 (by decide) (by decide) (by decide) (by simp [hall])
      have c85 : a.tmps[85]?.getD undef = .int .i64 (pre.length : Int) := by rw [← Array.getD_eq_getD_getElem?]; exact hF.cl 4 (by decide) (by decide) (by decide) (by simp [hall])
      go_simp
      exact hR _ _ (hF.pure (i := 16) rfl rfl (by decide) (by decide) (by decide) (fun h => absurd h (by decide)))
     ·simp [Region.binds] at hall
      have c97 : a.tmps[97]?.getD undef = .pointer (some ⟨gn, pre.length * 7, none⟩) := by rw [← Array.getD_eq_getD_getElem?]; exact hF.cl 16 (by decide) (by decide) (by decide) (by simp [hall])
      go_simp
      exact hR _ _ (hF.pure (i := 17) rfl rfl (by decide) (by decide) (by decide) (fun h => absurd h (by decide)))
     ·simp [Region.binds] at hall
      have e0 : d 15 = true := by simp [hall]
      have e1 : d 17 = true := by simp [hall]
      have c98 : a.tmps[98]?.getD undef = .pointer (some ⟨gn, pre.length * 7 + 5, none⟩) := by rw [← Array.getD_eq_getD_getElem?]; exact hF.cl 17 (by decide) (by decide) (by decide) e1
      have hst := hF.st hi
      rw [← hSA] at hst
      obtain ⟨x5, x5f⟩ := hst
      have hAp := hF.w2 e0 hi
      obtain ⟨gk, pk, hV⟩ := own_succ (hAp.choose_spec.2.1)
      have hV : a.tmps.getD 96 undef = .slice (some ⟨gk, 0, none⟩) (y.1.kids.length + 1) pk := hV
      simp only [hV] at hAp
      have c96 : a.tmps[96]?.getD undef = .slice (some ⟨gk, 0, none⟩) (y.1.kids.length + 1) pk := by rw [← Array.getD_eq_getD_getElem?]; exact hV
      have hS1s := (HSg.out _ _ hAp.choose_spec.1 hAp.choose_spec.2.2.1).2.2
      go_simp
      exact hR undef _ (hF.sto (by decide) hi e0 (hS1s _) ⟨_, _, hAp, rfl⟩)
    intro v wz hF
    obtain ⟨kv, w7, ⟨w1, hA, hr7, hg7, hat7⟩, hwz⟩ := hF.w3 (by decide)
    obtain ⟨hQ6, hF6⟩ := (HQd.out.keep hA).kid (m := ns.length) HY.out (H := w1.heap.size + 1) (by omega) (Nat.le_trans hwd hA.size) hr7 hg7 hat7
    rw [← hwz] at hQ6 hF6
    have HQ6 := Lib.hid hQ6
    have HF6 := Lib.hid (HFW.out.trans ((Fr.of_below (P := P) hA hwd).trans hF6))
    clear hQ6 hF6 hr7 hg7 hat7 hwz hF HSg HS1 HS HQd hS1 hSA hA HFW hW0e hwd W0 SA S1 w7 w1 hwc HFa
    simp only [fillT, List.setIfInBounds_toArray, List.set_cons_succ, List.set_cons_zero]
    have hwc : w0.heap.size ≤ wz.heap.size := Nat.le_trans hw3 HF6.out.sz
    have hy1 : (z4.set pre.length ({ y.1 with kids := y.1.kids ++ [ns.length] }, kv, y.2.2))[pre.length]? = some ({ y.1 with kids := y.1.kids ++ [ns.length] }, kv, y.2.2) := by rw [List.getElem?_set, if_pos rfl, if_pos (List.getElem?_eq_some_iff.1 HY.out).1]
    have HY1 := Lib.hid hy1
    obtain ⟨z6, hz6⟩ : ∃ z6, z4.set pre.length ({ y.1 with kids := y.1.kids ++ [ns.length] }, kv, y.2.2) = z6 := ⟨_, rfl⟩
    rw [hz6] at HQ6 HY1
    have hz6l : z6.length = z4.length := by rw [← hz6, List.length_set]
    have hpl6 : (pre.length : Int) < (z6.length : Int) := by omega
    have HZ6 := Lib.hid hz6
    have HZ6l := Lib.hid hz6l
    clear hy1 hz6 hz6l HQ4
    have hHT : hereT txt.length (L.drop (k3 + 1)) ≤ 65536 := by
     cases hd : L.drop (k3 + 1) with
     | nil => exact hs
     | cons t r' =>
      have hm : t ∈ L := List.mem_of_mem_drop (by rw [hd]; exact List.mem_cons_self)
      have := HTB.out t hm
      show t.sf ≤ 65536
      omega
    have HFa := HF6
    go_upto_region 20 with fail
    have hfol : Tryz.prog.follows .mixedOrders = true := by kernel_rfl
    obtain ⟨W0, hW0e⟩ : ∃ W, wz.drew = W := ⟨_, rfl⟩
    have hQd : QZ w0.heap.size P txt L (k3 + 1) z6 (.slice (some ⟨gn, 0, none⟩) z6.length cap) W0 := by rw [← hW0e]; exact HQ6.out.keep (Below.refl _ wz).drew
    have HQd := Lib.hid hQd
    have hwd : w0.heap.size ≤ W0.heap.size := by rw [← hW0e]; exact hwc
    have hFW : Fr w0.heap.size P w3 W0 := by rw [← hW0e]; exact HFa.out.trans (Fr.of_below (P := P) (Below.refl _ wz).drew hwc)
    have HFW := Lib.hid hFW
    have CH : Hid (∀ w', Below W0.heap.size W0 w' → Calls Tryz.prog 220 #[.pointer (some ⟨P, 0, none⟩)] w' fun e w2 => e = .returned (.int .i64 ((hereT txt.length (L.drop (k3 + 1)) : Nat) : Int)) ∧ Below w'.heap.size w' w2) := Lib.hid (fun w' hb' => qhere_any _ P txt L (k3 + 1) _ w' (HQd.out.keep hb').toJ (by omega) (by omega))
    obtain ⟨SA, hSA⟩ : ∃ S : World → Prop, (fun w' => w'.cell? ⟨gn, pre.length * 7 + 6, none⟩ = some y.2.2 ∧ w'.frozen? ⟨gn, pre.length * 7 + 6, none⟩ = false) = S := ⟨_, rfl⟩
    obtain ⟨S1, hS1⟩ : ∃ S : World → Prop, (fun w' => w'.cell? ⟨P, 3, none⟩ = some (.slice (some ⟨gn, 0, none⟩) z6.length cap)) = S := ⟨_, rfl⟩
    have HS : Hid (∀ w2, Below W0.heap.size W0 w2 → SA w2) := Lib.hid (fun w2 hb => by
     rw [← hSA]
     exact (HQd.out.keep hb).at_.at_ HY1.out 6 (by omega) rfl)
    have HS1 : Hid (∀ w2, Below W0.heap.size W0 w2 → S1 w2) := Lib.hid (fun w2 hb => by
     rw [← hS1]
     exact (HQd.out.keep hb).c3)
    have HSg : Hid (∀ w1 w2, Below W0.heap.size W0 w1 → w1.grownBy w2 (y.2.2).ownBlock → SA w2 ∧ S1 w2 ∧ ∀ u, S1 (w2.setCell ⟨gn, pre.length * 7 + 6, none⟩ u)) := Lib.hid (fun w1 w2 hb hg => by
     have h3 := (HQd.out.keep hb).c3_pcs (y := ({ y.1 with kids := y.1.kids ++ [ns.length] }, kv, y.2.2)) (List.mem_of_getElem? HY1.out) hg
     rw [← hSA, ← hS1]
     exact ⟨(HQd.out.keep hb).at_.cellP (y := ({ y.1 with kids := y.1.kids ++ [ns.length] }, kv, y.2.2)) HY1.out hg, h3, fun u => cell_setX h3 HQd.out.gne⟩)
    clear hQd hFW
    refine wp_region_facts hfol [99, 100, 101, 102, 103, 104, 105, 106, 107, 108, 109, 110, 111, 112, 113, 114, 115, 116, 117, 118, 119] 135 rfl (by kernel_rfl) (by kernel_rfl) (fun d v w' => RG 21 99 15 16 12 17 18 21 (valC P gn z6.length cap pre.length ls.2 (hereT txt.length (L.drop (k3 + 1))) y.2.2) S1 SA (fun w' => Below W0.heap.size W0 w') (fun x w' => ∃ w1, Below W0.heap.size W0 w1 ∧ x = .slice (some ⟨w1.heap.size, 0, none⟩) 1 1 ∧ w' = w1.alloc (.cells #[.int .i64 (ls.2 : Int), .int .i64 ((hereT txt.length (L.drop (k3 + 1)) : Nat) : Int)] 42)) (fun x w' => ∃ w1, Below W0.heap.size W0 w1 ∧ w'.ownsRow w0.heap.size 42 2 x (y.1.pcs.length + 1) (spCells y.1.pcs ++ [.int .i64 (ls.2 : Int), .int .i64 ((hereT txt.length (L.drop (k3 + 1)) : Nat) : Int)]) ∧ w1.grownBy w' (y.2.2).ownBlock ∧ (x.ownBlock = (y.2.2).ownBlock ∨ x.ownBlock = some (w1.heap.size + 1))) (fun w' => ∃ x w1, ((fun x w' => ∃ w1, Below W0.heap.size W0 w1 ∧ w'.ownsRow w0.heap.size 42 2 x (y.1.pcs.length + 1) (spCells y.1.pcs ++ [.int .i64 (ls.2 : Int), .int .i64 ((hereT txt.length (L.drop (k3 + 1)) : Nat) : Int)]) ∧ w1.grownBy w' (y.2.2).ownBlock ∧ (x.ownBlock = (y.2.2).ownBlock ∨ x.ownBlock = some (w1.heap.size + 1))) x w1) ∧ w' = w1.setCell ⟨gn, pre.length * 7 + 6, none⟩ x) d v w') ⟨fun _ _ _ _ h => absurd h (by decide), by rw [hW0e]; exact HS1.out _ (Below.refl _ _), fun _ => by rw [hW0e]; exact HS.out _ (Below.refl _ _), fun h => absurd h (by decide), fun h => absurd h (by decide), fun h => absurd h (by decide), fun h => absurd h (by decide), fun h => absurd h (by decide), fun _ => by rw [hW0e]; exact Below.refl _ _, fun h => absurd h (by decide), fun h => absurd h (by decide), fun h => absurd h (by decide)⟩ ?_ ?_
    ·intro d a w' i o' ho hi hall hfr hF R' hR
     have hi20 : i < 22 := (Array.getElem?_eq_some_iff.1 ho).1
     have q0 : a.tmps[0]?.getD undef = .pointer (some ⟨P, 0, none⟩) := by rw [← Array.getD_eq_getD_getElem?]; exact hfr 0 (by decide)
     have q1 : a.tmps[1]?.getD undef = .int .i64 (pre.length : Int) := by rw [← Array.getD_eq_getD_getElem?]; exact hfr 1 (by decide)
     have q10 : a.tmps[10]?.getD undef = .int .i64 (ls.2 : Int) := by rw [← Array.getD_eq_getD_getElem?]; exact hfr 10 (by decide)
     clear hfr
     rcases lt22 hi20 with rfl | rfl | rfl | rfl | rfl | rfl | rfl | rfl | rfl | rfl | rfl | rfl | rfl | rfl | rfl | rfl | rfl | rfl | rfl | rfl | rfl | rfl <;> simp only [List.getElem?_toArray, List.getElem?_cons_zero, List.getElem?_cons_succ, Option.some.injEq] at ho <;> subst ho
     ·go_simp
      exact hR _ _ (hF.pure (i := 0) rfl rfl (by decide) (by decide) (by decide) (fun h => absurd h (by decide)))
     ·simp [Region.binds] at hall
      have c99 : a.tmps[99]?.getD undef = .pointer (some ⟨P, 0, none⟩) := by rw [← Array.getD_eq_getD_getElem?]; exact hF.cl 0 (by decide) (by decide) (by decide) (by simp [hall])
      go_simp
      exact hR _ _ (hF.pure (i := 1) rfl rfl (by decide) (by decide) (by decide) (fun h => absurd h (by decide)))
     ·simp [Region.binds] at hall
      have c100 : a.tmps[100]?.getD undef = .pointer (some ⟨P, 0, none⟩) := by rw [← Array.getD_eq_getD_getElem?]; exact hF.cl 1 (by decide) (by decide) (by decide) (by simp [hall])
      go_simp
      exact hR _ _ (hF.pure (i := 2) rfl rfl (by decide) (by decide) (by decide) (fun h => absurd h (by decide)))
     ·simp [Region.binds] at hall
      have c101 : a.tmps[101]?.getD undef = .pointer (some ⟨P, 3, none⟩) := by rw [← Array.getD_eq_getD_getElem?]; exact hF.cl 2 (by decide) (by decide) (by decide) (by simp [hall])
      have x3 := hF.st1
      rw [← hS1] at x3
      go_simp
      exact hR _ _ (hF.pure (i := 3) rfl rfl (by decide) (by decide) (by decide) (fun h => absurd h (by decide)))
     ·go_simp
      exact hR _ _ (hF.pure (i := 4) rfl rfl (by decide) (by decide) (by decide) (fun h => absurd h (by decide)))
     ·go_simp
      exact hR _ _ (hF.pure (i := 5) rfl rfl (by decide) (by decide) (by decide) (fun h => absurd h (by decide)))
     ·simp [Region.binds] at hall
      have c104 : a.tmps[104]?.getD undef = .pointer (some ⟨P, 0, none⟩) := by rw [← Array.getD_eq_getD_getElem?]; exact hF.cl 5 (by decide) (by decide) (by decide) (by simp [hall])
      go_simp
      exact hR _ _ (hF.pure (i := 6) rfl rfl (by decide) (by decide) (by decide) (fun h => absurd h (by decide)))
     ·simp [Region.binds] at hall
      have c105 : a.tmps[105]?.getD undef = .pointer (some ⟨P, 0, none⟩) := by rw [← Array.getD_eq_getD_getElem?]; exact hF.cl 6 (by decide) (by decide) (by decide) (by simp [hall])
      go_simp
      exact hR _ _ (hF.pure (i := 7) rfl rfl (by decide) (by decide) (by decide) (fun h => absurd h (by decide)))
     ·simp [Region.binds] at hall
      have c106 : a.tmps[106]?.getD undef = .pointer (some ⟨P, 3, none⟩) := by rw [← Array.getD_eq_getD_getElem?]; exact hF.cl 7 (by decide) (by decide) (by decide) (by simp [hall])
      have x3 := hF.st1
      rw [← hS1] at x3
      go_simp
      exact hR _ _ (hF.pure (i := 8) rfl rfl (by decide) (by decide) (by decide) (fun h => absurd h (by decide)))
     ·go_simp
      exact hR _ _ (hF.pure (i := 9) rfl rfl (by decide) (by decide) (by decide) (fun h => absurd h (by decide)))
     ·simp [Region.binds] at hall
      have c107 : a.tmps[107]?.getD undef = .slice (some ⟨gn, 0, none⟩) z6.length cap := by rw [← Array.getD_eq_getD_getElem?]; exact hF.cl 8 (by decide) (by decide) (by decide) (by simp [hall])
      have c108 : a.tmps[108]?.getD undef = .int .i64 (pre.length : Int) := by rw [← Array.getD_eq_getD_getElem?]; exact hF.cl 9 (by decide) (by decide) (by decide) (by simp [hall])
      go_simp
      exact hR _ _ (hF.pure (i := 10) rfl rfl (by decide) (by decide) (by decide) (fun h => absurd h (by decide)))
     ·simp [Region.binds] at hall
      have c109 : a.tmps[109]?.getD undef = .pointer (some ⟨gn, pre.length * 7, none⟩) := by rw [← Array.getD_eq_getD_getElem?]; exact hF.cl 10 (by decide) (by decide) (by decide) (by simp [hall])
      go_simp
      exact hR _ _ (hF.pure (i := 11) rfl rfl (by decide) (by decide) (by decide) (fun h => absurd h (by decide)))
     ·simp [Region.binds] at hall
      have c110 : a.tmps[110]?.getD undef = .pointer (some ⟨gn, pre.length * 7 + 6, none⟩) := by rw [← Array.getD_eq_getD_getElem?]; exact hF.cl 11 (by decide) (by decide) (by decide) (by simp [hall])
      have hst := hF.st (not_up hF.up2 (not_up hF.upl hi))
      rw [← hSA] at hst
      obtain ⟨x5, x5f⟩ := hst
      go_simp
      exact hR _ _ (hF.pure (i := 12) rfl rfl (by decide) (by decide) (by decide) (fun h => absurd h (by decide)))
     ·go_simp
      exact hR _ _ (hF.pure (i := 13) rfl rfl (by decide) (by decide) (by decide) (fun h => absurd h (by decide)))
     ·go_simp
      exact hR _ _ (hF.pure (i := 14) rfl rfl (by decide) (by decide) (by decide) (fun h => absurd h (by decide)))
     ·simp [Region.binds] at hall
      have c113 : a.tmps[113]?.getD undef = .pointer (some ⟨P, 0, none⟩) := by rw [← Array.getD_eq_getD_getElem?]; exact hF.cl 14 (by decide) (by decide) (by decide) (by simp [hall])
      have hA := hF.w0 (not_up hF.up0 (not_up hF.upc hi))
      go_simp
      go_at_call 220
      refine (CH.out _ hA).mono ?_
      rintro e w5 ⟨rfl, hb5⟩
      exact hR _ _ (hF.call (by decide) hi rfl rfl (HS1.out _ (below_of_new hA hb5)) (HS.out _ (below_of_new hA hb5)) (below_of_new hA hb5))
     ·simp [Region.binds] at hall
      have c112 : a.tmps[112]?.getD undef = .int .i64 (ls.2 : Int) := by rw [← Array.getD_eq_getD_getElem?]; exact hF.cl 13 (by decide) (by decide) (by decide) (by simp [hall])
      have c114 : a.tmps[114]?.getD undef = .int .i64 ((hereT txt.length (L.drop (k3 + 1)) : Nat) : Int) := by rw [← Array.getD_eq_getD_getElem?]; exact hF.cl 15 (by decide) (by decide) (by decide) (by simp [hall])
      go_simp
      exact hR _ _ (hF.pure (i := 16) rfl rfl (by decide) (by decide) (by decide) (fun _ => .inr (by simp [hall])))
     ·simp [Region.binds] at hall
      have e0 : d 16 = true := by simp [hall]
      have c115 : a.tmps[115]?.getD undef = .agg #[.int .i64 (ls.2 : Int), .int .i64 ((hereT txt.length (L.drop (k3 + 1)) : Nat) : Int)] := by rw [← Array.getD_eq_getD_getElem?]; exact hF.cl 16 (by decide) (by decide) (by decide) (by simp [hall])
      have hA := hF.w0 hi
      have hA2 := fun ob => below_of_new hA (below_alloc1 w' ob)
      go_simp
      exact hR _ _ (hF.alloc (by decide) hi e0 rfl (HS1.out _ (hA2 _)) (HS.out _ (hA2 _)) ⟨_, hA, rfl, rfl⟩)
     ·simp [Region.binds] at hall
      have e0 : d 12 = true := by simp [hall]
      have e1 : d 17 = true := by simp [hall]
      have hs0 : a.tmps.getD 111 undef = y.2.2 := hF.cl 12 (by decide) (by decide) (by decide) e0
      obtain ⟨w1, hA, hx, rfl⟩ := hF.w1 e1 hi
      have hx : a.tmps.getD 116 undef = .slice (some ⟨w1.heap.size, 0, none⟩) 1 1 := hx
      exact wp_of_step (ops := #[]) (t := a.tmps) (E := True) rfl (step_pc rfl (.tmp 111) (.tmp 116) rfl w0.heap.size w1 (y.2.2) y.1.pcs (ls.2, hereT txt.length (L.drop (k3 + 1))) hs0 ((HQd.out.keep hA).at_.pcs ({ y.1 with kids := y.1.kids ++ [ns.length] }, kv, y.2.2) (List.mem_of_getElem? HY1.out)) hx (by omega) (by have := hA.size; omega) (fun kv w7 h1 h2 h3 => hR _ _ (hF.app (by decide) hi e1 e0 rfl (HSg.out _ _ hA h2).2.1 (HSg.out _ _ hA h2).1 ⟨w1, hA, h1, h2, h3⟩)))
     ·simp [Region.binds] at hall
      have c102 : a.tmps[102]?.getD undef = .slice (some ⟨gn, 0, none⟩) z6.length cap := by rw [← Array.getD_eq_getD_getElem?]; exact hF.cl 3 (by decide) (by decide) (by decide) (by simp [hall])
      have c103 : a.tmps[103]?.getD undef = .int .i64 (pre.length : Int) := by rw [← Array.getD_eq_getD_getElem?]; exact hF.cl 4 (by decide) (by decide) (by decide) (by simp [hall])
      go_simp
      exact hR _ _ (hF.pure (i := 19) rfl rfl (by decide) (by decide) (by decide) (fun h => absurd h (by decide)))
     ·simp [Region.binds] at hall
      have c118 : a.tmps[118]?.getD undef = .pointer (some ⟨gn, pre.length * 7, none⟩) := by rw [← Array.getD_eq_getD_getElem?]; exact hF.cl 19 (by decide) (by decide) (by decide) (by simp [hall])
      go_simp
      exact hR _ _ (hF.pure (i := 20) rfl rfl (by decide) (by decide) (by decide) (fun h => absurd h (by decide)))
     ·simp [Region.binds] at hall
      have e0 : d 18 = true := by simp [hall]
      have e1 : d 20 = true := by simp [hall]
      have c119 : a.tmps[119]?.getD undef = .pointer (some ⟨gn, pre.length * 7 + 6, none⟩) := by rw [← Array.getD_eq_getD_getElem?]; exact hF.cl 20 (by decide) (by decide) (by decide) e1
      have hst := hF.st hi
      rw [← hSA] at hst
      obtain ⟨x5, x5f⟩ := hst
      have hAp := hF.w2 e0 hi
      obtain ⟨gk, pk, hV⟩ := own_succ (hAp.choose_spec.2.1)
      have hV : a.tmps.getD 117 undef = .slice (some ⟨gk, 0, none⟩) (y.1.pcs.length + 1) pk := hV
      simp only [hV] at hAp
      have c117 : a.tmps[117]?.getD undef = .slice (some ⟨gk, 0, none⟩) (y.1.pcs.length + 1) pk := by rw [← Array.getD_eq_getD_getElem?]; exact hV
      have hS1s := (HSg.out _ _ hAp.choose_spec.1 hAp.choose_spec.2.2.1).2.2
      go_simp
      exact hR undef _ (hF.sto (by decide) hi e0 (hS1s _) ⟨_, _, hAp, rfl⟩)
    intro v wy hF
    obtain ⟨kv2, w7, ⟨w1, hA, hr7, hg7, hat7⟩, hwy⟩ := hF.w3 (by decide)
    obtain ⟨hQ8, hF8⟩ := (HQd.out.keep hA).pc (m := (ls.2, hereT txt.length (L.drop (k3 + 1)))) HY1.out (H := w1.heap.size + 1) (by omega) (Nat.le_trans hwd hA.size) hr7 hg7 hat7
    rw [← hwy] at hQ8 hF8
    have hj8 := hQ8.toJ
    rw [← HZ6.out, (set_kid (z := z4) (n := pre.length) (k := ns.length) (pc := (ls.2, hereT txt.length (L.drop (k3 + 1)))) HY.out), HZ.out] at hj8
    have HJ8 := Lib.hid hj8
    have HF8 := Lib.hid (HFW.out.trans ((Fr.of_below (P := P) hA hwd).trans hF8))
    clear hQ8 hF8 hj8 hr7 hg7 hat7 hwy hF HSg HS1 HS HQd hS1 hSA hA HFW hW0e hwd W0 SA S1 w7 w1 hwc HFa CH HQ6
    simp only [fillT, List.setIfInBounds_toArray, List.set_cons_succ, List.set_cons_zero]
    have hw8 : w0.heap.size ≤ wy.heap.size := Nat.le_trans hw3 HF8.out.sz
    have hq0 : q1 ≠ 0 := by omega
    obtain ⟨t8, hLt8⟩ : ∃ t, L[k3 + 1]? = some t := ⟨_, List.getElem?_eq_getElem (kindT_lt (by rw [HQq.out]; exact hq0))⟩
    have hdr8 := drop_at hLt8
    have htk8 : t8.kind = q1 := by have := HQq.out; rw [hdr8] at this; exact this
    have hhere : hereT txt.length (L.drop (k3 + 1)) = t8.sf := by rw [hdr8]; rfl
    have hL8 := HL3.out
    rw [hdr8] at hL8
    simp only [] at hL8
    rw [htk8] at hL8
    rw [hhere] at HJ8 HMid
    have HHs8 := Lib.hid (HHs.out.fr HF8.out (fun cs t fz hp => by
       obtain ⟨z1, nv1, _, lv1, hb1, _⟩ := HJ3'.out
       unfold QBox at hb1
       rw [hb1] at hp
       injection hp with hp
       injection hp with _ hp
       rw [← hp]; decide))
    have CK8 : Hid (∀ w', Below wy.heap.size wy w' → Calls Tryz.prog 218 #[.pointer (some ⟨P, 0, none⟩)] w' fun e w2 => e = .returned (.int .i64 (q1 : Int)) ∧ Below w'.heap.size w' w2) := Lib.hid (fun w' hb' => by
     have := qkind_any _ P txt L (k3 + 1) _ w' (HJ8.out.keep hb') (by omega)
     rw [HQq.out] at this
     exact this)
    have CH8 : Hid (∀ w', Below wy.heap.size wy w' → Calls Tryz.prog 220 #[.pointer (some ⟨P, 0, none⟩)] w' fun e w2 => e = .returned (.int .i64 (t8.sf : Int)) ∧ Below w'.heap.size w' w2) := Lib.hid (fun w' hb' => by
     have := qhere_any _ P txt L (k3 + 1) _ w' (HJ8.out.keep hb') (by omega) (by omega)
     rw [hhere] at this
     exact this)
    have htm := List.mem_of_getElem? hLt8
    have htb8 := HTB.out t8 htm
    have hsf8 : (t8.sf : Int) ≤ 65536 := by omega
    have hsf80 : (0 : Int) ≤ (t8.sf : Int) := by omega
    have hsg8 := HSG.out t8 htm
    obtain ⟨k4, hk4⟩ : ∃ k4, k3 + 1 = k4 := ⟨_, rfl⟩
    have hk4b : (k4 : Int) ≤ 65536 := by omega
    have HL8 := Lib.hid hL8
    have HLt8 := Lib.hid hLt8
    have hk4l : k4 < L.length := by rw [← hk4]; exact (List.getElem?_eq_some_iff.1 hLt8).1
    rw [hk4] at HJ8 HLt8 HL8
    clear hL8 hLt8 hdr8 htk8 hhere htm
    go_wp2_with fail
    refine (CK8.out _ (Below.refl _ _)).mono ?_
    rintro e w4 ⟨rfl, hb4⟩
    have HB4 := Lib.hid hb4
    clear hb4
    go_wp2_with fail
    refine (CH8.out _ HB4.out).mono ?_
    rintro e w5 ⟨rfl, hb5⟩
    have hbw5 := below_of_new HB4.out hb5
    have hj5 := HJ8.out.keep hbw5
    obtain ⟨c2, f2⟩ := hj5.c2
    obtain ⟨hj9, hf9⟩ := hj5.step hk4l
    have HF9 := Lib.hid (HF8.out.trans ((Fr.of_below (P := P) hbw5 hw8).trans hf9))
    have HJ9 := Lib.hid hj9
    have HB5 := Lib.hid hbw5
    have ek : ((k4 + 1 : Nat) : Int) = (k4 : Int) + 1 := by omega
    rw [ek] at HJ9 HF9
    clear hj5 hj9 hf9 hbw5 hb5 ek
    by_cases hcl8 : q1 = closing
    ·have dcl8 : ((q1 : Int) == (closing : Int)) = true := by rw [hcl8]; simp
     have hR := HL8.out
     rw [if_pos hcl8] at hR
     have HR := Lib.hid hR
     clear hR hcl8 hgo
     go_wp2_with fail
     go_ret
     rw [← HR.out]
     exact ⟨rfl, ⟨k4, t8, rfl, HLt8.out, rfl, HJ9.out⟩, HF3.out.trans HF9.out⟩
    ·have dcl8 : ((q1 : Int) == (closing : Int)) = false := by simp; omega
     have hq6 : q1 = 6 := hgo.resolve_right hcl8
     have hR := HL8.out
     rw [if_neg hcl8, if_pos hq6] at hR
     have hst8 : t8.st = t8.sf + 1 := hsg8 (by have := HQq.out; rw [hk4, drop_at HLt8.out] at this; rw [show t8.kind = q1 from this]; exact hq6)
     have hst8z : (t8.sf : Int) + 1 = (t8.st : Int) := by omega
     have HR := Lib.hid hR
     have hgrow := grown_set w5 P 2 (.int .i64 ((k4 : Int) + 1))
     have HH9 : Hid (HadV w.heap.size (w5.setCell ⟨P, 2, none⟩ (.int .i64 ((k4 : Int) + 1))) u9 hm2) := Lib.hid (by
      have h1 := HHs8.out.keep HB5.out
      refine World.ownsRow.kept h1 hgrow ?_
      obtain ⟨z1, nv1, _, lv1, hb1, _⟩ := HJ8.out.keep HB5.out
      unfold QBox at hb1
      exact own_off h1 hb1 (by decide))
     have hNN : (addKid pre.length ns.length (ls.2, t8.sf) (ns ++ more)).length + (L.drop (k4 + 1)).length ≤ 131074 := by
      unfold addKid
      rw [modN_len, List.length_append]
      rw [List.length_drop, List.length_drop] at hm2'
      rw [List.length_drop] at hN ⊢
      omega
     have hnn2 : nodes.length ≤ (addKid pre.length ns.length (ls.2, t8.sf) (ns ++ more)).length := by
      unfold addKid
      rw [modN_len, List.length_append]
      omega
     have hn48 : (addKid pre.length ns.length (ls.2, t8.sf) (ns ++ more)).length ≤ 4096 := by
      unfold addKid
      rw [modN_len]
      exact hcap4
     have hlt8 : (L.drop (k4 + 1)).length < f := by
      rw [List.length_drop] at hf ⊢
      omega
     have hkN9 := HJ9.out.kN
     have hks9 : ks < L.length := by omega
     clear hR hcl8 hgo hq6 hst8 hgrow
     go_wp2_with fail
     go_roundw
     ·exact ⟨hm2, k4 + 1, (t8.sf, t8.st), _, _, _, f, u9, rfl, by rw [← hst8z], HH9, HJ9, HMid, HR, hlt8, hnn2, hn48, hNN, by omega, by simp only []; omega, Lib.hid (HF3.out.trans HF9.out)⟩
     ·rw [hkN9, hkN]; omega
end Go.Proofs.YtbldfpkfinpciaaGreatDoor

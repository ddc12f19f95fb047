import Derived.Test.YtmghlaajocgoaaaGreatDoorJsD
/-! The walks of the parser's member, and of value's closure. -/
namespace Go.Proofs.YtmghlaajocgoaaaGreatDoor
set_option linter.unusedSimpArgs false
set_option linter.unusedVariables false
open Go.RowKit Go.Maps Go.WideMaps
open Go.Lib hiding intOf

theorem readJ_len : ∀ (f : Nat) (l : List UInt8) (i : Nat) (acc : List UInt8), (readGo f l i acc).1.length ≤ acc.length + 4 * l.length
  | 0, _, _, _ => by simp [readGo]
  | _ + 1, [], _, _ => by simp [readGo]
  | f + 1, c :: r, i, acc => by
    unfold readGo
    split
    · simp
    · split
      · simp
      · rename_i h
        have hp := partL_bd (c :: r) (List.cons_ne_nil _ _)
        obtain ⟨P, hP⟩ : ∃ P, partL (c :: r) = P := ⟨_, rfl⟩
        rw [hP] at hp h ⊢
        have := readJ_len f ((c :: r).drop P.2.toNat) (i + P.2.toNat) (acc ++ encodeRune P.1)
        have h4 := Lib.runeCells_le P.1
        rw [Lib.runeCells_length] at h4
        rw [List.length_drop, List.length_append] at this
        omega
theorem unq_len1 (l : List UInt8) : (unqL l).1.length ≤ 4 * l.length := by
  have h : (readL l 0).1.length ≤ 4 * l.length := by
    unfold readL
    split
    · have := readJ_len (l.length + 1) (l.drop ((0 : Int).toNat + 1)) ((0 : Int).toNat + 1) []
      rw [List.length_drop] at this
      simp only [List.length_nil] at this
      omega
    · simp
  unfold unqL
  split
  · simp
  · exact h
def ME (B P b : Nat) (txt : List UInt8) (r : JR × List (List UInt8)) (w : World) (e : Ending) (w' : World) : Prop := match r with
  | (.ok rr l ns, had) => e = .returned (.bool true) ∧ J B P txt rr l ns w' ∧ HM b had w' ∧ FrX B P b w w'
  | (.bad a er, _) => e = .returned (.bool false) ∧ JBad B P (nodesN P w) a er w' ∧ FrX B P b w w'
/-- What member's drawn region finds. -/
abbrev SpH (w : World) (X P : Nat) (txt : List UInt8) (t : Tok) (w' : World) : Prop := w'.cell? ⟨P, 0, none⟩ = some (.string (bs txt)) ∧ w'.cell? ⟨X, 0, none⟩ = some (.int .i64 (t.sf : Int)) ∧ w'.cell? ⟨X, 1, none⟩ = some (.int .i64 (t.st : Int)) ∧ Hid (Below w.heap.size w w' ∧ P < w.heap.size ∧ X < w.heap.size)
theorem SpH.drew {w w1 : World} {X P : Nat} {txt : List UInt8} {t : Tok} (h : SpH w X P txt t w1) : SpH w X P txt t w1.drew := by
  obtain ⟨a, b, c, d⟩ := h
  exact ⟨a, b, c, Lib.hid ⟨d.out.1.drew, d.out.2⟩⟩
theorem SpH.step {w w1 w2 : World} {X P : Nat} {txt : List UInt8} {t : Tok} (h : SpH w X P txt t w1) (hb : Below w1.heap.size w1 w2) : SpH w X P txt t w2 := by
  obtain ⟨a, b, c, d⟩ := h
  obtain ⟨e1, e2, e3⟩ := d.out
  have l1 : P < w1.heap.size := Nat.lt_of_lt_of_le e2 e1.size
  have l2 : X < w1.heap.size := Nat.lt_of_lt_of_le e3 e1.size
  exact ⟨by rw [hb.cell (p := ⟨P, 0, none⟩) l1]; exact a, by rw [hb.cell (p := ⟨X, 0, none⟩) l2]; exact b, by rw [hb.cell (p := ⟨X, 1, none⟩) l2]; exact c, Lib.hid ⟨below_of_new e1 hb, e2, e3⟩⟩
theorem SpH.bel {w w1 : World} {X P : Nat} {txt : List UInt8} {t : Tok} (h : SpH w X P txt t w1) : Below w.heap.size w w1 := h.2.2.2.out.1
theorem J.box {B P : Nat} {txt : List UInt8} {rest : List Tok} {l : Sp} {nodes : List NodeD} {w : World} (h : J B P txt rest l nodes w) : P < w.heap.size ∧ B ≤ P ∧ w.cell? ⟨P, 0, none⟩ = some (.string (bs txt)) ∧ ∀ b es c, w.heap[b]? = some (.map es c) → b ≠ P := by
  obtain ⟨rv, z, nv, h1, h2, h3, h4, h5⟩ := h
  refine ⟨h1.lt, h5, h1.cells.1, fun b es c hb e => ?_⟩
  subst e
  unfold JBox at h1
  rw [hb] at h1
  cases h1
theorem cell_new2 (w : World) (cs : Array Value) (t : TypeId) (j : Nat) (u : Value) (h : cs.toList[j]? = some u) : (w.alloc (.cells cs t)).cell? ⟨w.heap.size, j, none⟩ = some u := by
  have := World.news_of_block (w := w.alloc (.cells cs t)) (heap_alloc_new w _) j u h
  have ha : ((⟨w.heap.size, 0, none⟩ : Addr).add j) = ⟨w.heap.size, j, none⟩ := by unfold Addr.add; split <;> simp_all
  rw [ha] at this
  exact this
theorem grown_cell {w w' : World} {r : Option Nat} (hg : w.grownBy w' r) {X : Nat} (hX : X < w.heap.size) (hne : some X ≠ r) (i : Nat) : w'.cell? ⟨X, i, none⟩ = w.cell? ⟨X, i, none⟩ := cell_same (hg.block X hX hne) i
set_option maxRecDepth 100000 in
set_option maxHeartbeats 8000000 in
theorem member_any (w0 : World) (P : Nat) (txt : List UInt8) (lv : Nat) (IH : VC w0 P txt lv) (b : Nat) (had : List (List UInt8)) (w : World) (rest : List Tok) (l : Sp) (nodes : List NodeD) (lev : Int)
    (h : J w0.heap.size P txt rest l nodes w) (hb : Below w0.heap.size w0 w) (ht : TB txt rest) (hN : nodes.length + rest.length ≤ 131074) (hl : lev = 33 - (lv : Int)) (hm : HM b had w) (hBb : w0.heap.size ≤ b) (hhad : had.length ≤ 65537) (hs : txt.length ≤ 65536) (hSV : SVar w0) (hT : Tabs w0) :
    Calls Tryz.prog 37 #[.pointer (some ⟨P, 0, none⟩), .int .i64 lev, .map (some b)] w (ME w0.heap.size P b txt (kidM txt (valueM txt lv) true had rest l nodes) w) := by
  have htl := ht.1
  have HNW := Lib.hid h.nodesN
  obtain ⟨hPl, hBP, hc0, hmP⟩ := h.box
  obtain ⟨es, cm, hobj⟩ := hm.obj
  have hbP : b ≠ P := hmP b es cm hobj
  have CK := Lib.hid (kind_any _ P txt rest l nodes w h (by omega))
  have sl := bs_size txt
  obtain ⟨R, hR⟩ : ∃ R, kidM txt (valueM txt lv) true had rest l nodes = R := ⟨_, rfl⟩
  rw [hR]
  by_cases h8 : kindT rest = 8
  · cases rest with
    | nil => cases h8
    | cons t r =>
      have ht8 : t.kind = 8 := h8
      rw [h8] at CK
      obtain ⟨hss, hst⟩ := ht.2 t List.mem_cons_self
      have hkm : kidM txt (valueM txt lv) true had (t :: r) l nodes = if (unqL ((txt.drop t.sf).take (t.st - t.sf))).1 ∈ had then (.bad t.sf 7, had) else
          match r with
          | [] => (.bad txt.length 2, (unqL ((txt.drop t.sf).take (t.st - t.sf))).1 :: had)
          | c :: r2 => if c.kind ≠ 7 then (.bad c.sf 2, (unqL ((txt.drop t.sf).take (t.st - t.sf))).1 :: had) else
            (valueM txt lv r2 (c.sf, c.st) nodes (t.sf, t.st), (unqL ((txt.drop t.sf).take (t.st - t.sf))).1 :: had) := by
        unfold kidM
        rw [if_neg (by decide)]
        simp only [ht8]
        rw [if_neg (by simp)]
        cases r <;> rfl
      rw [hkm] at hR
      clear hkm
      obtain ⟨U, hU⟩ : ∃ U, unqL ((txt.drop t.sf).take (t.st - t.sf)) = U := ⟨_, rfl⟩
      obtain ⟨key, un, ue⟩ := U
      have CU : Hid (∀ w', Below w0.heap.size w0 w' → Calls Tryz.prog 47 #[.string ((bs txt).extract t.sf t.st)] w' fun e w2 => e = .returned (.tuple #[.string (bs key), .int .i64 un, .int .i64 ue]) ∧ Below w'.heap.size w' w2) := Lib.hid (fun w' hb' => by
        have := unquote_any ((txt.drop t.sf).take (t.st - t.sf)) w' (by rw [List.length_take, List.length_drop]; omega) (hSV.keep hb') (hT.keep hb')
        rw [hU] at this
        have e : (bs txt).extract t.sf t.st = bs ((txt.drop t.sf).take (t.st - t.sf)) := by rw [bs_extract, bs_data]
        rw [e]
        exact this)
      have hkl : key.length ≤ 1073741824 := by
        have := unq_len1 ((txt.drop t.sf).take (t.st - t.sf))
        rw [hU] at this
        rw [List.length_take, List.length_drop] at this
        simp only [] at this
        omega
      rw [hU] at hR
      simp only [] at hR
      have HR := Lib.hid hR
      clear hR
      have ba := below_alloc1 w (.cells #[.int .i64 (t.sf : Int), .int .i64 (t.st : Int)] 33)
      have hS : SpH (w.alloc (.cells #[.int .i64 (t.sf : Int), .int .i64 (t.st : Int)] 33)) w.heap.size P txt t (w.alloc (.cells #[.int .i64 (t.sf : Int), .int .i64 (t.st : Int)] 33)) :=
        ⟨by rw [ba.cell (p := ⟨P, 0, none⟩) hPl]; exact hc0, cell_new2 w _ _ 0 _ rfl, cell_new2 w _ _ 1 _ rfl, Lib.hid ⟨Below.refl _ _, by simp; omega, by simp⟩⟩
      have HJ7 := Lib.hid (h.keep ba)
      have HM7 := Lib.hid (World.ownsMap.alloc hm (.cells #[.int .i64 (t.sf : Int), .int .i64 (t.st : Int)] 33))
      obtain ⟨rv, z, nv, jb, jt, _⟩ := h
      obtain ⟨q0, q1, _⟩ := jb.cells
      obtain ⟨g, o, c, rfl, hc, k0, k1, k2, _⟩ := jt.head
      have d0 : (0 : Int) < (r.length : Int) + 1 := by omega
      have i1 : (0 : Int) ≤ (t.sf : Int) := by omega
      have i2 : (t.sf : Int) ≤ (t.st : Int) := by omega
      have i3 : (t.st : Int) ≤ (txt.length : Int) := by omega
      have HW := Lib.hid hb
      have hBw : w0.heap.size ≤ w.heap.size := hb.size
      have HBall : Hid (∀ w', Below (w.alloc (.cells #[.int .i64 (t.sf : Int), .int .i64 (t.st : Int)] 33)).heap.size (w.alloc (.cells #[.int .i64 (t.sf : Int), .int .i64 (t.st : Int)] 33)) w' → Below w0.heap.size w0 w') := Lib.hid (fun w' h' => (hb.trans (ba.mono hBw)).trans (h'.mono (by simp; omega)))
      have HFA : Hid (Fr w0.heap.size P w (w.alloc (.cells #[.int .i64 (t.sf : Int), .int .i64 (t.st : Int)] 33))) := Lib.hid (Fr.of_below ba hBw)
      have hz7 : (w.alloc (.cells #[.int .i64 (t.sf : Int), .int .i64 (t.st : Int)] 33)).heap.size = w.heap.size + 1 := by simp
      have hbl : b < w.heap.size := hm.lt
      have HKEY : Hid (keyOf Tryz.prog 9 (.string (bs key)) = some (.string key)) := Lib.hid (by
        have := keyOf_string_mk (P := Tryz.prog) Tryz.underlying9 (s := bs key) (by rw [bs_size]; unfold maxLen; omega)
        rw [bs_data] at this
        exact this)
      have HKL := Lib.hid hkl
      have HTB := Lib.hid ht
      clear jb jt hU hb ba hkl hm hobj ht
      go_enter Tryz.func37, Tryz.ntmps37
      go_wp2_with fail
      refine CK.out.mono ?_
      rintro e w1 ⟨rfl, rfl⟩
      go_upto_region 4 with fail
      go_region_held3 (fun w' => SpH (w.alloc (.cells #[.int .i64 (t.sf : Int), .int .i64 (t.st : Int)] 33)) w.heap.size P txt t w') ((first | exact SpH.drew (by assumption) | exact SpH.step (by assumption) (by assumption) | assumption))
        ((go_at_call 47; (with_reducible refine (CU.out _ (HBall.out _ (SpH.bel (by assumption : SpH (w.alloc (.cells #[.int .i64 (t.sf : Int), .int .i64 (t.st : Int)] 33)) w.heap.size P txt t _)))).mono ?_); rintro e w5 ⟨rfl, hb5⟩; have hn5 : SpH (w.alloc (.cells #[.int .i64 (t.sf : Int), .int .i64 (t.st : Int)] 33)) w.heap.size P txt t w5 := SpH.step (by assumption) hb5))
      have hbel := hn5.bel
      have HJ5 := Lib.hid (HJ7.out.keep hbel)
      have HM5 : Hid (HM b had w5) := Lib.hid (HM.same HM7.out (hbel.block b (by rw [hz7]; omega)))
      have HF5 : Hid (Fr w0.heap.size P w w5) := Lib.hid (HFA.out.trans (Fr.of_below hbel (by rw [hz7]; omega)))
      have x0 : w5.cell? ⟨w.heap.size, 0, none⟩ = some (.int .i64 (t.sf : Int)) := hn5.2.1
      have x1 : w5.cell? ⟨w.heap.size, 1, none⟩ = some (.int .i64 (t.st : Int)) := hn5.2.2.1
      have hz5 : w.heap.size < w5.heap.size := by have := hbel.size; rw [hz7] at this; omega
      have hlook := HM5.out.look key HKL.out
      clear hn5 hbel hS
      by_cases hk : key ∈ had
      · rw [decide_eq_true hk] at hlook
        have HF := Lib.hid (HR.out.symm.trans (if_pos hk))
        have CF := Lib.hid (fail_any _ P txt (t :: r) l nodes 7 w5 HJ5.out (by simp only [List.length_cons] at htl ⊢; omega) (by omega))
        clear hk x0 x1
        go_wp2_with fail
        refine CF.out.mono ?_
        rintro e w6 ⟨rfl, hj6, hf6⟩
        go_wp2_with fail
        go_ret
        rw [HF.out]
        exact ⟨rfl, hj6.mono (Nat.le_of_eq (HNW.out.trans HJ5.out.nodesN.symm)), (HF5.out.trans hf6).toX⟩
      · rw [decide_eq_false hk] at hlook
        have HR2 := Lib.hid (HR.out.symm.trans (if_neg hk))
        obtain ⟨es5, cm5, hobj5⟩ := HM5.out.obj
        have HO5 := Lib.hid hobj5
        have hown : w5.ownsMap Tryz.prog 9 (plainElem Tryz.prog 4) b had.length (hadD had) := HM5.out
        clear hk hobj5
        go_wp2_with (at_mapUpdate; refine wpList_mapUpdate_own _ rfl _ _ _ 68 rfl 9 4 lawK Tryz.underlying68 _ b had.length _ rfl hown (by unfold maxLen; omega) _ _ (.string key) rfl rfl HKEY.out _ [] (plainElem_bool Tryz.underlying4 true) ?_; intro w6 hown6 hg6)
        have HM6 : Hid (HM b (key :: had) w6) := Lib.hid hown6
        have HJ6 := Lib.hid (HJ5.out.map HO5.out hg6)
        have HF6 : Hid (FrX w0.heap.size P b w w6) := Lib.hid (HF5.out.toX.trans (FrX.grown hg6 (by omega) hBb))
        have y0 : w6.cell? ⟨w.heap.size, 0, none⟩ = some (.int .i64 (t.sf : Int)) := by rw [grown_cell hg6 hz5 (by simp; omega)]; exact x0
        have y1 : w6.cell? ⟨w.heap.size, 1, none⟩ = some (.int .i64 (t.st : Int)) := by rw [grown_cell hg6 hz5 (by simp; omega)]; exact x1
        have hz6 : w.heap.size < w6.heap.size := by have := hg6.size; omega
        clear hown hown6 hg6 hlook x0 x1
        have CSk := Lib.hid (skip_any _ P txt t r l nodes w6 HJ6.out (by simp only [List.length_cons] at htl; omega))
        have hr7 : r.length ≤ 65536 := by simp only [List.length_cons] at htl; omega
        cases r with
        | nil =>
          have HF : Hid (R = (.bad txt.length 2, key :: had)) := HR2
          go_wp2_with fail
          refine CSk.out.mono ?_
          rintro e w7 ⟨rfl, hj7, hg7⟩
          have HF7 := Lib.hid (HF6.out.trans (Fr.ofP (B := w0.heap.size) hg7 hBP (by omega)).toX)
          have CT := Lib.hid (takes_no _ P txt [] _ nodes w7 hj7 (by simp) 7 (by decide))
          have HN7 := Lib.hid hj7.nodesN
          have CF := Lib.hid (fail_any _ P txt [] _ nodes 2 w7 hj7 (by simp) (by omega))
          clear hj7 hg7 y0 y1
          go_wp2_with fail
          refine CT.out.mono ?_
          rintro e w8 ⟨rfl, rfl⟩
          go_wp2_with fail
          refine CF.out.mono ?_
          rintro e w9 ⟨rfl, hj9, hf9⟩
          go_wp2_with fail
          go_ret
          rw [HF.out]
          exact ⟨rfl, hj9.mono (Nat.le_of_eq (HNW.out.trans HN7.out.symm)), HF7.out.trans hf9.toX⟩
        | cons c r2 =>
          simp only [List.length_cons] at hr7
          by_cases h7 : c.kind = 7
          · have HF : Hid (R = (valueM txt lv r2 (c.sf, c.st) nodes (t.sf, t.st), key :: had)) := Lib.hid (HR2.out.trans (if_neg (fun h => h h7)))
            go_wp2_with fail
            refine CSk.out.mono ?_
            rintro e w7 ⟨rfl, hj7, hg7⟩
            have HF7 := Lib.hid (HF6.out.trans (Fr.ofP (B := w0.heap.size) hg7 hBP (by omega)).toX)
            have HM7' : Hid (HM b (key :: had) w7) := Lib.hid (HM6.out.same (hg7.block b HM6.out.lt (by simpa using hbP)))
            have CT := Lib.hid (takes_yes _ P txt c r2 _ nodes w7 hj7 (by omega) 7 h7)
            have v0 : w7.cell? ⟨w.heap.size, 0, none⟩ = some (.int .i64 (t.sf : Int)) := by rw [grown_cell hg7 hz6 (by simp; omega)]; exact y0
            have v1 : w7.cell? ⟨w.heap.size, 1, none⟩ = some (.int .i64 (t.st : Int)) := by rw [grown_cell hg7 hz6 (by simp; omega)]; exact y1
            have hz7' : w.heap.size < w7.heap.size := by have := hg7.size; omega
            clear hj7 hg7 y0 y1 h7
            go_wp2_with fail
            refine CT.out.mono ?_
            rintro e w8 ⟨rfl, hj8, hg8⟩
            have HF8 := Lib.hid (HF7.out.trans (Fr.ofP (B := w0.heap.size) hg8 hBP (by omega)).toX)
            have HM8 : Hid (HM b (key :: had) w8) := Lib.hid (HM7'.out.same (hg8.block b HM7'.out.lt (by simpa using hbP)))
            have u0 : w8.cell? ⟨w.heap.size, 0, none⟩ = some (.int .i64 (t.sf : Int)) := by rw [grown_cell hg8 hz7' (by simp; omega)]; exact v0
            have u1 : w8.cell? ⟨w.heap.size, 1, none⟩ = some (.int .i64 (t.st : Int)) := by rw [grown_cell hg8 hz7' (by simp; omega)]; exact v1
            have HN8 := Lib.hid hj8.nodesN
            have CV := Lib.hid (IH w8 r2 (c.sf, c.st) nodes (t.sf, t.st) (33 - (lv : Int)) hj8 (HW.out.trans HF8.out.bel) (HTB.out.drop 2) (by simp only [List.length_cons] at hN; omega) rfl)
            obtain ⟨Q, hQ⟩ : ∃ Q, valueM txt lv r2 (c.sf, c.st) nodes (t.sf, t.st) = Q := ⟨_, rfl⟩
            rw [hQ] at CV HF
            clear hj8 hg8 v0 v1 hQ
            cases Q with
            | ok rr l2 ns =>
              go_wp2_with fail
              refine CV.out.mono ?_
              rintro e w9 ⟨rfl, hj9, hf9⟩
              have HM9 := Lib.hid (HM8.out.fr hf9 hbP)
              go_wp2_with fail
              go_ret
              rw [HF.out]
              exact ⟨rfl, hj9, HM9.out, HF8.out.trans hf9.toX⟩
            | bad a er =>
              go_wp2_with fail
              refine CV.out.mono ?_
              rintro e w9 ⟨rfl, hj9, hf9⟩
              go_wp2_with fail
              go_ret
              rw [HF.out]
              exact ⟨rfl, hj9.mono (Nat.le_of_eq (HNW.out.trans HN8.out.symm)), HF8.out.trans hf9.toX⟩
          · have HF : Hid (R = (.bad c.sf 2, key :: had)) := Lib.hid (HR2.out.trans (if_pos h7))
            go_wp2_with fail
            refine CSk.out.mono ?_
            rintro e w7 ⟨rfl, hj7, hg7⟩
            have HF7 := Lib.hid (HF6.out.trans (Fr.ofP (B := w0.heap.size) hg7 hBP (by omega)).toX)
            have CT := Lib.hid (takes_no _ P txt (c :: r2) _ nodes w7 hj7 (by simp only [List.length_cons]; omega) 7 h7)
            have HN7 := Lib.hid hj7.nodesN
            have CF := Lib.hid (fail_any _ P txt (c :: r2) _ nodes 2 w7 hj7 (by simp only [List.length_cons]; omega) (by omega))
            clear hj7 hg7 y0 y1 h7
            go_wp2_with fail
            refine CT.out.mono ?_
            rintro e w8 ⟨rfl, rfl⟩
            go_wp2_with fail
            refine CF.out.mono ?_
            rintro e w9 ⟨rfl, hj9, hf9⟩
            go_wp2_with fail
            go_ret
            rw [HF.out]
            exact ⟨rfl, hj9.mono (Nat.le_of_eq (HNW.out.trans HN7.out.symm)), HF7.out.trans hf9.toX⟩
  · have hkm : kidM txt (valueM txt lv) true had rest l nodes = (.bad (hereT txt.length rest) 2, had) := by
      unfold kidM
      rw [if_neg (by decide)]
      cases rest with
      | nil => rfl
      | cons t r => exact if_pos h8
    rw [hkm] at hR
    subst hR
    have CF := Lib.hid (fail_any _ P txt rest l nodes 2 w h (by omega) (by omega))
    obtain ⟨q, hq⟩ : ∃ q, kindT rest = q := ⟨_, rfl⟩
    rw [hq] at CK h8
    have d8 : ((q : Int) != 8) = true := bne_iff_ne.2 (by omega)
    clear hkm hq h8
    go_enter Tryz.func37, Tryz.ntmps37
    go_wp2_with fail
    refine CK.out.mono ?_
    rintro e w1 ⟨rfl, rfl⟩
    go_wp2_with fail
    refine CF.out.mono ?_
    rintro e w6 ⟨rfl, hj6, hf6⟩
    go_wp2_with fail
    go_ret
    exact ⟨rfl, hj6, hf6.toX⟩
end Go.Proofs.YtmghlaajocgoaaaGreatDoor

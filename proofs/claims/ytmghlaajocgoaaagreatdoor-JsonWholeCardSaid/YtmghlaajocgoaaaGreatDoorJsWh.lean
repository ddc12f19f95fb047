import Derived.Test.YtmghlaajocgoaaaGreatDoorJsP
import Derived.Test.YtmghlaajocgoaaaGreatDoorJsT
import Derived.Test.YtmghlaajocgoaaaGreatDoorLexC
/-! The walk of JsonWhole. -/
namespace Go.Proofs.YtmghlaajocgoaaaGreatDoor
set_option linter.unusedSimpArgs false
set_option linter.unusedVariables false
set_option linter.unnecessarySimpa false
open Go.RowKit Go.Maps Go.WideMaps
open Go.Lib hiding intOf

/-- A node in a cell of its own. -/
def NodeC (w : World) (N : Nat) (x : NodeD) (kv pv : Value) : Prop := w.heap[N]? = some (.cells #[.int .i64 (x.kind : Int), .int .i64 (x.sf : Int), .int .i64 (x.st : Int), .int .i64 (x.key.1 : Int), .int .i64 (x.key.2 : Int), kv, pv] 37)
abbrev NodeCells (w : World) (N : Nat) (x : NodeD) (kv pv : Value) : Prop := w.cell? ⟨N, 0, none⟩ = some (.int .i64 (x.kind : Int)) ∧ w.cell? ⟨N, 1, none⟩ = some (.int .i64 (x.sf : Int)) ∧ w.cell? ⟨N, 2, none⟩ = some (.int .i64 (x.st : Int)) ∧ w.cell? ⟨N, 3, none⟩ = some (.int .i64 (x.key.1 : Int)) ∧
  w.cell? ⟨N, 4, none⟩ = some (.int .i64 (x.key.2 : Int)) ∧ w.cell? ⟨N, 5, none⟩ = some kv ∧ w.cell? ⟨N, 6, none⟩ = some pv
theorem NodeC.cells {w : World} {N : Nat} {x : NodeD} {kv pv : Value} (h : NodeC w N x kv pv) : NodeCells w N x kv pv := by
  unfold NodeC at h
  refine ⟨?_, ?_, ?_, ?_, ?_, ?_, ?_⟩ <;> simp [World.cell?, h]
theorem NodeC.keep {w w' : World} {N : Nat} {x : NodeD} {kv pv : Value} (h : NodeC w N x kv pv) (hb : Below w.heap.size w w') : NodeC w' N x kv pv := (hb.block _ (cell_it h)).trans h
theorem NodeC.new (w : World) (x : NodeD) (kv pv : Value) : NodeC (w.alloc (.cells #[.int .i64 (x.kind : Int), .int .i64 (x.sf : Int), .int .i64 (x.st : Int), .int .i64 (x.key.1 : Int), .int .i64 (x.key.2 : Int), kv, pv] 37)) w.heap.size x kv pv := heap_alloc_new w _
theorem WFN.atOf_le {txt : List UInt8} {ns : List NodeD} {i : Nat} {x : NodeD} (h : WFN txt ns i x) (k : Nat) (hk : k ≤ x.kids.length) : atOf x k ≤ x.st := by
  unfold atOf
  have hp := h.pos
  by_cases h0 : k = 0
  · rw [if_pos h0]; omega
  · rw [if_neg h0]
    have hl := h.len
    have h1 : k - 1 < x.kids.length := by omega
    have h2 : k - 1 < x.pcs.length := by omega
    have := h.kid_ (k - 1) _ _ (List.getElem?_eq_getElem h1) (List.getElem?_eq_getElem h2)
    rw [List.getElem?_eq_getElem h2]
    simp only [Option.getD_some]
    omega
theorem atOf_succ {x : NodeD} {k : Nat} {p : Sp} (h : x.pcs[k]? = some p) : atOf x (k + 1) = p.2 + 1 := by
  unfold atOf
  rw [if_neg (by omega), Nat.add_sub_cancel, h]
  rfl
theorem sumK_le (ns : List NodeD) (i : Nat) : sumK (ns.take i) ≤ sumK ns := by
  have h := sumK_app (ns.take i) (ns.drop i)
  rw [List.take_append_drop] at h
  omega
set_option maxRecDepth 100000 in
set_option maxHeartbeats 8000000 in
theorem jsonWhole_any (s : ByteArray) (w : World) (hs : s.size ≤ 140737488351232) (hV : SVar w) (hT : Tabs w) :
    Calls Tryz.prog 4 #[.string s] w fun e w' => e = .returned (.bool true) ∧ Below w.heap.size w w' := by
  have C0 := Lib.hid (fun w hV hT => jsmall_any w hV hT)
  obtain ⟨l, rfl⟩ : ∃ l, s = bs l := ⟨s.data.toList, (bs_of s).symm⟩
  have sl := bs_size l
  rw [sl] at hs
  have HV := Lib.hid hV
  have HT := Lib.hid hT
  clear hV hT
  have hN := parse_few l
  have hnone := @parse_none l
  have hP := fun (ns : List NodeD) (n : Int) (h : parseJ l = (ns, n, 0)) => whole_ok h
  obtain ⟨R, hR⟩ : ∃ R, parseJ l = R := ⟨_, rfl⟩
  have CP := Lib.hid (fun w hV hT => parse_read l R hR w (by omega) hV hT)
  rw [hR] at hN hnone hP
  clear hR
  obtain ⟨nodes, n, er⟩ := R
  simp only [] at hN hnone
  have HP := Lib.hid hP
  have HN0 := Lib.hid hnone
  clear hP hnone
  go_enter Tryz.func4, Tryz.ntmps4
  go_wp2_with fail
  with_reducible refine (C0.out _ HV.out HT.out).mono ?_
  rintro e w1 ⟨rfl, hb⟩
  have HB1 := Lib.hid hb
  have HV1 := Lib.hid (HV.out.keep hb)
  have HT1 := Lib.hid (HT.out.keep hb)
  clear hb HV HT C0
  go_wp2_with fail
  with_reducible refine (CP.out _ HV1.out HT1.out).mono ?_
  rintro e w2 ⟨p, c, rfl, hn, hb⟩
  dsimp only at hn ⊢
  have HB2 := Lib.hid (below_of_new HB1.out hb)
  have HN2 := Lib.hid hn
  clear hb hn HB1 HV1 HT1 CP
  obtain ⟨txt, htx⟩ : ∃ t, bs (docT l nodes) = t := ⟨_, rfl⟩
  rw [htx]
  have Htx := Lib.hid htx
  clear htx
  go_upto_region 3 with fail
  have b3 := below_alloc1 w2 (.cells #[.string txt, .slice p nodes.length c] 25)
  have HD3 : Hid (DocC (w2.alloc (.cells #[.string txt, .slice p nodes.length c] 25)) w2.heap.size txt p nodes.length c) := Lib.hid (DocC.new w2 txt p nodes.length c)
  obtain ⟨D, hD⟩ : ∃ D, w2.heap.size = D := ⟨_, rfl⟩
  obtain ⟨W3, hW3⟩ : ∃ W, w2.alloc (.cells #[.string txt, .slice p nodes.length c] 25) = W := ⟨_, rfl⟩
  rw [hW3] at b3 HD3
  rw [hW3]
  rw [hD] at HD3
  rw [hD]
  have HB3 := Lib.hid (below_of_new HB2.out b3)
  have HN3 := Lib.hid (HN2.out.keep b3)
  obtain ⟨y0, y1⟩ := cells_at2 HD3.out
  clear b3 HN2 HB2 hW3 hD
  by_cases he : er = 0
  case neg =>
    have dE : (er != 0) = true := bne_iff_ne.2 he
    obtain rfl := HN0.out he
    clear he HP
    simp only [List.length_nil] at y1
    go_wp2_with fail
    go_ret
    exact ⟨rfl, HB3.out⟩
  subst he
  obtain ⟨hl, hn1, hrear, hsum⟩ := HP.out nodes n rfl
  have HRr := Lib.hid hrear
  have HSm := Lib.hid hsum
  obtain rfl : txt = bs l := by
    have := Htx.out
    cases nodes with
    | nil => simp at hn1
    | cons y r => exact this.symm
  have dN : decide ((nodes.length : Int) = 0) = false := decide_eq_false (by omega)
  have dN2 : ((nodes.length : Int) == 0) = false := by simp; intro h; rw [h] at hn1; cases hn1
  have dS : ((bs l).toList != (bs l).toList) = false := by simp
  have hnn : nodes ≠ [] := fun h => by rw [h] at hn1; cases hn1
  clear hrear hsum HP HN0 Htx
  go_wp2_with fail
  go_loopw [7, 8] (fun s7 s8 wr => ∃ (i m : Nat), s7 = .int .i64 (m : Int) ∧ s8 = .int .i64 (i : Int) ∧ i ≤ nodes.length ∧ Hid (m = 1 + sumK (nodes.take i)) ∧ Hid (Below W3.heap.size W3 wr)) (fun _ s8 _ => nodes.length - (RowKit.intOf s8).toNat)
  case atStart => exact ⟨0, 1, rfl, rfl, by omega, Lib.hid rfl, Lib.hid (Below.refl _ _)⟩
  case round =>
    as_aux_lemma =>
      obtain ⟨i, m, rfl, rfl, hi, HM, HBr⟩ := hrel
      have y1 := (cells_at2 (HD3.out.keep HBr.out)).2
      have hi0 : (0 : Int) ≤ (i : Int) := by omega
      by_cases hil : i < nodes.length
      · obtain ⟨x, hx⟩ : ∃ x, nodes[i]? = some x := ⟨_, List.getElem?_eq_getElem hil⟩
        obtain ⟨g, rfl, kv, pv, n0, n1, n2, n3, n4, n5, n6, ⟨pk, ck, rfl, hkr⟩, ⟨pp, cp, rfl, hpr⟩⟩ := HN3.out.keep HBr.out i x hx
        have hW := (HRr.out.wf i x (Nat.zero_le _) hx).1
        have hi1 : (i : Int) < (nodes.length : Int) := by omega
        have dk : decide ((i : Int) < (nodes.length : Int)) = true := decide_eq_true hi1
        obtain ⟨i1, hi1e⟩ : ∃ k1, i + 1 = k1 := ⟨_, rfl⟩
        have hi1z : (i : Int) + 1 = (i1 : Int) := by omega
        have hii : i1 ≤ nodes.length := by omega
        have HX := Lib.hid hx
        have HW := Lib.hid hW
        have hl1 := hW.len
        have HL1 := Lib.hid hl1
        have hpos := hW.pos
        have hle := hW.le
        have q1 : (x.sf : Int) < (x.st : Int) := by omega
        have q2 : (x.st : Int) ≤ (l.length : Int) := by omega
        have q3 : (0 : Int) ≤ (x.sf : Int) := by omega
        have q3b : decide ((x.sf : Int) < 0) = false := decide_eq_false (by omega)
        have q3c : ¬ (x.sf : Int) < 0 := by omega
        have q1c : decide (x.st ≤ x.sf) = false := decide_eq_false (by omega)
        have q2c : decide (l.length < x.st) = false := decide_eq_false (by omega)
        have q1b : decide ((x.st : Int) ≤ (x.sf : Int)) = false := decide_eq_false (by omega)
        have q2b : decide ((l.length : Int) < (x.st : Int)) = false := decide_eq_false (by omega)
        have HKR := Lib.hid (show IntsR wr (.slice pk x.kids.length ck) x.kids from ⟨pk, ck, rfl, hkr⟩)
        have HPR := Lib.hid (show SpansR wr (.slice pp x.pcs.length cp) x.pcs from ⟨pp, cp, rfl, hpr⟩)
        rw [← hl1] at n6
        clear hl1
        go_upto_region 12 with fail
        have b4 := below_alloc1 wr (.cells #[.int .i64 (x.kind : Int), .int .i64 (x.sf : Int), .int .i64 (x.st : Int), .int .i64 (x.key.1 : Int), .int .i64 (x.key.2 : Int), .slice pk x.kids.length ck, .slice pp x.kids.length cp] 37)
        have hC := NodeC.new wr x (.slice pk x.kids.length ck) (.slice pp x.kids.length cp)
        obtain ⟨N, hN4⟩ : ∃ D, wr.heap.size = D := ⟨_, rfl⟩
        obtain ⟨W4, hW4⟩ : ∃ W, wr.alloc (.cells #[.int .i64 (x.kind : Int), .int .i64 (x.sf : Int), .int .i64 (x.st : Int), .int .i64 (x.key.1 : Int), .int .i64 (x.key.2 : Int), .slice pk x.kids.length ck, .slice pp x.kids.length cp] 37) = W := ⟨_, rfl⟩
        rw [hW4] at b4 hC
        rw [hN4] at hC
        rw [hW4, hN4]
        have HB4 := Lib.hid (below_of_new HBr.out b4)
        have HC4 := Lib.hid hC
        have HKR4 := Lib.hid (HKR.out.keep b4)
        have HPR4 := Lib.hid (HPR.out.keep b4)
        clear HKR HPR hW4 hN4 b4 hC hx hW hpos hle hkr hpr n0 n1 n2 n3 n4 n5 n6 y0 y1
        go_cut [53, 54, 55, 56, 57, 58, 59, 60, 61, 62, 63, 64, 65, 66, 67, 68, 69, 70, 71, 72, 73, 74, 75, 76, 77, 78, 79, 80, 81, 82, 83, 84, 85, 86, 87, 88, 89, 90, 91, 92, 93, 94, 95, 96, 97, 98, 99, 100] (fun s53 s54 s55 s56 s57 s58 s59 s60 s61 s62 s63 s64 s65 s66 s67 s68 s69 s70 s71 s72 s73 s74 s75 s76 s77 s78 s79 s80 s81 s82 s83 s84 s85 s86 s87 s88 s89 s90 s91 s92 s93 s94 s95 s96 s97 s98 s99 s100 wx => s100 = .bool false ∧ W4.drew = wx)
        case first =>
          as_aux_lemma =>
            clear hi1z hi1e hii
            have y1 := (cells_at2 (HD3.out.keep HB4.out)).2
            obtain ⟨c0, c1, c2, c3, c4, c5, c6⟩ := HC4.out.cells
            cases i with
            | zero =>
              go_big_region
              all_goals
                go_wp2_with fail
                go_meet
                exact ⟨rfl, rfl⟩
            | succ j =>
              obtain ⟨y, hy⟩ : ∃ y, nodes[j]? = some y := ⟨_, List.getElem?_eq_getElem (by omega)⟩
              have hlt := HRr.out.sorted j y x (Nat.zero_le _) hy HX.out
              obtain ⟨g', eg, kv, pv, n0, n1, n2, n3, n4, n5, n6, _, _⟩ := HN3.out.keep HB4.out j y hy
              obtain rfl : g = g' := by injection eg with eg; injection eg
              have q4 : (y.sf : Int) < (x.sf : Int) := by omega
              have q4b : decide (x.sf ≤ y.sf) = false := decide_eq_false (by omega)
              have q5 : ((j + 1 : Nat) : Int) - 1 = (j : Int) := by omega
              have q6 : (0 : Int) ≤ (j : Int) := by omega
              have q7 : (j : Int) < (nodes.length : Int) := by omega
              clear eg hy hlt
              go_big_region
              all_goals
                go_wp2_with fail
                go_meet
                exact ⟨rfl, rfl⟩
        obtain ⟨rfl, rfl⟩ := hcut
        obtain ⟨c0, c1, c2, c3, c4, c5, c6⟩ := HC4.out.cells
        by_cases hflat : x.kind ≠ 5 ∧ x.kind ≠ 6
        · have d5 : ((x.kind : Int) != 5) = true := bne_iff_ne.2 (by omega)
          have d6 : ((x.kind : Int) != 6) = true := bne_iff_ne.2 (by omega)
          have hk0 := HW.out.flat hflat.1 hflat.2
          have hM1 : m = 1 + sumK (nodes.take i1) := by
            rw [← hi1e, sumK_take HX.out, hk0, HM.out]; rfl
          have HM1 := Lib.hid hM1
          have hkl : x.kids.length = 0 := by rw [hk0]; rfl
          rw [hkl] at c5
          have HB5 : Hid (Below W3.heap.size W3 W4.drew) := Lib.hid HB4.out.drew
          clear hk0 hM1 hkl hflat
          go_wp2_with fail
          go_roundw
          · exact ⟨i1, m, rfl, by rw [← hi1z], hii, HM1, HB5⟩
          · simp only [RowKit.intOf]; omega
        have HFl := Lib.hid hflat
        have q8 := HW.out.pos
        have q9 : (x.sf : Int) ≤ 65536 := by omega
        clear hflat q8
        go_upto_region 14 with fail
        go_cut [101, 102, 103, 104, 105, 106, 107, 108] (fun s101 s102 s103 s104 s105 s106 s107 s108 wx => s108 = .bool false ∧ W4.drew = wx)
        case first =>
          as_aux_lemma =>
            by_cases h5 : x.kind = 5
            · have d5 : ((x.kind : Int) != 5) = false := by rw [h5]; rfl
              clear h5
              go_wp2_with fail
              go_meet
              exact ⟨rfl, rfl⟩
            · have h6 : x.kind = 6 := by have := HFl.out; omega
              have d5 : ((x.kind : Int) != 5) = true := bne_iff_ne.2 (by omega)
              have d6 : ((x.kind : Int) != 6) = false := by rw [h6]; rfl
              clear h5 h6
              go_wp2_with fail
              go_meet
              exact ⟨rfl, rfl⟩
        obtain ⟨rfl, rfl⟩ := hcut
        have hat0 : ((x.sf : Int) + 1) = ((atOf x 0 : Nat) : Int) := by unfold atOf; rw [if_pos rfl]; omega
        have Hat0 := Lib.hid hat0
        clear hat0
        go_wp2_with fail
        rw [Hat0.out]
        have hkb : x.kids.length ≤ 65536 := by
          have h3 := sumK_take HX.out
          have h4 := sumK_le nodes (i + 1)
          have h5 := HSm.out
          omega
        go_loopw [7, 10, 11] (fun s7 s10 s11 wx => ∃ (k mm : Nat), s7 = .int .i64 (mm : Int) ∧ s10 = .int .i64 ((atOf x k : Nat) : Int) ∧ s11 = .int .i64 (k : Int) ∧ k ≤ x.kids.length ∧ Hid (mm = m + k) ∧ Hid (Below W4.heap.size W4 wx)) (fun _ _ s11 _ => x.kids.length - (RowKit.intOf s11).toNat)
        case atStart => exact ⟨0, m, rfl, rfl, rfl, by omega, Lib.hid rfl, Lib.hid (Below.refl _ _).drew⟩
        case round =>
          as_aux_lemma =>
            clear c0 c1 c2 c3 c4 c5 c6
            obtain ⟨k, mm, rfl, rfl, rfl, hk, HMM, HBi⟩ := hrel
            obtain ⟨c0, c1, c2, c3, c4, c5, c6⟩ := (HC4.out.keep HBi.out).cells
            have hk0 : (0 : Int) ≤ (k : Int) := by omega
            by_cases hkl : k < x.kids.length
            · obtain ⟨kid, hkid⟩ : ∃ u, x.kids[k]? = some u := ⟨_, List.getElem?_eq_getElem hkl⟩
              obtain ⟨pc, hpc⟩ : ∃ u, x.pcs[k]? = some u := ⟨_, List.getElem?_eq_getElem (by have := HL1.out; omega)⟩
              obtain ⟨⟨k1, k2, y, hy, k3, k4, k6, k5⟩, p2, p3⟩ := HW.out.kid_ k kid pc hkid hpc
              have hyl := (List.getElem?_eq_some_iff.1 hy).1
              have y1 := (cells_at2 (HD3.out.keep (below_of_new HB4.out HBi.out))).2
              have hbi : Below W3.heap.size W3 wr := below_of_new HB4.out HBi.out
              obtain ⟨g', eg, kv, pv, n0, n1, n2, n3, n4, n5, n6, ⟨pk2, ck2, rfl, _⟩, ⟨pp2, cp2, rfl, _⟩⟩ := HN3.out.keep hbi kid y hy
              obtain rfl : g = g' := by injection eg with eg; injection eg
              obtain ⟨_, _, e, f⟩ := HKR4.out.keep HBi.out
              injection e with e1 _ e2
              subst e1 e2
              obtain ⟨gk, rfl, kc⟩ := f k kid hkid
              obtain ⟨_, _, e, f2⟩ := HPR4.out.keep HBi.out
              injection e with e1 _ e2
              subst e1 e2
              obtain ⟨gp, rfl, pc0, pc1⟩ := f2 k pc hpc
              have hk1 : (k : Int) < (x.kids.length : Int) := by omega
              have dkk : decide ((k : Int) < (x.kids.length : Int)) = true := decide_eq_true hk1
              have dA : decide ((kid : Int) ≤ (i : Int)) = false := decide_eq_false (by omega)
              have dA2 : decide (kid ≤ i) = false := decide_eq_false (by omega)
              have dB : decide ((nodes.length : Int) ≤ (kid : Int)) = false := decide_eq_false (by omega)
              have dB2 : decide (nodes.length ≤ kid) = false := decide_eq_false (by omega)
              have r0 : (0 : Int) ≤ (kid : Int) := by omega
              have lN := World.block_lt_of_cell? wr _ c0
              have lD := World.block_lt_of_cell? wr _ y1
              have lg := World.block_lt_of_cell? wr _ n0
              have lk := World.block_lt_of_cell? wr _ kc
              have lp := World.block_lt_of_cell? wr _ pc0
              simp only [] at lN lD lg lk lp
              have r1 : (kid : Int) < (nodes.length : Int) := by omega
              have HK2 := Lib.hid k2
              have HK6 := Lib.hid k6
              have HK5 := Lib.hid k5
              have HP3 := Lib.hid p3
              have HPC := Lib.hid hpc
              have HYY := Lib.hid hy
              clear f f2 eg k2 k6 k5 p3 hpc hy hkid hi1z hi1e
              go_upto_region 21 with fail
              go_cut [124, 125, 126, 127, 128, 129, 130, 131, 132, 133, 134, 135, 136, 137, 138, 139, 140, 141] (fun s124 s125 s126 s127 s128 s129 s130 s131 s132 s133 s134 s135 s136 s137 s138 s139 s140 s141 wx => s141 = .bool false ∧ wr.drew = wx)
              case first =>
                as_aux_lemma =>
                  go_big_region
                  all_goals
                    go_wp2_with fail
                    go_meet
                    exact ⟨rfl, rfl⟩
              obtain ⟨rfl, rfl⟩ := hcut
              go_upto_region 23 with fail
              go_region
              have bY : Below wr.heap.size wr (wr.alloc (.cells #[.int .i64 (y.kind : Int), .int .i64 (y.sf : Int), .int .i64 (y.st : Int), .int .i64 (y.key.1 : Int), .int .i64 (y.key.2 : Int), .slice pk2 y.kids.length ck2, .slice pp2 y.pcs.length cp2] 37)).drew.drew := ((Below.refl _ _).alloc (Nat.le_refl _) _).drew.drew
              have hCY : NodeC (wr.alloc (.cells #[.int .i64 (y.kind : Int), .int .i64 (y.sf : Int), .int .i64 (y.st : Int), .int .i64 (y.key.1 : Int), .int .i64 (y.key.2 : Int), .slice pk2 y.kids.length ck2, .slice pp2 y.pcs.length cp2] 37)).drew.drew wr.heap.size y (.slice pk2 y.kids.length ck2) (.slice pp2 y.pcs.length cp2) := NodeC.new wr y _ _
              obtain ⟨Yb, hYb⟩ : ∃ D, wr.heap.size = D := ⟨_, rfl⟩
              obtain ⟨W5, hW5⟩ : ∃ W, (wr.alloc (.cells #[.int .i64 (y.kind : Int), .int .i64 (y.sf : Int), .int .i64 (y.st : Int), .int .i64 (y.key.1 : Int), .int .i64 (y.key.2 : Int), .slice pk2 y.kids.length ck2, .slice pp2 y.pcs.length cp2] 37)).drew.drew = W := ⟨_, rfl⟩
              rw [hW5] at bY hCY
              rw [hYb] at hCY
              rw [hW5, hYb]
              have hc := HC4.out.keep HBi.out
              have HC5 := Lib.hid (hc.keep bY)
              have HCY5 := Lib.hid hCY
              have HB5 := Lib.hid (below_of_new HBi.out bY)
              have HPC5 := Lib.hid (And.intro (cell_keep pc0 bY) (cell_keep pc1 bY))
              clear hW5 hYb bY hCY hc c0 c1 c2 c3 c4 c5 c6 n0 n1 n2 n3 n4 n5 n6 kc pc0 pc1 y1 lN lD lg lk lp dA dA2 dB dB2 r0 r1
              obtain ⟨pc0, pc1⟩ := HPC5.out
              obtain ⟨c0, c1, c2, c3, c4, c5, c6⟩ := HC5.out.cells
              obtain ⟨e0, e1, e2, e3, e4, e5, e6⟩ := HCY5.out.cells
              have lN := World.block_lt_of_cell? W5 _ c0
              have lY := World.block_lt_of_cell? W5 _ e0
              have lp := World.block_lt_of_cell? W5 _ pc0
              simp only [] at lN lY lp
              go_upto_if 161 with (fail)
              clear lN lY lp
              have b6 := below_alloc1 W5 (.cells #[.int .i64 (pc.1 : Int), .int .i64 (pc.2 : Int)] 33)
              have hP6 : (W5.alloc (.cells #[.int .i64 (pc.1 : Int), .int .i64 (pc.2 : Int)] 33)).heap[W5.heap.size]? = some (.cells #[.int .i64 (pc.1 : Int), .int .i64 (pc.2 : Int)] 33) := heap_alloc_new W5 _
              obtain ⟨Pb, hPb⟩ : ∃ D, W5.heap.size = D := ⟨_, rfl⟩
              obtain ⟨W6, hW6⟩ : ∃ W, W5.alloc (.cells #[.int .i64 (pc.1 : Int), .int .i64 (pc.2 : Int)] 33) = W := ⟨_, rfl⟩
              rw [hW6] at b6 hP6
              rw [hPb] at hP6
              rw [hW6, hPb]
              have HC6 := Lib.hid (HC5.out.keep b6)
              have HCY6 := Lib.hid (HCY5.out.keep b6)
              have HB6 := Lib.hid (below_of_new HB5.out b6)
              obtain ⟨p0, p1⟩ := cells_at2 hP6
              clear hW6 hPb b6 hP6 c0 c1 c2 c3 c4 c5 c6 e0 e1 e2 e3 e4 e5 e6 pc0 pc1 HC5 HCY5 HPC5 HB5
              obtain ⟨c0, c1, c2, c3, c4, c5, c6⟩ := HC6.out.cells
              obtain ⟨e0, e1, e2, e3, e4, e5, e6⟩ := HCY6.out.cells
              rw [HK2.out] at p0
              obtain ⟨F, hF⟩ : ∃ F : Nat, (if x.kind = 6 then y.key.1 else y.sf) = F := ⟨_, rfl⟩
              have HF := Lib.hid hF
              clear hF
              go_cut [14, 162, 163, 164] (fun s14 s162 s163 s164 wx => s14 = .int .i64 (F : Int) ∧ W6 = wx)
              case first =>
                as_aux_lemma =>
                  by_cases h6 : x.kind = 6
                  · have hF := HF.out
                    rw [if_pos h6] at hF
                    subst hF
                    have d6 : ((x.kind : Int) == 6) = true := by rw [h6]; rfl
                    have d6b : decide ((x.kind : Int) = 6) = true := by rw [h6]; rfl
                    clear h6
                    go_wp2_with fail
                    go_meet
                    exact ⟨rfl, rfl⟩
                  · have hF := HF.out
                    rw [if_neg h6] at hF
                    subst hF
                    have d6 : ((x.kind : Int) == 6) = false := by simp; omega
                    have d6b : decide ((x.kind : Int) = 6) = false := decide_eq_false (by omega)
                    clear h6
                    go_wp2_with fail
                    go_meet
                    exact ⟨rfl, rfl⟩
              obtain ⟨rfl, rfl⟩ := hcut
              have hFl : atOf x k ≤ F := by
                have h2 := HK2.out
                have hF := HF.out
                by_cases h6 : x.kind = 6
                · rw [if_pos h6] at hF
                  have := HK6.out h6; omega
                · rw [if_neg h6] at hF; omega
              have u1 : decide ((F : Int) < ((atOf x k : Nat) : Int)) = false := decide_eq_false (by omega)
              have u1b : decide (F < atOf x k) = false := decide_eq_false (by omega)
              have u2 : decide ((pc.2 : Int) < (y.st : Int)) = false := decide_eq_false (by omega)
              have u2b : decide (pc.2 < y.st) = false := decide_eq_false (by omega)
              have u3 : decide ((x.st : Int) ≤ (pc.2 : Int)) = false := decide_eq_false (by omega)
              have u3b : decide (x.st ≤ pc.2) = false := decide_eq_false (by omega)
              go_upto_region 28 with fail
              go_cut [165, 166, 167, 168, 169, 170, 171, 172, 173, 174, 175, 176, 177, 178, 179, 180, 181, 182, 183, 184, 185, 186, 187, 188, 189, 190, 191, 192, 193, 194, 195, 196, 197, 198, 199, 200, 201, 202, 203, 204, 205, 206, 207, 208, 209, 210, 211, 212, 213, 214, 215] (fun s165 s166 s167 s168 s169 s170 s171 s172 s173 s174 s175 s176 s177 s178 s179 s180 s181 s182 s183 s184 s185 s186 s187 s188 s189 s190 s191 s192 s193 s194 s195 s196 s197 s198 s199 s200 s201 s202 s203 s204 s205 s206 s207 s208 s209 s210 s211 s212 s213 s214 s215 wx => s215 = .bool false ∧ W6 = wx)
              case first =>
                as_aux_lemma =>
                  clear hFl
                  by_cases h6 : x.kind = 6
                  · have hk := HK6.out h6
                    have d6 : ((x.kind : Int) == 6) = true := by rw [h6]; rfl
                    have d6b : decide ((x.kind : Int) = 6) = true := by rw [h6]; rfl
                    have d5 : ((x.kind : Int) == 5) = false := by rw [h6]; rfl
                    have d5b : decide ((x.kind : Int) = 5) = false := by rw [h6]; rfl
                    have u4 : decide ((y.sf : Int) ≤ (y.key.2 : Int)) = false := decide_eq_false (by omega)
                    have u4b : decide (y.sf ≤ y.key.2) = false := decide_eq_false (by omega)
                    clear h6 hk
                    go_wp2_with fail
                    go_meet
                    exact ⟨rfl, rfl⟩
                  · have h5 : x.kind = 5 := by have := HFl.out; omega
                    have hk := HK5.out h5
                    rw [hk] at e3 e4
                    have d6 : ((x.kind : Int) == 6) = false := by rw [h5]; rfl
                    have d6b : decide ((x.kind : Int) = 6) = false := by rw [h5]; rfl
                    have d5 : ((x.kind : Int) == 5) = true := by rw [h5]; rfl
                    have d5b : decide ((x.kind : Int) = 5) = true := by rw [h5]; rfl
                    clear h6 h5 hk
                    go_wp2_with fail
                    go_meet
                    exact ⟨rfl, rfl⟩
              obtain ⟨rfl, rfl⟩ := hcut
              clear u1 u1b u2 u2b u3 u3b hFl
              obtain ⟨k1', hk1e⟩ : ∃ k1, k + 1 = k1 := ⟨_, rfl⟩
              have hk1z : (k : Int) + 1 = (k1' : Int) := by omega
              have hpl : pc.2 < l.length := by omega
              have hpl2 : pc.2 < (bs l).size := by omega
              have hpi : (pc.2 : Int) < (l.length : Int) := by omega
              have hp0 : (0 : Int) ≤ (pc.2 : Int) := by omega
              go_upto_region 30 with fail
              go_cut [216, 217, 218, 219, 220, 221, 222, 223, 224, 225, 226, 227, 228] (fun s216 s217 s218 s219 s220 s221 s222 s223 s224 s225 s226 s227 s228 wx => s228 = .bool false ∧ W6 = wx)
              case first =>
                as_aux_lemma =>
                  by_cases hlast : k + 1 < x.kids.length
                  · have hc := HP3.out hlast
                    have hce : (bs l)[pc.2]'hpl2 = 44 := by
                      rw [bs_at l pc.2 hpl hpl2]
                      rw [List.getElem?_eq_getElem hpl] at hc
                      exact Option.some.inj hc
                    have dl : decide ((k1' : Int) < (x.kids.length : Int)) = true := decide_eq_true (by omega)
                    have dl2 : decide (k1' < x.kids.length) = true := decide_eq_true (by omega)
                    clear hlast hc
                    go_wp2_with fail
                    go_meet
                    exact ⟨rfl, rfl⟩
                  · have dl : decide ((k1' : Int) < (x.kids.length : Int)) = false := decide_eq_false (by omega)
                    have dl2 : decide (k1' < x.kids.length) = false := decide_eq_false (by omega)
                    clear hlast
                    go_wp2_with fail
                    go_meet
                    exact ⟨rfl, rfl⟩
              obtain ⟨rfl, rfl⟩ := hcut
              obtain ⟨m1, hm1e⟩ : ∃ k1, mm + 1 = k1 := ⟨_, rfl⟩
              have hm1z : (mm : Int) + 1 = (m1 : Int) := by omega
              have HMM1 : Hid (m1 = m + k1') := Lib.hid (by have := HMM.out; omega)
              have hat : (pc.2 : Int) + 1 = ((atOf x k1' : Nat) : Int) := by rw [← hk1e, atOf_succ HPC.out]; omega
              have hmb : (mm : Int) ≤ 65536 := by
                have h1 := HMM.out
                have h2 := HM.out
                have h3 := sumK_take HX.out
                have h4 := sumK_le nodes (i + 1)
                have h5 := HSm.out
                omega
              clear hm1e
              go_wp2_with fail
              go_roundw
              · exact ⟨k1', m1, by rw [← hm1z], by rw [← hat], by rw [← hk1z], by omega, HMM1, HB6⟩
              · (try simp only [RowKit.intOf]); omega
            · obtain rfl : k = x.kids.length := by omega
              have dkk : decide ((x.kids.length : Int) < (x.kids.length : Int)) = false := decide_eq_false (by omega)
              have hM1 : mm = 1 + sumK (nodes.take i1) := by
                rw [← hi1e, sumK_take HX.out, HMM.out, HM.out]; omega
              have HM1 := Lib.hid hM1
              have HB7 : Hid (Below W3.heap.size W3 wr) := Lib.hid (below_of_new HB4.out HBi.out)
              clear hM1
              go_upto_region 34 with fail
              go_cut [234, 235, 236, 237, 238, 239, 240, 241, 242, 243, 244] (fun s234 s235 s236 s237 s238 s239 s240 s241 s242 s243 s244 wx => s244 = .bool false ∧ wr = wx)
              case first =>
                as_aux_lemma =>
                  by_cases h0 : x.kids.length = 0
                  · rw [h0] at c5
                    clear h0 dkk
                    go_wp2_with fail
                    go_meet
                    exact ⟨rfl, rfl⟩
                  · have he := HW.out.end_ (fun h => h0 (by rw [h]; rfl))
                    have d0 : decide ((0 : Int) < (x.kids.length : Int)) = true := decide_eq_true (by omega)
                    have d0b : decide (0 < x.kids.length) = true := decide_eq_true (by omega)
                    have d0c : x.kids ≠ [] := fun h => h0 (by rw [h]; rfl)
                    have dE : (((atOf x x.kids.length : Nat) : Int) != (x.st : Int)) = false := by rw [he]; simp
                    have dEb : (atOf x x.kids.length != x.st) = false := by rw [he]; simp
                    clear he h0
                    go_wp2_with fail
                    go_meet
                    exact ⟨rfl, rfl⟩
              obtain ⟨rfl, rfl⟩ := hcut
              go_wp2_with fail
              go_roundw
              · exact ⟨i1, mm, rfl, by rw [← hi1z], hii, HM1, HB7⟩
              · (try simp only [RowKit.intOf]); omega
      · obtain rfl : i = nodes.length := by omega
        have dk : decide ((nodes.length : Int) < (nodes.length : Int)) = false := decide_eq_false (by omega)
        have hm : m = nodes.length := by
          have h1 := HM.out
          rw [List.take_length] at h1
          have := HSm.out
          omega
        subst hm
        have HB8 := Lib.hid (below_of_new HB3.out HBr.out)
        go_wp2_with fail
        go_ret
        exact ⟨rfl, HB8.out⟩
end Go.Proofs.YtmghlaajocgoaaaGreatDoor

import Derived.Test.YtmghlaajocgoaaaGreatDoorJsP
import Derived.Test.YtmghlaajocgoaaaGreatDoorJsT
import Derived.Test.YtmghlaajocgoaaaGreatDoorJsQ
/-! The walk of JsonAlone. -/
namespace Go.Proofs.YtmghlaajocgoaaaGreatDoor
set_option linter.unusedSimpArgs false
set_option linter.unusedVariables false
set_option linter.unnecessarySimpa false
open Go.RowKit Go.Maps Go.WideMaps
open Go.Lib hiding intOf

/-- A node in a cell of its own. -/
def NodeC (w : World) (N : Nat) (x : NodeD) (kv pv : Value) : Prop := w.heap[N]? = some (.cells #[.int .i64 (x.kind : Int), .int .i64 (x.sf : Int), .int .i64 (x.st : Int), .int .i64 (x.key.1 : Int), .int .i64 (x.key.2 : Int), kv, pv] 37)
abbrev NodeCells (w : World) (N : Nat) (x : NodeD) (kv pv : Value) : Prop := w.cell? ⟨N, 0, none⟩ = some (.int .i64 (x.kind : Int)) ∧ w.cell? ⟨N, 1, none⟩ = some (.int .i64 (x.sf : Int)) ∧ w.cell? ⟨N, 2, none⟩ = some (.int .i64 (x.st : Int)) ∧ w.cell? ⟨N, 3, none⟩ = some (.int .i64 (x.key.1 : Int)) ∧
  w.cell? ⟨N, 4, none⟩ = some (.int .i64 (x.key.2 : Int)) ∧ w.cell? ⟨N, 5, none⟩ = some kv ∧ w.cell? ⟨N, 6, none⟩ = some pv
theorem NodeC.cells {w : World} {N : Nat} {x : NodeD} {kv pv : Value} (h : NodeC w N x kv pv) : NodeCells w N x kv pv := by
  unfold NodeC at h
  refine ⟨?_, ?_, ?_, ?_, ?_, ?_, ?_⟩ <;> simp [World.cell?, h]
theorem NodeC.keep {w w' : World} {N : Nat} {x : NodeD} {kv pv : Value} (h : NodeC w N x kv pv) (hb : Below w.heap.size w w') : NodeC w' N x kv pv := (hb.block _ (cell_it h)).trans h
theorem NodeC.new (w : World) (x : NodeD) (kv pv : Value) : NodeC (w.alloc (.cells #[.int .i64 (x.kind : Int), .int .i64 (x.sf : Int), .int .i64 (x.st : Int), .int .i64 (x.key.1 : Int), .int .i64 (x.key.2 : Int), kv, pv] 37)) w.heap.size x kv pv := heap_alloc_new w _
theorem sumK_mem {ns : List NodeD} {i : Nat} {x : NodeD} (h : ns[i]? = some x) : x.kids.length ≤ sumK ns := by
  have h1 := sumK_take h
  have h2 := sumK_app (ns.take (i + 1)) (ns.drop (i + 1))
  rw [List.take_append_drop] at h2
  omega
theorem IntsR.at_ {w : World} {p : Option Addr} {n c : Nat} {l : List Nat} (h : IntsR w (.slice p n c) l) (j k : Nat) (hj : l[j]? = some k) : ∃ g, p = some ⟨g, 0, none⟩ ∧ w.cell? ⟨g, j, none⟩ = some (.int .i64 (k : Int)) := by
  obtain ⟨p', c', e, f⟩ := h
  injection e with e1 e2 e3
  subst e1
  exact f j k hj
set_option maxRecDepth 100000 in
set_option maxHeartbeats 8000000 in
theorem jsonAlone_any (s : ByteArray) (kk : Int) (w : World) (hs : s.size ≤ 140737488351232) (hV : SVar w) (hT : Tabs w) :
    Calls Tryz.prog 7 #[.string s, .int .i64 kk] w fun e w' => e = .returned (.bool true) ∧ Below w.heap.size w w' := by
  have C0 := Lib.hid (fun w hV hT => jsmall_any w hV hT)
  obtain ⟨l, rfl⟩ : ∃ l, s = bs l := ⟨s.data.toList, (bs_of s).symm⟩
  have sl := bs_size l
  rw [sl] at hs
  have HV := Lib.hid hV
  have HT := Lib.hid hT
  clear hV hT
  have hN := parse_few l
  have hP := fun (ns : List NodeD) (n : Int) (h : parseJ l = (ns, n, 0)) => whole_ok h
  have hA := fun (ns : List NodeD) (n : Int) (h : parseJ l = (ns, n, 0)) (hs : l.length ≤ 4096) => alone_ok h hs
  obtain ⟨R, hR⟩ : ∃ R, parseJ l = R := ⟨_, rfl⟩
  have CP := Lib.hid (fun w hV hT => parse_read l R hR w (by omega) hV hT)
  rw [hR] at hN hP hA
  clear hR
  obtain ⟨nodes, n, er⟩ := R
  simp only [] at hN
  have HP := Lib.hid hP
  have HA := Lib.hid hA
  clear hP hA
  obtain ⟨K, hK⟩ : ∃ K : Nat, (K : Int) = bits .and .i64 kk 4095 := ⟨(kk % 4096).toNat, by rw [and4095_i64]; omega⟩
  have hK2 := hK.symm
  have hK1 : K ≤ 4095 := by rw [and4095_i64] at hK; omega
  clear hK
  go_enter Tryz.func7, Tryz.ntmps7
  go_wp2_with fail
  with_reducible refine (C0.out _ HV.out HT.out).mono ?_
  rintro e w1 ⟨rfl, hb⟩
  have HB1 := Lib.hid hb
  have HV1 := Lib.hid (HV.out.keep hb)
  have HT1 := Lib.hid (HT.out.keep hb)
  clear hb HV HT C0
  go_wp2_with fail
  with_reducible refine (CP.out _ HV1.out HT1.out).mono ?_
  rintro e w2 ⟨p, c, rfl, hn, hb⟩
  dsimp only at hn ⊢
  have HB2 := Lib.hid (below_of_new HB1.out hb)
  have HN2 := Lib.hid hn
  have HV2 := Lib.hid (HV1.out.keep hb)
  have HT2 := Lib.hid (HT1.out.keep hb)
  clear hb hn HB1 HV1 HT1 CP
  obtain ⟨txt, htx⟩ : ∃ t, bs (docT l nodes) = t := ⟨_, rfl⟩
  rw [htx]
  have Htx := Lib.hid htx
  clear htx
  go_upto_region 3 with fail
  have b3 := below_alloc1 w2 (.cells #[.string txt, .slice p nodes.length c] 25)
  have HD3 : Hid (DocC (w2.alloc (.cells #[.string txt, .slice p nodes.length c] 25)) w2.heap.size txt p nodes.length c) := Lib.hid (DocC.new w2 txt p nodes.length c)
  obtain ⟨D, hD⟩ : ∃ D, w2.heap.size = D := ⟨_, rfl⟩
  obtain ⟨W3, hW3⟩ : ∃ W, w2.alloc (.cells #[.string txt, .slice p nodes.length c] 25) = W := ⟨_, rfl⟩
  rw [hW3] at b3 HD3
  rw [hW3]
  rw [hD] at HD3
  rw [hD]
  have HB3 := Lib.hid (below_of_new HB2.out b3)
  have HN3 := Lib.hid (HN2.out.keep b3)
  have HV3 := Lib.hid (HV2.out.keep b3)
  have HT3 := Lib.hid (HT2.out.keep b3)
  obtain ⟨y0, y1⟩ := cells_at2 HD3.out
  clear b3 HN2 HB2 HV2 HT2 hW3 hD
  by_cases he : er = 0
  case neg =>
    have dE : (er != 0) = true := bne_iff_ne.2 he
    clear he HP HA
    go_wp2_with fail
    go_ret
    exact ⟨rfl, HB3.out⟩
  subst he
  obtain ⟨hl, hn1, hrear, hsum⟩ := HP.out nodes n rfl
  have HRr := Lib.hid hrear
  have HSm := Lib.hid hsum
  obtain rfl : txt = bs l := by
    have := Htx.out
    cases nodes with
    | nil => simp at hn1
    | cons y r => exact this.symm
  by_cases hbig : 4096 < l.length
  · have dB : decide ((4096 : Int) < (l.length : Int)) = true := decide_eq_true (by omega)
    have dBb : decide (4096 < l.length) = true := decide_eq_true hbig
    clear hrear hsum HP HA Htx hbig
    go_wp2_with fail
    go_ret
    exact ⟨rfl, HB3.out⟩
  have dB : decide ((4096 : Int) < (l.length : Int)) = false := decide_eq_false (by omega)
  have dBb : decide (4096 < l.length) = false := decide_eq_false hbig
  have hl4 : l.length ≤ 4096 := by omega
  have dN : decide ((nodes.length : Int) = 0) = false := decide_eq_false (by omega)
  have dN2 : ((nodes.length : Int) == 0) = false := by simp; intro h; rw [h] at hn1; cases hn1
  have hnn : nodes ≠ [] := fun h => by rw [h] at hn1; cases hn1
  obtain ⟨I, hI⟩ : ∃ I, K % nodes.length = I := ⟨_, rfl⟩
  have hIl : I < nodes.length := by rw [← hI]; exact Nat.mod_lt _ (by omega)
  have hI2 : (K : Int) % (nodes.length : Int) = (I : Int) := by rw [← hI]; omega
  have hI3 : Int.tmod (K : Int) (nodes.length : Int) = (I : Int) := by rw [Int.tmod_eq_emod_of_nonneg (by omega), hI2]
  obtain ⟨x, hx⟩ : ∃ x, nodes[I]? = some x := ⟨_, List.getElem?_eq_getElem hIl⟩
  obtain ⟨mc, hmP, hul, hxl, hxe, hml, hall, hkey, hend⟩ := HA.out nodes n rfl (by omega) I x hx
  obtain ⟨u, hu⟩ : ∃ u, (l.drop x.sf).take (x.st - x.sf) = u := ⟨_, rfl⟩
  rw [hu] at hmP hul
  have hsl : sliceB (bs l) (x.sf : Int) (x.st : Int) = bs u := by
    unfold sliceB
    rw [if_neg (by rw [sl]; omega), Int.toNat_natCast, Int.toNat_natCast, bs_extract, bs_data, hu]
  have CS := Lib.hid (fun w => jslice_any (bs l) (.slice p nodes.length c) rfl (x.sf : Int) (x.st : Int) w)
  rw [hsl] at CS
  have CU := Lib.hid (fun w hV hT => parse_read u (mc, ((x.st - x.sf : Nat) : Int), 0) hmP w (by omega) hV hT)
  have su := bs_size u
  obtain ⟨Ln, hLn⟩ : ∃ q : Int, ((x.st - x.sf : Nat) : Int) = q := ⟨_, rfl⟩
  rw [hLn] at CU
  have dq1 : (Ln != (u.length : Int)) = false := by rw [bne_eq_false_iff_eq]; omega
  have dq2 : ((u.length : Int) != (x.st : Int) - (x.sf : Int)) = false := by rw [bne_eq_false_iff_eq]; omega
  have HX := Lib.hid hx
  have HU := Lib.hid hul
  have HAll := Lib.hid hall
  have HKey := Lib.hid hkey
  have HEnd := Lib.hid hend
  have hi0 : (0 : Int) ≤ (I : Int) := by omega
  have hi1 : (I : Int) < (nodes.length : Int) := by omega
  have dK : ¬ (nodes.length : Int) = 0 := by omega
  have q1 : (x.sf : Int) ≤ (x.st : Int) := by omega
  have q2 : (x.st : Int) ≤ 4096 := by omega
  obtain ⟨g, rfl, kv, pv, n0, n1, n2, n3, n4, n5, n6, ⟨pk, ck, rfl, _⟩, ⟨pp, cp, rfl, _⟩⟩ := HN3.out I x hx
  clear hrear hsum HP HA Htx hbig hI hx hmP hsl hu hall hkey hend hul hLn
  go_upto_region 7 with fail
  have bq := below_alloc1 W3 (.cells #[.int .i64 (x.kind : Int), .int .i64 (x.sf : Int), .int .i64 (x.st : Int), .int .i64 (x.key.1 : Int), .int .i64 (x.key.2 : Int), .slice pk x.kids.length ck, .slice pp x.pcs.length cp] 37)
  have hCq := NodeC.new W3 x (.slice pk x.kids.length ck) (.slice pp x.pcs.length cp)
  obtain ⟨N, hN⟩ : ∃ D, W3.heap.size = D := ⟨_, rfl⟩
  obtain ⟨W4, hW4⟩ : ∃ W, W3.alloc (.cells #[.int .i64 (x.kind : Int), .int .i64 (x.sf : Int), .int .i64 (x.st : Int), .int .i64 (x.key.1 : Int), .int .i64 (x.key.2 : Int), .slice pk x.kids.length ck, .slice pp x.pcs.length cp] 37) = W := ⟨_, rfl⟩
  rw [hW4] at bq hCq
  rw [hN] at hCq
  rw [hW4, hN]
  have HB4 := Lib.hid (below_of_new HB3.out bq)
  have HC4 := Lib.hid hCq
  have HD4 := Lib.hid (HD3.out.keep bq)
  have HN4 := Lib.hid (HN3.out.keep bq)
  have HV4 := Lib.hid (HV3.out.keep bq)
  have HT4 := Lib.hid (HT3.out.keep bq)
  clear hW4 hN bq hCq y0 y1 n0 n1 n2 n3 n4 n5 n6 HB3 HD3 HN3 HV3 HT3
  obtain ⟨y0, y1⟩ := cells_at2 HD4.out
  obtain ⟨c0, c1, c2, c3, c4, c5, c6⟩ := HC4.out.cells
  go_wp2_with fail
  with_reducible refine (CS.out _).mono ?_
  rintro e w5 ⟨rfl, hb⟩
  have HB5 := Lib.hid (below_of_new HB4.out hb)
  have HC5 := Lib.hid (HC4.out.keep hb)
  have HD5 := Lib.hid (HD4.out.keep hb)
  have HN5 := Lib.hid (HN4.out.keep hb)
  have HV5 := Lib.hid (HV4.out.keep hb)
  have HT5 := Lib.hid (HT4.out.keep hb)
  clear hb y0 y1 c0 c1 c2 c3 c4 c5 c6 HB4 HC4 HD4 HN4 HV4 HT4 CS
  go_wp2_with fail
  with_reducible refine (CU.out _ HV5.out HT5.out).mono ?_
  rintro e w6 ⟨pu, cu, rfl, hn, hb⟩
  dsimp only at hn ⊢
  have HB6 := Lib.hid (below_of_new HB5.out hb)
  have HC6 := Lib.hid (HC5.out.keep hb)
  have HD6 := Lib.hid (HD5.out.keep hb)
  have HN6 := Lib.hid (HN5.out.keep hb)
  have HM6 := Lib.hid hn
  clear hb hn HB5 HC5 HD5 HN5 HV5 HT5 CU
  obtain ⟨txu, htu⟩ : ∃ t, bs (docT u mc) = t := ⟨_, rfl⟩
  rw [htu]
  clear htu
  go_upto_region 9 with fail
  have b7 := below_alloc1 w6 (.cells #[.string txu, .slice pu mc.length cu] 25)
  have HE7 : Hid (DocC (w6.alloc (.cells #[.string txu, .slice pu mc.length cu] 25)) w6.heap.size txu pu mc.length cu) := Lib.hid (DocC.new w6 txu pu mc.length cu)
  obtain ⟨E, hE⟩ : ∃ D, w6.heap.size = D := ⟨_, rfl⟩
  obtain ⟨W7, hW7⟩ : ∃ W, w6.alloc (.cells #[.string txu, .slice pu mc.length cu] 25) = W := ⟨_, rfl⟩
  rw [hW7] at b7 HE7
  rw [hW7]
  rw [hE] at HE7
  rw [hE]
  have HB7 := Lib.hid (below_of_new HB6.out b7)
  have HC7 := Lib.hid (HC6.out.keep b7)
  have HD7 := Lib.hid (HD6.out.keep b7)
  have HN7 := Lib.hid (HN6.out.keep b7)
  have HM7 := Lib.hid (HM6.out.keep b7)
  clear b7 HB6 HC6 HD6 HN6 HM6 hW7 hE
  go_cut [61, 62, 63, 64, 65, 66, 67, 68, 69, 70, 71, 72, 73, 74, 75, 76, 77, 78, 79, 80, 81, 82, 83, 84, 85, 86, 87, 88, 89, 90, 91] (fun s61 s62 s63 s64 s65 s66 s67 s68 s69 s70 s71 s72 s73 s74 s75 s76 s77 s78 s79 s80 s81 s82 s83 s84 s85 s86 s87 s88 s89 s90 s91 wx => s91 = .bool false ∧ W7 = wx)
  case first =>
    obtain ⟨y0, y1⟩ := cells_at2 HD7.out
    obtain ⟨z0, z1⟩ := cells_at2 HE7.out
    obtain ⟨c0, c1, c2, c3, c4, c5, c6⟩ := HC7.out.cells
    have d1 : decide ((nodes.length : Int) - (I : Int) < (mc.length : Int)) = false := decide_eq_false (by omega)
    go_wp2_with fail
    go_meet
    exact ⟨rfl, rfl⟩
  obtain ⟨rfl, rfl⟩ := hcut
  go_wp2_with fail
  go_loopw [15] (fun s15 wr => ∃ (j : Nat), s15 = .int .i64 (j : Int) ∧ j ≤ mc.length ∧ Hid (Below W7.heap.size W7 wr)) (fun s15 _ => mc.length - (RowKit.intOf s15).toNat)
  case atStart => exact ⟨0, rfl, by omega, Lib.hid (Below.refl _ _)⟩
  case round =>
    as_aux_lemma =>
      obtain ⟨j, rfl, hj, HBr⟩ := hrel
      have y1 := (cells_at2 (HD7.out.keep HBr.out)).2
      have z1 := (cells_at2 (HE7.out.keep HBr.out)).2
      have hj0 : (0 : Int) ≤ (j : Int) := by omega
      by_cases hjl : j < mc.length
      · obtain ⟨a, ha⟩ : ∃ x, mc[j]? = some x := ⟨_, List.getElem?_eq_getElem hjl⟩
        obtain ⟨b, hb, rk, rs, rt, rkid⟩ := HAll.out j a ha
        have hbW := (HRr.out.wf (I + j) b (Nat.zero_le _) hb).1
        have hj1 : (j : Int) < (mc.length : Int) := by omega
        have dk : decide ((j : Int) < (mc.length : Int)) = true := decide_eq_true hj1
        obtain ⟨j1, hj1e⟩ : ∃ k1, j + 1 = k1 := ⟨_, rfl⟩
        have hj1z : (j : Int) + 1 = (j1 : Int) := by omega
        obtain ⟨ij, hij⟩ : ∃ k1, I + j = k1 := ⟨_, rfl⟩
        have hijz : (I : Int) + (j : Int) = (ij : Int) := by omega
        have hij0 : (0 : Int) ≤ (ij : Int) := by omega
        have hijl : (ij : Int) < (nodes.length : Int) := by omega
        rw [hij] at hb
        obtain ⟨ga, rfl, kva, pva, n0, n1, n2, n3, n4, n5, n6, ⟨pka, cka, rfl, hka⟩, ⟨ppa, cpa, rfl, _⟩⟩ := HM7.out.keep HBr.out j a ha
        obtain ⟨gb', eg, kvb, pvb, m0, m1, m2, m3, m4, m5, m6, ⟨pkb, ckb, rfl, hkb⟩, ⟨ppb, cpb, rfl, _⟩⟩ := HN7.out.keep HBr.out ij b hb
        obtain rfl : g = gb' := by injection eg with eg; injection eg
        have HKA := Lib.hid (show IntsR wr (.slice pka a.kids.length cka) a.kids from ⟨pka, cka, rfl, hka⟩)
        have HKB := Lib.hid (show IntsR wr (.slice pkb b.kids.length ckb) b.kids from ⟨pkb, ckb, rfl, hkb⟩)
        have HR := Lib.hid (And.intro rk (And.intro rs (And.intro rt rkid)))
        have HHA := Lib.hid ha
        have HHB := Lib.hid hb
        have HBW := Lib.hid hbW
        have lA := World.block_lt_of_cell? wr _ m0
        have lD := World.block_lt_of_cell? wr _ y1
        have lN := World.block_lt_of_cell? wr _ n0
        simp only [] at lA lD lN
        clear ha hb rk rs rt rkid hka hkb eg hbW hij hj1e
        go_upto_region 15 with fail
        have bq := below_alloc1 wr (.cells #[.int .i64 (a.kind : Int), .int .i64 (a.sf : Int), .int .i64 (a.st : Int), .int .i64 (a.key.1 : Int), .int .i64 (a.key.2 : Int), .slice pka a.kids.length cka, .slice ppa a.pcs.length cpa] 37)
        have hCq := NodeC.new wr a (.slice pka a.kids.length cka) (.slice ppa a.pcs.length cpa)
        obtain ⟨A, hA⟩ : ∃ D, wr.heap.size = D := ⟨_, rfl⟩
        obtain ⟨W8, hW8⟩ : ∃ W, wr.alloc (.cells #[.int .i64 (a.kind : Int), .int .i64 (a.sf : Int), .int .i64 (a.st : Int), .int .i64 (a.key.1 : Int), .int .i64 (a.key.2 : Int), .slice pka a.kids.length cka, .slice ppa a.pcs.length cpa] 37) = W := ⟨_, rfl⟩
        rw [hW8] at bq hCq
        rw [hA] at hCq
        rw [hW8, hA]
        have HB8 := Lib.hid (below_of_new HBr.out bq)
        have HCA8 := Lib.hid hCq
        have HKA8 := Lib.hid (HKA.out.keep bq)
        have HKB8 := Lib.hid (HKB.out.keep bq)
        have HMB8 := Lib.hid (And.intro (cell_keep m0 bq) (And.intro (cell_keep m1 bq) (And.intro (cell_keep m2 bq) (And.intro (cell_keep m3 bq) (And.intro (cell_keep m4 bq) (And.intro (cell_keep m5 bq) (cell_keep m6 bq)))))))
        clear hW8 hA bq hCq y1 z1 n0 n1 n2 n3 n4 n5 n6 m0 m1 m2 m3 m4 m5 m6 HKA HKB lA lD lN
        have y1 := (cells_at2 (HD7.out.keep HB8.out)).2
        obtain ⟨m0, m1, m2, m3, m4, m5, m6⟩ := HMB8.out
        have lA := cell_it HCA8.out
        go_upto_region 16 with fail
        have bq := below_alloc1 W8 (.cells #[.int .i64 (b.kind : Int), .int .i64 (b.sf : Int), .int .i64 (b.st : Int), .int .i64 (b.key.1 : Int), .int .i64 (b.key.2 : Int), .slice pkb b.kids.length ckb, .slice ppb b.pcs.length cpb] 37)
        have hCq := NodeC.new W8 b (.slice pkb b.kids.length ckb) (.slice ppb b.pcs.length cpb)
        obtain ⟨Bb, hBb⟩ : ∃ D, W8.heap.size = D := ⟨_, rfl⟩
        obtain ⟨W9, hW9⟩ : ∃ W, W8.alloc (.cells #[.int .i64 (b.kind : Int), .int .i64 (b.sf : Int), .int .i64 (b.st : Int), .int .i64 (b.key.1 : Int), .int .i64 (b.key.2 : Int), .slice pkb b.kids.length ckb, .slice ppb b.pcs.length cpb] 37) = W := ⟨_, rfl⟩
        rw [hW9] at bq hCq
        rw [hBb] at hCq
        rw [hW9, hBb]
        have HB9 := Lib.hid (below_of_new HB8.out bq)
        have HCA9 := Lib.hid (HCA8.out.keep bq)
        have HCB9 := Lib.hid hCq
        have HKA9 := Lib.hid (HKA8.out.keep bq)
        have HKB9 := Lib.hid (HKB8.out.keep bq)
        have HC9 := Lib.hid (HC7.out.keep HB9.out)
        clear hW9 hBb bq hCq y1 m0 m1 m2 m3 m4 m5 m6 lA HCA8 HKA8 HKB8 HMB8 HB8
        obtain ⟨a0, a1, a2, a3, a4, a5, a6⟩ := HCA9.out.cells
        obtain ⟨b0, b1, b2, b3, b4, b5, b6⟩ := HCB9.out.cells
        obtain ⟨c0, c1, c2, c3, c4, c5, c6⟩ := HC9.out.cells
        have hkl : a.kids.length = b.kids.length := by
          have := congrArg List.length HR.out.2.2.2
          simpa using this
        rw [← hkl] at b5
        have e1 : (a.sf : Int) + (x.sf : Int) = (b.sf : Int) := by have := HR.out.2.1; omega
        have e2 : (a.st : Int) + (x.sf : Int) = (b.st : Int) := by have := HR.out.2.2.1; omega
        have hbst : b.st ≤ 4096 := by have := HBW.out.le; have := hl4; omega
        have hbsf : b.sf ≤ 4096 := by have := HBW.out.pos; omega
        have f1 : (a.sf : Int) ≤ 4096 := by omega
        have f2 : (a.st : Int) ≤ 4096 := by omega
        have f3 : (x.sf : Int) ≤ 4096 := by omega
        have f0 : (0 : Int) ≤ (x.sf : Int) := by omega
        rw [← e1] at b1
        rw [← e2] at b2
        rw [← HR.out.1] at b0
        have hqb : (a.kids.length : Int) ≤ 65536 := by
          have h1 := sumK_mem HHB.out
          have h2 := HSm.out
          omega
        clear e1 e2 hkl hbst hbsf
        go_cut [111, 112, 113, 114, 115, 116, 117, 118, 119, 120, 121, 122, 123, 124, 125, 126, 127, 128, 129, 130, 131, 132, 133, 134, 135, 136, 137, 138, 139, 140, 141, 142, 143, 144, 145, 146, 147, 148, 149, 150, 151, 152, 153, 154, 155, 156, 157, 158, 159, 160] (fun s111 s112 s113 s114 s115 s116 s117 s118 s119 s120 s121 s122 s123 s124 s125 s126 s127 s128 s129 s130 s131 s132 s133 s134 s135 s136 s137 s138 s139 s140 s141 s142 s143 s144 s145 s146 s147 s148 s149 s150 s151 s152 s153 s154 s155 s156 s157 s158 s159 s160 wx => s160 = .bool false ∧ W9 = wx)
        case first =>
          clear hj1z
          by_cases h0 : j = 0
          · obtain ⟨a', ha', hk⟩ := HKey.out
            have h1 := HHA.out
            rw [h0, ha'] at h1
            obtain rfl := Option.some.inj h1
            rw [hk] at a3 a4
            have d0 : ((j : Int) == 0) = true := by rw [h0]; rfl
            have d0b : decide ((j : Int) = 0) = true := by rw [h0]; rfl
            have d0c : (j == 0) = true := by rw [h0]; rfl
            have d0d : decide (j = 0) = true := by rw [h0]; rfl
            clear h0 ha' hk h1
            go_wp2_with fail
            go_meet
            exact ⟨rfl, rfl⟩
          · have d0 : ((j : Int) == 0) = false := by simp; omega
            have d0b : decide ((j : Int) = 0) = false := decide_eq_false (by omega)
            have d0c : (j == 0) = false := by simp; omega
            have d0d : decide (j = 0) = false := decide_eq_false h0
            clear h0
            go_wp2_with fail
            go_meet
            exact ⟨rfl, rfl⟩
        obtain ⟨rfl, rfl⟩ := hcut
        clear a0 a1 a2 a3 a4 a6 b0 b1 b2 b3 b4 b6 c0 c1 c2 c3 c4 c5 c6 f0 f1 f2 f3
        go_wp2_with fail
        go_loopw [18] (fun s18 wx => ∃ (q : Nat), s18 = .int .i64 (q : Int) ∧ q ≤ a.kids.length ∧ Hid (Below W9.heap.size W9 wx)) (fun s18 _ => a.kids.length - (RowKit.intOf s18).toNat)
        case atStart => exact ⟨0, rfl, by omega, Lib.hid (Below.refl _ _)⟩
        case round =>
          as_aux_lemma =>
            clear a5 b5
            obtain ⟨q, rfl, hq, HBi⟩ := hrel
            obtain ⟨_, _, _, _, _, a5, _⟩ := (HCA9.out.keep HBi.out).cells
            obtain ⟨_, _, _, _, _, b5, _⟩ := (HCB9.out.keep HBi.out).cells
            have hkl : a.kids.length = b.kids.length := by
              have := congrArg List.length HR.out.2.2.2
              simpa using this
            rw [← hkl] at b5
            have HKL := Lib.hid hkl
            clear hkl
            have hq0 : (0 : Int) ≤ (q : Int) := by omega
            by_cases hql : q < a.kids.length
            · obtain ⟨ka, hka⟩ : ∃ u, a.kids[q]? = some u := ⟨_, List.getElem?_eq_getElem hql⟩
              have hkb : b.kids[q]? = some (ka + I) := by rw [← HR.out.2.2.2, List.getElem?_map, hka]; rfl
              have hbp : ∃ pc, b.pcs[q]? = some pc := ⟨_, List.getElem?_eq_getElem (by have := HBW.out.len; have := HKL.out; omega)⟩
              obtain ⟨pc, hpc⟩ := hbp
              obtain ⟨⟨_, _, y, hy, _⟩, _, _⟩ := HBW.out.kid_ q _ pc hkb hpc
              have hyl := (List.getElem?_eq_some_iff.1 hy).1
              obtain ⟨gka, rfl, ca⟩ := (HKA9.out.keep HBi.out).at_ q ka hka
              obtain ⟨gkb, rfl, cb⟩ := (HKB9.out.keep HBi.out).at_ q _ hkb
              have hcb : ((ka + I : Nat) : Int) = (ka : Int) + (I : Int) := by omega
              rw [hcb] at cb
              have hq1 : (q : Int) < (a.kids.length : Int) := by omega
              have dq : decide ((q : Int) < (a.kids.length : Int)) = true := decide_eq_true hq1
              obtain ⟨qn, hqn⟩ : ∃ k1, q + 1 = k1 := ⟨_, rfl⟩
              have hqz : (q : Int) + 1 = (qn : Int) := by omega
              have hkab : (ka : Int) ≤ 65536 := by omega
              have hka0 : (0 : Int) ≤ (ka : Int) := by omega
              have HBd : Hid (Below W9.heap.size W9 wr.drew) := Lib.hid HBi.out.drew
              clear hka hkb hpc hy hyl hcb hqn
              go_upto_region 21 with fail
              go_region
              all_goals
                go_wp2_with fail
                go_roundw
                · exact ⟨qn, by rw [← hqz], by omega, HBd⟩
                · (try simp only [RowKit.intOf]); omega
            · obtain rfl : q = a.kids.length := by omega
              have dq : decide ((a.kids.length : Int) < (a.kids.length : Int)) = false := decide_eq_false (by omega)
              have HBj : Hid (Below W7.heap.size W7 wr) := Lib.hid (below_of_new HB9.out HBi.out)
              go_wp2_with fail
              go_roundw
              · exact ⟨j1, by rw [← hj1z], by omega, HBj⟩
              · (try simp only [RowKit.intOf]); omega
      · obtain rfl : j = mc.length := by omega
        have dk : decide ((mc.length : Int) < (mc.length : Int)) = false := decide_eq_false (by omega)
        have HB8 := Lib.hid (below_of_new HB7.out HBr.out)
        have HB9 : Hid (Below w.heap.size w wr.drew) := Lib.hid HB8.out.drew
        obtain ⟨c0, c1, c2, c3, c4, c5, c6⟩ := (HC7.out.keep HBr.out).cells
        rcases HEnd.out with hend | ⟨b, hb, hbs⟩
        · have e1 : (I : Int) + (mc.length : Int) = (nodes.length : Int) := by omega
          have dE : (((I : Int) + (mc.length : Int)) == (nodes.length : Int)) = true := by rw [e1]; simp
          clear e1 hend
          go_upto_region 23 with fail
          go_region
          all_goals
            go_wp2_with fail
            go_ret
            exact ⟨rfl, HB9.out⟩
        · have hbl := (List.getElem?_eq_some_iff.1 hb).1
          obtain ⟨ij, hij⟩ : ∃ k1, I + mc.length = k1 := ⟨_, rfl⟩
          have hijz : (I : Int) + (mc.length : Int) = (ij : Int) := by omega
          have hij0 : (0 : Int) ≤ (ij : Int) := by omega
          have hijl : (ij : Int) < (nodes.length : Int) := by omega
          rw [hij] at hb
          obtain ⟨gb', eg, kvb, pvb, m0, m1, m2, m3, m4, m5, m6, _, _⟩ := HN7.out.keep HBr.out ij b hb
          obtain rfl : g = gb' := by injection eg with eg; injection eg
          have d1 : ((ij : Int) == (nodes.length : Int)) = false := by simp; omega
          have d1b : (ij == nodes.length) = false := by simp; omega
          have d1c : decide ((ij : Int) = (nodes.length : Int)) = false := decide_eq_false (by omega)
          have d1d : decide (ij = nodes.length) = false := decide_eq_false (by omega)
          have d2 : decide ((x.st : Int) ≤ (b.sf : Int)) = true := decide_eq_true (by omega)
          have d2b : decide (x.st ≤ b.sf) = true := decide_eq_true (by omega)
          clear hbl hij hb hbs eg
          go_upto_region 23 with fail
          go_region
          all_goals
            go_wp2_with fail
            go_ret
            exact ⟨rfl, HB9.out⟩
end Go.Proofs.YtmghlaajocgoaaaGreatDoor

import Derived.Test.YtmghlaajocgoaaaGreatDoorJsP
/-! The walk of JsonNests. -/
namespace Go.Proofs.YtmghlaajocgoaaaGreatDoor
set_option linter.unusedSimpArgs false
set_option linter.unusedVariables false
open Go.RowKit Go.Maps Go.WideMaps
open Go.Lib hiding intOf

set_option maxRecDepth 100000 in
set_option maxHeartbeats 8000000 in
theorem jsonNests_any (s : ByteArray) (w : World) (hs : s.size ≤ 140737488351232) (hV : SVar w) (hT : Tabs w) :
    Calls Tryz.prog 6 #[.string s] w fun e w' => e = .returned (.bool true) ∧ Below w.heap.size w w' := by
  have C0 := Lib.hid (fun w hV hT => jsmall_any w hV hT)
  obtain ⟨l, rfl⟩ : ∃ l, s = bs l := ⟨s.data.toList, (bs_of s).symm⟩
  have sl := bs_size l
  rw [sl] at hs
  have HV := Lib.hid hV
  have HT := Lib.hid hT
  clear hV hT
  by_cases hbig : 2048 < l.length
  · have dB : decide ((2048 : Int) < (l.length : Int)) = true := decide_eq_true (by omega)
    go_enter Tryz.func6, Tryz.ntmps6
    go_wp2_with fail
    with_reducible refine (C0.out _ HV.out HT.out).mono ?_
    rintro e w1 ⟨rfl, hb⟩
    have HB1 := Lib.hid hb; clear hb
    go_wp2_with fail
    go_ret
    exact ⟨rfl, HB1.out⟩
  have dB : decide ((2048 : Int) < (l.length : Int)) = false := decide_eq_false (by omega)
  have hla : (arrT l).length ≤ 2054 := by simp [arrT]; omega
  have hlb : (objT l).length ≤ 2054 := by simp [objT]; omega
  have exa : (⟨#[91]⟩ ++ bs l ++ ⟨#[93]⟩ : ByteArray) = bs (arrT l) := by
    have e : (⟨#[91]⟩ : ByteArray) = bs [91] := rfl
    have e2 : (⟨#[93]⟩ : ByteArray) = bs [93] := rfl
    rw [e, e2, bs_append, bs_append, List.append_assoc]; rfl
  have exb : (⟨#[123, 34, 97, 34, 58]⟩ ++ bs l ++ ⟨#[125]⟩ : ByteArray) = bs (objT l) := by
    have e : (⟨#[123, 34, 97, 34, 58]⟩ : ByteArray) = bs [123, 34, 97, 34, 58] := rfl
    have e2 : (⟨#[125]⟩ : ByteArray) = bs [125] := rfl
    rw [e, e2, bs_append, bs_append, List.append_assoc]; rfl
  have hN := parse_few l
  have hNa := parse_few (arrT l)
  have hNb := parse_few (objT l)
  have hP := fun (ns : List NodeD) (n : Int) => nests l (by omega) ns n
  obtain ⟨R, hR⟩ : ∃ R, parseJ l = R := ⟨_, rfl⟩
  obtain ⟨RA, hRA⟩ : ∃ R, parseJ (arrT l) = R := ⟨_, rfl⟩
  obtain ⟨RB, hRB⟩ : ∃ R, parseJ (objT l) = R := ⟨_, rfl⟩
  have CP := Lib.hid (fun w hV hT => parse_read l R hR w (by omega) hV hT)
  have CA := Lib.hid (fun w hV hT => parse_read (arrT l) RA hRA w (by omega) hV hT)
  have CB := Lib.hid (fun w hV hT => parse_read (objT l) RB hRB w (by omega) hV hT)
  rw [hR, hRA, hRB] at hP
  rw [hR] at hN
  rw [hRA] at hNa
  rw [hRB] at hNb
  clear hR hRA hRB
  obtain ⟨nodes, n, er⟩ := R
  obtain ⟨nsa, na, ea⟩ := RA
  obtain ⟨nsb, nb, eb⟩ := RB
  simp only [] at hN hNa hNb
  have HP := Lib.hid hP
  clear hP
  obtain ⟨ta, hta⟩ : ∃ t, bs (arrT l) = t := ⟨_, rfl⟩
  obtain ⟨tb, htb⟩ : ∃ t, bs (objT l) = t := ⟨_, rfl⟩
  rw [hta] at exa CA
  rw [htb] at exb CB
  have s1 : (⟨#[91]⟩ : ByteArray).size = 1 := rfl
  have s2 : (⟨#[93]⟩ : ByteArray).size = 1 := rfl
  have s3 : (⟨#[123, 34, 97, 34, 58]⟩ : ByteArray).size = 5 := rfl
  have s4 : (⟨#[125]⟩ : ByteArray).size = 1 := rfl
  clear hla hlb
  go_enter Tryz.func6, Tryz.ntmps6
  go_wp2_with fail
  with_reducible refine (C0.out _ HV.out HT.out).mono ?_
  rintro e w1 ⟨rfl, hb⟩
  have HB1 := Lib.hid hb
  have HV1 := Lib.hid (HV.out.keep hb)
  have HT1 := Lib.hid (HT.out.keep hb)
  clear hb HV HT C0
  go_wp2_with fail
  with_reducible refine (CP.out _ HV1.out HT1.out).mono ?_
  rintro e w2 ⟨p, c, rfl, hn, hb⟩
  dsimp only at hn ⊢
  have HB2 := Lib.hid (below_of_new HB1.out hb)
  have HN2 := Lib.hid hn
  have HV2 := Lib.hid (HV1.out.keep hb)
  have HT2 := Lib.hid (HT1.out.keep hb)
  clear hb hn HB1 HV1 HT1 CP
  obtain ⟨txt, htx⟩ : ∃ t, bs (docT l nodes) = t := ⟨_, rfl⟩
  rw [htx]
  clear htx
  go_upto_region 5 with fail
  have b3 := below_alloc1 w2 (.cells #[.string txt, .slice p nodes.length c] 25)
  have HD3 : Hid (DocC (w2.alloc (.cells #[.string txt, .slice p nodes.length c] 25)) w2.heap.size txt p nodes.length c) := Lib.hid (DocC.new w2 txt p nodes.length c)
  obtain ⟨D, hD⟩ : ∃ D, w2.heap.size = D := ⟨_, rfl⟩
  obtain ⟨W3, hW3⟩ : ∃ W, w2.alloc (.cells #[.string txt, .slice p nodes.length c] 25) = W := ⟨_, rfl⟩
  rw [hW3] at b3 HD3
  rw [hW3]
  rw [hD] at HD3
  rw [hD]
  have HB3 := Lib.hid (below_of_new HB2.out b3)
  have HN3 := Lib.hid (HN2.out.keep b3)
  have HV3 := Lib.hid (HV2.out.keep b3)
  have HT3 := Lib.hid (HT2.out.keep b3)
  clear b3 HN2 HB2 HV2 HT2 hW3 hD
  go_wp2_with fail
  with_reducible refine (CA.out _ HV3.out HT3.out).mono ?_
  rintro e w4 ⟨pa, ca, rfl, hn, hb⟩
  dsimp only at hn ⊢
  have HB4 := Lib.hid (below_of_new HB3.out hb)
  have HNa := Lib.hid hn
  have HN4 := Lib.hid (HN3.out.keep hb)
  have HD4 := Lib.hid (HD3.out.keep hb)
  have HV4 := Lib.hid (HV3.out.keep hb)
  have HT4 := Lib.hid (HT3.out.keep hb)
  clear hb hn HB3 HV3 HT3 CA HN3 HD3
  obtain ⟨xta, hxta⟩ : ∃ t, bs (docT (arrT l) nsa) = t := ⟨_, rfl⟩
  rw [hxta]
  clear hxta
  go_upto_region 6 with fail
  have b5 := below_alloc1 w4 (.cells #[.string xta, .slice pa nsa.length ca] 25)
  have HDa5 : Hid (DocC (w4.alloc (.cells #[.string xta, .slice pa nsa.length ca] 25)) w4.heap.size xta pa nsa.length ca) := Lib.hid (DocC.new w4 xta pa nsa.length ca)
  obtain ⟨Da, hDa⟩ : ∃ D, w4.heap.size = D := ⟨_, rfl⟩
  obtain ⟨W5, hW5⟩ : ∃ W, w4.alloc (.cells #[.string xta, .slice pa nsa.length ca] 25) = W := ⟨_, rfl⟩
  rw [hW5] at b5 HDa5
  rw [hW5]
  rw [hDa] at HDa5
  rw [hDa]
  have HB5 := Lib.hid (below_of_new HB4.out b5)
  have HNa5 := Lib.hid (HNa.out.keep b5)
  have HN5 := Lib.hid (HN4.out.keep b5)
  have HD5 := Lib.hid (HD4.out.keep b5)
  have HV5 := Lib.hid (HV4.out.keep b5)
  have HT5 := Lib.hid (HT4.out.keep b5)
  clear b5 HNa HN4 HD4 HB4 HV4 HT4 hW5 hDa
  go_wp2_with fail
  with_reducible refine (CB.out _ HV5.out HT5.out).mono ?_
  rintro e w6 ⟨pb, cb, rfl, hn, hb⟩
  dsimp only at hn ⊢
  have HB6 := Lib.hid (below_of_new HB5.out hb)
  have HNb := Lib.hid hn
  have HNa6 := Lib.hid (HNa5.out.keep hb)
  have HN6 := Lib.hid (HN5.out.keep hb)
  have HD6 := Lib.hid (HD5.out.keep hb)
  have HDa6 := Lib.hid (HDa5.out.keep hb)
  clear hb hn HB5 HV5 HT5 CB HN5 HD5 HNa5 HDa5
  obtain ⟨xtb, hxtb⟩ : ∃ t, bs (docT (objT l) nsb) = t := ⟨_, rfl⟩
  rw [hxtb]
  clear hxtb
  go_upto_region 7 with fail
  have b7 := below_alloc1 w6 (.cells #[.string xtb, .slice pb nsb.length cb] 25)
  have HDb7 : Hid (DocC (w6.alloc (.cells #[.string xtb, .slice pb nsb.length cb] 25)) w6.heap.size xtb pb nsb.length cb) := Lib.hid (DocC.new w6 xtb pb nsb.length cb)
  obtain ⟨Db, hDb⟩ : ∃ D, w6.heap.size = D := ⟨_, rfl⟩
  obtain ⟨W7, hW7⟩ : ∃ W, w6.alloc (.cells #[.string xtb, .slice pb nsb.length cb] 25) = W := ⟨_, rfl⟩
  rw [hW7] at b7 HDb7
  rw [hW7]
  rw [hDb] at HDb7
  rw [hDb]
  have HB7 := Lib.hid (below_of_new HB6.out b7)
  have HNb7 := Lib.hid (HNb.out.keep b7)
  have HNa7 := Lib.hid (HNa6.out.keep b7)
  have HN7 := Lib.hid (HN6.out.keep b7)
  have HD7 := Lib.hid (HD6.out.keep b7)
  have HDa7 := Lib.hid (HDa6.out.keep b7)
  clear b7 HNa6 HN6 HD6 HB6 HNb HDa6 hW7 hDb exa exb
  by_cases he : er = 0
  case neg =>
    have dE : (er != 0) = true := bne_iff_ne.2 he
    go_wp2_with fail
    go_ret
    exact ⟨rfl, HB7.out⟩
  subst he
  rcases HP.out nodes n rfl with ⟨x, mc, xb, mb, nc, nb', e1, hk5, e2, hk6, ra, rb, hs⟩ | ⟨q, q', e1, hq, e2, hq'⟩
  case inr =>
    cases e1
    cases e2
    have dq : decide ((1 : Int) ≤ na) = true := decide_eq_true (by omega)
    have dq' : decide ((5 : Int) ≤ nb) = true := decide_eq_true (by omega)
    clear HP
    go_wp2_with fail
    go_ret
    exact ⟨rfl, HB7.out⟩
  cases e1
  cases e2
  have HRA := Lib.hid ra
  have HRB := Lib.hid rb
  have HS := Lib.hid hs
  have la := ra.len
  have lb := rb.len
  have HLa := Lib.hid la
  have HLb := Lib.hid lb
  clear ra rb hs HP
  obtain ⟨ga, rfl, kva, pva, a0, a1, a2, a3, a4, a5, a6, _, _⟩ := HNa7.out 0 x rfl
  obtain ⟨gb, rfl, kvb, pvb, b0, b1, b2, b3, b4, b5, b6, _, _⟩ := HNb7.out 0 xb rfl
  rw [hk5] at a0
  rw [hk6] at b0
  obtain ⟨y0, y1⟩ := cells_at2 HD7.out
  obtain ⟨z0, z1⟩ := cells_at2 HDa7.out
  obtain ⟨v0, v1⟩ := cells_at2 HDb7.out
  simp only [Nat.zero_mul, Nat.zero_add] at a0 b0
  simp only [List.length_cons] at z1 v1 hNa hNb
  rw [← la] at z1 hNa
  rw [← lb] at v1 hNb
  clear la lb
  clear a1 a2 a3 a4 a5 a6 b1 b2 b3 b4 b5 b6
  go_wp2_with fail
  go_loopw [13] (fun s13 wr => ∃ (k : Nat), s13 = .int .i64 (k : Int) ∧ k ≤ nodes.length ∧ Hid (Below W7.heap.size W7 wr)) (fun s13 _ => nodes.length - (RowKit.intOf s13).toNat)
  case atStart => exact ⟨0, rfl, by omega, Lib.hid (Below.refl _ _)⟩
  case round =>
    obtain ⟨k, rfl, hk, HBr⟩ := hrel
    have y1 := (cells_at2 (HD7.out.keep HBr.out)).2
    have z1 := (cells_at2 (HDa7.out.keep HBr.out)).2
    have v1 := (cells_at2 (HDb7.out.keep HBr.out)).2
    simp only [List.length_cons] at z1 v1
    rw [← HLa.out] at z1
    rw [← HLb.out] at v1
    by_cases hkl : k < nodes.length
    · obtain ⟨y, hy⟩ : ∃ x, nodes[k]? = some x := ⟨_, List.getElem?_eq_getElem hkl⟩
      obtain ⟨ya, hya, ra⟩ := HRA.out.at k y hy
      obtain ⟨yb, hyb, rb⟩ := HRB.out.at k y hy
      have hys := HS.out y (List.mem_of_getElem? hy)
      have hk0 : (0 : Int) ≤ (k : Int) := by omega
      have hk1 : (k : Int) < (nodes.length : Int) := by omega
      have dk : decide ((k : Int) < (nodes.length : Int)) = true := decide_eq_true hk1
      obtain ⟨k1, hk1e⟩ : ∃ k1, k + 1 = k1 := ⟨_, rfl⟩
      have hk1z : (k : Int) + 1 = (k1 : Int) := by omega
      have hk10 : (0 : Int) ≤ (k1 : Int) := by omega
      have hk11 : (k1 : Int) < (nodes.length : Int) + 1 := by omega
      have hkk : k1 ≤ nodes.length := by omega
      obtain ⟨g, rfl, kv, pv, n0, n1, n2, n3, n4, n5, n6, ⟨pk, ck, rfl, _⟩, ⟨pp, cp, rfl, _⟩⟩ := HN7.out.keep HBr.out k y hy
      obtain ⟨ga', ea, kva, pva, a0, a1, a2, a3, a4, a5, a6, ⟨pka, cka, rfl, _⟩, ⟨ppa, cpa, rfl, _⟩⟩ := HNa7.out.keep HBr.out (k + 1) ya (by simpa using hya)
      obtain ⟨gb', eb, kvb, pvb, b0, b1, b2, b3, b4, b5, b6, ⟨pkb, ckb, rfl, _⟩, ⟨ppb, cpb, rfl, _⟩⟩ := HNb7.out.keep HBr.out (k + 1) yb (by simpa using hyb)
      obtain rfl : ga = ga' := by injection ea with ea; injection ea
      obtain rfl : gb = gb' := by injection eb with eb; injection eb
      have ka := congrArg List.length ra.kids
      simp only [List.length_map] at ka
      have sa := ra.sf
      have sb := rb.sf
      have ea1 : (ya.sf : Int) = (y.sf : Int) + 1 := by omega
      have eb1 : (yb.sf : Int) = (y.sf : Int) + 5 := by omega
      have hsb : (y.sf : Int) ≤ 2048 := by omega
      have hs0 : (0 : Int) ≤ (y.sf : Int) := by omega
      rw [ra.kind] at a0
      rw [ea1] at a1
      rw [eb1] at b1
      rw [← ka] at a5
      rw [hk1e] at a0 a1 a2 a3 a4 a5 a6 b0 b1 b2 b3 b4 b5 b6
      have HB6 : Hid (Below W7.heap.size W7 wr.drew) := Lib.hid HBr.out.drew
      clear ea eb ea1 eb1 sa sb ka ra rb hy hya hyb hys
      as_aux_lemma =>
        go_upto_region 16 with fail
        dsimp only [List.append_eq, List.cons_append, List.nil_append]
        go_region
        all_goals
          go_wp2_with fail
          go_roundw
          · exact ⟨k1, by rw [← hk1z], hkk, HB6⟩
          · (try simp only [RowKit.intOf]); omega
    · obtain rfl : k = nodes.length := by omega
      have dk : decide ((nodes.length : Int) < (nodes.length : Int)) = false := decide_eq_false (by omega)
      have HB8 := Lib.hid (below_of_new HB7.out HBr.out)
      go_wp2_with fail
      go_ret
      exact ⟨rfl, HB8.out⟩
end Go.Proofs.YtmghlaajocgoaaaGreatDoor

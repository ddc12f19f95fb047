import Derived.Test.YtmghlaajocgoaaaGreatDoorJsP
import Derived.Test.YtmghlaajocgoaaaGreatDoorJsT
/-! The walk of JsonSpaces. -/
namespace Go.Proofs.YtmghlaajocgoaaaGreatDoor
set_option linter.unusedSimpArgs false
set_option linter.unusedVariables false
set_option linter.unnecessarySimpa false
open Go.RowKit Go.Maps Go.WideMaps
open Go.Lib hiding intOf

theorem parse_all (s : List UInt8) (ns : List NodeD) (n : Int) (h : parseJ s = (ns, n, 0)) : AllS s.length ns := by
  obtain ⟨_, T, l, ns', hT, hv, hp⟩ := parse_ok (s := s) (by rw [h])
  rw [h] at hp
  injection hp with e1 e2
  subst e1
  obtain ⟨_, _, f3⟩ := few_nodes hT hv
  exact value_begin s.length s 32 _ _ _ _ _ _ _ hv (fun t ht => by have := f3 t ht; omega) (fun y hy => by cases hy)
def blankL : List UInt8 := [32, 10, 9, 13, 32, 10, 9, 13, 32, 10, 9, 13, 32, 10, 9, 13]
theorem bl_take (k : Nat) : Bl (blankL.take k) := fun c hc => by
  have h : ∀ c ∈ blankL, isBlank c = true := by decide
  exact h c (List.mem_of_mem_take hc)
theorem cells_of2 {w : World} {X : Nat} {u v : Value} {t : TypeId} (h : w.heap[X]? = some (.cells #[u, v] t)) : w.cell? ⟨X, 0, none⟩ = some u ∧ w.cell? ⟨X, 1, none⟩ = some v ∧ w.frozen? ⟨X, 0, none⟩ = false ∧ w.frozen? ⟨X, 1, none⟩ = false := by
  refine ⟨?_, ?_, ?_, ?_⟩ <;> simp [World.cell?, World.frozen?, h]
theorem new_drew {W w' : World} {o : Obj} (h : Below (W.alloc o).drew.heap.size (W.alloc o).drew w') : w'.heap[W.heap.size]? = some o :=
  (h.block _ (by simp)).trans (heap_alloc_new W o)
theorem int_off {w : World} {X : Nat} {a : ByteArray} {p : Option Addr} {n c : Nat} {t : TypeId} (hX : w.heap[X]? = some (.cells #[.string a, .slice p n c] t)) {g o : Nat} {y : Value} (h : w.cell? ⟨g, o, none⟩ = some y) (hy : 2 ≤ o ∨ ∃ z, y = .int .i64 z) : g ≠ X := by
  rintro rfl
  rcases hy with ho | ⟨z, rfl⟩
  · have : (#[Value.string a, .slice p n c] : Array Value)[o]? = some y := by simpa [World.cell?, hX] using h
    rw [Array.getElem?_eq_none (by simpa using ho)] at this
    cases this
  · obtain ⟨x0, x1, _⟩ := cells_of2 hX
    match o with
    | 0 => rw [x0] at h; cases h
    | 1 => rw [x1] at h; cases h
    | o + 2 =>
      simp [World.cell?, hX] at h
theorem heap_set_ne (w : World) (X i : Nat) (u : Value) (g : Nat) (h : g ≠ X) : (w.setCell ⟨X, i, none⟩ u).heap[g]? = w.heap[g]? := Below.heap_setCell w ⟨X, i, none⟩ u g h
theorem NodesR.set2 {w : World} {X : Nat} {a : ByteArray} {p : Option Addr} {n c : Nat} {t : TypeId} (hX : w.heap[X]? = some (.cells #[.string a, .slice p n c] t)) {q : Option Addr} {nodes : List NodeD} (h : NodesR w q nodes) (u v : Value) : NodesR ((w.setCell ⟨X, 0, none⟩ u).setCell ⟨X, 1, none⟩ v) q nodes := by
  have key : ∀ {g o : Nat} {y : Value}, w.cell? ⟨g, o, none⟩ = some y → (2 ≤ o ∨ ∃ z, y = .int .i64 z) → ((w.setCell ⟨X, 0, none⟩ u).setCell ⟨X, 1, none⟩ v).cell? ⟨g, o, none⟩ = some y := fun {g o y} h hy => by
    have hg := int_off hX h hy
    rw [cell_same (w' := (w.setCell ⟨X, 0, none⟩ u).setCell ⟨X, 1, none⟩ v) (w := w) (by rw [heap_set_ne _ _ _ _ _ hg, heap_set_ne _ _ _ _ _ hg])]
    exact h
  intro i x hx
  obtain ⟨g, e, kv, pv, h0, h1, h2, h3, h4, h5, h6, ⟨pk, ck, h7, h8⟩, ⟨pp, cp, h9, h10⟩⟩ := h i x hx
  refine ⟨g, e, kv, pv, key h0 (.inr ⟨_, rfl⟩), key h1 (.inr ⟨_, rfl⟩), key h2 (.inr ⟨_, rfl⟩), key h3 (.inr ⟨_, rfl⟩), key h4 (.inr ⟨_, rfl⟩), key h5 (.inl (by omega)), key h6 (.inl (by omega)), ⟨pk, ck, h7, fun j k hj => ?_⟩, ⟨pp, cp, h9, fun j k hj => ?_⟩⟩
  · obtain ⟨g, e, hc⟩ := h8 j k hj
    exact ⟨g, e, key hc (.inr ⟨_, rfl⟩)⟩
  · obtain ⟨g, e, hc, hd⟩ := h10 j k hj
    exact ⟨g, e, key hc (.inr ⟨_, rfl⟩), key hd (.inr ⟨_, rfl⟩)⟩
theorem doc_set {w : World} {X : Nat} {a : ByteArray} {p : Option Addr} {n c : Nat} (hX : w.heap[X]? = some (.cells #[.string a, .slice p n c] 25)) (txt : ByteArray) (q : Option Addr) (m d : Nat) : DocC ((w.setCell ⟨X, 0, none⟩ (.string txt)).setCell ⟨X, 1, none⟩ (.slice q m d)) X txt q m d := by
  unfold DocC
  have h1 := box_set hX 0 (.string txt)
  exact box_set h1 1 (.slice q m d)
def SpQ (W w' : World) : Prop := Below W.heap.size W w'
theorem SpQ.al {W w' : World} (h : SpQ W w') (o : Obj) : SpS W (w'.alloc o) := Lib.hid (Below.alloc h h.size o)
theorem SpS.alloc {W w' : World} (h : SpS W w') (o : Obj) : SpS W (w'.alloc o) := Lib.hid (h.out.alloc h.out.size o)
theorem SpS.set {W w1 w' : World} (h : SpS W w') (h1 : SpS W w1) (i : Nat) (v : Value) : SpS W (w'.setCell ⟨w1.heap.size, i, none⟩ v) := Lib.hid (h.out.setCell h1.out.size v)
set_option maxRecDepth 100000 in
set_option maxHeartbeats 8000000 in
theorem jsonSpaces_any (s : ByteArray) (fr bk : Int) (w : World) (hs : s.size ≤ 140737488351232) (hV : SVar w) (hT : Tabs w) :
    Calls Tryz.prog 5 #[.string s, .int .i64 fr, .int .i64 bk] w fun e w' => e = .returned (.bool true) ∧ Below w.heap.size w w' := by
  have C0 := Lib.hid (fun w hV hT => jsmall_any w hV hT)
  obtain ⟨l, rfl⟩ : ∃ l, s = bs l := ⟨s.data.toList, (bs_of s).symm⟩
  have sl := bs_size l
  rw [sl] at hs
  have HV := Lib.hid hV
  have HT := Lib.hid hT
  clear hV hT
  obtain ⟨A, hA⟩ : ∃ A : Nat, (A : Int) = bits .and .i64 fr 15 := ⟨(fr % 16).toNat, by rw [and15_i64]; omega⟩
  obtain ⟨B, hB⟩ : ∃ B : Nat, (B : Int) = bits .and .i64 bk 15 := ⟨(bk % 16).toNat, by rw [and15_i64]; omega⟩
  have hA1 : A ≤ 15 := by rw [and15_i64] at hA; omega
  have hB1 : B ≤ 15 := by rw [and15_i64] at hB; omega
  have hA2 := hA.symm
  have hB2 := hB.symm
  clear hA hB
  have hN := parse_few l
  obtain ⟨R, hR⟩ : ∃ R, parseJ l = R := ⟨_, rfl⟩
  have CP := Lib.hid (fun w hV hT => parse_read l R hR w (by omega) hV hT)
  by_cases hbig : 4096 < l.length
  · have dB : decide ((4096 : Int) < (l.length : Int)) = true := decide_eq_true (by omega)
    obtain ⟨nodes, n, er⟩ := R
    clear hR hN
    go_enter Tryz.func5, Tryz.ntmps5
    go_wp2_with fail
    with_reducible refine (C0.out _ HV.out HT.out).mono ?_
    rintro e w1 ⟨rfl, hb⟩
    have HB1 := Lib.hid hb
    have HV1 := Lib.hid (HV.out.keep hb)
    have HT1 := Lib.hid (HT.out.keep hb)
    clear hb HV HT
    go_wp2_with fail
    with_reducible refine (CP.out _ HV1.out HT1.out).mono ?_
    rintro e w2 ⟨p, c, rfl, hn, hb⟩
    dsimp only at hn ⊢
    have HB2 := Lib.hid (below_of_new HB1.out hb)
    clear hb hn
    go_wp2_with fail
    go_ret
    exact ⟨rfl, HB2.out.alloc HB2.out.size _⟩
  have dB : decide ((4096 : Int) < (l.length : Int)) = false := decide_eq_false (by omega)
  obtain ⟨P, hP⟩ : ∃ P, blankL.take A = P := ⟨_, rfl⟩
  obtain ⟨Q, hQ⟩ : ∃ Q, blankL.take B = Q := ⟨_, rfl⟩
  have hPb : Bl P := by rw [← hP]; exact bl_take A
  have hQb : Bl Q := by rw [← hQ]; exact bl_take B
  have hPl : P.length = A := by rw [← hP, List.length_take]; simp [blankL]; omega
  have hQl : Q.length = B := by rw [← hQ, List.length_take]; simp [blankL]; omega
  obtain ⟨RA, hRA⟩ : ∃ R, parseJ (P ++ (l ++ Q)) = R := ⟨_, rfl⟩
  obtain ⟨RB, hRB⟩ : ∃ R, parseJ (l ++ [44]) = R := ⟨_, rfl⟩
  have hlen : (P ++ (l ++ Q)).length = A + B + l.length := by simp only [List.length_append]; omega
  have CA := Lib.hid (fun w hV hT => parse_read (P ++ (l ++ Q)) RA hRA w (by omega) hV hT)
  have CB := Lib.hid (fun w hV hT => parse_read (l ++ [44]) RB hRB w (by simp; omega) hV hT)
  have hS1 := fun (ns : List NodeD) (n : Int) => spaces_ok P Q l hPb hQb (by omega) (by omega) ns n
  have hS2 := fun (h : (parseJ l).2.2 ≠ 0) => spaces_bad P Q l hPb hQb (by omega) h
  have hS4 := fun (ns : List NodeD) (n : Int) => parse_all l ns n
  rw [hR] at hS4
  have hS3 := fun (ns : List NodeD) (n : Int) => comma_bad l (by omega) ns n
  rw [hR, hRA, hlen, hPl] at hS1
  rw [hR, hRA] at hS2
  rw [hR, hRB] at hS3
  rw [hR] at hN
  have hNa := parse_few (P ++ (l ++ Q))
  rw [hRA] at hNa
  have exb : (bs l ++ ⟨#[44]⟩ : ByteArray) = bs (l ++ [44]) := by
    have e2 : (⟨#[44]⟩ : ByteArray) = bs [44] := rfl
    rw [e2, bs_append]
  have exa : ((⟨#[32, 10, 9, 13, 32, 10, 9, 13, 32, 10, 9, 13, 32, 10, 9, 13]⟩ : ByteArray).extract 0 A ++ bs l ++ (⟨#[32, 10, 9, 13, 32, 10, 9, 13, 32, 10, 9, 13, 32, 10, 9, 13]⟩ : ByteArray).extract 0 B) = bs (P ++ (l ++ Q)) := by
    have e : (⟨#[32, 10, 9, 13, 32, 10, 9, 13, 32, 10, 9, 13, 32, 10, 9, 13]⟩ : ByteArray) = bs blankL := rfl
    have hx : ∀ k, (bs blankL).extract 0 k = bs (blankL.take k) := fun k => by rw [bs_extract, bs_data]; rfl
    rw [e, hx, hx, hP, hQ, bs_append, bs_append, List.append_assoc]
  have z1 : ((⟨#[32, 10, 9, 13, 32, 10, 9, 13, 32, 10, 9, 13, 32, 10, 9, 13]⟩ : ByteArray).extract 0 A).size = A := by rw [ByteArray.size_extract]; show min A 16 - 0 = A; omega
  have z2 : ((⟨#[32, 10, 9, 13, 32, 10, 9, 13, 32, 10, 9, 13, 32, 10, 9, 13]⟩ : ByteArray).extract 0 B).size = B := by rw [ByteArray.size_extract]; show min B 16 - 0 = B; omega
  have z3 : ¬ 9223372036854775807 < A + l.length := by omega
  have z4 : ¬ 9223372036854775807 < A + l.length + B := by omega
  have zA : (A : Int) ≤ 16 := by omega
  have zB : (B : Int) ≤ 16 := by omega
  clear hR hRA hRB hP hQ hPb hQb hPl hQl hlen
  obtain ⟨nodes, n, er⟩ := R
  obtain ⟨nsa, na, ea⟩ := RA
  obtain ⟨nsb, nb, eb⟩ := RB
  simp only [] at hN hNa
  have HS1 := Lib.hid hS1
  have HS2 := Lib.hid hS2
  have HS3 := Lib.hid hS3
  have HS4 := Lib.hid hS4
  clear hS1 hS2 hS3 hS4
  obtain ⟨ta, hta⟩ : ∃ t, bs (P ++ (l ++ Q)) = t := ⟨_, rfl⟩
  obtain ⟨tb, htb⟩ : ∃ t, bs (l ++ [44]) = t := ⟨_, rfl⟩
  rw [hta] at exa CA
  rw [htb] at exb CB
  clear hta htb
  go_enter Tryz.func5, Tryz.ntmps5
  go_wp2_with fail
  with_reducible refine (C0.out _ HV.out HT.out).mono ?_
  rintro e w1 ⟨rfl, hb⟩
  have HB1 := Lib.hid hb
  have HV1 := Lib.hid (HV.out.keep hb)
  have HT1 := Lib.hid (HT.out.keep hb)
  clear hb HV HT C0
  go_wp2_with fail
  with_reducible refine (CP.out _ HV1.out HT1.out).mono ?_
  rintro e w2 ⟨p, c, rfl, hn, hb⟩
  dsimp only at hn ⊢
  have HB2 := Lib.hid (below_of_new HB1.out hb)
  have HN2 := Lib.hid hn
  have HV2 := Lib.hid (HV1.out.keep hb)
  have HT2 := Lib.hid (HT1.out.keep hb)
  clear hb hn HB1 HV1 HT1 CP
  obtain ⟨txt, htx⟩ : ∃ t, bs (docT l nodes) = t := ⟨_, rfl⟩
  rw [htx]
  clear htx
  go_upto_region 8 with fail
  have b3 := below_alloc1 w2 (.cells #[.string txt, .slice p nodes.length c] 25)
  have HD3 : Hid (DocC (w2.alloc (.cells #[.string txt, .slice p nodes.length c] 25)) w2.heap.size txt p nodes.length c) := Lib.hid (DocC.new w2 txt p nodes.length c)
  obtain ⟨D, hD⟩ : ∃ D, w2.heap.size = D := ⟨_, rfl⟩
  obtain ⟨W3, hW3⟩ : ∃ W, w2.alloc (.cells #[.string txt, .slice p nodes.length c] 25) = W := ⟨_, rfl⟩
  rw [hW3] at b3 HD3
  rw [hW3]
  rw [hD] at HD3
  rw [hD]
  have HB3 := Lib.hid (below_of_new HB2.out b3)
  have HN3 := Lib.hid (HN2.out.keep b3)
  have HV3 := Lib.hid (HV2.out.keep b3)
  have HT3 := Lib.hid (HT2.out.keep b3)
  clear b3 HN2 HB2 HV2 HT2 hW3 hD
  obtain ⟨xta, hxta⟩ : ∃ t, bs (docT (P ++ (l ++ Q)) nsa) = t := ⟨_, rfl⟩
  have HX := Lib.hid hxta
  clear hxta
  go_cut [14, 15, 16, 35, 45, 46, 47, 48] (fun s14 s15 s16 s35 s45 s46 s47 s48 wx => ∃ Da pa ca, s14 = .pointer (some ⟨Da, 0, none⟩) ∧ s15 = .int .i64 na ∧ s16 = .int .i64 ea ∧ Hid (DocC wx Da xta pa nsa.length ca) ∧ Hid (NodesR wx pa nsa) ∧ Hid (SpQ W3 wx))
  case first =>
    go_region_with (go_at_call 11; first
      | (with_reducible refine (CA.out _ (HV3.out.keep (Below.refl _ _).drew) (HT3.out.keep (Below.refl _ _).drew)).mono ?_
         rintro e w6 ⟨pa, ca, rfl, hna, hb6⟩
         have hq6 : SpQ W3 w6 := below_of_new (Below.refl _ _).drew hb6)
      | (with_reducible refine (CA.out _ (HV3.out.keep ((Below.refl _ _).alloc (Nat.le_refl _) _).drew) (HT3.out.keep ((Below.refl _ _).alloc (Nat.le_refl _) _).drew)).mono ?_
         rintro e w6 ⟨pa, ca, rfl, hna, hb6⟩
         have hq6 : SpQ W3 w6 := below_of_new ((Below.refl _ _).alloc (Nat.le_refl _) _).drew hb6
         obtain ⟨x0, x1, f0, f1⟩ := cells_of2 (new_drew hb6)))
    all_goals
      have HX2 := HX.out
      try dsimp only at hna
      rw [HX2]
      go_wp2_with fail
      go_meet
      first
        | exact ⟨_, pa, ca, rfl, rfl, rfl, Lib.hid (DocC.new w6 xta pa nsa.length ca), Lib.hid (hna.keepA _), Lib.hid (Below.alloc hq6 hq6.size _)⟩
        | exact ⟨_, pa, ca, rfl, rfl, rfl, Lib.hid (doc_set (new_drew hb6) _ _ _ _), Lib.hid (hna.set2 (new_drew hb6) _ _), Lib.hid ((Below.setCell hq6 (Nat.le_refl _) _).setCell (Nat.le_refl _) _)⟩
  obtain ⟨Da, pa, ca, rfl, rfl, rfl, HDa, HNa, HQ⟩ := hcut
  have HBc := Lib.hid (below_of_new HB3.out HQ.out)
  have HDc := Lib.hid (HD3.out.keep HQ.out)
  have HNc := Lib.hid (HN3.out.keep HQ.out)
  have HVc := Lib.hid (HV3.out.keep HQ.out)
  have HTc := Lib.hid (HT3.out.keep HQ.out)
  clear HB3 HD3 HN3 HV3 HT3 HQ HX CA exa z1 z2 z3 z4
  by_cases he : er = 0
  case neg =>
    have dE : (er != 0) = true := bne_iff_ne.2 he
    have dA : (ea != 0) = true := bne_iff_ne.2 (HS2.out he)
    clear he
    go_wp2_with fail
    go_ret
    exact ⟨rfl, HBc.out⟩
  subst he
  obtain ⟨ns', e1, hr, hl⟩ := HS1.out nodes n rfl
  obtain ⟨q, e2⟩ := HS3.out nodes n rfl
  have hall := HS4.out nodes n rfl
  cases e1
  cases e2
  obtain ⟨x, hx⟩ : ∃ x, nodes[0]? = some x := ⟨_, List.getElem?_eq_getElem (by omega)⟩
  obtain ⟨x', hx', rx⟩ := hr.at 0 x hx
  have hxs := hall x (List.mem_of_getElem? hx)
  have hsf := rx.sf
  have hla := hr.len
  have HX := Lib.hid (And.intro hx hx')
  have HLa := Lib.hid hla
  have dN : decide ((0 : Int) < (nodes.length : Int)) = true := decide_eq_true (by omega)
  have hN0 : (0 : Int) < (nodes.length : Int) := by omega
  have hN1 : 0 < nodes.length := by omega
  have hN2 : nodes ≠ [] := fun h => by rw [h] at hN1; cases hN1
  have dN1 : decide (0 < nodes.length) = true := decide_eq_true hN1
  have esf : (x'.sf : Int) = (A : Int) + (x.sf : Int) := by omega
  have Hesf := Lib.hid esf
  have hxi : (x.sf : Int) ≤ 4096 := by omega
  have hx0 : (0 : Int) ≤ (x.sf : Int) := by omega
  have ena : ((A + B + l.length : Nat) : Int) = (A : Int) + (B : Int) + (l.length : Int) := by omega
  rw [ena]
  have ez : ¬ 9223372036854775807 < l.length + 1 := by omega
  clear hx hx' rx hr hall hl hsf hla esf ena HS1 HS2 HS3 HS4
  go_wp2_with fail
  with_reducible refine (CB.out _ HVc.out HTc.out).mono ?_
  rintro e w7 ⟨pb, cb, rfl, hnb, hb⟩
  dsimp only [List.length_nil] at hnb ⊢
  obtain ⟨txb, htb⟩ : ∃ t, bs (docT (l ++ [44]) []) = t := ⟨_, rfl⟩
  rw [htb]
  have HB7 := Lib.hid (below_of_new HBc.out hb)
  have HD7 := Lib.hid (HDc.out.keep hb)
  have HN7 := Lib.hid (HNc.out.keep hb)
  have HDa7 := Lib.hid (HDa.out.keep hb)
  have HNa7 := Lib.hid (HNa.out.keep hb)
  clear hnb hb htb HBc HDc HNc HVc HTc CB HDa HNa
  go_upto_region 12 with fail
  have b8 := below_alloc1 w7 (.cells #[.string txb, .slice pb 0 cb] 25)
  obtain ⟨W8, hW8⟩ : ∃ W, w7.alloc (.cells #[.string txb, .slice pb 0 cb] 25) = W := ⟨_, rfl⟩
  rw [hW8] at b8
  rw [hW8]
  have HB8 := Lib.hid (below_of_new HB7.out b8)
  have y1 := (cells_at2 (HD7.out.keep b8)).2
  have z1 := (cells_at2 (HDa7.out.keep b8)).2
  rw [← HLa.out] at z1
  obtain ⟨g, rfl, kv, pv, n0, n1, _⟩ := HN7.out.keep b8 0 x HX.out.1
  obtain ⟨ga, rfl, kva, pva, a0, a1, _⟩ := HNa7.out.keep b8 0 x' HX.out.2
  simp only [Nat.zero_mul, Nat.zero_add] at n1 a1 n0 a0
  rw [Hesf.out] at a1
  have HB9 : Hid (Below w.heap.size w W8.drew) := Lib.hid HB8.out.drew
  clear b8 hW8 n0 a0 HB7 HD7 HN7 HDa7 HNa7
  go_big_region
  all_goals
    go_wp2_with fail
    go_ret
    exact ⟨rfl, HB9.out⟩
end Go.Proofs.YtmghlaajocgoaaaGreatDoor

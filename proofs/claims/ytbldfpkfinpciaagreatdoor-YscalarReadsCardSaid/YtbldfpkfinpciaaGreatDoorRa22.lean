import Derived.Test.YtbldfpkfinpciaaGreatDoorRa21
namespace Go.Proofs.YtbldfpkfinpciaaGreatDoor
set_option linter.unusedSimpArgs false
set_option linter.unusedVariables false
open Go.RowKit
open Go.Lib hiding intOf
theorem resT_bulk (s : Stp) (hs : s.length ≤ 2048) : (resT s).bulk ≤ 1073741824 := by
 have h := resP_len s
 unfold resT
 rw [VT.bulk]
 simp only [totS, bulks, List.map_nil, List.sum_nil, List.length_nil]
 omega
theorem textY_len (t : Stp) (ht : t.length ≤ 2048) : (textY t).1.length ≤ 8188 := by
 unfold textY
 split
 ·unfold singleY
  split
  ·simp
  ·show (sqL t 0).1.length ≤ _
   unfold sqL
   split
   ·simp
   ·split
    ·have := sqGo_len (t.length + 1) (t.drop ((0 : Int).toNat + 1)) ((0 : Int).toNat + 1) []
     rw [List.length_drop] at this
     simp only [List.length_nil] at this
     omega
    ·simp
 ·have := unqL_len2 t
  show (unqL t).1.length ≤ _
  omega
theorem readY_bulk2 (t : Stp) (ht : t.length ≤ 2048) : (readY t).1.bulk ≤ 1073741824 := by
 cases t with
 | nil => exact resT_bulk [] (by decide)
 | cons c r =>
  have h1 := textY_len (c :: r) ht
  unfold readY
  simp only []
  split
  ·split
   ·show zeroT.bulk ≤ _
    decide +kernel
   ·unfold strT
    rw [VT.bulk]
    simp only [totS, bulks, List.map_nil, List.sum_nil, List.length_nil]
    omega
  ·split
   ·exact readY_bulk _ ht resT_bulk
   ·split
    ·exact resT_bulk _ ht
    ·show zeroT.bulk ≤ _
     decide +kernel
theorem str_sameR (x : Stp) : ((bs x).toList == (bs x).toList) = true := by simp
set_option maxRecDepth 100000 in
set_option maxHeartbeats 4000000 in
theorem yscalarReads_of (hCP : ∀ (s : Stp) (w' : World), s.length ≤ 2048 → Calls Tryz.prog 113 #[.string (bs s)] w' (ParseR s (parseJ s) w')) (sb : ByteArray) (w : World) (hV : AVar w) :
  Calls Tryz.prog 9 #[.string sb] w fun e w' => e = .returned (.bool true) ∧ Below w.heap.size w w' := by
 obtain ⟨s, rfl⟩ : ∃ l, sb = bs l := ⟨sb.data.toList, (bs_of sb).symm⟩
 have sl := bs_size s
 have HV := Lib.hid hV
 have C0 := Lib.hid (small11_any w hV)
 clear hV
 by_cases hl : 2048 < s.length
 ·have dk : decide ((2048 : Int) < (s.length : Int)) = true := decide_eq_true (by omega)
  clear hCP
  go_enter Tryz.func9, Tryz.ntmps9
  go_wp2_with fail
  refine C0.out.mono ?_
  rintro e w2 ⟨rfl, hb2⟩
  have HB2 := Lib.hid hb2
  clear hb2
  go_wp2_with fail
  go_ret
  exact ⟨rfl, HB2.out⟩
 have dk : decide ((2048 : Int) < (s.length : Int)) = false := decide_eq_false (by omega)
 have hR11 : ∀ w', Below w.heap.size w w' → Calls Tryz.prog 27 #[.string (bs s)] w' (NewE2 (readY s).1 (readY s).2 w') := fun w' hb => rread11_of s w' (by omega) (HV.out.keep hb) (fun w2 => rread9_of s w2 (by omega) (fun w3 => hCP s w3 (by omega)))
 have CR : Hid (∀ w', Below w.heap.size w w' → Calls Tryz.prog 26 #[.string (bs s)] w' (NewE2 (readY s).1 (readY s).2 w')) := Lib.hid (fun w' hb => yread_any s w' (by omega) (HV.out.keep hb))
 have CR2 := Lib.hid hR11
 have CB : Hid (∀ w', Below w.heap.size w w' → Calls Tryz.prog 31 #[.string (bs s)] w' fun e w2 => e = .returned (.bool (bareB s)) ∧ Below w'.heap.size w' w2) := Lib.hid (fun w' hb => ybare_any s w' (by omega) (HV.out.keep hb).1)
 have CB2 : Hid (∀ w', Calls Tryz.prog 32 #[.string (bs s)] w' fun e w2 => e = .returned (.bool (bareB s)) ∧ Below w'.heap.size w' w2) := Lib.hid (fun w' => rbare_any s w' (by omega))
 have CRes : Hid (∀ w', Below w.heap.size w w' → Calls Tryz.prog 33 #[.string (bs s)] w' fun e w2 => e = ResE s ∧ Below w'.heap.size w' w2) := Lib.hid (fun w' hb => yresolve_any s w' (by omega) (HV.out.keep hb).1)
 have CRes2 : Hid (∀ w', Below w.heap.size w w' → Calls Tryz.prog 34 #[.string (bs s)] w' fun e w2 => e = ResE s ∧ Below w'.heap.size w' w2) := Lib.hid (fun w' hb => rresolve_any s w' (by omega) (HV.out.keep hb).1)
 have CK : Hid (∀ w', Below w.heap.size w w' → Calls Tryz.prog 29 #[.string (bs s)] w' fun e w2 => e = QuotedE (keyRd s) ∧ Below w'.heap.size w' w2) := Lib.hid (fun w' hb => ykey_any s w' (by omega) (HV.out.keep hb))
 have CK2 : Hid (∀ w', Below w.heap.size w w' → Calls Tryz.prog 30 #[.string (bs s)] w' fun e w2 => e = QuotedE (keyRd s) ∧ Below w'.heap.size w' w2) := Lib.hid (fun w' hb => rkey11_of s w' (by omega) (fun w2 hb2 => CR2.out w2 (below_of_new hb hb2)))
 have CE : Hid (∀ (T : VT) (w' : World) (kv iv kv2 iv2 : Value), VD w' T.depth T kv iv → VD w' T.depth T kv2 iv2 → T.bulk ≤ 1073741824 → Calls Tryz.prog 17 #[vv T kv iv, vv T kv2 iv2] w' fun e w2 => e = .returned (.bool true) ∧ Below w'.heap.size w' w2) := Lib.hid (fun T w' kv iv kv2 iv2 h1 h2 hb => requal_any T.depth T _ _ _ _ w' h1 h2 hb)
 have hTb := readY_bulk2 s (by omega)
 obtain ⟨⟨T, E⟩, hT⟩ : ∃ Q, readY s = Q := ⟨_, rfl⟩
 obtain ⟨⟨A3, E3⟩, hA3⟩ : ∃ Q, keyRd s = Q := ⟨_, rfl⟩
 obtain ⟨B, hB⟩ : ∃ B, bareB s = B := ⟨_, rfl⟩
 obtain ⟨⟨rk, rs⟩, hrs⟩ : ∃ Q, resP s = Q := ⟨_, rfl⟩
 have hrl := resP_len s
 unfold ResE at CRes CRes2
 rw [hrs] at CRes CRes2 hrl
 rw [hT] at CR CR2 hTb
 rw [hA3] at CK CK2
 rw [hB] at CB CB2
 unfold QuotedE at CK CK2
 simp only [] at CR CR2 CK CK2 hTb hrl CRes CRes2
 have HTb := Lib.hid hTb
 have sA := str_sameR A3
 have hBB : (B == B) = true := by cases B <;> rfl
 have HLE : Hid (∀ w', Calls Tryz.prog 17 #[.agg #[.int .i64 rk, .string (bs rs), .slice none 0 0, .slice none 0 0], .agg #[.int .i64 rk, .string (bs rs), .slice none 0 0, .slice none 0 0]] w' fun e w2 => e = .returned (.bool true) ∧ Below w'.heap.size w' w2) := Lib.hid (fun w' => CE.out (VT.mk rk rs [] []) w' _ _ _ _ (leafVD w' rk rs) (leafVD w' rk rs) (by
  have e : (VT.mk rk rs [] []).bulk = rs.length + 1 := by rw [VT.bulk]; simp [totS, bulks]
  rw [e]
  omega))
 clear hT hA3 hB hrs hTb hR11 hCP hrl
 go_enter Tryz.func9, Tryz.ntmps9
 go_wp2_with fail
 refine C0.out.mono ?_
 rintro e w2 ⟨rfl, hb2⟩
 have HB2 := Lib.hid hb2
 clear hb2
 go_wp2_with fail
 refine (CR.out _ HB2.out).mono ?_
 rintro e w3 ⟨⟨kv, iv, rfl, hv3⟩, hb3⟩
 obtain ⟨pk, ck, p, c, rfl, rfl⟩ := hv3.form
 have hb30 := below_alloc1 w3 (.cells #[.int .i64 T.kind, .string (bs T.text), .slice pk T.keys.length ck, .slice p T.items.length c] 36)
 have hz0 := VBox.new w3 T (.slice pk T.keys.length ck) (.slice p T.items.length c)
 obtain ⟨w4, hw4⟩ : ∃ W, w3.alloc (.cells #[.int .i64 T.kind, .string (bs T.text), .slice pk T.keys.length ck, .slice p T.items.length c] 36) = W := ⟨_, rfl⟩
 obtain ⟨Z, hZ⟩ : ∃ Z, w3.heap.size = Z := ⟨_, rfl⟩
 have HN4 := Lib.hid (below_of_new hb3 hb30)
 have HV4 := Lib.hid (hv3.keep hb30)
 rw [hw4] at hb30 hz0 HN4 HV4
 rw [hZ] at hz0
 have HZ := Lib.hid hz0
 have HB4 := Lib.hid (below_of_new HB2.out HN4.out)
 unfold vv
 clear hb3 hb30 hz0 hv3
 go_wp2_with fail
 refine (CR2.out _ HB4.out).mono ?_
 rintro e w5 ⟨⟨kv2, iv2, rfl, hv5⟩, hb5⟩
 obtain ⟨pk2, ck2, p2, c2, rfl, rfl⟩ := hv5.form
 have hb50 := below_alloc1 w5 (.cells #[.int .i64 T.kind, .string (bs T.text), .slice pk2 T.keys.length ck2, .slice p2 T.items.length c2] 36)
 have hz0 := VBox.new w5 T (.slice pk2 T.keys.length ck2) (.slice p2 T.items.length c2)
 obtain ⟨w6, hw6⟩ : ∃ W, w5.alloc (.cells #[.int .i64 T.kind, .string (bs T.text), .slice pk2 T.keys.length ck2, .slice p2 T.items.length c2] 36) = W := ⟨_, rfl⟩
 obtain ⟨Z2, hZ2⟩ : ∃ Z, w5.heap.size = Z := ⟨_, rfl⟩
 have hb56 := below_of_new hb5 hb50
 have HV6 := Lib.hid ((hv5.keep hb50).toVD)
 rw [hw6] at hb50 hz0 hb56 HV6
 rw [hZ2] at hz0
 have hzl : Z < w5.heap.size := cell_it (HZ.out.keep hb5)
 have hzz : Z ≠ Z2 := by omega
 have hzz2 : ¬ Z2 = Z := by omega
 have hzz3 : Z < Z2 := by omega
 have HN6 := Lib.hid (below_of_new HN4.out hb56)
 have HVT := Lib.hid (HV4.out.keep hb56)
 have HZA := Lib.hid (HZ.out.keep hb56)
 have HZB := Lib.hid hz0
 have HE := Lib.hid (CE.out T w6 _ _ _ _ HVT.out.toVD HV6.out HTb.out)
 unfold vv at HE
 unfold vv
 clear hb5 hb50 hz0 hv5 hb56 HV4 HZ hzl
 go_upto_region 6 with fail
 clear hw6 hZ2
 obtain ⟨a0, a1, a2, a3⟩ := HZA.out.cells
 obtain ⟨b0, b1, b2, b3⟩ := HZB.out.cells
 go_wp2_with fail
 refine HE.out.mono ?_
 rintro e w7 ⟨rfl, hb7⟩
 have HN7 := Lib.hid (below_of_new HN6.out hb7)
 have HS := Lib.hid (VDx.rows (HVT.out.keep hb7) HTb.out)
 have HZ7 := Lib.hid (HZA.out.keep hb7)
 clear a0 a1 a2 a3 b0 b1 b2 b3 hb7
 obtain ⟨a0, a1, a2, a3⟩ := HZ7.out.cells
 have CSp := Lib.hid (vspoil_any w2.heap.size T.depth T.kind (bs T.text) _ _ w7 HS.out HN7.out.size)
 go_wp2_with fail
 refine CSp.out.mono ?_
 rintro e w8 ⟨rfl, hs8⟩
 have HB8 := Lib.hid (below_of_new HB2.out (HN7.out.trans hs8.bel))
 clear a0 a1 a2 a3 hs8
 go_wp2_with fail
 refine (CK.out _ HB8.out).mono ?_
 rintro e w9 ⟨rfl, hb9⟩
 have HB9 := Lib.hid (below_of_new HB8.out hb9)
 clear hb9
 go_wp2_with fail
 refine (CK2.out _ HB9.out).mono ?_
 rintro e wa ⟨rfl, hba⟩
 have HBa := Lib.hid (below_of_new HB9.out hba)
 clear hba
 go_wp2_with fail
 refine (CB.out _ HBa.out).mono ?_
 rintro e wb ⟨rfl, hbb⟩
 have HBb := Lib.hid (below_of_new HBa.out hbb)
 clear hbb
 go_wp2_with fail
 refine (CB2.out _).mono ?_
 rintro e wc ⟨rfl, hbc⟩
 have HBc := Lib.hid (below_of_new HBb.out hbc)
 clear hbc
 go_wp2_with fail
 refine (CRes.out _ HBc.out).mono ?_
 rintro e wd ⟨rfl, hbd⟩
 have HBd := Lib.hid (below_of_new HBc.out hbd)
 clear hbd
 go_wp2_with fail
 refine (CRes2.out _ HBd.out).mono ?_
 rintro e we ⟨rfl, hbe⟩
 have HBe := Lib.hid (below_of_new HBd.out hbe)
 clear hbe
 go_wp2_with fail
 refine (HLE.out _).mono ?_
 rintro e wf ⟨rfl, hbf⟩
 have HBf := Lib.hid (below_of_new HBe.out hbf)
 clear hbf
 go_wp2_with fail
 go_ret
 exact ⟨rfl, HBf.out⟩
theorem refAmong_any (c : UInt8) (A : List UInt8) (w : World) (hA : A.length ≤ 1024) :
  Calls Tryz.prog 249 #[.int .u8 (c.toNat : Int), .string (bs A)] w fun e w' => e = .returned (.bool (A.contains c)) ∧ w = w' := by
 have sA := bs_size A
 obtain ⟨R, hR⟩ : ∃ R, A.contains c = R := ⟨_, rfl⟩
 rw [hR]
 have HR := Lib.hid hR; clear hR
 obtain ⟨n, hn⟩ : ∃ n : Int, (c.toNat : Int) = n := ⟨_, rfl⟩
 have HN := Lib.hid hn
 rw [hn]
 clear hn
 go_enter Tryz.func249, Tryz.ntmps249
 go_wp2_with fail
 go_loop [5] (fun s5 => ∃ k : Nat, s5 = .int .i64 k ∧ k ≤ A.length ∧ Hid (∀ j, j < k → A[j]? ≠ some c)) (fun s5 => A.length - (RowKit.intOf s5).toNat)
 case atStart => exact ⟨0, rfl, by omega, Lib.hid (fun j hj => by omega)⟩
 case round =>
  obtain ⟨k, rfl, hk, HK⟩ := hrel
  by_cases hlt : k < A.length
  ·have hlt' : k < (bs A).size := by omega
   have hb := at_bs A k hlt'
   have T1 := byte_eq ((bs A)[k]'hlt') c _ rfl
   rw [HN.out] at T1
   by_cases he : (bs A)[k]'hlt' = c
   ·have HF : Hid (R = true) := Lib.hid (by rw [← HR.out]; exact List.contains_iff_mem.2 (List.mem_of_getElem? (by rw [hb, he])))
    rw [show ((bs A)[k]'hlt' == c) = true from beq_iff_eq.2 he] at T1
    clear he hb HK
    go_wp2_with fail
    go_ret
    exact ⟨ret_bool HF.out.symm, rfl⟩
   ·have HK2 : Hid (∀ j, j < k + 1 → A[j]? ≠ some c) := Lib.hid (fun j hj => by
     by_cases h : j < k
     ·exact HK.out j h
     ·obtain rfl : j = k := by omega
      rw [hb]; exact fun h => he (Option.some.inj h))
    rw [show ((bs A)[k]'hlt' == c) = false from beq_eq_false_iff_ne.2 he] at T1
    clear he hb HK
    go_wp2_with fail
    go_round
    case rel => exact ⟨k + 1, by go_num, by omega, HK2.out⟩
    case measure => simp [RowKit.intOf]; omega
  ·have HF : Hid (R = false) := Lib.hid (by
    rw [← HR.out]
    cases hc : A.contains c with
    | false => rfl
    | true =>
     obtain ⟨j, hj⟩ := List.getElem?_of_mem (List.contains_iff_mem.1 hc)
     exact absurd hj (HK.out j (by have := (List.getElem?_eq_some_iff.1 hj).1; omega)))
   go_wp2_with fail
   go_ret
   exact ⟨ret_bool HF.out.symm, rfl⟩
set_option maxHeartbeats 1000000 in
theorem refRun_any (l : List UInt8) (a : Nat) (A : List UInt8) (p : UInt8 → Bool) (hp : ∀ b, A.contains b = p b) (w : World) (hs : l.length ≤ 1073741824) (ha : a ≤ l.length) (hA : A.length ≤ 1024) :
  Calls Tryz.prog 250 #[.string (bs l), .int .i64 a, .string (bs A)] w fun e w' => e = .returned (.int .i64 ((a + runL p (l.drop a) : Nat) : Int)) ∧ w = w' := by
 have sl := bs_size l
 obtain ⟨R, hR⟩ : ∃ R, a + runL p (l.drop a) = R := ⟨_, rfl⟩
 rw [hR]
 have HR := Lib.hid hR; clear hR
 have CA : Hid (∀ b : UInt8, Calls Tryz.prog 249 #[.int .u8 (b.toNat : Int), .string (bs A)] w fun e w' => e = .returned (.bool (p b)) ∧ w = w') := Lib.hid (fun b => by rw [← hp b]; exact refAmong_any b A w hA)
 clear hp
 go_enter Tryz.func250, Tryz.ntmps250
 go_wp2_with fail
 go_loop [1] (fun s1 => ∃ k : Nat, s1 = .int .i64 k ∧ k ≤ l.length ∧ Hid (R = k + runL p (l.drop k))) (fun s1 => l.length - (RowKit.intOf s1).toNat)
 case atStart => exact ⟨a, rfl, ha, Lib.hid HR.out.symm⟩
 case round =>
  obtain ⟨k, rfl, hk, HG⟩ := hrel
  by_cases hlt : k < l.length
  ·have hlt' : k < (bs l).size := by omega
   have hge : (bs l)[k]'hlt' = l[k]'hlt := by
    have := at_bs l k hlt'
    rw [List.getElem?_eq_getElem hlt] at this
    exact (Option.some.inj this).symm
   have hg := HG.out
   rw [List.drop_eq_getElem_cons hlt, runL_cons, ← hge] at hg
   have CC := Lib.hid (CA.out ((bs l)[k]'hlt'))
   cases hpk : p ((bs l)[k]'hlt') with
   | true =>
    rw [hpk] at CC
    rw [hpk, if_pos rfl] at hg
    have HG2 : Hid (R = (k + 1) + runL p (l.drop (k + 1))) := Lib.hid (by omega)
    clear hpk hg hge HG
    go_wp2_with (go_at_call 249; (with_reducible refine CC.out.mono ?_); rintro e w' ⟨rfl, rfl⟩)
    go_round
    case rel => exact ⟨k + 1, by go_num, by omega, HG2.out⟩
    case measure => simp [RowKit.intOf]; omega
   | false =>
    rw [hpk] at CC
    rw [hpk, if_neg (by simp)] at hg
    have HF : Hid (R = k) := Lib.hid (by omega)
    clear hpk hg hge HG
    go_wp2_with (go_at_call 249; (with_reducible refine CC.out.mono ?_); rintro e w' ⟨rfl, rfl⟩)
    go_ret
    exact ⟨ret_int (by rw [HF.out]), rfl⟩
  ·have HF : Hid (R = l.length) := by
    have hg := HG.out
    rw [List.drop_of_length_le (by omega)] at hg
    exact Lib.hid (by rw [hg]; show k + 0 = _; omega)
   clear HG
   go_wp2_with fail
   go_ret
   exact ⟨ret_int (by rw [HF.out]; omega), rfl⟩
def oneK (u : List UInt8) : Int := if (tokR u).2.2 = 0 then (tokR u).1 else if u.head? = some 34 then 8 else 0
def OneE (u : List UInt8) (a : Nat) : Ending := .returned (.tuple #[.int .i64 (oneK u), .int .i64 ((a + (tokR u).2.1 : Nat) : Int), .int .i64 (tokR u).2.2])
theorem oneE_of {u : List UInt8} {a k n : Nat} {kd er : Int} (h : tokR u = (k, n, er)) (hk : er = 0 → kd = k) (hk2 : er ≠ 0 → kd = if u.head? = some 34 then 8 else 0) {p : Int} (hp : p = ((a + n : Nat) : Int)) : Ending.returned (.tuple #[.int .i64 kd, .int .i64 p, .int .i64 er]) = OneE u a := by
 unfold OneE oneK
 rw [h, hp]
 simp only []
 by_cases he : er = 0
 ·rw [if_pos he, hk he]
 ·rw [if_neg he, hk2 he]
theorem has_blanks (c : UInt8) : ([32, 9, 10, 13] : List UInt8).contains c = isBlank c := by
 have : ∀ n : Fin 256, ([32, 9, 10, 13] : List UInt8).contains (UInt8.ofNat n.val) = isBlank (UInt8.ofNat n.val) := by decide +kernel
 have := this ⟨c.toNat, c.toNat_lt⟩
 simpa only [UInt8.ofNat_toNat] using this
theorem has_dig (c : UInt8) : ([45, 48, 49, 50, 51, 52, 53, 54, 55, 56, 57] : List UInt8).contains c = (c == 45 || isDig c) := by
 have : ∀ n : Fin 256, ([45, 48, 49, 50, 51, 52, 53, 54, 55, 56, 57] : List UInt8).contains (UInt8.ofNat n.val) = ((UInt8.ofNat n.val) == 45 || isDig (UInt8.ofNat n.val)) := by decide +kernel
 have := this ⟨c.toNat, c.toNat_lt⟩
 simpa only [UInt8.ofNat_toNat] using this
theorem has_num (c : UInt8) : ([45, 43, 46, 48, 49, 50, 51, 52, 53, 54, 55, 56, 57, 101, 69] : List UInt8).contains c = isNumB c := by
 have : ∀ n : Fin 256, ([45, 43, 46, 48, 49, 50, 51, 52, 53, 54, 55, 56, 57, 101, 69] : List UInt8).contains (UInt8.ofNat n.val) = isNumB (UInt8.ofNat n.val) := by decide +kernel
 have := this ⟨c.toNat, c.toNat_lt⟩
 simpa only [UInt8.ofNat_toNat] using this
theorem has_small (c : UInt8) : ([97, 98, 99, 100, 101, 102, 103, 104, 105, 106, 107, 108, 109, 110, 111, 112, 113, 114, 115, 116, 117, 118, 119, 120, 121, 122] : List UInt8).contains c = isSmall c := by
 have : ∀ n : Fin 256, ([97, 98, 99, 100, 101, 102, 103, 104, 105, 106, 107, 108, 109, 110, 111, 112, 113, 114, 115, 116, 117, 118, 119, 120, 121, 122] : List UInt8).contains (UInt8.ofNat n.val) = isSmall (UInt8.ofNat n.val) := by decide +kernel
 have := this ⟨c.toNat, c.toNat_lt⟩
 simpa only [UInt8.ofNat_toNat] using this
theorem signI_at (c : UInt8) : (signI c = some 0 ∧ (c.toNat : Int) = 123) ∨ (signI c = some 1 ∧ (c.toNat : Int) = 125) ∨ (signI c = some 2 ∧ (c.toNat : Int) = 91) ∨ (signI c = some 3 ∧ (c.toNat : Int) = 93) ∨ (signI c = some 4 ∧ (c.toNat : Int) = 44) ∨ (signI c = some 5 ∧ (c.toNat : Int) = 58) ∨
  (signI c = none ∧ (c.toNat : Int) ≠ 123 ∧ (c.toNat : Int) ≠ 125 ∧ (c.toNat : Int) ≠ 91 ∧ (c.toNat : Int) ≠ 93 ∧ (c.toNat : Int) ≠ 44 ∧ (c.toNat : Int) ≠ 58) := by
 unfold signI
 have hn : ∀ d : UInt8, c ≠ d → (c.toNat : Int) ≠ (d.toNat : Int) := fun d h e => h (UInt8.toNat_inj.1 (by omega))
 by_cases h0 : c = 123
 ·left; subst h0; exact ⟨rfl, rfl⟩
 by_cases h1 : c = 125
 ·right; left; subst h1; exact ⟨rfl, rfl⟩
 by_cases h2 : c = 91
 ·right; right; left; subst h2; exact ⟨rfl, rfl⟩
 by_cases h3 : c = 93
 ·right; right; right; left; subst h3; exact ⟨rfl, rfl⟩
 by_cases h4 : c = 44
 ·right; right; right; right; left; subst h4; exact ⟨rfl, rfl⟩
 by_cases h5 : c = 58
 ·right; right; right; right; right; left; subst h5; exact ⟨rfl, rfl⟩
 ·right; right; right; right; right; right
  rw [if_neg h0, if_neg h1, if_neg h2, if_neg h3, if_neg h4, if_neg h5]
  exact ⟨rfl, hn 123 h0, hn 125 h1, hn 91 h2, hn 93 h3, hn 44 h4, hn 58 h5⟩
set_option maxRecDepth 100000 in
set_option maxHeartbeats 8000000 in
theorem refOne_any (l : List UInt8) (a : Nat) (w : World) (hs : l.length ≤ 1048576) (ha : a < l.length) :
  Calls Tryz.prog 216 #[.string (bs l), .int .i64 a] w fun e w' => e = OneE (l.drop a) a ∧ Below w.heap.size w w' := by
 have sl := bs_size l
 have hEnd := endL_at l a ha
 have CE0 := fun w => refEnd_any l a w (by omega)
 obtain ⟨EE, hEE⟩ : ∃ EE, endL l a = EE := ⟨_, rfl⟩
 rw [hEE] at CE0 hEnd
 obtain ⟨ek, ee⟩ := EE
 simp only [] at CE0 hEnd
 have CE := Lib.hid CE0
 clear CE0
 have hsl : ∀ n, (bs l).extract a (a + n) = bs ((l.drop a).take n) := fun n => by rw [bs_extract, bs_data, Nat.add_sub_cancel_left]
 have R1 := Lib.hid (fun w => refRun_any l a [32, 9, 10, 13] isBlank has_blanks w (by omega) (by omega) (by decide))
 have R2 := Lib.hid (fun w => refRun_any l a [45, 43, 46, 48, 49, 50, 51, 52, 53, 54, 55, 56, 57, 101, 69] isNumB has_num w (by omega) (by omega) (by decide))
 have R3 := Lib.hid (fun w => refRun_any l a [97, 98, 99, 100, 101, 102, 103, 104, 105, 106, 107, 108, 109, 110, 111, 112, 113, 114, 115, 116, 117, 118, 119, 120, 121, 122] isSmall has_small w (by omega) (by omega) (by decide))
 have ha' : a < (bs l).size := by omega
 have hge := at_bs l a ha'
 obtain ⟨u, hu⟩ : ∃ u, l.drop a = u := ⟨_, rfl⟩
 have hul : u.length = l.length - a := by rw [← hu, List.length_drop]
 obtain ⟨c, hc⟩ : ∃ c, u.head? = some c := by cases u with | nil => simp at hul; omega | cons c r => exact ⟨c, rfl⟩
 have hc0 : (((bs l)[a]'ha').toNat : Int) = (c.toNat : Int) := by
  have h2 : l[a]? = some c := by rw [← hc, ← hu, List.head?_eq_getElem?, List.getElem?_drop, Nat.add_zero]
  rw [h2] at hge
  rw [← Option.some.inj hge]
 rw [hu] at hEnd R1 R2 R3 ⊢
 simp only [hu] at hsl
 have hrf := readL_fail u
 have hrb := runL_le isBlank u
 have hrn := runL_le isNumB u
 have hrs := runL_le isSmall u
 have HT := Lib.hid (tokR_head hc)
 have A1 := Lib.hid (fun w => refAmong_any c [32, 9, 10, 13] w (by decide))
 have A2 := Lib.hid (fun w => refAmong_any c [45, 48, 49, 50, 51, 52, 53, 54, 55, 56, 57] w (by decide))
 rw [has_blanks] at A1
 rw [has_dig] at A2
 have hsg := signI_at c
 have h34i : c = 34 ↔ (c.toNat : Int) = 34 := ⟨fun h => by rw [h]; rfl, fun h => UInt8.toNat_inj.1 (by show c.toNat = 34; omega)⟩
 obtain ⟨PR, hPR⟩ : ∃ x, parseL (u.take (runL isNumB u)) = x := ⟨_, rfl⟩
 have CP := Lib.hid (fun w => refParse_any (u.take (runL isNumB u)) w (by rw [List.length_take]; omega))
 rw [hPR] at CP
 have e1 := hsl (runL isNumB u)
 have e2 := hsl (runL isSmall u)
 obtain ⟨nb, hnb⟩ : ∃ x, runL isBlank u = x := ⟨_, rfl⟩
 obtain ⟨nn, hnn⟩ : ∃ x, runL isNumB u = x := ⟨_, rfl⟩
 obtain ⟨ns, hns⟩ : ∃ x, runL isSmall u = x := ⟨_, rfl⟩
 rw [hnb] at R1 hrb
 rw [hnn] at R2 hrn CP e1 hPR
 rw [hns] at R3 hrs e2
 have HX := Lib.hid (And.intro hPR (And.intro hnb (And.intro hnn (And.intro hns (And.intro hEnd hrf)))))
 obtain ⟨n, hn⟩ : ∃ n : Int, (c.toNat : Int) = n := ⟨_, rfl⟩
 rw [show bs [32, 9, 10, 13] = (⟨#[32, 9, 10, 13]⟩ : ByteArray) from rfl] at A1 R1
 rw [show bs [45, 48, 49, 50, 51, 52, 53, 54, 55, 56, 57] = (⟨#[45, 48, 49, 50, 51, 52, 53, 54, 55, 56, 57]⟩ : ByteArray) from rfl] at A2
 rw [show bs [45, 43, 46, 48, 49, 50, 51, 52, 53, 54, 55, 56, 57, 101, 69] = (⟨#[45, 43, 46, 48, 49, 50, 51, 52, 53, 54, 55, 56, 57, 101, 69]⟩ : ByteArray) from rfl] at R2
 rw [show bs [97, 98, 99, 100, 101, 102, 103, 104, 105, 106, 107, 108, 109, 110, 111, 112, 113, 114, 115, 116, 117, 118, 119, 120, 121, 122] = (⟨#[97, 98, 99, 100, 101, 102, 103, 104, 105, 106, 107, 108, 109, 110, 111, 112, 113, 114, 115, 116, 117, 118, 119, 120, 121, 122]⟩ : ByteArray) from rfl] at R3
 rw [hn] at A1 A2 hsg h34i hc0
 have hn34 : u.head? = some 34 ↔ n = 34 := by rw [hc]; exact ⟨fun h => h34i.1 (Option.some.inj h), fun h => by rw [h34i.2 h]⟩
 have H34 := Lib.hid (And.intro h34i hn34)
 have hal : (a : Int) + 1 ≤ (l.length : Int) := by omega
 clear hge hu hc hPR hnb hnn hns hEnd hrf hn h34i hn34 hEE hsl
 rcases hsg with ⟨hg, rfl⟩ | ⟨hg, rfl⟩ | ⟨hg, rfl⟩ | ⟨hg, rfl⟩ | ⟨hg, rfl⟩ | ⟨hg, rfl⟩ | ⟨hg, q0, q1, q2, q3, q4, q5⟩
 ·have HF : Hid (tokR u = (2, 1, 0)) := Lib.hid (by rw [HT.out, hg])
  clear hg HT HX H34 CE CP R1 R2 R3 A1 A2
  go_enter Tryz.func216, Tryz.ntmps216
  go_wp2_with fail
  refine wp_loop_rounds 1 ?_
  rw [rounds_succ]
  go_wp2_with fail
  go_ret3
  exact ⟨oneE_of HF.out (fun _ => rfl) (fun h => absurd rfl h) (by omega), Below.refl _ _⟩
 ·have HF : Hid (tokR u = (3, 1, 0)) := Lib.hid (by rw [HT.out, hg])
  clear hg HT HX H34 CE CP R1 R2 R3 A1 A2
  go_enter Tryz.func216, Tryz.ntmps216
  go_wp2_with fail
  refine wp_loop_rounds 2 ?_
  rw [rounds_succ]
  go_wp2_with fail
  rw [rounds_succ]
  go_wp2_with fail
  go_ret3
  exact ⟨oneE_of HF.out (fun _ => rfl) (fun h => absurd rfl h) (by omega), Below.refl _ _⟩
 ·have HF : Hid (tokR u = (4, 1, 0)) := Lib.hid (by rw [HT.out, hg])
  clear hg HT HX H34 CE CP R1 R2 R3 A1 A2
  go_enter Tryz.func216, Tryz.ntmps216
  go_wp2_with fail
  refine wp_loop_rounds 3 ?_
  rw [rounds_succ]
  go_wp2_with fail
  rw [rounds_succ]
  go_wp2_with fail
  rw [rounds_succ]
  go_wp2_with fail
  go_ret3
  exact ⟨oneE_of HF.out (fun _ => rfl) (fun h => absurd rfl h) (by omega), Below.refl _ _⟩
 ·have HF : Hid (tokR u = (5, 1, 0)) := Lib.hid (by rw [HT.out, hg])
  clear hg HT HX H34 CE CP R1 R2 R3 A1 A2
  go_enter Tryz.func216, Tryz.ntmps216
  go_wp2_with fail
  refine wp_loop_rounds 4 ?_
  rw [rounds_succ]
  go_wp2_with fail
  rw [rounds_succ]
  go_wp2_with fail
  rw [rounds_succ]
  go_wp2_with fail
  rw [rounds_succ]
  go_wp2_with fail
  go_ret3
  exact ⟨oneE_of HF.out (fun _ => rfl) (fun h => absurd rfl h) (by omega), Below.refl _ _⟩
 ·have HF : Hid (tokR u = (6, 1, 0)) := Lib.hid (by rw [HT.out, hg])
  clear hg HT HX H34 CE CP R1 R2 R3 A1 A2
  go_enter Tryz.func216, Tryz.ntmps216
  go_wp2_with fail
  refine wp_loop_rounds 5 ?_
  rw [rounds_succ]
  go_wp2_with fail
  rw [rounds_succ]
  go_wp2_with fail
  rw [rounds_succ]
  go_wp2_with fail
  rw [rounds_succ]
  go_wp2_with fail
  rw [rounds_succ]
  go_wp2_with fail
  go_ret3
  exact ⟨oneE_of HF.out (fun _ => rfl) (fun h => absurd rfl h) (by omega), Below.refl _ _⟩
 ·have HF : Hid (tokR u = (7, 1, 0)) := Lib.hid (by rw [HT.out, hg])
  clear hg HT HX H34 CE CP R1 R2 R3 A1 A2
  go_enter Tryz.func216, Tryz.ntmps216
  go_wp2_with fail
  refine wp_loop_rounds 6 ?_
  rw [rounds_succ]
  go_wp2_with fail
  rw [rounds_succ]
  go_wp2_with fail
  rw [rounds_succ]
  go_wp2_with fail
  rw [rounds_succ]
  go_wp2_with fail
  rw [rounds_succ]
  go_wp2_with fail
  rw [rounds_succ]
  go_wp2_with fail
  go_ret3
  exact ⟨oneE_of HF.out (fun _ => rfl) (fun h => absurd rfl h) (by omega), Below.refl _ _⟩
 ·have HT2 := HT.out
  rw [hg] at HT2
  have HT := Lib.hid HT2
  clear hg HT2
  cases hbl : isBlank c with
  | true =>
   have HF : Hid (tokR u = (1, nb, 0)) := Lib.hid (by have h := HT.out; simp only [hbl, if_true] at h; rw [h, HX.out.2.1])
   rw [hbl] at A1
   clear hbl HT HX H34 CE CP R2 R3 A2
   go_enter Tryz.func216, Tryz.ntmps216
   go_wp2_with fail
   refine wp_loop_rounds 7 ?_
   rw [rounds_succ]
   go_wp2_with fail
   ·next h => exact (q0 (eq_of_beq h)).elim
   rw [rounds_succ]
   go_wp2_with fail
   ·next h => exact (q1 (eq_of_beq h)).elim
   rw [rounds_succ]
   go_wp2_with fail
   ·next h => exact (q2 (eq_of_beq h)).elim
   rw [rounds_succ]
   go_wp2_with fail
   ·next h => exact (q3 (eq_of_beq h)).elim
   rw [rounds_succ]
   go_wp2_with fail
   ·next h => exact (q4 (eq_of_beq h)).elim
   rw [rounds_succ]
   go_wp2_with fail
   ·next h => exact (q5 (eq_of_beq h)).elim
   rw [rounds_succ]
   go_wp2_with (first | (go_at_call 249; (with_reducible refine (A1.out _).mono ?_); rintro e w' ⟨rfl, rfl⟩) | (go_at_call 250; (with_reducible refine (R1.out _).mono ?_); rintro e w' ⟨rfl, rfl⟩))
   go_ret3
   exact ⟨oneE_of HF.out (fun _ => rfl) (fun h => absurd rfl h) (by omega), Below.refl _ _⟩
  | false =>
   have HT2 := HT.out
   rw [hbl] at HT2
   simp only [if_false, Bool.false_eq_true] at HT2
   have HT := Lib.hid HT2
   clear HT2
   rw [hbl] at A1
   clear hbl
   by_cases h34 : n = 34
   ·have HF : Hid (Ending.returned (.tuple #[.int .i64 8, .int .i64 ek, .int .i64 ee]) = OneE u a) := Lib.hid (by
     have h := HT.out
     rw [if_pos (H34.out.1.2 h34)] at h
     obtain ⟨e1, e2⟩ := Prod.mk.inj HX.out.2.2.2.2.1
     have h0 := HX.out.2.2.2.2.2
     rw [e2]
     by_cases hz : (readL u 0).2.2 = 0
     ·rw [if_pos hz] at h
      rw [hz]
      exact oneE_of h (fun _ => rfl) (fun hh => absurd rfl hh) (by omega)
     ·rw [if_neg hz] at h
      exact oneE_of h (fun hh => absurd hh hz) (fun _ => by rw [if_pos (H34.out.2.2 h34)]) (by omega))
    subst h34
    clear HT HX H34 CP R1 R2 R3 A2
    go_enter Tryz.func216, Tryz.ntmps216
    go_wp2_with fail
    refine wp_loop_rounds 7 ?_
    rw [rounds_succ]
    go_wp2_with fail
    rw [rounds_succ]
    go_wp2_with fail
    rw [rounds_succ]
    go_wp2_with fail
    rw [rounds_succ]
    go_wp2_with fail
    rw [rounds_succ]
    go_wp2_with fail
    rw [rounds_succ]
    go_wp2_with fail
    rw [rounds_succ]
    go_wp2_with (first | (go_at_call 249; (with_reducible refine (A1.out _).mono ?_); rintro e w' ⟨rfl, rfl⟩) | (go_at_call 183; (with_reducible refine (CE.out _).mono ?_); rintro e w' ⟨rfl, hb⟩))
    go_ret3
    exact ⟨HF.out, by assumption⟩
   have hc34 : c ≠ 34 := fun h => h34 (H34.out.1.1 h)
   have q34 : (n == 34) = false := beq_eq_false_iff_ne.2 h34
   have HN := Lib.hid (show ¬ u.head? = some 34 from fun h => h34 (H34.out.2.1 h))
   have HT2 := HT.out
   rw [if_neg hc34] at HT2
   have HT := Lib.hid HT2
   clear HT2 hc34 H34 CE h34
   cases hd : (c == 45 || isDig c) with
   | true =>
    rw [hd] at A2
    have hcd : c = 45 ∨ isDig c = true := by simpa using hd
    have HT2 := HT.out
    rw [if_pos hcd, HX.out.2.2.1, HX.out.1] at HT2
    obtain ⟨N, pe⟩ := PR
    simp only [Parsed, numV] at CP
    simp only [] at HT2
    have HT := Lib.hid HT2
    clear HX HT2 hd hcd R1 R3
    have hln : a + nn ≤ l.length := by omega
    have hlz : (a : Int) + (nn : Int) ≤ (l.length : Int) := by omega
    by_cases hz : pe = 0
    ·have HF : Hid (tokR u = (9, nn, 0)) := Lib.hid (by have h := HT.out; rw [if_pos hz] at h; exact h)
     subst hz
     clear HT
     go_enter Tryz.func216, Tryz.ntmps216
     go_wp2_with fail
     refine wp_loop_rounds 7 ?_
     rw [rounds_succ]
     go_wp2_with fail
     ·next h => exact (q0 (eq_of_beq h)).elim
     rw [rounds_succ]
     go_wp2_with fail
     ·next h => exact (q1 (eq_of_beq h)).elim
     rw [rounds_succ]
     go_wp2_with fail
     ·next h => exact (q2 (eq_of_beq h)).elim
     rw [rounds_succ]
     go_wp2_with fail
     ·next h => exact (q3 (eq_of_beq h)).elim
     rw [rounds_succ]
     go_wp2_with fail
     ·next h => exact (q4 (eq_of_beq h)).elim
     rw [rounds_succ]
     go_wp2_with fail
     ·next h => exact (q5 (eq_of_beq h)).elim
     rw [rounds_succ]
     go_wp2_with (first | (go_at_call 249; (first | (with_reducible refine (A1.out _).mono ?_) | (with_reducible refine (A2.out _).mono ?_)); rintro e w' ⟨rfl, rfl⟩) | (go_at_call 250; (with_reducible refine (R2.out _).mono ?_); rintro e w' ⟨rfl, rfl⟩) | (go_at_call 73; (rw [e1]); (with_reducible refine (CP.out _).mono ?_); rintro e w' ⟨rfl, hb⟩))
     go_ret3
     exact ⟨oneE_of HF.out (fun _ => rfl) (fun h => absurd rfl h) (by omega), below_of_new (by assumption) (below_alloc1 _ _)⟩
    ·have HF : Hid (tokR u = (0, 0, pe)) := Lib.hid (by have h := HT.out; rw [if_neg hz] at h; exact h)
     have hzb : (pe == 0) = false := beq_eq_false_iff_ne.2 hz
     have HZ := Lib.hid hz
     clear hz
     clear HT
     go_enter Tryz.func216, Tryz.ntmps216
     go_wp2_with fail
     refine wp_loop_rounds 7 ?_
     rw [rounds_succ]
     go_wp2_with fail
     ·next h => exact (q0 (eq_of_beq h)).elim
     rw [rounds_succ]
     go_wp2_with fail
     ·next h => exact (q1 (eq_of_beq h)).elim
     rw [rounds_succ]
     go_wp2_with fail
     ·next h => exact (q2 (eq_of_beq h)).elim
     rw [rounds_succ]
     go_wp2_with fail
     ·next h => exact (q3 (eq_of_beq h)).elim
     rw [rounds_succ]
     go_wp2_with fail
     ·next h => exact (q4 (eq_of_beq h)).elim
     rw [rounds_succ]
     go_wp2_with fail
     ·next h => exact (q5 (eq_of_beq h)).elim
     rw [rounds_succ]
     go_wp2_with (first | (go_at_call 249; (first | (with_reducible refine (A1.out _).mono ?_) | (with_reducible refine (A2.out _).mono ?_)); rintro e w' ⟨rfl, rfl⟩) | (go_at_call 250; (with_reducible refine (R2.out _).mono ?_); rintro e w' ⟨rfl, rfl⟩) | (go_at_call 73; (rw [e1]); (with_reducible refine (CP.out _).mono ?_); rintro e w' ⟨rfl, hb⟩))
     go_ret3
     exact ⟨oneE_of HF.out (fun hh => absurd hh HZ.out) (fun _ => by rw [if_neg HN.out]) (by omega), below_of_new (by assumption) (below_alloc1 _ _)⟩
   | false =>
    rw [hd] at A2
    have hcd : ¬ (c = 45 ∨ isDig c = true) := by simpa using hd
    have HT2 := HT.out
    rw [if_neg hcd, HX.out.2.2.2.1] at HT2
    have HT := Lib.hid HT2
    clear HX HT2 hd hcd R1 R2 CP e1
    have hln : a + ns ≤ l.length := by omega
    have hlz : (a : Int) + (ns : Int) ≤ (l.length : Int) := by omega
    obtain ⟨U, hU⟩ : ∃ U, u.take ns = U := ⟨_, rfl⟩
    rw [hU] at e2
    have HT2 := HT.out
    rw [hU] at HT2
    have HT := Lib.hid HT2
    clear HT2 hU
    have hx : (bs U).toList = U := by rw [Lib.toList_data, bs_data]
    have t1 : ((bs U).toList == [116, 114, 117, 101]) = (U == [116, 114, 117, 101]) := by rw [hx]
    have t2 : ((bs U).toList == [102, 97, 108, 115, 101]) = (U == [102, 97, 108, 115, 101]) := by rw [hx]
    have t3 : ((bs U).toList == [110, 117, 108, 108]) = (U == [110, 117, 108, 108]) := by rw [hx]
    clear hx
    have HT2 := HT.out
    unfold wordL at HT2
    clear HT
    by_cases u1 : U = [116, 114, 117, 101]
    ·rw [if_pos u1] at HT2
     have HF : Hid (tokR u = (10, ns, 0)) := Lib.hid (by rw [HT2]; rfl)
     rw [show (U == [116, 114, 117, 101]) = true from beq_iff_eq.2 u1] at t1
     clear u1 HT2
     go_enter Tryz.func216, Tryz.ntmps216
     go_wp2_with fail
     refine wp_loop_rounds 7 ?_
     rw [rounds_succ]
     go_wp2_with fail
     ·next h => exact (q0 (eq_of_beq h)).elim
     rw [rounds_succ]
     go_wp2_with fail
     ·next h => exact (q1 (eq_of_beq h)).elim
     rw [rounds_succ]
     go_wp2_with fail
     ·next h => exact (q2 (eq_of_beq h)).elim
     rw [rounds_succ]
     go_wp2_with fail
     ·next h => exact (q3 (eq_of_beq h)).elim
     rw [rounds_succ]
     go_wp2_with fail
     ·next h => exact (q4 (eq_of_beq h)).elim
     rw [rounds_succ]
     go_wp2_with fail
     ·next h => exact (q5 (eq_of_beq h)).elim
     rw [rounds_succ]
     go_wp2_with (first | (go_at_call 249; (first | (with_reducible refine (A1.out _).mono ?_) | (with_reducible refine (A2.out _).mono ?_)); rintro e w' ⟨rfl, rfl⟩) | (go_at_call 250; (with_reducible refine (R3.out _).mono ?_); rintro e w' ⟨rfl, rfl⟩))
     go_ret3
     exact ⟨oneE_of HF.out (fun _ => rfl) (fun h => absurd rfl h) (by omega), Below.refl _ _⟩
    rw [if_neg u1] at HT2
    rw [show (U == [116, 114, 117, 101]) = false from beq_eq_false_iff_ne.2 u1] at t1
    clear u1
    by_cases u2 : U = [102, 97, 108, 115, 101]
    ·rw [if_pos u2] at HT2
     have HF : Hid (tokR u = (11, ns, 0)) := Lib.hid (by rw [HT2]; rfl)
     rw [show (U == [102, 97, 108, 115, 101]) = true from beq_iff_eq.2 u2] at t2
     clear u2 HT2
     go_enter Tryz.func216, Tryz.ntmps216
     go_wp2_with fail
     refine wp_loop_rounds 7 ?_
     rw [rounds_succ]
     go_wp2_with fail
     ·next h => exact (q0 (eq_of_beq h)).elim
     rw [rounds_succ]
     go_wp2_with fail
     ·next h => exact (q1 (eq_of_beq h)).elim
     rw [rounds_succ]
     go_wp2_with fail
     ·next h => exact (q2 (eq_of_beq h)).elim
     rw [rounds_succ]
     go_wp2_with fail
     ·next h => exact (q3 (eq_of_beq h)).elim
     rw [rounds_succ]
     go_wp2_with fail
     ·next h => exact (q4 (eq_of_beq h)).elim
     rw [rounds_succ]
     go_wp2_with fail
     ·next h => exact (q5 (eq_of_beq h)).elim
     rw [rounds_succ]
     go_wp2_with (first | (go_at_call 249; (first | (with_reducible refine (A1.out _).mono ?_) | (with_reducible refine (A2.out _).mono ?_)); rintro e w' ⟨rfl, rfl⟩) | (go_at_call 250; (with_reducible refine (R3.out _).mono ?_); rintro e w' ⟨rfl, rfl⟩))
     go_ret3
     exact ⟨oneE_of HF.out (fun _ => rfl) (fun h => absurd rfl h) (by omega), Below.refl _ _⟩
    rw [if_neg u2] at HT2
    rw [show (U == [102, 97, 108, 115, 101]) = false from beq_eq_false_iff_ne.2 u2] at t2
    clear u2
    by_cases u3 : U = [110, 117, 108, 108]
    ·rw [if_pos u3] at HT2
     have HF : Hid (tokR u = (12, ns, 0)) := Lib.hid (by rw [HT2]; rfl)
     rw [show (U == [110, 117, 108, 108]) = true from beq_iff_eq.2 u3] at t3
     clear u3 HT2
     go_enter Tryz.func216, Tryz.ntmps216
     go_wp2_with fail
     refine wp_loop_rounds 7 ?_
     rw [rounds_succ]
     go_wp2_with fail
     ·next h => exact (q0 (eq_of_beq h)).elim
     rw [rounds_succ]
     go_wp2_with fail
     ·next h => exact (q1 (eq_of_beq h)).elim
     rw [rounds_succ]
     go_wp2_with fail
     ·next h => exact (q2 (eq_of_beq h)).elim
     rw [rounds_succ]
     go_wp2_with fail
     ·next h => exact (q3 (eq_of_beq h)).elim
     rw [rounds_succ]
     go_wp2_with fail
     ·next h => exact (q4 (eq_of_beq h)).elim
     rw [rounds_succ]
     go_wp2_with fail
     ·next h => exact (q5 (eq_of_beq h)).elim
     rw [rounds_succ]
     go_wp2_with (first | (go_at_call 249; (first | (with_reducible refine (A1.out _).mono ?_) | (with_reducible refine (A2.out _).mono ?_)); rintro e w' ⟨rfl, rfl⟩) | (go_at_call 250; (with_reducible refine (R3.out _).mono ?_); rintro e w' ⟨rfl, rfl⟩))
     go_ret3
     exact ⟨oneE_of HF.out (fun _ => rfl) (fun h => absurd rfl h) (by omega), Below.refl _ _⟩
    rw [if_neg u3] at HT2
    rw [show (U == [110, 117, 108, 108]) = false from beq_eq_false_iff_ne.2 u3] at t3
    clear u3
    have HF : Hid (tokR u = (0, 0, 2)) := Lib.hid (by rw [HT2]; rfl)
    clear HT2
    go_enter Tryz.func216, Tryz.ntmps216
    go_wp2_with fail
    refine wp_loop_rounds 7 ?_
    rw [rounds_succ]
    go_wp2_with fail
    ·next h => exact (q0 (eq_of_beq h)).elim
    rw [rounds_succ]
    go_wp2_with fail
    ·next h => exact (q1 (eq_of_beq h)).elim
    rw [rounds_succ]
    go_wp2_with fail
    ·next h => exact (q2 (eq_of_beq h)).elim
    rw [rounds_succ]
    go_wp2_with fail
    ·next h => exact (q3 (eq_of_beq h)).elim
    rw [rounds_succ]
    go_wp2_with fail
    ·next h => exact (q4 (eq_of_beq h)).elim
    rw [rounds_succ]
    go_wp2_with fail
    ·next h => exact (q5 (eq_of_beq h)).elim
    rw [rounds_succ]
    go_wp2_with (first | (go_at_call 249; (first | (with_reducible refine (A1.out _).mono ?_) | (with_reducible refine (A2.out _).mono ?_)); rintro e w' ⟨rfl, rfl⟩) | (go_at_call 250; (with_reducible refine (R3.out _).mono ?_); rintro e w' ⟨rfl, rfl⟩))
    go_ret3
    exact ⟨oneE_of HF.out (fun h => absurd h (by decide)) (fun _ => by rw [if_neg HN.out]) (by omega), Below.refl _ _⟩
theorem OwnsToks.snoc {B : Nat} {w : World} {v : Value} {ts : List Tok} {t : Tok} (h : w.ownsRow B 183 3 v (ts.length + 1) (tokCells ts ++ [.int .i64 t.kind, .int .i64 t.sf, .int .i64 t.st])) : OwnsToks B w v (ts ++ [t]) := by
 unfold OwnsToks
 have e : tokCells (ts ++ [t]) = tokCells ts ++ [.int .i64 t.kind, .int .i64 t.sf, .int .i64 t.st] := by unfold tokCells; simp
 rw [e, List.length_append]
 exact h
theorem toksL_short (l : List UInt8) (h : l.length ≤ 65536) : toksL l = match (toksGo l.length l 0).2 with
  | none => ((toksGo l.length l 0).1, (l.length : Int), 0)
  | some (p, e) => ([], (p : Int), e) := by unfold toksL; rw [if_neg (by omega)]; rfl
theorem toksGo_at (f : Nat) (l : List UInt8) (a : Nat) (ha : a < l.length) : toksGo (f + 1) (l.drop a) a = if (tokR (l.drop a)).2.2 = 0 then (⟨(tokR (l.drop a)).1, a, a + (tokR (l.drop a)).2.1⟩ :: (toksGo f (l.drop (a + (tokR (l.drop a)).2.1)) (a + (tokR (l.drop a)).2.1)).1, (toksGo f (l.drop (a + (tokR (l.drop a)).2.1)) (a + (tokR (l.drop a)).2.1)).2) else ([], some (a + (tokR (l.drop a)).2.1, (tokR (l.drop a)).2.2)) := by
 obtain ⟨c, r, hu⟩ : ∃ c r, l.drop a = c :: r := by
  cases h : l.drop a with
  | nil => have := congrArg List.length h; simp at this; omega
  | cons c r => exact ⟨c, r, rfl⟩
 have hd : l.drop (a + (tokR (l.drop a)).2.1) = (l.drop a).drop (tokR (l.drop a)).2.1 := by rw [List.drop_drop]
 rw [hd, hu, toksGo_cons]
def Gone (l : List UInt8) (ts : List Tok) (a : Nat) : Prop := ts.length ≤ a ∧ a ≤ l.length ∧ ∃ f, l.length ≤ a + f ∧ toksGo l.length l 0 = (ts ++ (toksGo f (l.drop a) a).1, (toksGo f (l.drop a) a).2)
theorem Gone.zero (l : List UInt8) : Gone l [] 0 := ⟨Nat.le_refl _, Nat.zero_le _, l.length, by omega, by rw [List.drop_zero, List.nil_append]⟩
theorem Gone.step {l : List UInt8} {ts : List Tok} {a k n : Nat} (h : Gone l ts a) (ha : a < l.length) (hT : tokR (l.drop a) = (k, n, 0)) : a < a + n ∧ Gone l (ts ++ [⟨k, a, a + n⟩]) (a + n) := by
 obtain ⟨h1, h2, f, h3, h4⟩ := h
 obtain ⟨g, rfl⟩ : ∃ g, f = g + 1 := ⟨f - 1, by omega⟩
 have hne : l.drop a ≠ [] := fun e => by have := congrArg List.length e; simp at this; omega
 have hok := tokR_ok (l.drop a) hne
 rw [hT, List.length_drop] at hok
 simp only [] at hok
 have h0 := hok.2 trivial
 rw [toksGo_at g l a ha, hT] at h4
 simp only [if_true] at h4
 refine ⟨by omega, by rw [List.length_append]; simp; omega, by omega, g, by omega, ?_⟩
 rw [h4, List.append_assoc, List.singleton_append]
theorem Gone.err {l : List UInt8} {ts : List Tok} {a k n : Nat} {er : Int} (h : Gone l ts a) (ha : a < l.length) (hT : tokR (l.drop a) = (k, n, er)) (he : er ≠ 0) : toksGo l.length l 0 = (ts, some (a + n, er)) ∧ a + n ≤ l.length := by
 obtain ⟨h1, h2, f, h3, h4⟩ := h
 obtain ⟨g, rfl⟩ : ∃ g, f = g + 1 := ⟨f - 1, by omega⟩
 have hne : l.drop a ≠ [] := fun e => by have := congrArg List.length e; simp at this; omega
 have hok := (tokR_ok (l.drop a) hne).1
 rw [hT, List.length_drop] at hok
 simp only [] at hok
 rw [toksGo_at g l a ha, hT] at h4
 simp only [if_neg he, List.append_nil] at h4
 exact ⟨h4, by omega⟩
theorem Gone.fin {l : List UInt8} {ts : List Tok} (h : Gone l ts l.length) : toksGo l.length l 0 = (ts, none) := by
 obtain ⟨h1, h2, f, h3, h4⟩ := h
 rw [List.drop_of_length_le (Nat.le_refl _), toksGo_nil] at h4
 simpa using h4
set_option maxRecDepth 100000 in
set_option maxHeartbeats 4000000 in
theorem refTokens_any (l : List UInt8) (w : World) (hs : l.length ≤ 140737488351232) :
  Calls Tryz.prog 170 #[.string (bs l)] w (TokensE (toksL l) w) := by
 have sl := bs_size l
 by_cases hlong : 65536 < l.length
 ·have hR : toksL l = ([], 0, 3) := by unfold toksL; rw [if_pos hlong]
  rw [hR]
  have d1 : decide (65536 < l.length) = true := decide_eq_true hlong
  go_enter Tryz.func170, Tryz.ntmps170
  go_wp2_with fail
  go_ret3
  exact ⟨_, rfl, World.ownsRow_nil _ _ _ _, fun _ => rfl, Below.refl _ _⟩
 have d1 : decide (65536 < l.length) = false := decide_eq_false hlong
 have hfin : ∀ ts, toksGo l.length l 0 = (ts, none) → toksL l = (ts, (l.length : Int), 0) := fun ts h => by rw [toksL_short l (by omega), h]
 have herr : ∀ ts p e, toksGo l.length l 0 = (ts, some (p, e)) → toksL l = ([], (p : Int), e) := fun ts p e h => by rw [toksL_short l (by omega), h]
 have hl' : l.length ≤ 65536 := by omega
 obtain ⟨i0, hi0, hz0, hz1, hz2⟩ := info_parts Tryz.infoTok
 have CO := Lib.hid (fun a w ha => refOne_any l a w (by omega) ha)
 have HFIN := Lib.hid hfin; have HERR := Lib.hid herr
 clear hfin herr hlong
 go_enter Tryz.func170, Tryz.ntmps170
 go_wp2_with fail
 go_loopw [5, 6] (fun s5 s6 wr => ∃ (a : Nat) (ts : List Tok), s6 = .int .i64 a ∧ a ≤ l.length ∧ ts.length ≤ a ∧ Hid (OwnsToks w.heap.size wr s5 ts ∧ (ts = [] → s5 = .slice none 0 0)) ∧ Hid (Below w.heap.size w wr) ∧ Hid (Gone l ts a)) (fun _ s6 _ => l.length - (RowKit.intOf s6).toNat)
 case atStart => exact ⟨0, [], rfl, by omega, by simp, ⟨World.ownsRow_nil _ _ _ _, fun _ => rfl⟩, Below.refl _ _, Gone.zero l⟩
 case round =>
  obtain ⟨a, ts, rfl, ha, hts, HO, HB, HG⟩ := hrel
  by_cases hlt : a < l.length
  ·have C1 := Lib.hid (fun w => CO.out a w hlt)
   obtain ⟨T, hT⟩ : ∃ T, tokR (l.drop a) = T := ⟨_, rfl⟩
   obtain ⟨k, n, er⟩ := T
   unfold OneE oneK at C1
   rw [hT] at C1
   simp only [] at C1
   by_cases he : er = 0
   ·subst he
    simp only [if_true] at C1
    obtain ⟨hn, hg⟩ := HG.out.step hlt hT
    have han := hg.2.1
    have HG2 := Lib.hid hg
    clear hT hg
    go_wp2_with (first | (go_at_call 216; (with_reducible refine (C1.out _).mono ?_); rintro e w1 ⟨rfl, hb⟩; have HO1 := Lib.hid (owns_below HO.out.1 hb); have HB1 := Lib.hid (below_of_new HB.out hb); clear hb) | (at_builtin; go_must (refine wpList_push rfl _ _ 176 rfl w.heap.size 183 i0 _ 3 24 Tryz.underlying176 hi0 hz0 hz1 hz2 rfl (by decide) w1 u5 ts.length (tokCells ts) rfl HO1.out #[.int .i64 k, .int .i64 a, .int .i64 ((a + n : Nat) : Int)] rfl rfl (by simp [Value.oneCell']) (by omega) (by decide) HB1.out.size ?_); intro v1 w2 hown1 hsz1 hbel1 hkeep1 hne1))
    go_roundw
    case rel => exact ⟨a + n, ts ++ [⟨k, a, a + n⟩], by go_num, han, HG2.out.1, ⟨OwnsToks.snoc hown1, fun h => absurd h (by simp)⟩, HB1.out.trans hbel1, HG2⟩
    case measure => simp [RowKit.intOf]; omega
   ·have teb : (er == 0) = false := beq_eq_false_iff_ne.2 he
    have tnb : (er != 0) = true := bne_iff_ne.2 he
    obtain ⟨h1, h2⟩ := HG.out.err hlt hT he
    have HE := Lib.hid h1
    obtain ⟨kd, hkd⟩ : ∃ kd : Int, (if (l.drop a).head? = some 34 then (8 : Int) else 0) = kd := ⟨_, rfl⟩
    simp only [if_neg he, hkd] at C1
    clear hT h1 hkd
    go_wp2_with (go_at_call 216; (with_reducible refine (C1.out _).mono ?_); rintro e w1 ⟨rfl, hb⟩; have HO1 := Lib.hid (owns_below HO.out.1 hb); have HB1 := Lib.hid (below_of_new HB.out hb); clear hb)
    go_ret3
    rw [HERR.out _ _ _ HE.out]
    exact ⟨_, rfl, World.ownsRow_nil _ _ _ _, fun _ => rfl, HB1.out⟩
  ·obtain rfl : a = l.length := by omega
   have HF := Lib.hid (HG.out.fin)
   go_wp2_with fail
   go_ret3
   rw [HFIN.out _ HF.out]
   exact ⟨_, rfl, HO.out.1, HO.out.2, HB.out⟩
end Go.Proofs.YtbldfpkfinpciaaGreatDoor

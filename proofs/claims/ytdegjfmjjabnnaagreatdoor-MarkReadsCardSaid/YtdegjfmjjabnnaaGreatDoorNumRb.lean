import Derived.Test.YtdegjfmjjabnnaaGreatDoorNumRa
import Derived.Deep.CutBlock
/-! The walks of the reference: Parse, Int. -/
namespace Go.Proofs.YtdegjfmjjabnnaaGreatDoor
set_option linter.unusedSimpArgs false
set_option linter.unusedVariables false
open Go.RowKit
open Go.Lib hiding intOf

theorem parse_parts (l : List UInt8) : ∃ ng wh rs mn x ok, partsV l = .tuple #[.bool ng, .string (bs wh), .string (bs rs), .bool mn, .string (bs x), .bool ok] ∧
    (ok = false → parseL l = (nought, 2)) ∧
    (ok = true → allDig wh = true ∧ rs.all isDig = true ∧ x.all isDig = true ∧ x ≠ [] ∧ wh.length + rs.length ≤ l.length ∧ x.length ≤ l.length + 1 ∧ parseL l = parseLit ⟨ng, wh, rs, mn, x⟩) := by
  have hu := unsign_len l
  have hl := cutAt_len2 isE (unsign l)
  have hl2 := cutAt_len2 isDot (cutAt isE (unsign l)).1
  obtain ⟨c, hc⟩ : ∃ c, cutAt isE (unsign l) = c := ⟨_, rfl⟩
  rw [hc] at hl hl2
  obtain ⟨m, y, has⟩ := c
  simp only [] at hl hl2
  obtain ⟨d, hd⟩ : ∃ d, cutAt isDot m = d := ⟨_, rfl⟩
  rw [hd] at hl2
  obtain ⟨wh, rs, pt⟩ := d
  simp only [] at hl2
  have hrs : pt = false → rs = [] := fun h => (cutAt_no (h ▸ hd)).2
  have a48 : allDig [48] = true := rfl
  have hP : partsV l = .tuple #[.bool (l.head? == some 45), .string (bs wh), .string (bs (if pt then rs else [])), .bool (has && y.head? == some 45), .string (bs (if has then unplus y else [48])), .bool (allDig wh && allDig (if pt then rs else [48]) && allDig (if has then unplus y else [48]) && (wh == [48] || wh.head? != some 48))] := by
    unfold partsV; simp only [hc, hd]
  have hL : litOf l = if litOk has pt (if has then unplus y else []) wh rs then some ⟨l.head? == some 45, wh, rs, has && y.head? == some 45, if has then unplus y else []⟩ else none := by
    unfold litOf; simp only [hc, hd]
  have hOk : litOk has pt (if has then unplus y else []) wh rs = (allDig wh && allDig (if pt then rs else [48]) && allDig (if has then unplus y else [48]) && (wh == [48] || wh.head? != some 48)) := by
    unfold litOk
    cases has <;> cases pt <;> simp only [if_true, if_false, Bool.false_eq_true, a48, Bool.not_true, Bool.not_false, Bool.true_or, Bool.false_or, Bool.true_and, Bool.and_true]
    · rw [Bool.and_comm (allDig (unplus y))]
    · rw [Bool.and_comm (allDig (unplus y))]
  refine ⟨_, _, _, _, _, _, hP, ?_, ?_⟩
  · intro hok
    unfold parseL
    rw [hL, hOk, hok, if_neg (by simp)]
  · intro hok
    have hlit := hL
    rw [hOk, hok, if_pos rfl] at hlit
    simp only [Bool.and_eq_true] at hok
    obtain ⟨⟨⟨h1, h2⟩, h3⟩, h4⟩ := hok
    refine ⟨h1, ?_, (allDig_ne h3).2, (allDig_ne h3).1, ?_, ?_, ?_⟩
    · cases pt
      · rfl
      · exact (allDig_ne h2).2
    · cases pt <;> simp <;> omega
    · cases has
      · simp
      · have : (unplus y).length ≤ y.length := by unfold unplus; split <;> simp
        rw [if_pos rfl]; omega
    · unfold parseL
      rw [hlit]
      have e1 : noZeros [48] = [] := rfl
      have e2 : noZeros ([] : List UInt8) = [] := rfl
      have e3 : decV [48] = 0 := rfl
      have e4 : decV [] = 0 := rfl
      cases has <;> cases pt <;> simp only [if_true, if_false, Bool.false_eq_true, parseLit, e1, e2, e3, e4, hrs, Bool.false_and]
def strip1 : List UInt8 → List UInt8
  | [] => []
  | [c] => [c]
  | c :: d :: t => if c = 48 then strip1 (d :: t) else c :: d :: t
theorem strip1_eq : ∀ x : List UInt8, x ≠ [] → strip1 x = if noZeros x = [] then (match x.getLast? with | some c => [c] | none => []) else noZeros x
  | [], h => absurd rfl h
  | [c], _ => by
    unfold strip1 noZeros
    by_cases h : c = 48
    · subst h; rfl
    · simp [List.dropWhile_cons, h]
  | c :: d :: t, _ => by
    unfold strip1
    by_cases h : c = 48
    · rw [if_pos h, strip1_eq (d :: t) (by simp)]
      subst h
      have e : noZeros (48 :: d :: t) = noZeros (d :: t) := by unfold noZeros; rw [List.dropWhile_cons, if_pos (by decide)]
      rw [e]; rfl
    · rw [if_neg h]
      have e : noZeros (c :: d :: t) = c :: d :: t := by unfold noZeros; rw [List.dropWhile_cons, if_neg (by simpa using h)]
      rw [e, if_neg (by simp)]
theorem noZeros_nil {x : List UInt8} (h : noZeros x = []) : ∀ c ∈ x, c = 48 := by
  induction x with
  | nil => intro c hc; cases hc
  | cons d t ih =>
    unfold noZeros at h
    rw [List.dropWhile_cons] at h
    by_cases hd : d = 48
    · rw [if_pos (by simp [hd])] at h
      intro c hc
      rcases List.mem_cons.1 hc with rfl | hc
      · exact hd
      · exact ih h c hc
    · rw [if_neg (by simpa using hd)] at h
      cases h
theorem strip1_facts (x : List UInt8) (h : x ≠ []) (hd : x.all isDig = true) : (9 < (strip1 x).length ↔ 9 < (noZeros x).length) ∧ decV (strip1 x) = decV x ∧ (strip1 x).all isDig = true := by
  rw [strip1_eq x h]
  by_cases hz : noZeros x = []
  · rw [if_pos hz]
    have hl : x.getLast? = some 48 := by
      rw [List.getLast?_eq_some_getLast h, noZeros_nil hz _ (List.getLast_mem h)]
    rw [hl, hz]
    refine ⟨by simp, ?_, rfl⟩
    rw [← decV_noZeros x, hz]; rfl
  · rw [if_neg hz]
    exact ⟨Iff.rfl, decV_noZeros x, noZeros_all hd⟩
def litRest (ng : Bool) (wh rs : List UInt8) (mn : Bool) (V : Int) : Num × Int :=
  if noZeros (wh ++ rs) = [] then (nought, 0) else
  if (if mn then -V else V) - rs.length + ((noZeros (wh ++ rs)).length - (noTail (noZeros (wh ++ rs))).length) < -1000000 ∨ 1000000 < (if mn then -V else V) - rs.length + ((noZeros (wh ++ rs)).length - (noTail (noZeros (wh ++ rs))).length) then (nought, 4) else
  (⟨ng, noTail (noZeros (wh ++ rs)), (if mn then -V else V) - rs.length + ((noZeros (wh ++ rs)).length - (noTail (noZeros (wh ++ rs))).length)⟩, 0)
theorem parseLit_rest (ng : Bool) (wh rs : List UInt8) (mn : Bool) (x : List UInt8) : parseLit ⟨ng, wh, rs, mn, x⟩ =
    if 1000 < wh.length + rs.length then (nought, 3) else if 9 < (noZeros x).length then (nought, 4) else litRest ng wh rs mn (decV x) := rfl
theorem last_is (l : List UInt8) (c : UInt8) (n : Int) (hn : n = c.toNat) (k : Nat) (hk : k = l.length - 1) (h : k < (bs l).size) : (((((bs l)[k]'h).toNat : Int)) == n) = (l.getLast? == some c) := by
  have hs := bs_size l
  subst hk
  have h1 := last_at (bs l) (by omega)
  rw [bs_data] at h1
  have e : (bs l)[(bs l).size - 1]'(by omega) = (bs l)[l.length - 1]'h := by simp only [hs]
  rw [e] at h1
  rw [byte_eq _ c n hn, h1]
  by_cases hc : (bs l)[l.length - 1]'h = c
  · rw [hc]; simp
  · rw [beq_eq_false_iff_ne.2 hc, beq_eq_false_iff_ne.2 (by simpa using hc)]
def strSize : Value → Nat
  | .string b => b.size
  | _ => 0
theorem bs_cut1 (c : UInt8) (t : List UInt8) (n : Nat) (h : n = (c :: t).length) : (bs (c :: t)).extract 1 n = bs t := by rw [bs_from _ _ _ h]; rfl
theorem bs_cutLast (t : List UInt8) (c : UInt8) (n : Nat) (h : n = t.length) : (bs (t ++ [c])).extract 0 n = bs t := by rw [bs_front, bs_data, h, List.take_left]
theorem noTail_snoc (t : List UInt8) : noTail (t ++ [48]) = noTail t := by unfold noTail; simp
theorem noTail_snoc_no (t : List UInt8) (c : UInt8) (h : c ≠ 48) : noTail (t ++ [c]) = t ++ [c] := by unfold noTail; simp [h]
theorem noZeros_cons (t : List UInt8) : noZeros (48 :: t) = noZeros t := by unfold noZeros; rw [List.dropWhile_cons, if_pos (by decide)]
theorem noZeros_cons_no (c : UInt8) (t : List UInt8) (h : c ≠ 48) : noZeros (c :: t) = c :: t := by unfold noZeros; rw [List.dropWhile_cons, if_neg (by simpa using h)]
set_option maxRecDepth 100000 in
set_option maxHeartbeats 4000000 in
theorem refParse_any (l : List UInt8) (w : World) (hs : l.length ≤ 4294967296) :
    Calls Tryz.prog 16 #[.string (bs l)] w fun e w' => e = Parsed (parseL l) ∧ Below w.heap.size w w' := by
  obtain ⟨R, hR⟩ : ∃ R, parseL l = R := ⟨_, rfl⟩
  rw [hR]
  obtain ⟨ng, wh, rs, mn, x, ok, hPV, h0, h1⟩ := parse_parts l
  have CP := Lib.hid (fun w => hPV ▸ parts_any l w hs)
  rw [hR] at h0 h1
  have H0 := Lib.hid h0; have H1 := Lib.hid h1; clear h0 h1 hPV hR
  go_enter Tryz.func16, Tryz.ntmps16
  go_wp2_with fail
  refine (CP.out _).mono ?_
  rintro e w1 ⟨rfl, hb1⟩
  have HB1 := Lib.hid (((Below.refl w.heap.size w).alloc (Nat.le_refl _) _).trans (hb1.mono (by simp)))
  have HK1 := Lib.hid ((hb1.block w.heap.size (by simp)).trans (heap_alloc_new w _))
  have hz1 : w.heap.size < w1.heap.size := cell_it HK1.out
  clear hb1
  obtain ⟨r0, r1, r2, g0, g1, g2⟩ := box3 HK1.out
  cases ok with
  | false =>
    have HR1 := Lib.hid (H0.out rfl)
    go_wp2_with fail
    have hf := box3 (box_set (box_set (box_set HK1.out 0 (.bool false)) 1 (.string ⟨#[]⟩)) 2 (.int .i64 0))
    clear r0 r1 r2 g0 g1 g2
    obtain ⟨r0, r1, r2, g0, g1, g2⟩ := hf
    refine bodyPost_ret (v := .tuple #[numV nought, .int .i64 2]) ?_ rfl ⟨by rw [HR1.out]; rfl, ?_⟩
    · simp [results, Tryz.results16, go_sem, r0, r1, r2, numV, nought]; try rfl
    · repeat (first | refine below_set ?_ (Nat.le_refl _) | refine Below.drew ?_)
      exact HB1.out
  | true =>
  obtain ⟨p1, p2, p3, p4, l1, l2, hR⟩ := H1.out rfl
  have sw := bs_size wh
  have sr := bs_size rs
  rw [parseLit_rest] at hR
  obtain ⟨q1, q2, q3⟩ := strip1_facts x p4 p3
  by_cases t1 : 1000 < wh.length + rs.length
  · rw [if_pos t1] at hR
    have HR1 := Lib.hid hR; clear hR q1 q2 q3 p1 p2 p3
    go_wp2_with fail
    have hf := box3 (box_set (box_set (box_set HK1.out 0 (.bool false)) 1 (.string ⟨#[]⟩)) 2 (.int .i64 0))
    clear r0 r1 r2 g0 g1 g2
    obtain ⟨r0, r1, r2, g0, g1, g2⟩ := hf
    refine bodyPost_ret (v := .tuple #[numV nought, .int .i64 3]) ?_ rfl ⟨by rw [HR1.out]; rfl, ?_⟩
    · simp [results, Tryz.results16, go_sem, r0, r1, r2, numV, nought]; try rfl
    · repeat (first | refine below_set ?_ (Nat.le_refl _) | refine Below.drew ?_)
      exact HB1.out
  rw [if_neg t1] at hR
  have hR1 : (if 9 < (strip1 x).length then (nought, 4) else litRest ng wh rs mn (decV x)) = R := by
    by_cases hh : 9 < (strip1 x).length
    · rw [if_pos hh]; rw [if_pos (q1.1 hh)] at hR; exact hR.symm
    · rw [if_neg hh]; rw [if_neg (fun h => hh (q1.2 h))] at hR; exact hR.symm
  rw [← q2] at hR1
  clear hR q1 q2
  have HR2 := Lib.hid hR1; have HZ := Lib.hid q3; have HP1 := Lib.hid p1; have HP2 := Lib.hid p2; have HP4 := Lib.hid p4
  clear hR1 q3 p1 p2 p3 p4
  go_upto_block 0 with fail
  obtain ⟨Z, hZ⟩ : ∃ Z, strip1 x = Z := ⟨_, rfl⟩
  rw [hZ] at HR2 HZ
  have HZx := Lib.hid hZ; clear hZ
  go_cut [8] (fun s8 wx => s8 = .string (bs Z) ∧ w1 = wx)
  case first =>
    go_wp2_with fail
    go_loopw [8] (fun s8 wr => ∃ e, s8 = .string (bs e) ∧ Hid (strip1 e = Z ∧ e ≠ []) ∧ e.length ≤ l.length + 1 ∧ w1 = wr) (fun s8 _ => strSize s8)
    case atStart => exact ⟨x, rfl, ⟨HZx.out, HP4.out⟩, l2, rfl⟩
    case round =>
      obtain ⟨e, rfl, HE, hel, rfl⟩ := hrel
      have se := bs_size e
      match e, HE, hel, se with
      | [], HE, _, _ => exact absurd rfl HE.out.2
      | [c], HE, _, se =>
        have HF := Lib.hid HE.out.1.symm
        clear HE
        go_wp2_with fail
        go_meet
        exact ⟨by rw [HF.out]; rfl, rfl⟩
      | c :: d :: t, HE, hel, se =>
        have hpos : 0 < (bs (c :: d :: t)).size := by rw [se]; simp
        have hlong : 1 < (bs (c :: d :: t)).size := by rw [se]; simp
        have hT := head_is (c :: d :: t) 48 48 rfl hpos
        by_cases hc : c = 48
        · have h2 := HE.out.1
          unfold strip1 at h2
          rw [if_pos hc] at h2
          have HE2 := Lib.hid (And.intro h2 (List.cons_ne_nil d t))
          rw [show ((c :: d :: t).head? == some 48) = true from by rw [hc]; rfl] at hT
          have HL := Lib.hid (bs_cut1 c (d :: t) _ se)
          have hel2 : (d :: t).length ≤ l.length + 1 := by simp at hel ⊢; omega
          have HM := Lib.hid (show strSize (.string (bs (d :: t))) < strSize (.string (bs (c :: d :: t))) from by unfold strSize; simp only [bs_size]; simp)
          clear h2 HE hc se hel
          go_wp2_with fail
          go_roundw
          case rel => exact ⟨d :: t, by rw [HL.out], HE2.out, hel2, trivial⟩
          case measure => rw [HL.out]; exact HM.out
        · have h2 := HE.out.1
          unfold strip1 at h2
          rw [if_neg hc] at h2
          have HF := Lib.hid h2
          rw [show ((c :: d :: t).head? == some 48) = false from by simpa using hc] at hT
          clear h2 HE hc
          go_wp2_with fail
          go_meet
          exact ⟨by rw [← HF.out], rfl⟩
  obtain ⟨rfl, rfl⟩ := hcut
  have sz := bs_size Z
  by_cases t2 : 9 < Z.length
  · have hR := HR2.out
    rw [if_pos t2] at hR
    have HR1 := Lib.hid hR; clear hR
    go_wp2_with fail
    have hf := box3 (box_set (box_set (box_set HK1.out 0 (.bool false)) 1 (.string ⟨#[]⟩)) 2 (.int .i64 0))
    clear r0 r1 r2 g0 g1 g2
    obtain ⟨r0, r1, r2, g0, g1, g2⟩ := hf
    refine bodyPost_ret (v := .tuple #[numV nought, .int .i64 4]) ?_ rfl ⟨by rw [← HR1.out]; rfl, ?_⟩
    · simp [results, Tryz.results16, go_sem, r0, r1, r2, numV, nought]; try rfl
    · repeat (first | refine below_set ?_ (Nat.le_refl _) | refine Below.drew ?_)
      exact HB1.out
  have hR := HR2.out
  rw [if_neg t2] at hR
  obtain ⟨S, hS⟩ : ∃ S, bs Z = S := ⟨_, rfl⟩
  have hZb : S.data.toList = Z := by rw [← hS, bs_data]
  rw [hS] at sz ⊢
  have hsz : S.size ≤ 9 := by omega
  have HZb := Lib.hid hZb; have HRr := Lib.hid hR
  clear hS hZb hR t2 sz
  have hDz : ∀ p (h : p < S.size), isDig (S[p]'h) = true := fun p h => by
    have h1 := HZ.out
    rw [← HZb.out, List.all_eq_true] at h1
    exact h1 _ (Array.getElem_mem_toList _)
  have hbd : ∀ p, 0 ≤ decV (S.data.toList.take p) ∧ decV (S.data.toList.take p) < 1000000000 := fun p => by
    have h1 : (S.data.toList.take p).all isDig = true := by
      have h2 := HZ.out
      rw [← HZb.out] at h2
      rw [List.all_eq_true] at h2 ⊢
      exact fun x hx => h2 x (List.take_subset _ _ hx)
    have h3 := decV_bd _ h1
    have h4 : (S.data.toList.take p).length ≤ 9 := by rw [List.length_take]; have : S.data.toList.length = S.size := rfl; omega
    have h5 : (10 : Int) ^ (S.data.toList.take p).length ≤ 10 ^ 9 := by exact_mod_cast Nat.pow_le_pow_right (n := 10) (by decide) h4
    omega
  have HDz := Lib.hid hDz; have HBd := Lib.hid hbd; clear hDz hbd
  obtain ⟨V, hV⟩ : ∃ V, decV Z = V := ⟨_, rfl⟩
  have hVb := HBd.out S.size
  have hall : S.data.toList.take S.size = Z := by rw [List.take_of_length_le (by have : S.data.toList.length = S.size := rfl; omega), HZb.out]
  rw [hall, hV] at hVb
  have HA := Lib.hid hall; have HV := Lib.hid hV; clear hall hV
  go_upto_block 2 with fail
  go_cut [10] (fun s10 wx => s10 = .int .i64 V ∧ w1 = wx)
  case first =>
    go_wp2_with fail
    go_loopw [10, 11] (fun s10 s11 wr => ∃ p : Nat, p ≤ S.size ∧ s11 = .int .i64 p ∧ s10 = .int .i64 (decV (S.data.toList.take p)) ∧ w1 = wr) (fun _ i _ => S.size - (RowKit.intOf i).toNat)
    case atStart => exact ⟨0, by omega, rfl, rfl, rfl⟩
    case round =>
      obtain ⟨p, hp, rfl, rfl, rfl⟩ := hrel
      by_cases hlt : p < S.size
      · have hdg := HDz.out p hlt
        have hb := of_decide_eq_true hdg
        have hstep : decV (S.data.toList.take (p + 1)) = 10 * decV (S.data.toList.take p) + (((S[p]'hlt).toNat : Int) - 48) := by rw [take_next S p hlt, decV_snoc]
        have b1 := HBd.out p
        have b2 := HBd.out (p + 1)
        generalize decV (S.data.toList.take p) = U at *
        have HS := Lib.hid hstep
        rw [hstep] at b2
        clear hdg hstep
        go_wp2_with fail
        go_roundw
        case rel => exact ⟨p + 1, by omega, by go_num, by rw [HS.out], trivial⟩
        case measure => simp [RowKit.intOf]; omega
      · obtain rfl : p = S.size := by omega
        have b1 := HBd.out S.size
        go_wp2_with fail
        go_meet
        exact ⟨by rw [HA.out, HV.out], rfl⟩
  obtain ⟨rfl, rfl⟩ := hcut
  obtain ⟨E, hE⟩ : ∃ E, (if mn then -V else V) = E := ⟨_, rfl⟩
  have hEb : -1000000000 ≤ E ∧ E ≤ 1000000000 := by rw [← hE]; split <;> omega
  have hR := HRr.out
  rw [HV.out] at hR
  unfold litRest at hR
  rw [hE] at hR
  have HE := Lib.hid hE; have HRs := Lib.hid hR; clear hE hR HRr
  go_upto_if 60 with fail
  go_cut [10] (fun s10 wx => s10 = .int .i64 E ∧ w1 = wx)
  case first =>
    have hE := HE.out
    cases mn
    all_goals
      first | rw [if_pos rfl] at hE | rw [if_neg (by simp)] at hE
      subst hE
      go_wp2_with fail
      go_meet
      exact ⟨rfl, rfl⟩
  obtain ⟨rfl, rfl⟩ := hcut
  have hrs : rs.length ≤ 1000 := by omega
  obtain ⟨E1, hE1⟩ : ∃ E1, E - (rs.length : Int) = E1 := ⟨_, rfl⟩
  have hE1b : -1000001000 ≤ E1 ∧ E1 ≤ 1000000000 := by omega
  have hR := HRs.out
  rw [hE1] at hR
  have HRt := Lib.hid hR; have HE1 := Lib.hid hE1; clear hR hE1 HRs
  go_upto_region 17 with fail
  go_cut [10] (fun s10 wx => s10 = .int .i64 E1 ∧ w1 = wx)
  case first =>
    go_wp2_with fail
    go_meet
    exact ⟨by rw [HE1.out], rfl⟩
  obtain ⟨rfl, rfl⟩ := hcut
  go_upto_region 18 with fail
  go_cut [12] (fun s12 wx => s12 = .string (bs (wh ++ rs)) ∧ w1 = wx)
  case first =>
    go_wp2_with fail
    go_meet
    exact ⟨by rw [bs_append], rfl⟩
  obtain ⟨rfl, rfl⟩ := hcut
  obtain ⟨y, hy⟩ : ∃ y, wh ++ rs = y := ⟨_, rfl⟩
  have hyl : y.length ≤ 1000 := by rw [← hy, List.length_append]; omega
  rw [hy]
  have hR := HRt.out
  rw [hy] at hR
  have sD0 := hyl
  obtain ⟨D, hD⟩ : ∃ D, noZeros y = D := ⟨_, rfl⟩
  rw [hD] at hR
  have hDh : D.head? ≠ some 48 := hD ▸ noZeros_head y
  have hDl : D.length ≤ 1000 := by
    have := (List.dropWhile_sublist (p := fun c : UInt8 => c == 48) (l := y)).length_le
    have h2 : (noZeros y).length ≤ y.length := this
    rw [hD] at h2; omega
  have HDh := Lib.hid hDh; have HD := Lib.hid hD; have HRu := Lib.hid hR; clear hR hD hDh hy HRt
  go_upto_block 4 with fail
  go_cut [12] (fun s12 wx => s12 = .string (bs D) ∧ w1 = wx)
  case first =>
    go_wp2_with fail
    go_loopw [12] (fun s12 wr => ∃ e, s12 = .string (bs e) ∧ Hid (noZeros e = D) ∧ e.length ≤ 1000 ∧ w1 = wr) (fun s _ => strSize s)
    case atStart => exact ⟨y, rfl, HD.out, hyl, rfl⟩
    case round =>
      obtain ⟨e, rfl, HE, hel, rfl⟩ := hrel
      have se := bs_size e
      match e, HE, hel, se with
      | [], HE, _, se =>
        have HF := Lib.hid (show [] = D from HE.out)
        clear HE
        go_wp2_with fail
        go_meet
        exact ⟨by rw [← HF.out], rfl⟩
      | c :: t, HE, hel, se =>
        have hpos : 0 < (bs (c :: t)).size := by rw [se]; simp
        have hT := head_is (c :: t) 48 48 rfl hpos
        by_cases hc : c = 48
        · have h2 := HE.out
          rw [hc, noZeros_cons] at h2
          have HE2 := Lib.hid h2
          rw [show ((c :: t).head? == some 48) = true from by rw [hc]; rfl] at hT
          have HL := Lib.hid (bs_cut1 c t _ se)
          have hel2 : t.length ≤ 1000 := by simp at hel; omega
          have HM := Lib.hid (show strSize (.string (bs t)) < strSize (.string (bs (c :: t))) from by unfold strSize; simp only [bs_size]; simp)
          clear h2 HE hc se hel
          go_wp2_with fail
          go_roundw
          case rel => exact ⟨t, by rw [HL.out], HE2.out, hel2, trivial⟩
          case measure => rw [HL.out]; exact HM.out
        · have h2 := HE.out
          rw [noZeros_cons_no c t hc] at h2
          have HF := Lib.hid h2
          rw [show ((c :: t).head? == some 48) = false from by simpa using hc] at hT
          clear h2 HE hc
          go_wp2_with fail
          go_meet
          exact ⟨by rw [← HF.out], rfl⟩
  obtain ⟨rfl, rfl⟩ := hcut
  have sD := bs_size D
  have hDt : (bs D).toList = D := by rw [Lib.toList_data, bs_data]
  by_cases hne : D = []
  · have hR := HRu.out
    rw [if_pos hne] at hR
    have HR1 := Lib.hid hR; clear hR
    rw [hne] at hDt
    go_wp2_with fail
    have hf := box3 (box_set (box_set (box_set HK1.out 0 (.bool false)) 1 (.string ⟨#[]⟩)) 2 (.int .i64 0))
    clear r0 r1 r2 g0 g1 g2
    obtain ⟨r0, r1, r2, g0, g1, g2⟩ := hf
    refine bodyPost_ret (v := .tuple #[numV nought, .int .i64 0]) ?_ rfl ⟨by rw [← HR1.out]; rfl, ?_⟩
    · simp [results, Tryz.results16, go_sem, r0, r1, r2, numV, nought]; try rfl
    · repeat (first | refine below_set ?_ (Nat.le_refl _) | refine Below.drew ?_)
      exact HB1.out
  have hR := HRu.out
  rw [if_neg hne] at hR
  have hDn : ¬ (bs D).toList = [] := by rw [hDt]; exact hne
  have hDn2 : ((bs D).toList == []) = false := beq_eq_false_iff_ne.2 hDn
  have hDn3 : (bs D).toList.isEmpty = false := by rw [hDt]; cases D with | nil => exact absurd rfl hne | cons _ _ => rfl
  obtain ⟨T, hT⟩ : ∃ T, noTail D = T := ⟨_, rfl⟩
  have hTl : T.length ≤ D.length := by
    have := congrArg List.length (noTail_split D)
    rw [List.length_append, hT] at this; omega
  rw [hT] at hR
  have HT := Lib.hid hT; have HRv := Lib.hid hR; have HNe := Lib.hid hne; clear hT hR hne hDt HRu
  go_upto_block 6 with fail
  go_cut [12, 10] (fun s12 s10 wx => s12 = .string (bs T) ∧ s10 = .int .i64 (E1 + ((D.length : Int) - (T.length : Int))) ∧ w1 = wx)
  case first =>
    go_wp2_with fail
    go_loopw [12, 10] (fun s12 s10 wr => ∃ e : List UInt8, s12 = .string (bs e) ∧ s10 = .int .i64 (E1 + ((D.length : Int) - (e.length : Int))) ∧ Hid (noTail e = T ∧ e ≠ [] ∧ e.head? ≠ some 48) ∧ e.length ≤ D.length ∧ w1 = wr) (fun s _ _ => strSize s)
    case atStart => exact ⟨D, rfl, by rw [Int.sub_self, Int.add_zero], ⟨HT.out, HNe.out, HDh.out⟩, Nat.le_refl _, rfl⟩
    case round =>
      obtain ⟨e, rfl, rfl, HE, hel, rfl⟩ := hrel
      have se := bs_size e
      obtain ⟨a, c, hac⟩ : ∃ a c, e = a ++ [c] := ⟨e.dropLast, e.getLast HE.out.2.1, (List.dropLast_concat_getLast HE.out.2.1).symm⟩
      have hal : e.length = a.length + 1 := by rw [hac]; simp
      have hidx : (bs e).size - 1 < (bs e).size := by omega
      have hpos : 0 < (bs e).size := by omega
      have hidx2 : e.length - 1 < (bs e).size := by omega
      have hT := last_is e 48 48 rfl (e.length - 1) rfl hidx2
      have hel1 : 1 ≤ e.length := by omega
      by_cases hc : c = 48
      · rw [show (e.getLast? == some 48) = true from by rw [hac, List.getLast?_concat, hc]; rfl] at hT
        have hane : a ≠ [] := by
          intro h; subst h
          have := HE.out.2.2; rw [hac, hc] at this; exact this rfl
        have hah : a.head? ≠ some 48 := by
          have := HE.out.2.2; rw [hac] at this
          cases a with
          | nil => exact absurd rfl hane
          | cons z zs => simpa using this
        have HE2 := Lib.hid (show noTail a = T ∧ a ≠ [] ∧ a.head? ≠ some 48 from ⟨by have := HE.out.1; rw [hac, hc, noTail_snoc] at this; exact this, hane, hah⟩)
        have HL := Lib.hid (show (bs e).extract 0 (e.length - 1) = bs a from by rw [hac]; exact bs_cutLast a c _ (by simp))
        have hal2 : a.length ≤ D.length := by omega
        have HM := Lib.hid (show strSize (.string (bs a)) < strSize (.string (bs e)) from by unfold strSize; simp only [bs_size]; omega)
        have HN := Lib.hid (show E1 + ((D.length : Int) - (e.length : Int)) + 1 = E1 + ((D.length : Int) - (a.length : Int)) from by omega)
        clear hc hane hah hac HE hal
        go_wp2_with fail
        go_roundw
        case rel => exact ⟨a, by rw [HL.out], by rw [HN.out], HE2.out, hal2, trivial⟩
        case measure => rw [HL.out]; exact HM.out
      · rw [show (e.getLast? == some 48) = false from by rw [hac, List.getLast?_concat]; simpa using hc] at hT
        have HF := Lib.hid (show e = T from by have := HE.out.1; rw [hac, noTail_snoc_no a c hc] at this; rw [hac]; exact this)
        clear hac HE hc hal
        go_wp2_with fail
        go_meet
        exact ⟨by rw [← HF.out], by rw [← HF.out], rfl⟩
  obtain ⟨rfl, rfl, rfl⟩ := hcut
  obtain ⟨K, hK⟩ : ∃ K, E1 + ((D.length : Int) - (T.length : Int)) = K := ⟨_, rfl⟩
  have hKb : -1000001000 ≤ K ∧ K ≤ 1000001000 := by omega
  have h0 := HRv.out
  rw [hK] at h0 ⊢
  clear hK HRv
  by_cases hk : K < -1000000 ∨ 1000000 < K
  · rw [if_pos hk] at h0
    have HR1 := Lib.hid h0; clear h0
    rcases hk with hk | hk
    all_goals
      go_wp2_with fail
      have hf := box3 (box_set (box_set (box_set HK1.out 0 (.bool false)) 1 (.string ⟨#[]⟩)) 2 (.int .i64 0))
      clear r0 r1 r2 g0 g1 g2
      obtain ⟨r0, r1, r2, g0, g1, g2⟩ := hf
      refine bodyPost_ret (v := .tuple #[numV nought, .int .i64 4]) ?_ rfl ⟨by rw [← HR1.out]; rfl, ?_⟩
      · simp [results, Tryz.results16, go_sem, r0, r1, r2, numV, nought]; try rfl
      · repeat (first | refine below_set ?_ (Nat.le_refl _) | refine Below.drew ?_)
        exact HB1.out
  · rw [if_neg hk] at h0
    have HR1 := Lib.hid h0; clear h0
    have hk1 : -1000000 ≤ K := by omega
    have hk2 : K ≤ 1000000 := by omega
    clear hk
    go_wp2_with fail
    have hf := box3 (box_set (box_set (box_set HK1.out 0 (.bool ng)) 1 (.string (bs T))) 2 (.int .i64 K))
    clear r0 r1 r2 g0 g1 g2
    obtain ⟨r0, r1, r2, g0, g1, g2⟩ := hf
    refine bodyPost_ret (v := .tuple #[numV ⟨ng, T, K⟩, .int .i64 0]) ?_ rfl ⟨by rw [← HR1.out]; rfl, ?_⟩
    · simp [results, Tryz.results16, go_sem, r0, r1, r2, numV, nought]; try rfl
    · repeat (first | refine below_set ?_ (Nat.le_refl _) | refine Below.drew ?_)
      exact HB1.out
theorem lim_int (v c : Int) (h0 : 0 ≤ c) (h9 : c ≤ 9) : v < (-9223372036854775808 + c).tdiv 10 ↔ 10 * v - c < -9223372036854775808 := by
  rw [show (-9223372036854775808 + c) = -(9223372036854775808 - c) by omega, Int.neg_tdiv, Int.tdiv_eq_ediv_of_nonneg (by omega)]
  omega
theorem pre_step (Z : List UInt8) (i : Nat) (h : i < Z.length) (hd : Z.all isDig = true) : decV (Z.take (i + 1)) = 10 * decV (Z.take i) + digI Z i := by
  rw [List.take_succ_eq_append_getElem h, decV_snoc]
  unfold digI
  rw [List.getElem?_eq_getElem h]
theorem digI_pad (d : List UInt8) (E i : Nat) : digI (d ++ List.replicate E 48) i = digI d i := by
  unfold digI
  by_cases h : i < d.length
  · rw [List.getElem?_append_left h]
  · rw [List.getElem?_append_right (by omega), List.getElem?_eq_none (l := d) (by omega), List.getElem?_replicate]
    by_cases g : i - d.length < E
    · rw [if_pos g]; rfl
    · rw [if_neg g]
theorem decV_mono (Z : List UInt8) (hd : Z.all isDig = true) (i : Nat) : decV (Z.take i) ≤ decV Z := by
  have h := decV_append (Z.take i) (Z.drop i)
  rw [List.take_append_drop] at h
  have h1 : (Z.take i).all isDig = true := by rw [List.all_eq_true] at hd ⊢; exact fun x hx => hd x (List.take_subset _ _ hx)
  have h2 : (Z.drop i).all isDig = true := by rw [List.all_eq_true] at hd ⊢; exact fun x hx => hd x (List.drop_subset _ _ hx)
  have b1 := decV_bd _ h1
  have b2 := decV_bd _ h2
  have hp : (1 : Int) ≤ 10 ^ (Z.drop i).length := by
    have : ((1 : Nat) : Int) ≤ ((10 ^ (Z.drop i).length : Nat) : Int) := by exact_mod_cast Nat.pow_pos (n := (Z.drop i).length) (by decide)
    simpa using this
  have hm : decV (Z.take i) * 1 ≤ decV (Z.take i) * 10 ^ (Z.drop i).length := Int.mul_le_mul_of_nonneg_left hp b1.1
  omega
set_option maxRecDepth 100000 in
set_option maxHeartbeats 4000000 in
theorem refInt_any (n : Num) (w : World) (hd : n.dig.length ≤ 4294967296) :
    Calls Tryz.prog 17 #[.agg #[.bool n.neg, .string (bs n.dig), .int .i64 n.exp]] w fun e w' => e = intV n ∧ Below w.heap.size w w' := by
  obtain ⟨A1, hA⟩ : ∃ A1, rightB n = A1 := ⟨_, rfl⟩
  have CA := Lib.hid (fun w => refRight_num n w hd A1 hA)
  obtain ⟨R, hR⟩ : ∃ R, intV n = R := ⟨_, rfl⟩
  rw [hR]
  have hfacts : A1 = true → n.dig.length ≤ 1000 ∧ -1000000 ≤ n.exp ∧ n.exp ≤ 1000000 ∧ n.dig.all isDig = true := fun h => by
    have hb := rightB_bd (hA.trans h)
    exact ⟨hb.1, hb.2.1, hb.2.2, (rightB_digs (hA.trans h)).1⟩
  have hmag := mag_pad n
  unfold intV intL topOf at hR
  rw [hA] at hR
  obtain ⟨ng, d, ex⟩ := n
  simp only [] at hR hfacts hmag CA hd ⊢
  have sd := bs_size d
  have HN := Lib.hid (NumBox.new w ⟨ng, d, ex⟩)
  clear hA
  cases A1 with
  | false =>
    rw [if_pos (.inl rfl)] at hR
    have HR := Lib.hid hR; clear hR hfacts hmag
    go_enter Tryz.func17, Tryz.ntmps17
    go_wp2_with fail
    refine (CA.out _).mono ?_
    rintro e w1 ⟨rfl, hb1⟩
    go_wp2_with fail
    go_ret2
    exact ⟨HR.out, (below_alloc1 w _).trans (hb1.mono (by simp))⟩
  | true =>
    obtain ⟨f1, f2, f3, f4⟩ := hfacts rfl
    clear hfacts
    by_cases hbad : ex < 0 ∨ 19 < (d.length : Int) + ex
    · rw [if_pos (.inr hbad)] at hR
      have HR := Lib.hid hR; clear hR hmag f4
      by_cases hneg : ex < 0
      · go_enter Tryz.func17, Tryz.ntmps17
        go_wp2_with fail
        refine (CA.out _).mono ?_
        rintro e w1 ⟨rfl, hb1⟩
        have HN1 := Lib.hid (HN.out.keep hb1)
        obtain ⟨c0, c1, c2⟩ := HN1.out.cells
        go_wp2_with fail
        go_ret2
        exact ⟨HR.out, (below_alloc1 w _).trans (hb1.mono (by simp))⟩
      · have hbig := hbad.resolve_left hneg
        clear hbad
        go_enter Tryz.func17, Tryz.ntmps17
        go_wp2_with fail
        refine (CA.out _).mono ?_
        rintro e w1 ⟨rfl, hb1⟩
        have HN1 := Lib.hid (HN.out.keep hb1)
        obtain ⟨c0, c1, c2⟩ := HN1.out.cells
        go_wp2_with fail
        go_ret2
        exact ⟨HR.out, (below_alloc1 w _).trans (hb1.mono (by simp))⟩
    · rw [if_neg (by rintro (h | h); exact absurd h (by simp); exact hbad h)] at hR
      have g1 : 0 ≤ ex := by omega
      have g2 : (d.length : Int) + ex ≤ 19 := by omega
      obtain ⟨E, rfl⟩ : ∃ E : Nat, ex = E := ⟨ex.toNat, by omega⟩
      rw [Int.toNat_natCast] at hmag
      obtain ⟨Z, hZ⟩ : ∃ Z, d ++ List.replicate E 48 = Z := ⟨_, rfl⟩
      have hZl : Z.length = d.length + E := by rw [← hZ]; simp
      have hZd : Z.all isDig = true := by rw [← hZ, List.all_append, f4, Bool.true_and]; exact all_zeros E
      have hdg : ∀ i, digI Z i = digI d i := fun i => by rw [← hZ]; exact digI_pad d E i
      rw [hZ] at hmag
      rw [← hmag] at hR
      clear hmag hbad hZ
      have HR := Lib.hid hR; have HZd := Lib.hid hZd; have HDg := Lib.hid hdg; have HF4 := Lib.hid f4; have HZl := Lib.hid hZl
      have hl19 : d.length + E ≤ 19 := by omega
      clear hR hZd hdg f4 hZl
      go_enter Tryz.func17, Tryz.ntmps17
      go_wp2_with fail
      refine (CA.out _).mono ?_
      rintro e w1 ⟨rfl, hb1⟩
      have HO := Lib.hid (One.of (HN.out.keep hb1) ((below_alloc1 w _).trans (hb1.mono (by simp))))
      obtain ⟨c0, c1, c2⟩ := HO.out.1
      simp only [] at c0 c1 c2
      have HB := Lib.hid HO.out.2.out.2
      clear hb1
      go_upto_block 0 with fail
      go_cut [5] (fun s5 wx => Hid (s5 = .int .i64 (-(decV Z)) ∧ -9223372036854775808 ≤ -(decV Z)) ∧ w1 = wx)
      case first =>
        go_wp2_with fail
        go_loopw [5, 6, 7] (fun s5 s6 _ wr => ∃ i : Nat, s6 = .int .i64 i ∧ i ≤ d.length + E ∧ (∃ v : Int, s5 = .int .i64 v ∧ Hid (v = -(decV (Z.take i)) ∧ -9223372036854775808 ≤ v)) ∧ w1 = wr) (fun _ s6 _ _ => d.length + E - (RowKit.intOf s6).toNat)
        case atStart => exact ⟨0, rfl, by omega, ⟨0, rfl, by simp [decV], by decide⟩, rfl⟩
        case round =>
          obtain ⟨i, rfl, hi, ⟨v, rfl, HV⟩, rfl⟩ := hrel
          by_cases hlt : i < d.length + E
          · obtain ⟨c, hc⟩ : ∃ c, digI d i = c := ⟨_, rfl⟩
            have cb := digI_bd d i HF4.out
            rw [hc] at cb
            have hst := pre_step Z i (by rw [HZl.out]; exact hlt) HZd.out
            rw [HDg.out i, hc] at hst
            have hmono := decV_mono Z HZd.out (i + 1)
            have hpb := (decV_bd (Z.take i) (by have := HZd.out; rw [List.all_eq_true] at this ⊢; exact fun x hx => this x (List.take_subset _ _ hx))).1
            obtain ⟨hv1, hv2⟩ := HV.out
            have hv0 : v ≤ 0 := by omega
            have HC := Lib.hid hc
            have HS := Lib.hid (show decV (Z.take (i + 1)) = -(10 * v - c) by rw [hst, hv1]; omega)
            have HM := Lib.hid hmono
            clear hc hst hmono hpb hv1 HV
            go_upto_if 40 with fail
            go_cut [7] (fun s7 wx => s7 = .int .i64 c ∧ w1 = wx)
            case first =>
              by_cases h1 : i < d.length
              · have h1' : i < (bs d).size := by omega
                obtain ⟨q1, q2, q3⟩ := digI_at d i h1' HF4.out
                have HG := Lib.hid (HC.out.symm.trans q3); clear q3
                go_wp2_with fail
                go_meet
                exact ⟨by rw [HG.out], rfl⟩
              · have HG := Lib.hid (HC.out.symm.trans (digI_out d i (by omega)))
                go_wp2_with fail
                go_meet
                exact ⟨by rw [HG.out], rfl⟩
            obtain ⟨rfl, rfl⟩ := hcut
            go_upto_region 11 with fail
            obtain ⟨B, hB⟩ : ∃ B, decide (10 * v - c < -9223372036854775808) = B := ⟨_, rfl⟩
            go_cut [51] (fun s51 wx => s51 = .bool B ∧ w1 = wx)
            case first =>
              have HBl := Lib.hid (show decide (v < (-9223372036854775808 + c).tdiv 10) = B by rw [← hB]; exact decide_eq_decide.2 (lim_int v c cb.1 cb.2))
              clear hB hv2
              go_wp2_with fail
              go_meet
              exact ⟨by rw [HBl.out], rfl⟩
            obtain ⟨rfl, rfl⟩ := hcut
            cases B with
            | true =>
              have hlow := of_decide_eq_true hB
              have hr := HR.out
              rw [if_neg (by
                have h1 := HM.out
                have h2 := HS.out
                rintro ⟨h3, h4⟩
                cases ng
                · rw [if_neg (by simp)] at h3 h4; omega
                · rw [if_pos rfl] at h3 h4; omega)] at hr
              have HF := Lib.hid hr
              clear hr hlow hB hv2
              go_wp2_with fail
              go_ret2
              exact ⟨HF.out, HB.out⟩
            | false =>
              have hlow := of_decide_eq_false hB
              have hn1 : -9223372036854775808 ≤ 10 * v - c := by omega
              have HL := Lib.hid hn1
              have hn2 : -9223372036854775808 ≤ 10 * v := by omega
              clear hB hlow hv2
              go_wp2_with fail
              go_roundw
              case rel => exact ⟨i + 1, by go_num, by omega, ⟨10 * v - c, rfl, by rw [HS.out]; omega, HL.out⟩, trivial⟩
              case measure => simp [RowKit.intOf]; omega
          · obtain rfl : i = d.length + E := by omega
            have hv : v = -(decV Z) := by have := HV.out.1; rw [List.take_of_length_le (by rw [HZl.out]; exact Nat.le_refl _)] at this; exact this
            have HF := Lib.hid (And.intro hv (hv ▸ HV.out.2))
            clear hv
            go_wp2_with fail
            go_meet
            exact ⟨⟨by rw [← HF.out.1], HF.out.2⟩, rfl⟩
      obtain ⟨HV, rfl⟩ := hcut
      obtain ⟨M, hM⟩ : ∃ M, decV Z = M := ⟨_, rfl⟩
      have hM0 := (decV_bd Z HZd.out).1
      have hv := HV.out
      rw [hM] at hv hM0
      have hr := HR.out
      rw [hM] at hr
      obtain ⟨rfl, hv2⟩ := hv
      clear HV HR hM
      cases ng with
      | true =>
        simp only [if_true] at hr
        rw [if_pos (by omega)] at hr
        have HF := Lib.hid hr; clear hr
        go_wp2_with fail
        go_ret2
        exact ⟨HF.out, HB.out⟩
      | false =>
        simp only [Bool.false_eq_true, if_false] at hr
        by_cases hmin : M = 9223372036854775808
        · rw [if_neg (by omega)] at hr
          have HF := Lib.hid hr
          subst hmin
          clear hr hv2 hM0
          go_wp2_with fail
          go_ret2
          exact ⟨HF.out, HB.out⟩
        · rw [if_pos (by omega)] at hr
          have HF := Lib.hid hr; clear hr
          have hT : (-M == -9223372036854775808) = false := beq_eq_false_iff_ne.2 (by omega)
          have hM3 : M ≤ 9223372036854775807 := by omega
          clear hmin hv2
          go_wp2_with fail
          go_ret2
          exact ⟨HF.out, HB.out⟩
theorem intL_ofInt (i : Int) (h : -9223372036854775808 ≤ i ∧ i ≤ 9223372036854775807) : intL (ofInt i) = (i, true) := by
  by_cases h0 : i = 0
  · subst h0; rw [ofInt_zero]; decide +kernel
  · obtain ⟨hr, he, hn, hm, _⟩ := ofInt_right i (by omega) h0
    have hb := mag_bd (ofInt i) hr he
    have htop : topOf (ofInt i) ≤ 19 := by
      rw [hm] at hb
      apply Int.not_lt.1
      intro h19
      have hle : (10 : Int) ^ 19 ≤ 10 ^ ((topOf (ofInt i)).toNat - 1) := by
        exact_mod_cast Nat.pow_le_pow_right (n := 10) (by decide) (by omega)
      omega
    unfold intL
    rw [ofInt_rightB i (by omega), hn, hm, if_neg (by rintro (h | h | h); cases h; omega; omega)]
    by_cases hi : i < 0
    · rw [decide_eq_true hi]
      simp only [if_true]
      rw [if_pos (by omega)]
      congr 1; omega
    · rw [decide_eq_false hi]
      simp only [Bool.false_eq_true, if_false]
      rw [if_pos (by omega)]
      congr 1; omega
theorem textL_len (n : Num) (h : n.dig.length ≤ 1000) (he : -1000000 ≤ n.exp ∧ n.exp ≤ 1000000) : (textL n).length ≤ 1100 := by
  have hi := itoa_len n.exp (by omega)
  unfold textL
  split
  · simp
  · split
    · simp
    · split <;> split <;> simp <;> omega
end Go.Proofs.YtdegjfmjjabnnaaGreatDoor

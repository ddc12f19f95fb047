import Derived.Test.YtfklmopnifkieaaGreatDoorRuV
import Derived.Test.YtfklmopnifkieaaGreatDoorApp
/-! The walks of scarfref07.Text, Parse. -/
namespace Go.Proofs.YtfklmopnifkieaaGreatDoor
set_option linter.unusedSimpArgs false
set_option linter.unusedVariables false
open Go.RowKit
open Go.Lib hiding intOf

theorem escS_take {x : Stp} {k : Nat} {c : UInt8} (h : x[k]? = some c) : escS (x.take (k + 1)) = escS (x.take k) ++ escB c := by
  rw [List.take_add_one, h, escS_app]
  show _ ++ (escB c ++ []) = _
  rw [List.append_nil]
theorem escS_take_le (x : Stp) (k : Nat) : (escS (x.take k)).length ≤ (escS x).length := by
  have := escS_app (x.take k) (x.drop k)
  rw [List.take_append_drop] at this
  rw [this, List.length_append]
  omega
set_option maxRecDepth 100000 in
set_option maxHeartbeats 4000000 in
theorem refText_any (v : Value) (p : List Stp) (w : World) (hv : SV w v p) (hp : PB p) :
    Calls Tryz.prog 45 #[v] w fun e w' => e = TextE (textR p) ∧ Below w.heap.size w w' := by
  have C := refPath_any v p w hv (by have := hp.len; omega) (fun x hx => by have := hp.mem x hx; omega)
  have HC := Lib.hid C
  clear C
  unfold textR
  cases hr : pathOk p with
  | false =>
    rw [hr] at HC
    obtain ⟨pp, c, rfl, hc, hl⟩ := hv
    clear hl hr
    go_enter Tryz.func45, Tryz.ntmps45
    go_wp2_with fail
    refine HC.out.mono ?_
    rintro e w1 ⟨rfl, hb1⟩
    go_wp2_with fail
    go_ret2
    exact ⟨rfl, hb1⟩
  | true =>
    rw [hr] at HC
    rw [if_pos rfl]
    clear hr
    obtain ⟨pp, c, rfl, hc, hl⟩ := hv
    have HP := Lib.hid hl
    have HS := Lib.hid hp.mem
    have hpb : (textP p).length ≤ 536870912 := hp
    have hlen := hp.len
    clear hl hp
    go_enter Tryz.func45, Tryz.ntmps45
    go_wp2_with fail
    refine HC.out.mono ?_
    rintro e w1 ⟨rfl, hb1⟩
    have HB1 := Lib.hid hb1
    clear hb1
    go_wp2_with fail
    go_loopw [5, 6] (fun s5 s6 wr => ∃ (i : Nat) (o : List UInt8), s6 = .int .i64 i ∧ i ≤ p.length ∧ Hid (o = textP (p.take i)) ∧ Hid (OwnB w.heap.size wr s5 o) ∧ Hid (Below w.heap.size w wr)) (fun _ s6 _ => p.length - (RowKit.intOf s6).toNat)
    case atStart => exact ⟨0, [], rfl, by omega, Lib.hid rfl, Lib.hid (OwnB.nil _ _), HB1⟩
    case round =>
      obtain ⟨i, o, rfl, hi, HQ, HO, HW⟩ := hrel
      have htl := textP_take_le p i
      by_cases hlt : i < p.length
      · have hiz : (i : Int) < (p.length : Int) := by omega
        obtain ⟨x, hx⟩ : ∃ x, p[i]? = some x := ⟨_, List.getElem?_eq_getElem hlt⟩
        have hxl := HS.out x (List.mem_of_getElem? hx)
        have sx := bs_size x
        have hX := textP_take hx
        have hol : o.length + (1 + (escS x).length) ≤ 536870912 := by
          have h1 := textP_take_le p (i + 1)
          rw [hX] at h1
          simp only [List.length_append, List.length_cons, List.length_nil] at h1
          rw [HQ.out]
          omega
        obtain ⟨gx, ox, rfl, cx⟩ := (HP.out.keep HW.out).at_ hx
        have HX := Lib.hid (And.intro hx hX)
        have hz : w.heap.size ≤ wr.heap.size := HW.out.size
        clear hx hX htl
        go_wp2_with (at_builtin; go_must (refine wpList_bytes rfl _ _ rfl w.heap.size wr u5 o [47] rfl HO.out _ rfl rfl (by simp; omega) hz ?_); intro v1 w2 hown1 hbel1)
        have HO2 := Lib.hid hown1
        have HW2 := Lib.hid (HW.out.trans hbel1)
        clear hown1 hbel1 hz cx
        go_loopw [5, 7] (fun s5 s7 wq => ∃ (k : Nat) (q : List UInt8), s7 = .int .i64 k ∧ k ≤ x.length ∧ Hid (q = o ++ [47] ++ escS (x.take k)) ∧ Hid (OwnB w.heap.size wq s5 q) ∧ Hid (Below w.heap.size w wq)) (fun _ s7 _ => x.length - (RowKit.intOf s7).toNat)
        case atStart => exact ⟨0, o ++ [47], rfl, by omega, Lib.hid (by simp [escS]), HO2, HW2⟩
        case round =>
          obtain ⟨k, q, rfl, hk, HQ2, HO3, HW3⟩ := hrel
          obtain ⟨gy, oy, hpe, cx⟩ := (HP.out.keep HW3.out).at_ HX.out.1
          injection hpe with hpe
          injection hpe with hpe1 hpe2
          subst hpe1
          subst hpe2
          by_cases hkl : k < x.length
          · have hkz : (k : Int) < (x.length : Int) := by omega
            have hks : k < (bs x).size := by omega
            obtain ⟨c', hc'⟩ : ∃ c', x[k]? = some c' := ⟨_, List.getElem?_eq_getElem hkl⟩
            have hge : (bs x)[k]'hks = c' := by
              have := at_bs x k hks
              rw [hc'] at this
              exact (Option.some.inj this).symm
            have hE := escS_take hc'
            have hql : q.length + 2 ≤ 1073741824 := by
              rw [HQ2.out]
              have := escS_take_le x k
              simp only [List.length_append, List.length_cons, List.length_nil]
              omega
            obtain ⟨n, hn⟩ : ∃ n : Int, (c'.toNat : Int) = n := ⟨_, rfl⟩
            have hge3 : (((bs x)[k]'hks).toNat : Int) = n := by rw [hge, hn]
            have HN : Hid (∀ m, escB c' = m → q ++ m = o ++ [47] ++ escS (x.take (k + 1))) := Lib.hid (fun m h => by rw [HQ2.out, hE, h]; simp)
            have hz : w.heap.size ≤ wr.heap.size := HW3.out.size
            have hcase : (n = 126 ∧ escB c' = [126, 48]) ∨ (n = 47 ∧ escB c' = [126, 49]) ∨ ((n ≠ 126 ∧ n ≠ 47) ∧ escB c' = [c']) := by
              unfold escB
              by_cases h1 : c' = 126
              · subst h1; exact .inl ⟨by rw [← hn]; rfl, rfl⟩
              · by_cases h2 : c' = 47
                · subst h2; exact .inr (.inl ⟨by rw [← hn]; rfl, rfl⟩)
                · refine .inr (.inr ⟨⟨fun e => h1 (UInt8.toNat_inj.1 (by rw [← hn] at e; show _ = 126; omega)), fun e => h2 (UInt8.toNat_inj.1 (by rw [← hn] at e; show _ = 47; omega))⟩, by rw [if_neg h1, if_neg h2]⟩)
            clear hge hE hc' sx
            rcases hcase with ⟨h1, h2⟩ | ⟨h1, h2⟩ | ⟨⟨e1, e2⟩, h2⟩
            · subst h1
              have hq2 := Lib.hid (HN.out _ h2)
              clear h2 hn
              go_wp2_with (at_builtin; go_must (refine wpList_text rfl _ _ rfl w.heap.size wr u5 q ⟨#[126, 48]⟩ rfl HO3.out rfl (by show _ + 2 ≤ _; omega) hz ?_); intro v1 w3 hown1 hbel1)
              go_roundw
              case rel => exact ⟨k + 1, q ++ [126, 48], by go_num, by omega, hq2, Lib.hid hown1, Lib.hid (HW3.out.trans hbel1)⟩
              case measure => simp [RowKit.intOf]; omega
            · subst h1
              have hq2 := Lib.hid (HN.out _ h2)
              clear h2 hn
              go_wp2_with (at_builtin; go_must (refine wpList_text rfl _ _ rfl w.heap.size wr u5 q ⟨#[126, 49]⟩ rfl HO3.out rfl (by show _ + 2 ≤ _; omega) hz ?_); intro v1 w3 hown1 hbel1)
              go_roundw
              case rel => exact ⟨k + 1, q ++ [126, 49], by go_num, by omega, hq2, Lib.hid hown1, Lib.hid (HW3.out.trans hbel1)⟩
              case measure => simp [RowKit.intOf]; omega
            · have d1 : (n == 126) = false := beq_eq_false_iff_ne.2 e1
              have d2 : (n == 47) = false := beq_eq_false_iff_ne.2 e2
              have hq2 := Lib.hid (HN.out _ h2)
              clear h2 e1 e2
              go_wp2_with (at_builtin; go_must (refine wpList_bytes rfl _ _ rfl w.heap.size wr u5 q [c'] rfl HO3.out _ rfl (by simp [Lib.byteCells, hn]) (by simp; omega) hz ?_); intro v1 w3 hown1 hbel1)
              go_roundw
              case rel => exact ⟨k + 1, q ++ [c'], by go_num, by omega, hq2, Lib.hid hown1, Lib.hid (HW3.out.trans hbel1)⟩
              case measure => simp [RowKit.intOf]; omega
          · have hkz : ¬ (k : Int) < (x.length : Int) := by omega
            have HQ3 : Hid (q = textP (p.take (i + 1))) := Lib.hid (by rw [HX.out.2, HQ2.out, HQ.out, List.take_of_length_le (show x.length ≤ k by omega)])
            go_wp2_with fail
            go_roundw
            case rel => exact ⟨i + 1, q, by go_num, by omega, HQ3, HO3, HW3⟩
            case measure => simp [RowKit.intOf]; omega
      · have hiz : ¬ (i : Int) < (p.length : Int) := by omega
        have HF : Hid (o = textP p) := Lib.hid (by rw [HQ.out, List.take_of_length_le (by omega)])
        have hcv := run_text HO.out
        go_wp2_with fail
        go_ret2
        exact ⟨by rw [← HF.out]; rfl, HW.out⟩
/-- The last text of a row that the call owns is another one. -/
theorem OwnsS.last {B g cap : Nat} {a0 : List Stp} {x : Stp} {w : World} (h : OwnsS B (a0 ++ [x]) (.slice (some ⟨g, 0, none⟩) (a0.length + 1) cap) w) (y : Stp) :
    OwnsS B (a0 ++ [y]) (.slice (some ⟨g, 0, none⟩) (a0.length + 1) cap) (w.setCell ⟨g, a0.length, none⟩ (.string (bs y))) := by
  have h' : w.ownsRow B 9 1 (.slice (some ⟨g, 0, none⟩) (a0.length + 1) cap) (a0.length + 1) (strCells (a0 ++ [x])) := by
    have := h
    unfold OwnsS at this
    rw [List.length_append] at this
    exact this
  have := (World.ownsRow.stored h' a0.length (.string (bs y))).1
  have e : (strCells (a0 ++ [x])).set a0.length (.string (bs y)) = strCells (a0 ++ [y]) := by
    unfold strCells
    rw [List.map_append, List.map_append, List.set_append_right _ _ (by simp)]
    simp
  rw [e] at this
  unfold OwnsS
  rw [List.length_append]
  exact this
theorem OwnsS.lastCell {B g cap : Nat} {a0 : List Stp} {x : Stp} {w : World} (h : OwnsS B (a0 ++ [x]) (.slice (some ⟨g, 0, none⟩) (a0.length + 1) cap) w) :
    w.cell? ⟨g, a0.length, none⟩ = some (.string (bs x)) ∧ w.frozen? ⟨g, a0.length, none⟩ = false ∧ B ≤ g := by
  have h' : w.ownsRow B 9 1 (.slice (some ⟨g, 0, none⟩) (a0.length + 1) cap) (a0.length + 1) (strCells (a0 ++ [x])) := by
    have := h
    unfold OwnsS at this
    rw [List.length_append] at this
    exact this
  refine ⟨?_, World.ownsRow.frozenAt h' _, (World.ownsRow.lt h' g rfl).1⟩
  rw [World.ownsRow.cellAt h' a0.length (by omega)]
  unfold strCells
  simp
theorem OwnsS.form {B : Nat} {a0 : List Stp} {x : Stp} {v : Value} {w : World} (h : OwnsS B (a0 ++ [x]) v w) : ∃ g cap, v = .slice (some ⟨g, 0, none⟩) (a0.length + 1) cap ∧ a0.length + 1 ≤ cap := by
  rcases h.2 with ⟨_, h1⟩ | ⟨g, cap, cur, rfl, _, _, hn, _⟩
  · rw [List.length_append] at h1; simp at h1
  · rw [List.length_append] at hn ⊢
    exact ⟨g, cap, rfl, hn⟩
theorem snoc_form (a0 : List Stp) (x u : List UInt8) : snoc (a0 ++ [x]) u = a0 ++ [x ++ u] := snoc_app a0 x u
set_option maxRecDepth 100000 in
set_option maxHeartbeats 8000000 in
theorem refParse_any (s : List UInt8) (w : World) (hs : s.length ≤ 268435456) :
    Calls Tryz.prog 49 #[.string (bs s)] w (PathE (parseP s) w) := by
  have sl := bs_size s
  obtain ⟨N, CV⟩ := refValid_at s (by omega)
  have hpp := parse_pgo s
  cases hv : validD s with
  | false =>
    rw [hv] at CV
    have HC := Lib.hid CV
    have HF : Hid (parseP s = ([], 2)) := Lib.hid (by rw [hpp, if_neg (by rw [hv]; simp)])
    clear CV hv hpp
    go_enter Tryz.func49, Tryz.ntmps49
    go_wp2_with fail
    refine (HC.out _).mono ?_
    rintro e w1 ⟨rfl, rfl⟩
    go_wp2_with fail
    go_ret2
    rw [HF.out]
    exact ⟨_, rfl, OwnsS.nil _ _, Below.refl _ _⟩
  | true =>
  rw [hv] at CV
  have HC := Lib.hid CV
  cases hh : headP s with
  | false =>
    have HF : Hid (parseP s = ([], 2)) := Lib.hid (by rw [hpp, if_neg (by rw [hh]; simp)])
    cases s with
    | nil => cases hh
    | cons c t =>
      have hsz : 0 < (bs (c :: t)).size := by rw [bs_size]; simp
      have hc : (bs (c :: t))[0]'hsz = c := by
        have := at_bs (c :: t) 0 hsz
        simpa using this.symm
      have n47 : ((((bs (c :: t))[0]'hsz).toNat : Int) != 47) = true := by
        rw [byte_ne _ 47 47 rfl, hc]
        have h2 : (c == 47) = false := hh
        rw [h2]; rfl
      have hgt : (0 : Int) < ((c :: t).length : Int) := by simp only [List.length_cons]; omega
      clear CV hv hpp hc hh
      go_enter Tryz.func49, Tryz.ntmps49
      go_wp2_with fail
      refine (HC.out _).mono ?_
      rintro e w1 ⟨rfl, rfl⟩
      go_wp2_with fail
      go_ret2
      rw [HF.out]
      exact ⟨_, rfl, OwnsS.nil _ _, Below.refl _ _⟩
  | true =>
  rw [if_pos ⟨hv, hh⟩] at hpp
  have HF := Lib.hid hpp
  obtain ⟨R, hR⟩ : ∃ R, pgo [] s = R := ⟨_, rfl⟩
  rw [hR] at HF
  have hR0 : Hid (pgo [] (s.drop 0) = R) := Lib.hid (by rw [List.drop_zero]; exact hR)
  have HH : Hid (∀ c, s[0]? = some c → c = 47) := Lib.hid (fun c hc => by
    cases s with
    | nil => simp at hc
    | cons d t =>
      obtain rfl : d = c := by simpa using hc
      exact beq_iff_eq.1 hh)
  -- the head's test
  have hdec : s = [] ∨ ∃ hsz : 0 < (bs s).size, ((((bs s)[0]'hsz).toNat : Int) != 47) = false := by
    cases s with
    | nil => exact .inl rfl
    | cons c t =>
      have hsz : 0 < (bs (c :: t)).size := by rw [bs_size]; simp
      refine .inr ⟨hsz, ?_⟩
      have hc : (bs (c :: t))[0]'hsz = c := by
        have := at_bs (c :: t) 0 hsz
        simpa using this.symm
      rw [byte_ne _ 47 47 rfl, hc]
      have h2 : (c == 47) = true := hh
      rw [h2]; rfl
  clear CV hv hpp hR hh
  rcases hdec with rfl | ⟨hsz0, n47⟩
  · have HR1 : Hid (some ([] : List Stp) = R) := Lib.hid (by have := hR0.out; simpa [pgo] using this)
    clear hR0 HH
    go_enter Tryz.func49, Tryz.ntmps49
    go_wp2_with fail
    refine (HC.out _).mono ?_
    rintro e w1 ⟨rfl, rfl⟩
    go_wp2_with fail
    go_loopw [6, 7] (fun s6 s7 wr => s6 = .slice none 0 0 ∧ s7 = .int .i64 0 ∧ Hid (Below w.heap.size w wr)) (fun _ _ _ => 0)
    case atStart => exact ⟨rfl, rfl, Lib.hid (Below.refl _ _)⟩
    case round =>
      obtain ⟨rfl, rfl, HB⟩ := hrel
      go_wp2_with fail
      go_ret2
      rw [HF.out, ← HR1.out]
      exact ⟨_, rfl, OwnsS.nil _ _, HB.out⟩
  have hgt : (0 : Int) < (s.length : Int) := by omega
  go_enter Tryz.func49, Tryz.ntmps49
  go_wp2_with fail
  refine (HC.out _).mono ?_
  rintro e w1 ⟨rfl, rfl⟩
  go_wp2_with fail
  clear hgt n47
  go_loopw [6, 7] (fun s6 s7 wr => ∃ (i : Nat) (acc : List Stp), s7 = .int .i64 i ∧ i ≤ s.length ∧ acc.length ≤ i ∧ Hid (pgo acc (s.drop i) = R) ∧ Hid ((i = 0 ∧ acc = []) ∨ ∃ a0 x, acc = a0 ++ [x] ∧ x.length ≤ i) ∧ Hid (OwnsS w.heap.size acc s6 wr) ∧ Hid (Below w.heap.size w wr)) (fun _ s7 _ => s.length - (RowKit.intOf s7).toNat)
  case atStart => exact ⟨0, [], rfl, by omega, by simp, hR0, Lib.hid (.inl ⟨rfl, rfl⟩), Lib.hid (OwnsS.nil _ _), Lib.hid (Below.refl _ _)⟩
  case round =>
    obtain ⟨i, acc, rfl, hi, hal, HG, HA, HO, HB⟩ := hrel
    have hz : w.heap.size ≤ wr.heap.size := HB.out.size
    by_cases hlt : i < s.length
    · have hiz : (i : Int) < (s.length : Int) := by omega
      have his : i < (bs s).size := by omega
      obtain ⟨c, hc⟩ : ∃ c, s[i]? = some c := ⟨_, List.getElem?_eq_getElem hlt⟩
      have hdr : s.drop i = c :: s.drop (i + 1) := drop_cons hc
      have hsl : (bs s).extract i (i + 1) = bs [c] := by
        rw [bs_extract, bs_data, hdr]
        simp
      have h47 : (((bs s).extract i (i + 1)).toList == [47]) = (c == 47) := by
        rw [hsl, Lib.toList_data, bs_data]
        simp
      have h126 : (((bs s).extract i (i + 1)).toList == [126]) = (c == 126) := by
        rw [hsl, Lib.toList_data, bs_data]
        simp
      have hg := HG.out
      rw [hdr] at hg
      clear HG
      by_cases e47 : c = 47
      · subst e47
        rw [show ((47 : UInt8) == 47) = true from rfl] at h47
        rw [pgo_47] at hg
        have HG2 := Lib.hid hg
        have ba := below_alloc1 wr (.cells #[.string ⟨#[]⟩] 9)
        have hsv : SV (wr.alloc (.cells #[.string ⟨#[]⟩] 9)) (.slice (some ⟨wr.heap.size, 0, none⟩) 1 1) [[]] := OwnsS.toSV (OwnsS.new wr [[]] #[.string ⟨#[]⟩] rfl (by simp))
        have hz2 : w.heap.size ≤ (wr.alloc (.cells #[.string ⟨#[]⟩] 9)).heap.size := by simp; omega
        clear hsl h126 hdr hc hg
        go_wp2_with (at_builtin; go_must (refine wpList_texts (by rfl) (.tmp 39) (.tmp 40) rfl w.heap.size (wr.alloc (.cells #[.string ⟨#[]⟩] 9)) u6 acc [[]] rfl (HO.out.keep ba) (.slice (some ⟨wr.heap.size, 0, none⟩) 1 1) rfl hsv (by simp; omega) hz2 ?_); intro v1 w7 o1 hb1)
        have HO7 := Lib.hid o1
        have HB7 := Lib.hid (HB.out.trans ((ba.mono hz).trans hb1))
        clear o1 hb1 ba hsv hz2
        go_roundw
        case rel => exact ⟨i + 1, acc ++ [[]], by go_num, by omega, by simp; omega, HG2, Lib.hid (.inr ⟨acc, [], rfl, by simp⟩), HO7, HB7⟩
        case measure => simp [RowKit.intOf]; omega
      · rw [beq_eq_false_iff_ne.2 e47] at h47
        have hne : ∃ a0 x, acc = a0 ++ [x] ∧ x.length ≤ i := by
          rcases HA.out with ⟨h0, _⟩ | h
          · subst h0; exact absurd (HH.out c hc) e47
          · exact h
        obtain ⟨a0, x, rfl, hxl⟩ := hne
        obtain ⟨g, cap, rfl, hcap⟩ := HO.out.form
        obtain ⟨cl, fl, hBg⟩ := HO.out.lastCell
        have sx := bs_size x
        rw [List.length_append] at hal
        simp only [List.length_cons, List.length_nil] at hal
        by_cases e126 : c = 126
        · subst e126
          rw [show ((126 : UInt8) == 126) = true from rfl] at h126
          by_cases hlt2 : i + 1 < s.length
          · have his2 : i + 1 < (bs s).size := by omega
            obtain ⟨d, hd⟩ : ∃ d, s[i + 1]? = some d := ⟨_, List.getElem?_eq_getElem hlt2⟩
            have hdr2 : s.drop (i + 1) = d :: s.drop (i + 2) := drop_cons hd
            have hge : (bs s)[i + 1]'his2 = d := by
              have := at_bs s (i + 1) his2
              rw [hd] at this
              exact (Option.some.inj this).symm
            have dl1 : decide ((s.length : Int) ≤ (i : Int) + 1) = false := decide_eq_false (by omega)
            have dl2 : decide (s.length ≤ i + 1) = false := decide_eq_false (by omega)
            have n48 : ((((bs s)[i + 1]'his2).toNat : Int) != 48) = !(d == 48) := by rw [byte_ne _ 48 48 rfl, hge]
            have n49 : ((((bs s)[i + 1]'his2).toNat : Int) != 49) = !(d == 49) := by rw [byte_ne _ 49 49 rfl, hge]
            have m49 : ((((bs s)[i + 1]'his2).toNat : Int) == 49) = (d == 49) := by rw [byte_eq _ 49 49 rfl, hge]
            rw [hdr2] at hg
            by_cases e48 : d = 48
            · subst e48
              rw [show ((48 : UInt8) == 48) = true from rfl, Bool.not_true] at n48
              rw [show ((48 : UInt8) == 49) = false from rfl] at m49
              rw [pgo_0, snoc_form] at hg
              have HG2 := Lib.hid hg
              have hcat : bs x ++ (bs s).extract i (i + 1) = bs (x ++ [126]) := by rw [hsl, bs_append]
              have hsum : ¬ 9223372036854775807 < (bs x).size + ((bs s).extract i (i + 1)).size := by rw [hsl, bs_size, bs_size]; simp only [List.length_cons, List.length_nil]; omega
              have HST : Hid (OwnsS w.heap.size (a0 ++ [x ++ [126]]) (.slice (some ⟨g, 0, none⟩) (a0.length + 1) cap) (wr.setCell ⟨g, a0.length, none⟩ (.string (bs x ++ (bs s).extract i (i + 1))))) := Lib.hid (by rw [hcat]; exact HO.out.last _)
              have HBS : Hid (Below w.heap.size w (wr.setCell ⟨g, a0.length, none⟩ (.string (bs x ++ (bs s).extract i (i + 1))))) := Lib.hid (HB.out.setCell (p := ⟨g, a0.length, none⟩) hBg _)
              clear hsl hdr hdr2 hc hd hge hg hcat n49 HA HH
              go_wp2_with fail
              go_roundw
              case rel => exact ⟨i + 2, a0 ++ [x ++ [126]], by go_num, by omega, by simp; omega, HG2, Lib.hid (.inr ⟨a0, x ++ [126], rfl, by simp; omega⟩), HST, HBS⟩
              case measure => simp [RowKit.intOf]; omega
            · rw [beq_eq_false_iff_ne.2 e48, Bool.not_false] at n48
              by_cases e49 : d = 49
              · subst e49
                rw [show ((49 : UInt8) == 49) = true from rfl, Bool.not_true] at n49
                rw [show ((49 : UInt8) == 49) = true from rfl] at m49
                rw [pgo_1, snoc_form] at hg
                have HG2 := Lib.hid hg
                have hcat : bs x ++ (⟨#[47]⟩ : ByteArray) = bs (x ++ [47]) := by exact bs_append x [47]
                have hsum : ¬ 9223372036854775807 < (bs x).size + ((⟨#[47]⟩ : ByteArray)).size := by rw [bs_size]; show ¬ _ < _ + 1; omega
                have HST : Hid (OwnsS w.heap.size (a0 ++ [x ++ [47]]) (.slice (some ⟨g, 0, none⟩) (a0.length + 1) cap) (wr.setCell ⟨g, a0.length, none⟩ (.string (bs x ++ (⟨#[47]⟩ : ByteArray))))) := Lib.hid (by rw [hcat]; exact HO.out.last _)
                have HBS : Hid (Below w.heap.size w (wr.setCell ⟨g, a0.length, none⟩ (.string (bs x ++ (⟨#[47]⟩ : ByteArray))))) := Lib.hid (HB.out.setCell (p := ⟨g, a0.length, none⟩) hBg _)
                clear hsl hdr hdr2 hc hd hge hg hcat HA HH
                go_wp2_with fail
                go_roundw
                case rel => exact ⟨i + 2, a0 ++ [x ++ [47]], by go_num, by omega, by simp; omega, HG2, Lib.hid (.inr ⟨a0, x ++ [47], rfl, by simp; omega⟩), HST, HBS⟩
                case measure => simp [RowKit.intOf]; omega
              · rw [beq_eq_false_iff_ne.2 e49, Bool.not_false] at n49
                have hw : wholeL (126 :: d :: s.drop (i + 2)) = false := by
                  rw [whole_at]
                  have : (d == 48 || d == 49) = false := by rw [Bool.or_eq_false_iff, beq_eq_false_iff_ne, beq_eq_false_iff_ne]; exact ⟨e48, e49⟩
                  rw [this]; rfl
                rw [pgo_bad _ _ hw (fun d' t h => by injection h with h h'; subst h; exact ⟨e48, e49⟩)] at hg
                have HF2 : Hid (parseP s = ([], 2)) := Lib.hid (by rw [HF.out, ← hg]; rfl)
                clear hsl hdr hdr2 hc hd hge hg hw m49 HA HH
                go_wp2_with fail
                go_ret2
                rw [HF2.out]
                exact ⟨_, rfl, OwnsS.nil _ _, HB.out⟩
          · have dl1 : decide ((s.length : Int) ≤ (i : Int) + 1) = true := decide_eq_true (by omega)
            have dl2 : decide (s.length ≤ i + 1) = true := decide_eq_true (by omega)
            rw [List.drop_of_length_le (show s.length ≤ i + 1 by omega), pgo_bad _ [] rfl (fun d' t h => by cases h)] at hg
            have HF2 : Hid (parseP s = ([], 2)) := Lib.hid (by rw [HF.out, ← hg]; rfl)
            clear hsl hdr hc hg HA HH
            go_wp2_with fail
            go_ret2
            rw [HF2.out]
            exact ⟨_, rfl, OwnsS.nil _ _, HB.out⟩
        · rw [beq_eq_false_iff_ne.2 e126] at h126
          rw [pgo_no e47 e126, snoc_form] at hg
          have HG2 := Lib.hid hg
          have hcat : bs x ++ (bs s).extract i (i + 1) = bs (x ++ [c]) := by rw [hsl, bs_append]
          have hsum : ¬ 9223372036854775807 < (bs x).size + ((bs s).extract i (i + 1)).size := by rw [hsl, bs_size, bs_size]; simp only [List.length_cons, List.length_nil]; omega
          have HST : Hid (OwnsS w.heap.size (a0 ++ [x ++ [c]]) (.slice (some ⟨g, 0, none⟩) (a0.length + 1) cap) (wr.setCell ⟨g, a0.length, none⟩ (.string (bs x ++ (bs s).extract i (i + 1))))) := Lib.hid (by rw [hcat]; exact HO.out.last _)
          have HBS : Hid (Below w.heap.size w (wr.setCell ⟨g, a0.length, none⟩ (.string (bs x ++ (bs s).extract i (i + 1))))) := Lib.hid (HB.out.setCell (p := ⟨g, a0.length, none⟩) hBg _)
          clear hsl hdr hc hg hcat HA HH
          go_wp2_with fail
          go_roundw
          case rel => exact ⟨i + 1, a0 ++ [x ++ [c]], by go_num, by omega, by simp; omega, HG2, Lib.hid (.inr ⟨a0, x ++ [c], rfl, by simp; omega⟩), HST, HBS⟩
          case measure => simp [RowKit.intOf]; omega
    · have hiz : ¬ (i : Int) < (s.length : Int) := by omega
      have hg := HG.out
      rw [List.drop_of_length_le (by omega)] at hg
      have HR1 : Hid (some acc = R) := Lib.hid (by rw [← hg]; cases acc <;> rfl)
      obtain ⟨sp, sc, rfl, hsc, _⟩ := HO.out.toSV
      by_cases h64 : 64 < acc.length
      · have d1 : decide ((64 : Int) < (acc.length : Int)) = true := decide_eq_true (by omega)
        have d2 : decide (64 < acc.length) = true := decide_eq_true h64
        have HF2 : Hid (parseP s = ([], 3)) := Lib.hid (by rw [HF.out, ← HR1.out]; exact if_pos h64)
        clear hg h64
        go_wp2_with fail
        go_ret2
        rw [HF2.out]
        exact ⟨_, rfl, OwnsS.nil _ _, HB.out⟩
      · have d1 : decide ((64 : Int) < (acc.length : Int)) = false := decide_eq_false (by omega)
        have d2 : decide (64 < acc.length) = false := decide_eq_false h64
        have HF2 : Hid (parseP s = (acc, 0)) := Lib.hid (by rw [HF.out, ← HR1.out]; exact if_neg h64)
        clear hg h64
        go_wp2_with fail
        go_ret2
        rw [HF2.out]
        exact ⟨_, rfl, HO.out, HB.out⟩
end Go.Proofs.YtfklmopnifkieaaGreatDoor

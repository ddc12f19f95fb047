import Derived.Test.YtnnlpkbopeiefaaGreatDoorVe
/-! The walks of value.every, sized, Right. -/
namespace Go.Proofs.YtnnlpkbopeiefaaGreatDoor
set_option linter.unusedSimpArgs false
set_option linter.unusedVariables false
open Go.RowKit Go.Maps Go.WideMaps
open Go.Lib hiding intOf
def rnodeB (t : VT) : Bool := decide (t.kind ≠ 7) && nodeB t
def RightB (t : VT) : Bool := (decide (t.size ≤ 4096) && decide (t.depth ≤ 32)) && everyB rnodeB t
theorem vRight1_any (n : Nat) (t : VT) (kv iv : Value) (w : World) (h : VD w n t kv iv) (hbk : t.bulk ≤ 1073741824) (hV : VVar w) :
    Calls Tryz.prog 89 #[vv t kv iv] w fun e w' => e = .returned (.bool (rnodeB t)) ∧ Below w.heap.size w w' := by
  obtain ⟨m', hm, ⟨pk, ck, rfl, hck, hlies⟩, p, c, rfl, hlc, hit⟩ := h.parts
  obtain ⟨R, hR⟩ : ∃ R, rnodeB t = R := ⟨_, rfl⟩
  rw [hR]
  unfold rnodeB at hR
  obtain ⟨W1, hW1⟩ : ∃ W, w.alloc (.cells #[.int .i64 t.kind, .string (bs t.text), .slice pk t.keys.length ck, .slice p t.items.length c] 25) = W := ⟨_, rfl⟩
  obtain ⟨B, hB⟩ : ∃ B, w.heap.size = B := ⟨_, rfl⟩
  have HB1 : Hid (Below w.heap.size w W1) := Lib.hid (by rw [← hW1]; exact below_alloc1 _ _)
  have HX : Hid (VBox W1 B t (.slice pk t.keys.length ck) (.slice p t.items.length c)) := Lib.hid (by rw [← hW1, ← hB]; exact VBox.new w t _ _)
  have hsv : SV W1 (.slice pk t.keys.length ck) t.keys := ⟨pk, ck, rfl, hck, hlies.keep HB1.out⟩
  have hV1 := hV.keep HB1.out
  have HR := Lib.hid hR
  unfold vv
  by_cases h7 : t.kind = 7
  · have d7 : (t.kind != 7) = false := by simp [h7]
    have hr := HR.out
    rw [decide_eq_false (by simpa using h7), Bool.false_and] at hr
    subst hr
    clear hit hlies hsv hV1 hV h hR h7
    go_enter Tryz.func89, Tryz.ntmps89
    go_upto_region 1 with fail
    clear hW1
    obtain ⟨b0, b1, b2, b3⟩ := HX.out.cells
    go_wp2_with fail
    go_ret
    exact ⟨rfl, by first | exact HB1.out | (rw [← hB]; exact HB1.out)⟩
  · have d7 : (t.kind != 7) = true := by simp [h7]
    have hr := HR.out
    rw [decide_eq_true (by simpa using h7), Bool.true_and] at hr
    have HC := Lib.hid (vnode_any t _ p c W1 hsv hbk h7 hV1)
    unfold vv at HC
    rw [hr] at HC
    clear hit hlies hsv hV1 hV h hR h7 hr
    go_enter Tryz.func89, Tryz.ntmps89
    go_upto_region 1 with fail
    clear hW1
    obtain ⟨b0, b1, b2, b3⟩ := HX.out.cells
    go_wp2_with fail
    refine HC.out.mono ?_
    rintro e w2 ⟨rfl, hb2⟩
    have HB2 := Lib.hid (below_of_new HB1.out hb2)
    clear hb2 b0 b1 b2 b3
    go_wp2_with fail
    go_ret
    exact ⟨rfl, by first | exact HB2.out | (rw [← hB]; exact HB2.out)⟩
/-- What every's closure is. -/
def rightF : Value := .func (.func 89) #[] #[]
def evF (X : Nat) : Value := .func (.func 147) #[] #[.pointer (some ⟨X, 0, none⟩)]
/-- every's contract at a depth. -/
def VEv (n : Nat) : Prop := ∀ (t : VT) (kv iv : Value) (w : World), VD w n t kv iv → t.bulk ≤ 1073741824 → VVar w →
  Calls Tryz.prog 88 #[vv t kv iv, rightF] w fun e w' => e = .returned (.bool (everyB rnodeB t)) ∧ Below w.heap.size w w'
theorem vevery1_any (n : Nat) (IH : VEv n) (t : VT) (kv iv : Value) (X : Nat) (w : World) (h : VD w n t kv iv) (hbk : t.bulk ≤ 1073741824) (hV : VVar w) (hX : w.cell? ⟨X, 0, none⟩ = some rightF) :
    Calls Tryz.prog 147 #[vv t kv iv, .pointer (some ⟨X, 0, none⟩)] w fun e w' => e = .returned (.bool (!everyB rnodeB t)) ∧ Below w.heap.size w w' := by
  obtain ⟨pk, ck, p, c, rfl, rfl⟩ := h.form
  obtain ⟨R, hR⟩ : ∃ R, everyB rnodeB t = R := ⟨_, rfl⟩
  rw [hR]
  obtain ⟨W1, hW1⟩ : ∃ W, w.alloc (.cells #[.int .i64 t.kind, .string (bs t.text), .slice pk t.keys.length ck, .slice p t.items.length c] 25) = W := ⟨_, rfl⟩
  obtain ⟨B, hB⟩ : ∃ B, w.heap.size = B := ⟨_, rfl⟩
  have HB1 : Hid (Below w.heap.size w W1) := Lib.hid (by rw [← hW1]; exact below_alloc1 _ _)
  have HXB : Hid (VBox W1 B t (.slice pk t.keys.length ck) (.slice p t.items.length c)) := Lib.hid (by rw [← hW1, ← hB]; exact VBox.new w t _ _)
  have hx1 : W1.cell? ⟨X, 0, none⟩ = some rightF := by rw [HB1.out.cell (p := ⟨X, 0, none⟩) (cell_lt hX)]; exact hX
  have HC := Lib.hid (IH t _ _ W1 (h.keep HB1.out) hbk (hV.keep HB1.out))
  unfold vv at HC ⊢
  unfold rightF at HC hx1
  rw [hR] at HC
  clear h hbk hV hX hR IH
  go_enter Tryz.func147, Tryz.ntmps147
  go_upto_region 1 with fail
  clear hW1
  obtain ⟨b0, b1, b2, b3⟩ := HXB.out.cells
  go_wp2_with fail
  refine HC.out.mono ?_
  rintro e w2 ⟨rfl, hb2⟩
  have HB2 := Lib.hid (below_of_new HB1.out hb2)
  clear hb2 b0 b1 b2 b3 hx1
  go_wp2_with fail
  go_ret
  exact ⟨rfl, by first | exact HB2.out | (rw [← hB]; exact HB2.out)⟩
/-- Where the first node that is not as it should be stands. -/
def badI (l : List VT) : Int := if l.all (everyB rnodeB) then -1 else ((l.findIdx (fun x => !everyB rnodeB x) : Nat) : Int)
theorem badI_hit {l : List VT} {i : Nat} {x : VT} (hx : l[i]? = some x) (hq : everyB rnodeB x = false) (hn : ∀ (j : Nat) (y : VT), j < i → l[j]? = some y → everyB rnodeB y = true) : badI l = (i : Int) := by
  obtain ⟨hi, he⟩ := List.getElem?_eq_some_iff.1 hx
  have hf : l.findIdx (fun x => !everyB rnodeB x) = i := by
    rw [List.findIdx_eq hi]
    refine ⟨by rw [he, hq]; rfl, fun j hj => ?_⟩
    rw [hn j _ hj (List.getElem?_eq_getElem (by omega))]
    rfl
  unfold badI
  rw [if_neg, hf]
  intro h
  have := List.all_eq_true.1 h x (List.mem_of_getElem? hx)
  rw [hq] at this
  cases this
theorem badI_miss {l : List VT} (hn : ∀ (j : Nat) (y : VT), l[j]? = some y → everyB rnodeB y = true) : badI l = -1 := by
  unfold badI
  rw [if_pos]
  rw [List.all_eq_true]
  intro x hx
  obtain ⟨j, hj⟩ := List.getElem?_of_mem hx
  exact hn j x hj
theorem vindex_any (n : Nat) (IH : VEv n) (X : Nat) (p : Option Addr) (c : Nat) (l : List VT) (w : World) (hit : Items w n p l) (hbk : bulks l ≤ 1073741824) (hV : VVar w) (hX : w.cell? ⟨X, 0, none⟩ = some rightF) :
    Calls Tryz.prog 199 #[.slice p l.length c, evF X] w fun e w' => e = .returned (.int .i64 (badI l)) ∧ Below w.heap.size w w' := by
  have HIT := Lib.hid hit
  have HV := Lib.hid hV
  have HX := Lib.hid hX
  have hlen := Nat.le_trans (len_le_bulks l) hbk
  obtain ⟨R, hR⟩ : ∃ R, badI l = R := ⟨_, rfl⟩
  rw [hR]
  have HR := Lib.hid hR
  clear hit hV hX hR
  unfold evF
  go_enter Tryz.func199, Tryz.ntmps199
  go_wp2_with fail
  go_loopw [8] (fun s8 wr => ∃ i : Nat, s8 = .int .i64 i ∧ i ≤ l.length ∧ Hid (∀ j y, j < i → l[j]? = some y → everyB rnodeB y = true) ∧ Hid (Below w.heap.size w wr)) (fun s8 _ => l.length - (RowKit.intOf s8).toNat)
  case atStart => exact ⟨0, rfl, by omega, Lib.hid (fun j y hj => by omega), Lib.hid (Below.refl _ _)⟩
  case round =>
    obtain ⟨i, rfl, hi, HN, HB⟩ := hrel
    by_cases hlt : i < l.length
    · have hiz : (i : Int) < (l.length : Int) := by omega
      obtain ⟨x, hx⟩ : ∃ x, l[i]? = some x := ⟨_, List.getElem?_eq_getElem hlt⟩
      obtain ⟨g, o, kv', iv', rfl, hg, n0, n1, n2, n3, hvd⟩ := HIT.out.keep HB.out i x hx
      obtain ⟨pk2, ck2, px, cx, rfl, rfl⟩ := hvd.form
      have hx2 : wr.cell? ⟨X, 0, none⟩ = some rightF := by rw [HB.out.cell (p := ⟨X, 0, none⟩) (cell_lt HX.out)]; exact HX.out
      have C := vevery1_any n IH x _ _ X wr hvd (Nat.le_trans (bulk_mem (List.mem_of_getElem? hx)) hbk) (HV.out.keep HB.out) hx2
      obtain ⟨b, hb⟩ : ∃ b, everyB rnodeB x = b := ⟨_, rfl⟩
      rw [hb] at C
      unfold vv at C
      have HC := Lib.hid C
      clear C hx2 hvd
      cases b with
      | false =>
        have HF := Lib.hid (HR.out.symm.trans (badI_hit hx hb HN.out))
        clear hx hb
        go_wp2_with fail
        refine HC.out.mono ?_
        rintro e w1 ⟨rfl, hb1⟩
        have HB1 := Lib.hid (below_of_new HB.out hb1)
        clear hb1
        go_wp2_with fail
        go_ret
        exact ⟨by rw [HF.out] <;> rfl, HB1.out⟩
      | true =>
        have HN2 : Hid (∀ j y, j < i + 1 → l[j]? = some y → everyB rnodeB y = true) := Lib.hid (fun j y hj hy => by
          by_cases hji : j < i
          · exact HN.out j y hji hy
          · obtain rfl : j = i := by omega
            rw [hx] at hy
            obtain rfl := Option.some.inj hy
            exact hb)
        clear hx hb
        go_wp2_with fail
        refine HC.out.mono ?_
        rintro e w1 ⟨rfl, hb1⟩
        have HB1 := Lib.hid (below_of_new HB.out hb1)
        clear hb1
        go_wp2_with fail
        go_roundw
        case rel => exact ⟨i + 1, by go_num, by omega, HN2, HB1⟩
        case measure => simp [RowKit.intOf]; omega
    · have hiz : ¬ (i : Int) < (l.length : Int) := by omega
      have HF := Lib.hid (HR.out.symm.trans (badI_miss (fun j y hy => HN.out j y (by have := (List.getElem?_eq_some_iff.1 hy).1; omega) hy)))
      go_wp2_with fail
      go_ret
      exact ⟨by rw [HF.out] <;> rfl, HB.out⟩
theorem vcontains_any (n : Nat) (IH : VEv n) (X : Nat) (p : Option Addr) (c : Nat) (l : List VT) (w : World) (hit : Items w n p l) (hbk : bulks l ≤ 1073741824) (hV : VVar w) (hX : w.cell? ⟨X, 0, none⟩ = some rightF) :
    Calls Tryz.prog 146 #[.slice p l.length c, evF X] w fun e w' => e = .returned (.bool (!everyL rnodeB l)) ∧ Below w.heap.size w w' := by
  have C := vindex_any n IH X p c l w hit hbk hV hX
  have hlen := Nat.le_trans (len_le_bulks l) hbk
  rw [everyL_eq]
  unfold badI at C
  obtain ⟨b, hb⟩ : ∃ b, l.all (everyB rnodeB) = b := ⟨_, rfl⟩
  obtain ⟨F, hF⟩ : ∃ F, l.findIdx (fun x => !everyB rnodeB x) = F := ⟨_, rfl⟩
  rw [hb, hF] at C
  rw [hb]
  have HC := Lib.hid C
  clear C hb hF hit hV hX
  unfold evF at HC ⊢
  cases b with
  | true =>
    go_enter Tryz.func146, Tryz.ntmps146
    go_wp2_with fail
    refine HC.out.mono ?_
    rintro e w1 ⟨rfl, hb1⟩
    have HB1 := Lib.hid hb1
    clear hb1
    go_wp2_with fail
    go_ret
    exact ⟨rfl, HB1.out⟩
  | false =>
    have hF0 : decide ((0 : Int) ≤ (F : Int)) = true := decide_eq_true (by omega)
    go_enter Tryz.func146, Tryz.ntmps146
    go_wp2_with fail
    refine HC.out.mono ?_
    rintro e w1 ⟨rfl, hb1⟩
    have HB1 := Lib.hid hb1
    clear hb1
    go_wp2_with fail
    go_ret
    exact ⟨rfl, HB1.out⟩
theorem vevery_step (m : Nat) (IH : VEv m) : VEv (m + 1) := by
  intro t kv iv w h hbk hV
  have hmf : ∀ (fn : Fn) (first cap : Array Value) (w : World), (Instr.makeFunc fn first cap).run Tryz.prog w = .ok (.func fn first cap) w := fun _ _ _ _ => rfl
  obtain ⟨m', hm, ⟨pk, ck, rfl, hck, hlies⟩, p, c, rfl, hlc, hit⟩ := h.parts
  obtain rfl : m = m' := by omega
  obtain ⟨R, hR⟩ : ∃ R, everyB rnodeB t = R := ⟨_, rfl⟩
  rw [hR]
  have hR2 : (rnodeB t && everyL rnodeB t.items) = R := by rw [← hR]; cases t; rw [everyB]; rfl
  have hbl : bulks t.items ≤ 1073741824 := by cases t; rw [VT.bulk] at hbk; simp only [VT.items]; omega
  obtain ⟨B, hB⟩ : ∃ B, w.heap.size = B := ⟨_, rfl⟩
  obtain ⟨W1, hW1⟩ : ∃ W, (w.alloc (.cells #[.int .i64 t.kind, .string (bs t.text), .slice pk t.keys.length ck, .slice p t.items.length c] 25)).alloc (.cells #[.func (.func 89) #[] #[]] 31) = W := ⟨_, rfl⟩
  have b1 := below_alloc1 w (.cells #[.int .i64 t.kind, .string (bs t.text), .slice pk t.keys.length ck, .slice p t.items.length c] 25)
  have b2 := below_alloc1 (w.alloc (.cells #[.int .i64 t.kind, .string (bs t.text), .slice pk t.keys.length ck, .slice p t.items.length c] 25)) (.cells #[.func (.func 89) #[] #[]] 31)
  have HB1 : Hid (Below w.heap.size w W1) := Lib.hid (by rw [← hW1]; exact below_of_new b1 b2)
  have HXB : Hid (VBox W1 B t (.slice pk t.keys.length ck) (.slice p t.items.length c)) := Lib.hid (by rw [← hW1, ← hB]; exact (VBox.new w t _ _).keep b2)
  have hh : W1.heap[B + 1]? = some (.cells #[.func (.func 89) #[] #[]] 31 (0, 0)) := by
    rw [← hW1, ← hB]
    have hh := heap_alloc_new (w.alloc (.cells #[.int .i64 t.kind, .string (bs t.text), .slice pk t.keys.length ck, .slice p t.items.length c] 25)) (.cells #[.func (.func 89) #[] #[]] 31)
    simp only [World.size_alloc] at hh
    exact hh
  have HXF : Hid (W1.cell? ⟨B + 1, 0, none⟩ = some (.func (.func 89) #[] #[]) ∧ B + 1 < W1.heap.size) := Lib.hid ⟨by simp [World.cell?, hh], cell_it hh⟩
  clear hh
  have HIT := Lib.hid (hit.keep HB1.out)
  have HV := Lib.hid (hV.keep HB1.out)
  have HC1 := Lib.hid (vRight1_any _ t _ _ W1 (h.keep HB1.out) hbk HV.out)
  unfold vv at HC1 ⊢
  unfold rightF
  obtain ⟨y, hy⟩ : ∃ y, rnodeB t = y := ⟨_, rfl⟩
  rw [hy] at HC1 hR2
  have HR := Lib.hid hR2
  clear b1 b2 hit hlies hV h hR hR2 hy
  go_enter Tryz.func88, Tryz.ntmps88
  go_upto_region 1 with fail
  clear hW1
  obtain ⟨b0, b1, b2, b3⟩ := HXB.out.cells
  obtain ⟨x0, _⟩ := HXF.out
  go_wp2_with fail
  refine HC1.out.mono ?_
  rintro e w2 ⟨rfl, hb2⟩
  have HB2 := Lib.hid hb2
  have hx2 : w2.cell? ⟨B + 1, 0, none⟩ = some rightF := by rw [hb2.cell (p := ⟨B + 1, 0, none⟩) HXF.out.2]; exact HXF.out.1
  clear hb2 b0 b1 b2 b3 x0
  obtain ⟨b0, b1, b2, b3⟩ := (HXB.out.keep HB2.out).cells
  cases y with
  | false =>
    go_wp2_with fail
    go_ret
    exact ⟨by rw [← HR.out]; rfl, by first | exact below_of_new HB1.out HB2.out | (rw [← hB]; exact below_of_new HB1.out HB2.out)⟩
  | true =>
    have HC2 := Lib.hid (vcontains_any m IH (B + 1) p c t.items w2 (HIT.out.keep HB2.out) hbl (HV.out.keep HB2.out) hx2)
    obtain ⟨z, hz⟩ : ∃ z, everyL rnodeB t.items = z := ⟨_, rfl⟩
    have hr := HR.out
    rw [hz] at HC2 hr
    unfold evF at HC2
    rw [Bool.true_and] at hr
    subst hr
    clear hz HR hx2
    go_wp2_with fail
    refine HC2.out.mono ?_
    rintro e w3 ⟨rfl, hb3⟩
    have HB3 := Lib.hid (below_of_new HB2.out hb3)
    clear hb3 b0 b1 b2 b3
    cases z
    all_goals
      go_wp2_with fail
      go_ret
      exact ⟨rfl, by first | exact below_of_new HB1.out HB3.out | (rw [← hB]; exact below_of_new HB1.out HB3.out)⟩
theorem vevery_any : ∀ n, VEv n
  | 0 => fun t kv iv w h => h.elim
  | n + 1 => vevery_step n (vevery_any n)
theorem vsized_any (n : Nat) (t : VT) (kv iv : Value) (w : World) (h : VD w n t kv iv) (hbk : t.bulk ≤ 1073741824) :
    Calls Tryz.prog 87 #[vv t kv iv] w fun e w' => e = .returned (.bool (decide (t.size ≤ 4096) && decide (t.depth ≤ 32))) ∧ Below w.heap.size w w' := by
  obtain ⟨pk, ck, p, c, rfl, rfl⟩ := h.form
  obtain ⟨B, hB⟩ : ∃ B, w.heap.size = B := ⟨_, rfl⟩
  obtain ⟨W1, hW1⟩ : ∃ W, w.alloc (.cells #[.int .i64 t.kind, .string (bs t.text), .slice pk t.keys.length ck, .slice p t.items.length c] 25) = W := ⟨_, rfl⟩
  have HB1 : Hid (Below w.heap.size w W1) := Lib.hid (by rw [← hW1]; exact below_alloc1 _ _)
  have HXB : Hid (VBox W1 B t (.slice pk t.keys.length ck) (.slice p t.items.length c)) := Lib.hid (by rw [← hW1, ← hB]; exact VBox.new w t _ _)
  have HV := Lib.hid (h.keep HB1.out)
  have HC1 := Lib.hid (vsize_any n t _ _ W1 HV.out (by omega))
  have hs := size_le_bulk t
  have hd := depth_le_size t
  have HDp := Lib.hid (fun w' hb => vdepth_any n t _ _ w' (HV.out.keep hb) (by omega))
  unfold vv at HC1 HDp ⊢
  obtain ⟨S, hS⟩ : ∃ S, t.size = S := ⟨_, rfl⟩
  obtain ⟨D, hD⟩ : ∃ D, t.depth = D := ⟨_, rfl⟩
  rw [hS] at HC1 hs hd ⊢
  rw [hD] at HDp hd ⊢
  obtain ⟨R, hR⟩ : ∃ R, (decide (S ≤ 4096) && decide (D ≤ 32)) = R := ⟨_, rfl⟩
  rw [hR]
  have HR := Lib.hid hR
  have d1 : decide ((S : Int) ≤ 4096) = decide (S ≤ 4096) := by rw [decide_eq_decide]; omega
  have d2 : decide ((D : Int) ≤ 32) = decide (D ≤ 32) := by rw [decide_eq_decide]; omega
  clear h hS hD hR
  go_enter Tryz.func87, Tryz.ntmps87
  go_upto_region 1 with fail
  clear hW1
  obtain ⟨b0, b1, b2, b3⟩ := HXB.out.cells
  go_wp2_with fail
  refine HC1.out.mono ?_
  rintro e w2 ⟨rfl, hb2⟩
  have HB2 := Lib.hid hb2
  clear hb2 b0 b1 b2 b3
  obtain ⟨b0, b1, b2, b3⟩ := (HXB.out.keep HB2.out).cells
  by_cases hS : S ≤ 4096
  · rw [decide_eq_true hS] at d1
    have hS2 : decide (S ≤ 4096) = true := decide_eq_true hS
    have HC2 := Lib.hid (HDp.out w2 HB2.out)
    go_wp2_with fail
    refine HC2.out.mono ?_
    rintro e w3 ⟨rfl, hb3⟩
    have HB3 := Lib.hid (below_of_new HB2.out hb3)
    clear hb3 b0 b1 b2 b3
    obtain ⟨y, hy⟩ : ∃ y, decide (D ≤ 32) = y := ⟨_, rfl⟩
    rw [hy] at d2
    have hr := HR.out
    rw [hS2, hy, Bool.true_and] at hr
    subst hr
    go_wp2_with fail
    go_ret
    exact ⟨by simp [hy, Act.put], by first | exact below_of_new HB1.out HB3.out | (rw [← hB]; exact below_of_new HB1.out HB3.out)⟩
  · rw [decide_eq_false hS] at d1
    have hS2 : decide (S ≤ 4096) = false := decide_eq_false hS
    have hr := HR.out
    rw [hS2, Bool.false_and] at hr
    subst hr
    go_wp2_with fail
    go_ret
    exact ⟨rfl, by first | exact below_of_new HB1.out HB2.out | (rw [← hB]; exact below_of_new HB1.out HB2.out)⟩
theorem vright_any (n : Nat) (t : VT) (kv iv : Value) (w : World) (h : VD w n t kv iv) (hbk : t.bulk ≤ 1073741824) (hV : VVar w) :
    Calls Tryz.prog 44 #[vv t kv iv] w fun e w' => e = .returned (.bool (RightB t)) ∧ Below w.heap.size w w' := by
  obtain ⟨pk, ck, p, c, rfl, rfl⟩ := h.form
  obtain ⟨R, hR⟩ : ∃ R, RightB t = R := ⟨_, rfl⟩
  rw [hR]
  unfold RightB at hR
  obtain ⟨B, hB⟩ : ∃ B, w.heap.size = B := ⟨_, rfl⟩
  obtain ⟨W1, hW1⟩ : ∃ W, w.alloc (.cells #[.int .i64 t.kind, .string (bs t.text), .slice pk t.keys.length ck, .slice p t.items.length c] 25) = W := ⟨_, rfl⟩
  have HB1 : Hid (Below w.heap.size w W1) := Lib.hid (by rw [← hW1]; exact below_alloc1 _ _)
  have HXB : Hid (VBox W1 B t (.slice pk t.keys.length ck) (.slice p t.items.length c)) := Lib.hid (by rw [← hW1, ← hB]; exact VBox.new w t _ _)
  have HVd := Lib.hid (h.keep HB1.out)
  have HV := Lib.hid (hV.keep HB1.out)
  have HC1 := Lib.hid (vsized_any n t _ _ W1 HVd.out hbk)
  unfold vv at HC1 ⊢
  obtain ⟨y, hy⟩ : ∃ y, (decide (t.size ≤ 4096) && decide (t.depth ≤ 32)) = y := ⟨_, rfl⟩
  rw [hy] at HC1 hR
  have HR := Lib.hid hR
  clear h hV hR hy
  go_enter Tryz.func44, Tryz.ntmps44
  go_upto_region 1 with fail
  clear hW1
  obtain ⟨b0, b1, b2, b3⟩ := HXB.out.cells
  go_wp2_with fail
  refine HC1.out.mono ?_
  rintro e w2 ⟨rfl, hb2⟩
  have HB2 := Lib.hid hb2
  clear hb2 b0 b1 b2 b3
  obtain ⟨b0, b1, b2, b3⟩ := (HXB.out.keep HB2.out).cells
  cases y with
  | false =>
    go_wp2_with fail
    go_ret
    exact ⟨by rw [← HR.out]; rfl, by first | exact below_of_new HB1.out HB2.out | (rw [← hB]; exact below_of_new HB1.out HB2.out)⟩
  | true =>
    have HC2 := Lib.hid (vevery_any n t _ _ w2 (HVd.out.keep HB2.out) hbk (HV.out.keep HB2.out))
    unfold vv rightF at HC2
    have hr := HR.out
    rw [Bool.true_and] at hr
    rw [hr] at HC2
    clear hr HR
    go_wp2_with fail
    refine HC2.out.mono ?_
    rintro e w3 ⟨rfl, hb3⟩
    have HB3 := Lib.hid (below_of_new HB2.out hb3)
    clear hb3 b0 b1 b2 b3
    go_wp2_with fail
    go_ret
    exact ⟨rfl, by first | exact below_of_new HB1.out HB3.out | (rw [← hB]; exact below_of_new HB1.out HB3.out)⟩
end Go.Proofs.YtnnlpkbopeiefaaGreatDoor

import Derived.Test.YtfklmopnifkieaaGreatDoorRuA
import Derived.Test.YtfklmopnifkieaaGreatDoorRuD
import Derived.Test.YtfklmopnifkieaaGreatDoorRnV
import Derived.Test.YtfklmopnifkieaaGreatDoorQuoE
import Derived.Test.YtfklmopnifkieaaGreatDoorRuG
import Derived.Test.YtfklmopnifkieaaGreatDoorShelfB2
import Derived.Test.YtfklmopnifkieaaGreatDoorShelfB3
/-! The walks of pointer.plain, pointer.Right; the first of a row that a test takes. -/
namespace Go.Proofs.YtfklmopnifkieaaGreatDoor
set_option linter.unusedSimpArgs false
set_option linter.unusedVariables false
open Go.RowKit
open Go.Lib hiding intOf
/-- slices.IndexFunc: the first that the test takes. -/
def fI {α : Type} (q : α → Bool) (l : List α) : Int := if l.any q = true then ((l.findIdx q : Nat) : Int) else -1
theorem fI_hit {α : Type} {q : α → Bool} {l : List α} {i : Nat} {x : α} (hx : l[i]? = some x) (hq : q x = true) (hn : ∀ j y, j < i → l[j]? = some y → q y = false) : fI q l = i := by
  obtain ⟨hi, rfl⟩ := List.getElem?_eq_some_iff.1 hx
  unfold fI
  rw [if_pos (List.any_eq_true.2 ⟨_, List.getElem_mem hi, hq⟩)]
  congr 1
  rw [List.findIdx_eq hi]
  exact ⟨hq, fun j hj => hn j _ hj (List.getElem?_eq_getElem (by omega))⟩
theorem fI_miss {α : Type} {q : α → Bool} {l : List α} (hn : ∀ j y, j < l.length → l[j]? = some y → q y = false) : fI q l = -1 := by
  unfold fI
  rw [if_neg]
  intro h
  obtain ⟨x, hx, hq⟩ := List.any_eq_true.1 h
  obtain ⟨j, hj, rfl⟩ := List.getElem_of_mem hx
  have := hn j _ hj (List.getElem?_eq_getElem hj)
  rw [this] at hq; cases hq
theorem fI_ge {α : Type} (q : α → Bool) (l : List α) : (fI q l ≥ 0 ↔ l.any q = true) ∧ (fI q l < 0 ↔ l.any q = false) ∧ -1 ≤ fI q l := by
  unfold fI
  cases l.any q with
  | true => simp
  | false => simp
theorem vres_snd (s : ByteArray) : (validRes s).2 = validD s.data.toList := by
  rw [validD_bad]
  unfold validRes
  cases badAt s <;> rfl
theorem rvalid_at (l : Stp) (hs : l.length ≤ 1073741824) :
    ∃ N, ∀ w, Tabs w → Calls Tryz.prog 38 #[.string (bs l)] w fun e w' => e = .returned (.tuple #[.int .i64 N, .bool (validD l)]) ∧ Below w.heap.size w w' :=
  ⟨(validRes (bs l)).1, fun w hT => by
    have C := valid_any (bs l) w (by rw [bs_size]; omega) hT
    rw [vres_snd, bs_data] at C
    exact C⟩
theorem plain_any (l : Stp) (w : World) (hs : l.length ≤ 1073741824) (hT : Tabs w) :
    Calls Tryz.prog 60 #[.string (bs l)] w fun e w' => e = .returned (.bool (validD l)) ∧ Below w.heap.size w w' := by
  obtain ⟨N, C⟩ := rvalid_at l hs
  obtain ⟨b, hb⟩ : ∃ b, validD l = b := ⟨_, rfl⟩
  rw [hb] at C ⊢
  have HC := Lib.hid (C w hT)
  clear C hb hT
  go_enter Tryz.func60, Tryz.ntmps60
  go_wp2_with fail
  refine HC.out.mono ?_
  rintro e w1 ⟨rfl, hb1⟩
  go_wp2_with fail
  go_ret
  exact ⟨rfl, hb1⟩
theorem bad_any (l : Stp) (w : World) (hs : l.length ≤ 1073741824) (hT : Tabs w) :
    Calls Tryz.prog 59 #[.string (bs l)] w fun e w' => e = .returned (.bool (!validD l)) ∧ Below w.heap.size w w' := by
  have C := plain_any l w hs hT
  obtain ⟨b, hb⟩ : ∃ b, validD l = b := ⟨_, rfl⟩
  rw [hb] at C ⊢
  have HC := Lib.hid C
  clear C hb hT
  go_enter Tryz.func59, Tryz.ntmps59
  go_wp2_with fail
  refine HC.out.mono ?_
  rintro e w1 ⟨rfl, hb1⟩
  go_wp2_with fail
  go_ret
  exact ⟨rfl, hb1⟩
set_option maxRecDepth 100000 in
set_option maxHeartbeats 4000000 in
theorem indexBad_any (v : Value) (l : List Stp) (w : World) (hv : SV w v l) (hl : l.length ≤ 1073741824) (hs : ∀ x ∈ l, x.length ≤ 1073741824) (hT : Tabs w) :
    Calls Tryz.prog 78 #[v, .func (.func 59) #[] #[]] w fun e w' => e = .returned (.int .i64 (fI (fun x => !validD x) l)) ∧ Below w.heap.size w w' := by
  obtain ⟨p, c, rfl, hc, hp⟩ := hv
  have HP := Lib.hid hp
  have HT := Lib.hid hT
  have HS := Lib.hid hs
  clear hp hT hs
  obtain ⟨R, hR⟩ : ∃ R, fI (fun x => !validD x) l = R := ⟨_, rfl⟩
  rw [hR]
  have HR := Lib.hid hR
  clear hR
  go_enter Tryz.func78, Tryz.ntmps78
  go_wp2_with fail
  go_loopw [8] (fun s8 wr => ∃ i : Nat, s8 = .int .i64 i ∧ i ≤ l.length ∧ Hid (∀ j y, j < i → l[j]? = some y → (!validD y) = false) ∧ Hid (Below w.heap.size w wr)) (fun s8 _ => l.length - (RowKit.intOf s8).toNat)
  case atStart => exact ⟨0, rfl, by omega, Lib.hid (fun j y hj => by omega), Lib.hid (Below.refl _ _)⟩
  case round =>
    obtain ⟨i, rfl, hi, HN, HB⟩ := hrel
    by_cases hlt : i < l.length
    · have hiz : (i : Int) < (l.length : Int) := by omega
      obtain ⟨x, hx⟩ : ∃ x, l[i]? = some x := ⟨_, List.getElem?_eq_getElem hlt⟩
      obtain ⟨gx, ox, rfl, cx⟩ := (HP.out.keep HB.out).at_ hx
      obtain ⟨b, hb⟩ : ∃ b, (!validD x) = b := ⟨_, rfl⟩
      have C := bad_any x _ (HS.out x (List.mem_of_getElem? hx)) (HT.out.keep HB.out)
      rw [hb] at C
      have HC := Lib.hid C
      clear C
      cases b with
      | true =>
        have HF := Lib.hid (HR.out.symm.trans (fI_hit (q := fun x => !validD x) hx hb HN.out))
        clear hx hb
        go_wp2_with fail
        refine HC.out.mono ?_
        rintro e w1 ⟨rfl, hb1⟩
        have HB1 := Lib.hid (below_of_new HB.out hb1)
        clear hb1
        go_wp2_with fail
        go_ret
        exact ⟨by rw [HF.out] <;> rfl, HB1.out⟩
      | false =>
        have HN2 : Hid (∀ j y, j < i + 1 → l[j]? = some y → (!validD y) = false) := Lib.hid (fun j y hj hy => by
          by_cases hji : j < i
          · exact HN.out j y hji hy
          · obtain rfl : j = i := by omega
            rw [hx] at hy
            obtain rfl := Option.some.inj hy
            exact hb)
        clear hx hb
        go_wp2_with fail
        refine HC.out.mono ?_
        rintro e w1 ⟨rfl, hb1⟩
        have HB1 := Lib.hid (below_of_new HB.out hb1)
        clear hb1
        go_wp2_with fail
        go_roundw
        case rel => exact ⟨i + 1, by go_num, by omega, HN2, HB1⟩
        case measure => simp [RowKit.intOf]; omega
    · have hiz : ¬ (i : Int) < (l.length : Int) := by omega
      have HF := Lib.hid (HR.out.symm.trans (fI_miss (q := fun x => !validD x) (fun j y hj hy => HN.out j y (by omega) hy)))
      go_wp2_with fail
      go_ret
      exact ⟨by rw [HF.out] <;> rfl, HB.out⟩
theorem pathOk_of (l : List Stp) : pathOk l = (decide (l.length ≤ 64) && !(l.any fun x => !validD x)) := by
  unfold pathOk
  rw [List.all_eq_not_any_not]
theorem containsBad_any (v : Value) (l : List Stp) (w : World) (hv : SV w v l) (hl : l.length ≤ 1073741824) (hs : ∀ x ∈ l, x.length ≤ 1073741824) (hT : Tabs w) :
    Calls Tryz.prog 58 #[v, .func (.func 59) #[] #[]] w fun e w' => e = .returned (.bool (l.any fun x => !validD x)) ∧ Below w.heap.size w w' := by
  have C := indexBad_any v l w hv hl hs hT
  have hg := fI_ge (fun x => !validD x) l
  obtain ⟨k, hk⟩ : ∃ k, fI (fun x => !validD x) l = k := ⟨_, rfl⟩
  obtain ⟨b, hb⟩ : ∃ b, (l.any fun x => !validD x) = b := ⟨_, rfl⟩
  rw [hk, hb] at hg
  rw [hk] at C
  rw [hb]
  have HC := Lib.hid C
  have d1 : decide (k ≥ 0) = b := by
    cases b with
    | true => exact decide_eq_true (hg.1.2 rfl)
    | false => exact decide_eq_false (by have := hg.2.1.2 rfl; omega)
  have d2 : decide (0 ≤ k) = b := d1
  clear C hk hb hg hv hs hT
  go_enter Tryz.func58, Tryz.ntmps58
  go_wp2_with fail
  refine HC.out.mono ?_
  rintro e w1 ⟨rfl, hb1⟩
  go_wp2_with fail
  go_ret
  exact ⟨by first | exact ret_bool d1 | rfl, hb1⟩
theorem right_any (v : Value) (l : List Stp) (w : World) (hv : SV w v l) (hl : l.length ≤ 1073741824) (hs : ∀ x ∈ l, x.length ≤ 1073741824) (hT : Tabs w) :
    Calls Tryz.prog 39 #[v] w fun e w' => e = .returned (.bool (pathOk l)) ∧ Below w.heap.size w w' := by
  have C := containsBad_any v l w hv hl hs hT
  have hr := pathOk_of l
  obtain ⟨b, hb⟩ : ∃ b, (l.any fun x => !validD x) = b := ⟨_, rfl⟩
  rw [hb] at hr C
  rw [hr]
  have HC := Lib.hid C
  obtain ⟨p, c, rfl, hc, hp⟩ := hv
  clear C hr hb hs hT hp
  by_cases h64 : l.length ≤ 64
  · have d1 : decide ((l.length : Int) ≤ 64) = true := decide_eq_true (by omega)
    have d2 : decide (l.length ≤ 64) = true := decide_eq_true h64
    clear h64
    go_enter Tryz.func39, Tryz.ntmps39
    go_wp2_with fail
    refine HC.out.mono ?_
    rintro e w1 ⟨rfl, hb1⟩
    go_wp2_with fail
    go_ret
    exact ⟨by rw [d2]; first | rfl | simp, hb1⟩
  · have d1 : decide ((l.length : Int) ≤ 64) = false := decide_eq_false (by omega)
    have d2 : decide (l.length ≤ 64) = false := decide_eq_false h64
    clear h64 HC
    go_enter Tryz.func39, Tryz.ntmps39
    go_wp2_with fail
    go_ret
    exact ⟨by rw [d2]; first | rfl | simp, Below.refl _ _⟩
end Go.Proofs.YtfklmopnifkieaaGreatDoor
/-! The walks of pointer.Text, pointer.whole. -/
namespace Go.Proofs.YtfklmopnifkieaaGreatDoor
set_option linter.unusedSimpArgs false
set_option linter.unusedVariables false
open Go.RowKit
open Go.Lib hiding intOf
/-- internal/bytealg.MaxLen holds an int. -/
def MVar (w : World) : Prop := ∃ m : Int, w.cell? ⟨2, 0, none⟩ = some (.int .i64 m)
theorem MVar.keep {w w' : World} (h : MVar w) (hb : Below w.heap.size w w') : MVar w' := let ⟨m, hm⟩ := h; ⟨m, by rw [hb.cell (p := ⟨_, _, none⟩) (cell_lt hm)]; exact hm⟩
theorem repAll_len {old new : List UInt8} (hn : old ≠ new) (hne : old ≠ []) (h2 : new.length ≤ 2) (n : Nat) : ∀ s : List UInt8, s.length ≤ n → (replaceAll s old new).length ≤ 2 * s.length := by
  induction n with
  | zero =>
    intro s hs
    obtain rfl : s = [] := List.eq_nil_of_length_eq_zero (by omega)
    rw [repAll_nil hn hne]; simp
  | succ n ih =>
    intro s hs
    cases s with
    | nil => rw [repAll_nil hn hne]; simp
    | cons b l =>
      simp only [List.length_cons] at hs
      cases hp : old.isPrefixOf (b :: l) with
      | true =>
        have h1 : 1 ≤ old.length := List.length_pos_iff.2 hne
        have := ih ((b :: l).drop old.length) (by rw [List.length_drop, List.length_cons]; omega)
        rw [repAll_pre hn hne hp, List.length_append]
        rw [List.length_drop, List.length_cons] at this
        rw [List.length_cons]
        omega
      | false =>
        have := ih l (by omega)
        rw [repAll_skip hn hne hp, List.length_cons, List.length_cons]
        omega
theorem replace_at (l old new : List UInt8) (w : World) (hs : l.length ≤ 1073741824) (ho : 1 ≤ old.length) (hn : new.length ≤ 2) (hM : MVar w) :
    Calls Tryz.prog 64 #[.string (bs l), .string (bs old), .string (bs new)] w fun e w' => e = .returned (.string (bs (replaceAll l old new))) ∧ Below w.heap.size w w' := by
  obtain ⟨m, hm⟩ := hM
  have sl := bs_size l
  have so := bs_size old
  have sn := bs_size new
  have hcb := Lib.countB_mul_le (bs old) (by omega) (bs l).size (bs l) (Nat.le_refl _)
  have h1 := Nat.le_mul_of_pos_right (Lib.countB (bs l) (bs old)) (show 0 < (bs old).size by omega)
  have h2 := Nat.mul_le_mul_left (Lib.countB (bs l) (bs old)) (show (bs new).size ≤ 2 by omega)
  have := Tryz.strings_ReplaceAll (bs l) (bs old) (bs new) m w (by omega) hm (by omega) (by omega)
  rw [bs_data, bs_data, bs_data] at this
  exact this
/-- A path whose text is not too long. -/
def PB (p : List Stp) : Prop := (textP p).length ≤ 536870912
theorem PB.mem {p : List Stp} (h : PB p) : ∀ x ∈ p, x.length ≤ 536870912 := by
  unfold PB at h
  induction p with
  | nil => intro x hx; cases hx
  | cons s p ih =>
    rw [textP_cons, List.length_cons, List.length_append] at h
    intro x hx
    rcases List.mem_cons.1 hx with rfl | hx
    · have := escS_len x; omega
    · exact ih (by omega) x hx
theorem textP_len (p : List Stp) : p.length ≤ (textP p).length := by
  induction p with
  | nil => exact Nat.le_refl _
  | cons s p ih => rw [textP_cons, List.length_cons, List.length_cons, List.length_append]; omega
theorem PB.len {p : List Stp} (h : PB p) : p.length ≤ 536870912 := by have := textP_len p; unfold PB at h; omega
theorem textP_take {p : List Stp} {i : Nat} {x : Stp} (hx : p[i]? = some x) : textP (p.take (i + 1)) = textP (p.take i) ++ [47] ++ escS x := by
  obtain ⟨hi, rfl⟩ := List.getElem?_eq_some_iff.1 hx
  rw [List.take_add_one, List.getElem?_eq_getElem hi, textP_app]
  show _ ++ (47 :: (escS _ ++ [])) = _
  rw [List.append_nil, List.append_assoc]; rfl
theorem textP_take_le (p : List Stp) (i : Nat) : (textP (p.take i)).length ≤ (textP p).length := by
  have := textP_app (p.take i) (p.drop i)
  rw [List.take_append_drop] at this
  rw [this, List.length_append]
  omega
def TextE (r : List UInt8 × Int) : Ending := .returned (.tuple #[.string (bs r.1), .int .i64 r.2])
set_option maxRecDepth 100000 in
set_option maxHeartbeats 4000000 in
theorem text_any (v : Value) (p : List Stp) (w : World) (hv : SV w v p) (hp : PB p) (hT : Tabs w) (hM : MVar w) :
    Calls Tryz.prog 43 #[v] w fun e w' => e = TextE (textR p) ∧ Below w.heap.size w w' := by
  have C := right_any v p w hv (by have := hp.len; omega) (fun x hx => by have := hp.mem x hx; omega) hT
  have HC := Lib.hid C
  clear C
  unfold textR
  cases hr : pathOk p with
  | false =>
    rw [hr] at HC
    obtain ⟨pp, c, rfl, hc, hl⟩ := hv
    clear hl hT hM hr
    go_enter Tryz.func43, Tryz.ntmps43
    go_wp2_with fail
    refine HC.out.mono ?_
    rintro e w1 ⟨rfl, hb1⟩
    go_wp2_with fail
    go_ret2
    exact ⟨rfl, hb1⟩
  | true =>
    rw [hr] at HC
    rw [if_pos rfl]
    clear hr
    obtain ⟨pp, c, rfl, hc, hl⟩ := hv
    have HP := Lib.hid hl
    have HM := Lib.hid hM
    have HS := Lib.hid hp.mem
    have hpb : (textP p).length ≤ 536870912 := hp
    have hlen := hp.len
    clear hl hM hT hp
    go_enter Tryz.func43, Tryz.ntmps43
    go_wp2_with fail
    refine HC.out.mono ?_
    rintro e w1 ⟨rfl, hb1⟩
    have HB1 := Lib.hid hb1
    clear hb1
    go_wp2_with fail
    go_loopw [12] (fun s12 wr => ∃ i : Nat, s12 = .int .i64 i ∧ i ≤ p.length ∧ Hid (Bld w1.heap.size w1.heap.size (textP (p.take i)) wr) ∧ Hid (Below w1.heap.size w1 wr)) (fun s12 _ => p.length - (RowKit.intOf s12).toNat)
    case atStart => exact ⟨0, rfl, by omega, Lib.hid (Bld.new w1), Lib.hid (below_alloc1 w1 _)⟩
    case round =>
      obtain ⟨i, rfl, hi, HBd, HW⟩ := hrel
      have htl := textP_take_le p i
      have HB := Lib.hid (below_of_new HB1.out HW.out)
      by_cases hlt : i < p.length
      · have hiz : (i : Int) < (p.length : Int) := by omega
        obtain ⟨x, hx⟩ : ∃ x, p[i]? = some x := ⟨_, List.getElem?_eq_getElem hlt⟩
        obtain ⟨gx, ox, rfl, cx⟩ := (HP.out.keep HB.out).at_ hx
        have hxl := HS.out x (List.mem_of_getElem? hx)
        have hil := repAll_len (old := [126]) (new := [126, 48]) (by decide) (by decide) (by decide) _ x (Nat.le_refl _)
        have hel := (escS_len x).2
        have C1 : Hid (∀ w, MVar w → Calls Tryz.prog 64 #[.string (bs x), .string ⟨#[126]⟩, .string ⟨#[126, 48]⟩] w fun e w' => e = .returned (.string (bs (replaceAll x [126] [126, 48]))) ∧ Below w.heap.size w w') := Lib.hid (fun w h => replace_at x [126] [126, 48] w (by omega) (by decide) (by decide) h)
        obtain ⟨y, hy⟩ : ∃ y, replaceAll x [126] [126, 48] = y := ⟨_, rfl⟩
        have hz : replaceAll y [47] [126, 49] = escS x := by rw [← hy]; exact repOut_esc x
        rw [hy] at C1 hil
        have C2 : Hid (∀ w, MVar w → Calls Tryz.prog 64 #[.string (bs y), .string ⟨#[47]⟩, .string ⟨#[126, 49]⟩] w fun e w' => e = .returned (.string (bs (escS x))) ∧ Below w.heap.size w w') := Lib.hid (fun w h => by
          have := replace_at y [47] [126, 49] w (by omega) (by decide) (by decide) h
          rw [hz] at this
          exact this)
        have HX := Lib.hid (textP_take hx)
        clear hx hy hz
        go_wp2_with fail
        refine (writeByte_any w1.heap.size w1.heap.size (textP (p.take i)) 47 _ HBd.out (by omega) HW.out.size).mono ?_
        rintro e w2 ⟨rfl, h2, b2, _⟩
        have HBd2 := Lib.hid h2
        have HW2 := Lib.hid (HW.out.trans b2)
        clear h2 b2
        go_wp2_with fail
        with_reducible refine (C1.out _ (HM.out.keep (below_of_new HB1.out HW2.out))).mono ?_
        rintro e w3 ⟨rfl, b3⟩
        have HBd3 := Lib.hid (HBd2.out.keep b3)
        have HW3 := Lib.hid (HW2.out.trans (b3.mono HW2.out.size))
        clear b3
        go_wp2_with fail
        with_reducible refine (C2.out _ (HM.out.keep (below_of_new HB1.out HW3.out))).mono ?_
        rintro e w4 ⟨rfl, b4⟩
        have HBd4 := Lib.hid (HBd3.out.keep b4)
        have HW4 := Lib.hid (HW3.out.trans (b4.mono HW3.out.size))
        clear b4
        go_wp2_with fail
        refine (writeString_any w1.heap.size w1.heap.size (textP (p.take i) ++ [47]) (escS x) _ HBd4.out (by simp; omega) HW4.out.size).mono ?_
        rintro e w5 ⟨rfl, h5, b5, _⟩
        have HBd5 : Hid (Bld w1.heap.size w1.heap.size (textP (p.take (i + 1))) w5) := Lib.hid (by rw [HX.out]; exact h5)
        have HW5 := Lib.hid (HW4.out.trans b5)
        clear h5 b5
        go_wp2_with fail
        go_roundw
        case rel => exact ⟨i + 1, by go_num, by omega, HBd5, HW5⟩
        case measure => simp [RowKit.intOf]; omega
      · have hiz : ¬ (i : Int) < (p.length : Int) := by omega
        have HF : Hid (textP (p.take i) = textP p) := Lib.hid (by rw [List.take_of_length_le (by omega)])
        go_wp2_with fail
        refine (Tryz.Builder_String_any_k w1.heap.size w1.heap.size (textP (p.take i)) _ HBd.out HW.out.size).mono ?_
        rintro e w4 ⟨rfl, _, b4, _⟩
        go_wp2_with fail
        go_ret2
        exact ⟨by rw [HF.out]; rfl, below_of_new HB1.out (HW.out.trans b4)⟩
/-- A text cut at a byte. -/
theorem cut_byte (l : List UInt8) (c : UInt8) : ((∀ x ∈ l, x ≠ c) ∧ cut l [c] = (l, [], false)) ∨ ∃ a r, l = a ++ c :: r ∧ (∀ x ∈ a, x ≠ c) ∧ cut l [c] = (a, r, true) := by
  have hge := Lib.indexByte_ge l c
  by_cases hm : Lib.indexByte l c = -1
  · have hno := Lib.indexByte_none hm
    left
    refine ⟨fun x hx e => ?_, ?_⟩
    · obtain ⟨j, hj, rfl⟩ := List.getElem_of_mem hx
      exact hno j (by rw [List.getElem?_eq_getElem hj, e])
    · unfold cut; rw [Lib.index_one, hm, if_neg (by decide)]
  · obtain ⟨i, hi⟩ : ∃ i : Nat, Lib.indexByte l c = i := ⟨(Lib.indexByte l c).toNat, by omega⟩
    obtain ⟨h1, h2⟩ := Lib.indexByte_some hi
    obtain ⟨hil, h4⟩ := List.getElem?_eq_some_iff.1 h1
    right
    refine ⟨l.take i, l.drop (i + 1), ?_, ?_, ?_⟩
    · have h3 := List.drop_eq_getElem_cons hil
      rw [h4] at h3
      rw [← h3, List.take_append_drop]
    · intro x hx e
      obtain ⟨j, hj, rfl⟩ := List.getElem_of_mem hx
      rw [List.length_take] at hj
      refine h2 j (by omega) ?_
      rw [List.getElem_take] at e
      rw [List.getElem?_eq_getElem (by omega), e]
    · unfold cut
      rw [Lib.index_one, hi, if_pos (by omega), Int.toNat_natCast]; rfl
theorem cut_at (l : List UInt8) (c : UInt8) (a r : List UInt8) (f : Bool) (h : cut l [c] = (a, r, f)) (hs : l.length ≤ 1073741824) (w : World) (hM : MVar w) :
    Calls Tryz.prog 34 #[.string (bs l), .string ⟨#[c]⟩] w fun e w' => e = .returned (.tuple #[.string (bs a), .string (bs r), .bool f]) ∧ Below w.heap.size w w' := by
  obtain ⟨m, hm⟩ := hM
  have := Tryz.strings_Cut (bs l) ⟨#[c]⟩ m w (by rw [bs_size]; omega) hm
  rw [bs_data, show (⟨#[c]⟩ : ByteArray).data.toList = [c] from rfl, h] at this
  refine this.mono fun e w' ⟨h1, n, h2⟩ => ⟨h1, ?_⟩
  rw [h2]; exact below_drewN (Below.refl _ _) _
def strN : Value → Nat
  | .string b => b.size
  | _ => 0
set_option maxRecDepth 100000 in
set_option maxHeartbeats 4000000 in
theorem whole_any (l : List UInt8) (w : World) (hs : l.length ≤ 1073741824) (hM : MVar w) :
    Calls Tryz.prog 72 #[.string (bs l)] w fun e w' => e = .returned (.bool (wholeL l)) ∧ Below w.heap.size w w' := by
  have HM := Lib.hid hM
  obtain ⟨R, hR⟩ : ∃ R, wholeL l = R := ⟨_, rfl⟩
  rw [hR]
  have HR := Lib.hid hR
  clear hM hR
  go_enter Tryz.func72, Tryz.ntmps72
  go_wp2_with fail
  go_loopw [0] (fun s0 wr => ∃ r : List UInt8, s0 = .string (bs r) ∧ Hid (wholeL r = R) ∧ r.length ≤ l.length ∧ Hid (Below w.heap.size w wr)) (fun s0 _ => strN s0)
  case atStart => exact ⟨l, rfl, HR, Nat.le_refl _, Lib.hid (Below.refl _ _)⟩
  case round =>
    obtain ⟨r, rfl, HG, hrl, HB⟩ := hrel
    rcases cut_byte r 126 with ⟨hno, hcut⟩ | ⟨a, t, hrt, hno, hcut⟩
    · have HC := Lib.hid (fun w h => cut_at r 126 r [] false hcut (by omega) w h)
      have HF : Hid (R = true) := Lib.hid (by
        rw [← HG.out]
        have := whole_front r [] hno
        rw [List.append_nil] at this
        rw [this]; rfl)
      clear hno hcut
      go_wp2_with fail
      with_reducible refine (HC.out _ (HM.out.keep HB.out)).mono ?_
      rintro e w1 ⟨rfl, hb1⟩
      go_wp2_with fail
      go_ret
      exact ⟨by rw [HF.out] <;> rfl, below_of_new HB.out hb1⟩
    · have HC := Lib.hid (fun w h => cut_at r 126 a t true hcut (by omega) w h)
      have hg := HG.out
      rw [hrt, whole_front a _ hno] at hg
      have hlen : r.length = a.length + (t.length + 1) := by rw [hrt, List.length_append, List.length_cons]
      clear hno hcut hrt HG
      cases t with
      | nil =>
        have HF : Hid (R = false) := Lib.hid (by rw [← hg]; rfl)
        have n0 : ((bs ([] : List UInt8)).toList == []) = true := by rw [Lib.toList_data, bs_data]; rfl
        clear hg
        go_wp2_with fail
        with_reducible refine (HC.out _ (HM.out.keep HB.out)).mono ?_
        rintro e w1 ⟨rfl, hb1⟩
        go_wp2_with fail
        go_ret
        exact ⟨by rw [HF.out] <;> rfl, below_of_new HB.out hb1⟩
      | cons d t =>
        rw [whole_at] at hg
        simp only [List.length_cons] at hlen
        have hsz : 0 < (bs (d :: t)).size := by rw [bs_size]; simp
        have hd : (bs (d :: t))[0]'hsz = d := by
          have := at_bs (d :: t) 0 hsz
          simpa using this.symm
        have n0 : ((bs (d :: t)).toList == []) = false := by rw [Lib.toList_data, bs_data]; rfl
        have hrz : (bs r).size = a.length + (t.length + 1 + 1) := by rw [bs_size]; exact hlen
        have htz : (bs (d :: t)).size = t.length + 1 := by rw [bs_size]; rfl
        obtain ⟨b1, hb1⟩ : ∃ b, (!(d == 48)) = b := ⟨_, rfl⟩
        obtain ⟨b2, hb2⟩ : ∃ b, (!(d == 49)) = b := ⟨_, rfl⟩
        have n48 : ((((bs (d :: t))[0]'hsz).toNat : Int) != 48) = b1 := by rw [byte_ne _ 48 48 rfl, hd, hb1]
        have n49 : ((((bs (d :: t))[0]'hsz).toNat : Int) != 49) = b2 := by rw [byte_ne _ 49 49 rfl, hd, hb2]
        have hbb : (d == 48 || d == 49) = !(b1 && b2) := by rw [← hb1, ← hb2]; cases (d == 48) <;> cases (d == 49) <;> rfl
        rw [hbb] at hg
        have HL := Lib.hid hlen
        clear hd hb1 hb2 hlen hbb
        have htr : (d :: t).length ≤ l.length := by simp only [List.length_cons]; have := HL.out; omega
        cases b1 <;> cases b2
        case true.true =>
          have HF : Hid (R = false) := Lib.hid (by rw [← hg]; rfl)
          clear hg
          go_wp2_with fail
          with_reducible refine (HC.out _ (HM.out.keep HB.out)).mono ?_
          rintro e w1 ⟨rfl, hb1⟩
          go_wp2_with fail
          go_ret
          exact ⟨by rw [HF.out] <;> rfl, below_of_new HB.out hb1⟩
        all_goals
          have HG2 : Hid (wholeL (d :: t) = R) := Lib.hid (by rw [← hg]; rfl)
          clear hg
          go_wp2_with fail
          with_reducible refine (HC.out _ (HM.out.keep HB.out)).mono ?_
          rintro e w1 ⟨rfl, hb1⟩
          have HB1 := Lib.hid (below_of_new HB.out hb1)
          clear hb1
          go_wp2_with fail
          go_roundw
          case rel => exact ⟨d :: t, rfl, HG2, htr, HB1⟩
          case measure => show (bs (d :: t)).size < (bs r).size; omega
end Go.Proofs.YtfklmopnifkieaaGreatDoor
/-! The walk of pointer.Parse. -/
namespace Go.Proofs.YtfklmopnifkieaaGreatDoor
set_option linter.unusedSimpArgs false
set_option linter.unusedVariables false
open Go.RowKit
open Go.Lib hiding intOf
theorem splitB_is (t : List UInt8) : (Lib.splitB ⟨#[47]⟩ 0 (Lib.countB (bs t) ⟨#[47]⟩) (bs t)).map Value.string = strCells (splitL t) ∧ Lib.countB (bs t) ⟨#[47]⟩ + 1 = (splitL t).length := by
  have h := Lib.splitB_data ⟨#[47]⟩ 0 (Lib.countB (bs t) ⟨#[47]⟩) (bs t)
  have hc : Lib.countB (bs t) ⟨#[47]⟩ = Lib.count t [47] := by show Lib.count (bs t).data.toList _ = _; rw [bs_data]
  have h2 : splitK [47] 0 (Lib.count t [47]) t = splitL t := split_is t
  have hs : (Lib.splitB ⟨#[47]⟩ 0 (Lib.countB (bs t) ⟨#[47]⟩) (bs t)).map (·.data.toList) = splitL t := by
    rw [h, bs_data, hc]; exact h2
  refine ⟨?_, ?_⟩
  · rw [← hs]
    unfold strCells
    rw [List.map_map]
    exact List.map_congr_left fun x _ => by show Value.string x = Value.string (bs x.data.toList); rw [bs_of]
  · rw [hc, splitL_len, Lib.count_one]
theorem split_at (t : List UInt8) (w : World) (hs : t.length ≤ 1073741824) (hM : MVar w) :
    Calls Tryz.prog 74 #[.string (bs t), .string ⟨#[47]⟩] w fun e w' => e = .returned (.slice (some ⟨w.heap.size, 0, none⟩) (splitL t).length (splitL t).length) ∧ (∀ j x, (splitL t)[j]? = some x → w'.cell? ⟨w.heap.size, j, none⟩ = some (.string (bs x))) ∧ Below w.heap.size w w' := by
  obtain ⟨m, hm⟩ := hM
  have h := Tryz.strings_Split (bs t) ⟨#[47]⟩ m w (by rw [bs_size]; omega) hm (by decide)
  obtain ⟨h1, h2⟩ := splitB_is t
  rw [h1, h2] at h
  refine h.mono fun e w' ⟨ha, hb⟩ => ⟨ha, ?_, by rw [hb]; exact below_alloc1 w _⟩
  subst hb
  intro j x hx
  have hnew := World.news_of_block (w := w.alloc (.cells (strCells (splitL t)).toArray 9)) (heap_alloc_new w _) j (.string (bs x)) (by
    unfold strCells
    rw [List.getElem?_map, hx]; rfl)
  have ha : ((⟨w.heap.size, 0, none⟩ : Addr).add j) = ⟨w.heap.size, j, none⟩ := by unfold Addr.add; split <;> simp_all
  rw [ha] at hnew
  exact hnew
def PathE (r : List Stp × Int) (w : World) (e : Ending) (w' : World) : Prop := ∃ v, e = .returned (.tuple #[v, .int .i64 r.2]) ∧ OwnsS w.heap.size r.1 v w' ∧ Below w.heap.size w w'
theorem SV.nil (w : World) : SV w (.slice none 0 0) [] := ⟨none, 0, rfl, Nat.le_refl _, .inl rfl⟩
theorem OwnsS.nil (B : Nat) (w : World) : OwnsS B [] (.slice none 0 0) w := ⟨rfl, .inl ⟨rfl, rfl⟩⟩
theorem grown_bel {A B : World} (h : Below A.heap.size A B) : A.grownBy B none := ⟨h.os, h.tape, h.output, h.size, fun i hi _ => h.block i hi⟩
theorem owns_below {B size : Nat} {e : TypeId} {A W : World} {v : Value} {n : Nat} {xs : List Value} (h : A.ownsRow B e size v n xs) (hb : Below A.heap.size A W) : W.ownsRow B e size v n xs :=
  h.kept (grown_bel hb) (by cases h : v.ownBlock with
    | none => exact .inl rfl
    | some k => exact .inr (by simp))
theorem OwnsS.keep {B : Nat} {l : List Stp} {v : Value} {w w' : World} (h : OwnsS B l v w) (hb : Below w.heap.size w w') : OwnsS B l v w' := owns_below h hb
set_option maxRecDepth 100000 in
set_option maxHeartbeats 4000000 in
theorem parse_any (s : List UInt8) (w : World) (hs : s.length ≤ 268435456) (hT : Tabs w) (hM : MVar w) :
    Calls Tryz.prog 53 #[.string (bs s)] w (PathE (parseP s) w) := by
  have sl := bs_size s
  have CP := plain_any s w (by omega) hT
  have HM := Lib.hid hM
  clear hT hM
  cases hv : validD s with
  | false =>
    rw [hv] at CP
    have HC := Lib.hid CP
    have HF : Hid (parseP s = ([], 2)) := Lib.hid (by unfold parseP; rw [if_neg (by rw [hv]; simp)])
    clear CP hv
    go_enter Tryz.func53, Tryz.ntmps53
    go_wp2_with fail
    refine HC.out.mono ?_
    rintro e w1 ⟨rfl, hb1⟩
    go_wp2_with fail
    go_ret2
    rw [HF.out]
    exact ⟨_, rfl, OwnsS.nil _ _, hb1⟩
  | true =>
  rw [hv] at CP
  have HC := Lib.hid CP
  clear CP
  cases s with
  | nil =>
    have n0 : ((bs ([] : List UInt8)).toList == []) = true := by rw [Lib.toList_data, bs_data]; rfl
    have n1 : ((bs ([] : List UInt8)).toList != []) = false := by rw [bne, n0]; rfl
    have CW := Lib.hid (fun w h => whole_any [] w (by simp) h)
    have HF : Hid (parseP [] = ([], 0)) := Lib.hid (by rfl)
    have HCt := Lib.hid (fun w => Tryz.strings_Count_one (bs []) 47 w)
    clear hv
    go_enter Tryz.func53, Tryz.ntmps53
    go_wp2_with fail
    refine HC.out.mono ?_
    rintro e w1 ⟨rfl, hb1⟩
    have HB1 := Lib.hid hb1
    clear hb1
    go_wp2_with fail
    with_reducible refine (CW.out _ (HM.out.keep HB1.out)).mono ?_
    rintro e w2 ⟨rfl, hb2⟩
    have HB2 := Lib.hid (below_of_new HB1.out hb2)
    clear hb2
    go_wp2_with fail
    refine (HCt.out _).mono ?_
    rintro e w3 ⟨rfl, rfl⟩
    go_wp2_with fail
    go_ret2
    rw [HF.out]
    exact ⟨_, rfl, OwnsS.nil _ _, HB2.out⟩
  | cons c t =>
    have hsz : 0 < (bs (c :: t)).size := by rw [bs_size]; simp
    have hc : (bs (c :: t))[0]'hsz = c := by
      have := at_bs (c :: t) 0 hsz
      simpa using this.symm
    have n0 : ((bs (c :: t)).toList == []) = false := by rw [Lib.toList_data, bs_data]; rfl
    have n1 : ((bs (c :: t)).toList != []) = true := by rw [bne, n0]; rfl
    obtain ⟨b1, hb1⟩ : ∃ b, (!(c == 47)) = b := ⟨_, rfl⟩
    have n47 : ((((bs (c :: t))[0]'hsz).toNat : Int) != 47) = b1 := by rw [byte_ne _ 47 47 rfl, hc, hb1]
    clear hc
    cases b1 with
    | true =>
      have HF : Hid (parseP (c :: t) = ([], 2)) := Lib.hid (by
        unfold parseP
        rw [if_neg]
        rintro ⟨_, h, _⟩
        have h2 : (c == 47) = true := h
        rw [h2] at hb1; cases hb1)
      clear hb1 hv
      go_enter Tryz.func53, Tryz.ntmps53
      go_wp2_with fail
      refine HC.out.mono ?_
      rintro e w1 ⟨rfl, hb1⟩
      go_wp2_with fail
      go_ret2
      rw [HF.out]
      exact ⟨_, rfl, OwnsS.nil _ _, hb1⟩
    | false =>
      obtain rfl : c = 47 := by
        cases h : (c == 47) with
        | true => exact beq_iff_eq.1 h
        | false => rw [h] at hb1; cases hb1
      clear hb1
      have CW := whole_any (47 :: t) w (by omega) HM.out
      have CW : Hid (∀ w, MVar w → Calls Tryz.prog 72 #[.string (bs (47 :: t))] w fun e w' => e = .returned (.bool (wholeL (47 :: t))) ∧ Below w.heap.size w w') := Lib.hid (fun w h => whole_any (47 :: t) w (by omega) h)
      cases hw : wholeL (47 :: t) with
      | false =>
        rw [hw] at CW
        have HF : Hid (parseP (47 :: t) = ([], 2)) := Lib.hid (by unfold parseP; rw [if_neg (by rw [hw]; simp)])
        clear hv hw
        go_enter Tryz.func53, Tryz.ntmps53
        go_wp2_with fail
        refine HC.out.mono ?_
        rintro e w1 ⟨rfl, hb1⟩
        have HB1 := Lib.hid hb1
        clear hb1
        go_wp2_with fail
        with_reducible refine (CW.out _ (HM.out.keep HB1.out)).mono ?_
        rintro e w2 ⟨rfl, hb2⟩
        have HB2 := Lib.hid (below_of_new HB1.out hb2)
        clear hb2
        go_wp2_with fail
        go_ret2
        rw [HF.out]
        exact ⟨_, rfl, OwnsS.nil _ _, HB2.out⟩
      | true =>
        rw [hw] at CW
        have hct : Lib.countByte (bs (47 :: t)).data.toList 47 = (47 :: t).count 47 := by rw [bs_data]; rfl
        obtain ⟨n, hn⟩ : ∃ n, (47 :: t).count 47 = n := ⟨_, rfl⟩
        have HCt : Hid (∀ w, Calls Tryz.prog 73 #[.string (bs (47 :: t)), .string ⟨#[47]⟩] w fun e w' => e = .returned (.int .i64 (n : Int)) ∧ w' = w) := Lib.hid (fun w => by
          have := Tryz.strings_Count_one (bs (47 :: t)) 47 w
          rw [hct, hn] at this
          exact this)
        by_cases h64 : 64 < n
        · have HF : Hid (parseP (47 :: t) = ([], 3)) := Lib.hid (by unfold parseP; rw [if_pos ⟨hv, rfl, hw⟩, hn, if_pos h64])
          have d1 : decide ((64 : Int) < (n : Int)) = true := decide_eq_true (by omega)
          have d2 : decide (64 < n) = true := decide_eq_true h64
          have d3 : decide ((n : Int) > 64) = true := d1
          clear hv hw hct hn h64
          go_enter Tryz.func53, Tryz.ntmps53
          go_wp2_with fail
          refine HC.out.mono ?_
          rintro e w1 ⟨rfl, hb1⟩
          have HB1 := Lib.hid hb1
          clear hb1
          go_wp2_with fail
          with_reducible refine (CW.out _ (HM.out.keep HB1.out)).mono ?_
          rintro e w2 ⟨rfl, hb2⟩
          have HB2 := Lib.hid (below_of_new HB1.out hb2)
          clear hb2
          go_wp2_with fail
          with_reducible refine (HCt.out _).mono ?_
          rintro e w3 ⟨rfl, rfl⟩
          go_wp2_with fail
          go_ret2
          rw [HF.out]
          exact ⟨_, rfl, OwnsS.nil _ _, HB2.out⟩
        · have HF : Hid (parseP (47 :: t) = ((splitL t).map unesc, 0)) := Lib.hid (by unfold parseP; rw [if_pos ⟨hv, rfl, hw⟩, hn, if_neg h64]; rfl)
          have d1 : decide ((64 : Int) < (n : Int)) = false := decide_eq_false (by omega)
          have d2 : decide (64 < n) = false := decide_eq_false h64
          have d3 : decide ((n : Int) > 64) = false := d1
          have hwt : wholeL t = true := by rw [whole_no (by decide)] at hw; exact hw
          have HW := Lib.hid (whole_split _ t (Nat.le_refl _) hwt)
          have hpl : (splitL t).length ≤ 64 := by
            rw [splitL_len]
            rw [List.count_cons_self] at hn
            omega
          have hpx : ∀ x ∈ splitL t, x.length ≤ 268435456 := by
            have hj := congrArg List.length (join_split t)
            have : ∀ (P : List Stp), (P.flatMap (fun x => 47 :: x)).length ≤ 268435456 → ∀ x ∈ P, x.length ≤ 268435456 := by
              intro P
              induction P with
              | nil => intro _ x hx; cases hx
              | cons y P ih =>
                intro h x hx
                rw [List.flatMap_cons, List.length_append, List.length_cons] at h
                rcases List.mem_cons.1 hx with rfl | hx
                · omega
                · exact ih (by omega) x hx
            exact this _ (by rw [hj]; exact hs)
          have HX := Lib.hid hpx
          have hts : (bs (47 :: t)).extract 1 (47 :: t).length = bs t := by rw [bs_from _ _ _ rfl]; rfl
          have CS : Hid (∀ w, MVar w → Calls Tryz.prog 74 #[.string ((bs (47 :: t)).extract 1 (47 :: t).length), .string ⟨#[47]⟩] w fun e w' => e = .returned (.slice (some ⟨w.heap.size, 0, none⟩) (splitL t).length (splitL t).length) ∧ (∀ j x, (splitL t)[j]? = some x → w'.cell? ⟨w.heap.size, j, none⟩ = some (.string (bs x))) ∧ Below w.heap.size w w') := Lib.hid (fun w h => by
            rw [hts]
            exact split_at t w (by simp only [List.length_cons] at hs; omega) h)
          obtain ⟨P, hP⟩ : ∃ P, splitL t = P := ⟨_, rfl⟩
          rw [hP] at HW hpl HX CS HF
          have hl1 : 1 ≤ (47 :: t).length := by simp
          clear hv hw hct hn h64 hwt hpx hts hP
          go_enter Tryz.func53, Tryz.ntmps53
          go_wp2_with fail
          refine HC.out.mono ?_
          rintro e w1 ⟨rfl, hb1⟩
          have HB1 := Lib.hid hb1
          clear hb1
          go_wp2_with fail
          with_reducible refine (CW.out _ (HM.out.keep HB1.out)).mono ?_
          rintro e w2 ⟨rfl, hb2⟩
          have HB2 := Lib.hid (below_of_new HB1.out hb2)
          clear hb2
          go_wp2_with fail
          with_reducible refine (HCt.out _).mono ?_
          rintro e w3 ⟨rfl, rfl⟩
          go_wp2_with fail
          refine (CS.out _ (HM.out.keep HB2.out)).mono ?_
          rintro e w4 ⟨rfl, hsv, hb4⟩
          have HP := Lib.hid hsv
          have HB4 := Lib.hid (below_of_new HB2.out hb4)
          clear hsv hb4
          go_wp2_with fail
          go_loopw [32, 4] (fun s32 s4 wr => ∃ i : Nat, s32 = .int .i64 i ∧ i ≤ P.length ∧ Hid (OwnsS w4.heap.size ((P.take i).map unesc) s4 wr) ∧ Hid (Below w4.heap.size w4 wr)) (fun s32 _ _ => P.length - (RowKit.intOf s32).toNat)
          case atStart => exact ⟨0, rfl, by omega, Lib.hid (OwnsS.nil _ _), Lib.hid (Below.refl _ _)⟩
          case round =>
            obtain ⟨i, rfl, hi, HO, HW4⟩ := hrel
            have HB := Lib.hid (below_of_new HB4.out HW4.out)
            by_cases hlt : i < P.length
            · have hiz : (i : Int) < (P.length : Int) := by omega
              obtain ⟨x, hx⟩ : ∃ x, P[i]? = some x := ⟨_, List.getElem?_eq_getElem hlt⟩
              have cx0 := HP.out i x hx
              have cx : wr.cell? ⟨w3.heap.size, i, none⟩ = some (.string (bs x)) := by rw [HW4.out.cell (p := ⟨w3.heap.size, i, none⟩) (cell_lt cx0)]; exact cx0
              have hxm := List.mem_of_getElem? hx
              have hxl := HX.out x hxm
              have hxw := HW.out x hxm
              have hil := repAll_len (old := [126, 49]) (new := [47]) (by decide) (by decide) (by decide) _ x (Nat.le_refl _)
              have hun := repIn_unesc _ x (Nat.le_refl _) hxw
              have C1 : Hid (∀ w, MVar w → Calls Tryz.prog 64 #[.string (bs x), .string ⟨#[126, 49]⟩, .string ⟨#[47]⟩] w fun e w' => e = .returned (.string (bs (replaceAll x [126, 49] [47]))) ∧ Below w.heap.size w w') := Lib.hid (fun w h => replace_at x [126, 49] [47] w (by omega) (by decide) (by decide) h)
              unfold repIn at hun
              obtain ⟨y, hy⟩ : ∃ y, replaceAll x [126, 49] [47] = y := ⟨_, rfl⟩
              rw [hy] at C1 hil hun
              have C2 : Hid (∀ w, MVar w → Calls Tryz.prog 64 #[.string (bs y), .string ⟨#[126, 48]⟩, .string ⟨#[126]⟩] w fun e w' => e = .returned (.string (bs (unesc x))) ∧ Below w.heap.size w w') := Lib.hid (fun w h => by
                have := replace_at y [126, 48] [126] w (by omega) (by decide) (by decide) h
                rw [hun] at this
                exact this)
              have HX2 : Hid ((P.take (i + 1)).map unesc = (P.take i).map unesc ++ [unesc x]) := Lib.hid (by rw [List.take_add_one, hx, List.map_append]; rfl)
              have hlo : ((P.take i).map unesc).length ≤ 64 := by rw [List.length_map, List.length_take]; omega
              clear hx hxm hxw hy hun cx0
              go_wp2_with fail
              with_reducible refine (C1.out _ (HM.out.keep HB.out)).mono ?_
              rintro e w5 ⟨rfl, b5⟩
              have HO5 := Lib.hid (HO.out.keep b5)
              have HW5 := Lib.hid (HW4.out.trans (b5.mono HW4.out.size))
              clear b5
              go_wp2_with fail
              with_reducible refine (C2.out _ (HM.out.keep (below_of_new HB4.out HW5.out))).mono ?_
              rintro e w6 ⟨rfl, b6⟩
              have HO6 := Lib.hid (HO5.out.keep b6)
              have HW6 := Lib.hid (HW5.out.trans (b6.mono HW5.out.size))
              clear b6
              have ba := below_alloc1 w6 (.cells #[.string (bs (unesc x))] 9)
              have hsv : SV (w6.alloc (.cells #[.string (bs (unesc x))] 9)) (.slice (some ⟨w6.heap.size, 0, none⟩) 1 1) [unesc x] := OwnsS.toSV (OwnsS.new w6 [unesc x] #[.string (bs (unesc x))] rfl (by simp))
              have hz : w4.heap.size ≤ (w6.alloc (.cells #[.string (bs (unesc x))] 9)).heap.size := by have := HW6.out.size; simp; omega
              go_wp2_with (at_builtin; go_must (refine wpList_texts (by rfl) (.tmp 36) (.tmp 40) rfl w4.heap.size (w6.alloc (.cells #[.string (bs (unesc x))] 9)) u4 ((P.take i).map unesc) [unesc x] rfl (HO6.out.keep ba) (.slice (some ⟨w6.heap.size, 0, none⟩) 1 1) rfl hsv (by simp; omega) hz ?_); intro u1 w7 o1 hb1)
              have HO7 : Hid (OwnsS w4.heap.size ((P.take (i + 1)).map unesc) u1 w7) := Lib.hid (by rw [HX2.out]; exact o1)
              have HW7 := Lib.hid ((HW6.out.trans (ba.mono HW6.out.size)).trans hb1)
              clear o1 hb1 ba hsv hz
              go_roundw
              case rel => exact ⟨i + 1, by go_num, by omega, HO7, HW7⟩
              case measure => simp [RowKit.intOf]; omega
            · have hiz : ¬ (i : Int) < (P.length : Int) := by omega
              have HT2 : Hid (P.take i = P) := Lib.hid (List.take_of_length_le (by omega))
              go_wp2_with fail
              go_ret2
              have hsv : OwnsS w.heap.size ((P.take i).map unesc) _ wr := World.ownsRow.mono HO.out HB4.out.size
              rw [HT2.out] at hsv
              rw [HF.out]
              exact ⟨_, rfl, hsv, HB.out⟩
end Go.Proofs.YtfklmopnifkieaaGreatDoor

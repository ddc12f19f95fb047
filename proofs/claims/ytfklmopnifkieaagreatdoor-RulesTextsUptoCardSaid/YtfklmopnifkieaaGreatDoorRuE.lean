import Derived.Test.YtfklmopnifkieaaGreatDoorRuD
import Derived.Laws.MakeOwn
import Derived.Laws.OwnMore
/-! The walk of scarfref18.Match: rows of bools. -/
namespace Go.Proofs.YtfklmopnifkieaaGreatDoor
set_option linter.unusedSimpArgs false
set_option linter.unusedVariables false
open Go.RowKit
open Go.Lib hiding intOf

def boolRow (f : Nat → Bool) (n : Nat) : Array Value := ((List.range n).map fun k => Value.bool (f k)).toArray
theorem boolRow_size (f : Nat → Bool) (n : Nat) : (boolRow f n).size = n := by unfold boolRow; simp
theorem boolRow_at (f : Nat → Bool) (n k : Nat) (h : k < n) : (boolRow f n)[k]? = some (.bool (f k)) := by unfold boolRow; simp [h]
theorem boolRow_ext {f g : Nat → Bool} {n : Nat} (h : ∀ k, k < n → f k = g k) : boolRow f n = boolRow g n := by
  refine Array.ext_getElem? fun k => ?_
  by_cases hk : k < n
  · rw [boolRow_at f n k hk, boolRow_at g n k hk, h k hk]
  · rw [Array.getElem?_eq_none (by rw [boolRow_size]; omega), Array.getElem?_eq_none (by rw [boolRow_size]; omega)]
theorem boolRow_set (f : Nat → Bool) (n k : Nat) (b : Bool) (h : k < n) : (boolRow f n).setIfInBounds k (.bool b) = boolRow (fun j => if j = k then b else f j) n := by
  refine Array.ext_getElem? fun j => ?_
  rw [Array.getElem?_setIfInBounds]
  by_cases hj : j < n
  · rw [boolRow_at f n j hj]
    by_cases hk : k = j
    · subst hk
      rw [if_pos rfl, if_pos (by rw [boolRow_size]; exact hj), boolRow_at _ n k hj, if_pos rfl]
    · rw [if_neg hk, boolRow_at _ n j hj, if_neg (Ne.symm hk)]
  · rw [Array.getElem?_eq_none (i := j) (xs := boolRow (fun j => if j = k then b else f j) n) (by rw [boolRow_size]; omega)]
    by_cases hk : k = j
    · omega
    · rw [if_neg hk, Array.getElem?_eq_none (by rw [boolRow_size]; omega)]
def BoolRow (W : World) (g : Nat) (f : Nat → Bool) (n : Nat) : Prop := W.heap[g]? = some (.cells (boolRow f n) 4 (0, 0))
theorem BoolRow.cell {W : World} {g : Nat} {f : Nat → Bool} {n : Nat} (h : BoolRow W g f n) {k : Nat} (hk : k < n) : W.cell? ⟨g, k, none⟩ = some (.bool (f k)) ∧ W.frozen? ⟨g, k, none⟩ = false :=
  ⟨by rw [cell_of_row W g k _ _ (0, 0) h, boolRow_at f n k hk], by simp [World.frozen?, show W.heap[g]? = _ from h]⟩
theorem BoolRow.lt {W : World} {g : Nat} {f : Nat → Bool} {n : Nat} (h : BoolRow W g f n) : g < W.heap.size := cell_it h
theorem BoolRow.set {W : World} {g : Nat} {f : Nat → Bool} {n : Nat} (h : BoolRow W g f n) {k : Nat} (hk : k < n) (b : Bool) : BoolRow (W.setCell ⟨g, k, none⟩ (.bool b)) g (fun j => if j = k then b else f j) n := by
  unfold BoolRow at h ⊢
  rw [← boolRow_set f n k b hk]
  simp [World.setCell, Array.getElem?_modify, h]
theorem BoolRow.other {W : World} {g g2 : Nat} {f : Nat → Bool} {n : Nat} (h : BoolRow W g f n) (hne : g ≠ g2) (k : Nat) (u : Value) : BoolRow (W.setCell ⟨g2, k, none⟩ u) g f n := (Below.heap_setCell W ⟨g2, k, none⟩ u g hne).trans h
theorem BoolRow.ext {W : World} {g : Nat} {f f' : Nat → Bool} {n : Nat} (h : BoolRow W g f n) (he : ∀ k, k < n → f k = f' k) : BoolRow W g f' n := by unfold BoolRow at h ⊢; rw [← boolRow_ext he]; exact h
theorem BoolRow.keep {W W' : World} {g : Nat} {f : Nat → Bool} {n : Nat} (h : BoolRow W g f n) (hb : Below W.heap.size W W') : BoolRow W' g f n := (hb.block g h.lt).trans h
theorem BoolRow.drew {W : World} {g : Nat} {f : Nat → Bool} {n : Nat} (h : BoolRow W g f n) : BoolRow W.drew g f n := h
theorem Tryz.infoBool : (Tryz.prog.info? 4).map (fun i => (i.zero, i.size, i.bytes)) = some (some (.bool false), 1, 1) := by kernel_rfl
theorem make_bools (n : Nat) (hn : n ≤ 1048576) (w : World) : (Instr.makeSlice 47 (.int .i64 (n : Int)) (.int .i64 (n : Int))).run Tryz.prog w = .ok (.slice (some ⟨w.heap.size, 0, none⟩) n n) (w.alloc (.cells (boolRow (fun _ => false) n) 4)) := by
  obtain ⟨i0, hi0, hz0, hz1, hz2⟩ := info_parts Tryz.infoBool
  have := run_make (P := Tryz.prog) w 47 4 i0 _ Tryz.underlying47 hi0 hz0 .i64 .i64 (n : Int) (n : Int) (by omega) (Int.le_refl _) (by rw [hz2]; omega) (by omega)
  rw [this, Int.toNat_natCast, hz1, Nat.mul_one]
  have e : madeCells (Value.bool false).cells n = boolRow (fun _ => false) n := by
    apply Array.toList_inj.1
    show (madeCells #[Value.bool false] n).toList = _
    rw [toList_madeCells_one]
    unfold boolRow
    rw [List.toList_toArray]
    show _ = (List.range n).map (fun _ => Value.bool false)
    rw [List.map_const', List.length_range]
  rw [e]
/-- Between two places of the inner loop. -/
def RoI (w0 : World) (g g2 : Nat) (F G : Nat → Bool) (N k : Nat) (W : World) : Prop := BoolRow W g F N ∧ BoolRow W g2 (fun j => if j < k then G j else false) N ∧ Below w0.heap.size w0 W
theorem RoI.put {w0 W : World} {g g2 : Nat} {F G : Nat → Bool} {N k : Nat} (h : RoI w0 g g2 F G N k W) (hne : g ≠ g2) (hk : k < N) (hg : w0.heap.size ≤ g2) (b : Bool) (hb : G k = b) : RoI w0 g g2 F G N (k + 1) (W.setCell ⟨g2, k, none⟩ (.bool b)) :=
  ⟨h.1.other hne _ _, (h.2.1.set hk b).ext (fun j hj => by
    by_cases h1 : j = k
    · rw [if_pos h1, if_pos (by omega), h1, hb]
    · rw [if_neg h1]
      by_cases h2 : j < k
      · rw [if_pos h2, if_pos (by omega)]
      · rw [if_neg h2, if_neg (by omega)]), h.2.2.setCell (p := ⟨g2, k, none⟩) hg _⟩
theorem RoI.leave {w0 W : World} {g g2 : Nat} {F G : Nat → Bool} {N k : Nat} (h : RoI w0 g g2 F G N k W) (hb : G k = false) : RoI w0 g g2 F G N (k + 1) W :=
  ⟨h.1, h.2.1.ext (fun j hj => by
    by_cases h2 : j < k
    · rw [if_pos h2, if_pos (by omega)]
    · rw [if_neg h2]
      by_cases h1 : j = k
      · rw [if_pos (by omega), h1, hb]
      · rw [if_neg (by omega)]), h.2.2⟩
theorem RoI.drew {w0 W : World} {g g2 : Nat} {F G : Nat → Bool} {N k : Nat} (h : RoI w0 g g2 F G N k W) : RoI w0 g g2 F G N k W.drew := ⟨h.1, h.2.1, h.2.2.drew⟩
set_option maxRecDepth 100000 in
set_option maxHeartbeats 8000000 in
theorem refMatch_any (pv av : Value) (p a : List Stp) (w : World) (hp : SV w pv p) (ha : SV w av a) (hpl : p.length ≤ 1073741824) (hal : a.length ≤ 1073741824) :
    Calls Tryz.prog 15 #[pv, av] w fun e w' => e = .returned (.bool (mMatch p a)) ∧ Below w.heap.size w w' := by
  obtain ⟨pp, pc, rfl, hpc, hp⟩ := hp
  obtain ⟨ap, ac, rfl, hac, ha⟩ := ha
  have HP := Lib.hid hp
  have HA := Lib.hid ha
  clear hp ha
  by_cases hb1 : 200 < p.length
  · have d1 : decide ((200 : Int) < (p.length : Int)) = true := decide_eq_true (by omega)
    have d2 : decide (200 < p.length) = true := decide_eq_true hb1
    have HF : Hid (mMatch p a = false) := Lib.hid (by unfold mMatch; rw [decide_eq_false (by omega)]; rfl)
    clear hb1
    go_enter Tryz.func15, Tryz.ntmps15
    go_wp2_with fail
    go_ret
    exact ⟨ret_bool HF.out.symm, Below.refl _ _⟩
  have d1 : decide ((200 : Int) < (p.length : Int)) = false := decide_eq_false (by omega)
  have d2 : decide (200 < p.length) = false := decide_eq_false hb1
  by_cases hb2 : 200 < a.length
  · have d3 : decide ((200 : Int) < (a.length : Int)) = true := decide_eq_true (by omega)
    have d4 : decide (200 < a.length) = true := decide_eq_true hb2
    have HF : Hid (mMatch p a = false) := Lib.hid (by unfold mMatch; rw [decide_eq_false (show ¬ a.length ≤ 200 by omega), Bool.and_false]; rfl)
    clear hb1 hb2
    go_enter Tryz.func15, Tryz.ntmps15
    go_wp2_with fail
    go_ret
    exact ⟨ret_bool HF.out.symm, Below.refl _ _⟩
  have d3 : decide ((200 : Int) < (a.length : Int)) = false := decide_eq_false (by omega)
  have d4 : decide (200 < a.length) = false := decide_eq_false hb2
  have hr : mMatch p a = fits p a := by unfold mMatch; rw [decide_eq_true (by omega), decide_eq_true (by omega)]; rfl
  rw [hr]
  obtain ⟨R, hR⟩ : ∃ R, fits p a = R := ⟨_, rfl⟩
  rw [hR]
  have HR := Lib.hid hR
  clear hR hr
  have hpz : (p.length : Int) ≤ 200 := by omega
  have haz : (a.length : Int) ≤ 200 := by omega
  obtain ⟨N, hN⟩ : ∃ N, a.length + 1 = N := ⟨_, rfl⟩
  have hNI : (a.length : Int) + 1 = (N : Int) := by omega
  have hNl : N ≤ 201 := by omega
  have haN : a.length < N := by omega
  have HNN := Lib.hid hN
  have hmk := fun w => make_bools N (by omega) w
  have hrow0 : BoolRow (w.alloc (.cells (boolRow (fun _ => false) N) 4)) w.heap.size (fun _ => false) N := heap_alloc_new w _
  have hb0 := below_alloc1 w (.cells (boolRow (fun _ => false) N) 4)
  clear hN
  go_enter Tryz.func15, Tryz.ntmps15
  go_upto_region 4 with fail
  obtain ⟨W1, hW1⟩ : ∃ W, w.alloc (.cells (boolRow (fun _ => false) N) 4) = W := ⟨_, rfl⟩
  obtain ⟨M, hM⟩ : ∃ M, w.heap.size = M := ⟨_, rfl⟩
  have hMw : Hid (w.heap.size ≤ M) := Lib.hid (by omega)
  rw [hW1, hM] at hrow0
  rw [hW1] at hb0
  rw [hW1, hM]
  obtain ⟨c0, f0⟩ := hrow0.cell (k := 0) (by omega)
  have hNz0 : (0 : Int) < (N : Int) := by omega
  have HR0 : Hid (BoolRow (W1.setCell ⟨M, 0, none⟩ (.bool true)) M (rowF (p.take 0) a) N) := Lib.hid ((hrow0.set (k := 0) (by omega) true).ext (fun j hj => by
    rw [List.take_zero, rowF_start a j (by have := HNN.out; omega)]
    by_cases h : j = 0
    · rw [if_pos h, decide_eq_true h]
    · rw [if_neg h, decide_eq_false h]))
  have HB0 : Hid (Below w.heap.size w (W1.setCell ⟨M, 0, none⟩ (.bool true))) := Lib.hid (hb0.setCell (p := ⟨M, 0, none⟩) hMw.out _)
  clear hW1 hM hrow0 hb0
  go_wp2_with fail
  go_loopw [5, 6] (fun s5 s6 wr => ∃ (i g : Nat), s5 = .slice (some ⟨g, 0, none⟩) N N ∧ s6 = .int .i64 i ∧ i ≤ p.length ∧ Hid (BoolRow wr g (rowF (p.take i) a) N) ∧ Hid (w.heap.size ≤ g) ∧ Hid (Below w.heap.size w wr)) (fun _ s6 _ => p.length - (RowKit.intOf s6).toNat)
  case atStart => exact ⟨0, M, rfl, rfl, by omega, HR0, hMw, HB0⟩
  case round =>
    obtain ⟨i, g, rfl, rfl, hi, HRo, HGw, HB⟩ := hrel
    clear c0 f0 HR0 HB0 hNz0
    by_cases hlt : i < p.length
    · have hiz : (i : Int) < (p.length : Int) := by omega
      obtain ⟨x, hx⟩ : ∃ x, p[i]? = some x := ⟨_, List.getElem?_eq_getElem hlt⟩
      have htk := take_snoc hx
      have hrow2 : BoolRow (wr.alloc (.cells (boolRow (fun _ => false) N) 4)) wr.heap.size (fun _ => false) N := heap_alloc_new wr _
      have hb2 := below_alloc1 wr (.cells (boolRow (fun _ => false) N) 4)
      have hrow1 := HRo.out.keep hb2
      have hne : g ≠ wr.heap.size := by have := HRo.out.lt; omega
      have hgw : w.heap.size ≤ wr.heap.size := HB.out.size
      go_upto_region 9 with fail
      obtain ⟨W2, hW2⟩ : ∃ W, wr.alloc (.cells (boolRow (fun _ => false) N) 4) = W := ⟨_, rfl⟩
      obtain ⟨g2, hg2⟩ : ∃ M, wr.heap.size = M := ⟨_, rfl⟩
      rw [hW2, hg2] at hrow2
      rw [hW2] at hrow1
      rw [hg2] at hne hgw
      have HB2 := Lib.hid (below_of_new HB.out hb2)
      rw [hW2] at HB2
      rw [hW2, hg2]
      obtain ⟨F, hF⟩ : ∃ F, rowF (p.take i) a = F := ⟨_, rfl⟩
      obtain ⟨G, hG⟩ : ∃ G, rowF (p.take (i + 1)) a = G := ⟨_, rfl⟩
      have HI0 : Hid (RoI w g g2 F G N 0 W2) := Lib.hid ⟨by rw [← hF]; exact hrow1, hrow2.ext (fun j _ => by rw [if_neg (by omega)]), HB2.out⟩
      have HNE := Lib.hid (And.intro hne hgw)
      have q0 : ∀ k y, x = anyS → a[k]? = some y → G (k + 1) = (F (k + 1) || G k) := fun k y hxa hy => by
        rw [← hF, ← hG, htk, hxa]
        exact rowF_any _ a k (List.getElem?_eq_some_iff.1 hy).1
      have q1 : x = anyS → G 0 = F 0 := fun hxa => by rw [← hF, ← hG, htk, hxa]; exact rowF_any_zero _ a
      have q2 : x ≠ anyS → G 0 = false := fun hxa => by rw [← hG, htk]; exact rowF_zero _ a x hxa
      have q3 : ∀ k y, x ≠ anyS → a[k]? = some y → G (k + 1) = (F k && (x == oneS || x == y)) := fun k y hxa hy => by
        rw [← hF, ← hG, htk]
        exact rowF_step _ a x hxa k y hy
      have Q0 := Lib.hid q0; have Q1 := Lib.hid q1; have Q2 := Lib.hid q2; have Q3 := Lib.hid q3
      have HGd := Lib.hid hG
      have HX := Lib.hid hx
      clear hW2 hg2 hrow1 hrow2 hb2 hne hgw hF hG q0 q1 q2 q3 htk hx HRo HB HB2
      go_wp2_with fail
      go_loopw [8] (fun s8 wy => ∃ k : Nat, s8 = .int .i64 k ∧ k ≤ N ∧ Hid (RoI w g g2 F G N k wy)) (fun s8 _ => N - (RowKit.intOf s8).toNat)
      case atStart => exact ⟨0, rfl, by omega, HI0⟩
      case round =>
        obtain ⟨k, rfl, hk, HI⟩ := hrel
        by_cases hkN : k < N
        · have hkz : (k : Int) ≤ (a.length : Int) := by have := HNN.out; omega
          have dkz : decide ((k : Int) ≤ (a.length : Int)) = true := decide_eq_true hkz
          have dkz2 : decide (k ≤ a.length) = true := decide_eq_true (by omega)
          have hkNz : (k : Int) < (N : Int) := by omega
          obtain ⟨gx, ox, rfl, cx⟩ := (HP.out.keep HI.out.2.2).at_ HX.out
          obtain ⟨cf, _⟩ := HI.out.1.cell hkN
          obtain ⟨cg, fg⟩ := HI.out.2.1.cell hkN
          rw [if_neg (show ¬ k < k by omega)] at cg
          obtain ⟨bx, hbx⟩ : ∃ b, (x == anyS) = b := ⟨_, rfl⟩
          have e1 : ((bs x).toList == [42, 42]) = bx := by rw [str_lit]; exact hbx
          cases bx with
          | true =>
            have hxa : x = anyS := beq_iff_eq.1 hbx
            cases k with
            | zero =>
              obtain ⟨V, hV⟩ : ∃ V, F 0 = V := ⟨_, rfl⟩
              rw [hV] at cf
              have HS := Lib.hid (HI.out.put HNE.out.1 hkN HNE.out.2 V (by rw [Q1.out hxa, hV]))
              clear hV hxa hbx
              cases V with
              | true =>
                go_wp2_with fail
                go_roundw
                case rel => exact ⟨1, by go_num, by omega, HS⟩
                case measure => simp [RowKit.intOf]; omega
              | false =>
                go_wp2_with fail
                go_roundw
                case rel => exact ⟨1, by go_num, by omega, HS⟩
                case measure => simp [RowKit.intOf]; omega
            | succ k =>
              have hk0 : (0 : Int) < ((k + 1 : Nat) : Int) := by omega
              obtain ⟨y, hy⟩ : ∃ y, a[k]? = some y := ⟨_, List.getElem?_eq_getElem (by have := HNN.out; omega)⟩
              obtain ⟨cp, _⟩ := HI.out.2.1.cell (k := k) (by omega)
              rw [if_pos (show k < k + 1 by omega)] at cp
              have hkm : ((k + 1 : Nat) : Int) - 1 = (k : Int) := by omega
              have hq := Q0.out k y hxa hy
              obtain ⟨V1, hV1⟩ : ∃ V, F (k + 1) = V := ⟨_, rfl⟩
              obtain ⟨V2, hV2⟩ : ∃ V, G k = V := ⟨_, rfl⟩
              rw [hV1] at cf
              rw [hV2] at cp
              rw [hV1, hV2] at hq
              have HS := Lib.hid (HI.out.put HNE.out.1 hkN HNE.out.2 (V1 || V2) hq)
              clear hV1 hV2 hq hy hxa hbx
              cases V1 with
              | true =>
                go_wp2_with fail
                go_roundw
                case rel => exact ⟨k + 2, by go_num, by omega, HS⟩
                case measure => simp [RowKit.intOf]; omega
              | false =>
                go_wp2_with fail
                go_roundw
                case rel => exact ⟨k + 2, by go_num, by omega, HS⟩
                case measure => simp [RowKit.intOf]; omega
          | false =>
            have hxa : x ≠ anyS := beq_eq_false_iff_ne.1 hbx
            cases k with
            | zero =>
              have HS := Lib.hid (HI.out.leave (Q2.out hxa))
              clear hxa hbx
              go_wp2_with fail
              go_roundw
              case rel => exact ⟨1, by go_num, by omega, HS⟩
              case measure => simp [RowKit.intOf]; omega
            | succ k =>
              have hk0 : (0 : Int) < ((k + 1 : Nat) : Int) := by omega
              have hka : k < a.length := by have := HNN.out; omega
              have hkaz : (k : Int) < (a.length : Int) := by omega
              have hkNz2 : (k : Int) < (N : Int) := by omega
              obtain ⟨y, hy⟩ : ∃ y, a[k]? = some y := ⟨_, List.getElem?_eq_getElem hka⟩
              obtain ⟨gy, oy, rfl, cy⟩ := (HA.out.keep HI.out.2.2).at_ hy
              obtain ⟨cp, _⟩ := HI.out.1.cell (k := k) (by omega)
              have hkm : ((k + 1 : Nat) : Int) - 1 = (k : Int) := by omega
              have hq := Q3.out k y hxa hy
              obtain ⟨V, hV⟩ : ∃ V, F k = V := ⟨_, rfl⟩
              obtain ⟨c1, hc1⟩ : ∃ b, (x == oneS) = b := ⟨_, rfl⟩
              have e2 : ((bs x).toList == [42]) = c1 := by rw [str_lit]; exact hc1
              have e3 := str_is x y (bs y) rfl
              obtain ⟨c2, hc2⟩ : ∃ b, (x == y) = b := ⟨_, rfl⟩
              rw [hc2] at e3
              rw [hV] at cp
              rw [hV, hc1, hc2] at hq
              have HS := Lib.hid (HI.out.drew.put HNE.out.1 hkN HNE.out.2 (V && (c1 || c2)) hq)
              clear hV hq hy hxa hbx hc1 hc2
              cases V with
              | false =>
                go_wp2_with fail
                go_region
                go_wp2_with fail
                go_roundw
                case rel => exact ⟨k + 2, by go_num, by omega, HS⟩
                case measure => simp [RowKit.intOf]; omega
              | true =>
                cases c1 with
                | true =>
                  go_wp2_with fail
                  go_region
                  go_wp2_with fail
                  go_roundw
                  case rel => exact ⟨k + 2, by go_num, by omega, HS⟩
                  case measure => simp [RowKit.intOf]; omega
                | false =>
                  go_wp2_with fail
                  go_region
                  go_wp2_with fail
                  go_roundw
                  case rel => exact ⟨k + 2, by go_num, by omega, by first | exact HS | simpa using HS⟩
                  case measure => simp [RowKit.intOf]; omega
        · have hke : k = N := by omega
          have hkz : ¬ (k : Int) ≤ (a.length : Int) := by have := HNN.out; omega
          have dkz : decide ((k : Int) ≤ (a.length : Int)) = false := decide_eq_false hkz
          have dkz2 : decide (k ≤ a.length) = false := decide_eq_false (by omega)
          have HS : Hid (BoolRow wr g2 (rowF (p.take (i + 1)) a) N ∧ Below w.heap.size w wr) := Lib.hid ⟨by
            rw [HGd.out]
            exact HI.out.2.1.ext (fun j hj => by rw [if_pos (by omega)]), HI.out.2.2⟩
          clear hke
          go_wp2_with fail
          go_roundw
          case rel => exact ⟨i + 1, g2, rfl, by go_num, by omega, Lib.hid HS.out.1, Lib.hid HNE.out.2, Lib.hid HS.out.2⟩
          case measure => simp [RowKit.intOf]; omega
    · have hie : i = p.length := by omega
      have hiz : ¬ (i : Int) < (p.length : Int) := by omega
      obtain ⟨cl, _⟩ := HRo.out.cell haN
      have HF : Hid (rowF (p.take i) a a.length = R) := Lib.hid (by rw [hie, List.take_length, rowF_full]; exact HR.out)
      rw [HF.out] at cl
      have haNz : (a.length : Int) < (N : Int) := by omega
      clear hie
      go_wp2_with fail
      go_ret
      exact ⟨rfl, HB.out⟩
end Go.Proofs.YtfklmopnifkieaaGreatDoor

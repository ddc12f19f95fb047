import Derived.Test.YtdegjfmjjabnnaaGreatDoorMkL
import Derived.Test.YtdegjfmjjabnnaaGreatDoorMkJ
/-! The walk of mark.run: a range over strings.SplitSeq. -/
namespace Go.Proofs.YtdegjfmjjabnnaaGreatDoor
set_option linter.unusedSimpArgs false
set_option linter.unusedVariables false
open Go.RowKit Go.Shelf
open Go.Lib hiding intOf
attribute [local go_sem] Oper.semAt_some

theorem splitSeq_any (A B : ByteArray) (w : World) :
    Calls Tryz.prog 59 #[.string A, .string B, .int .i64 0] w fun e w' => e = .returned (.func (.func 81) #[] #[.pointer (some ⟨w.heap.size + 1, 0, none⟩), .pointer (some ⟨w.heap.size, 0, none⟩), .pointer (some ⟨w.heap.size + 2, 0, none⟩)]) ∧
      w' = ((w.alloc (.cells #[.string A] 9)).alloc (.cells #[.string B] 9)).alloc (.cells #[.int .i64 0] 3) := by
  have hmf : ∀ (fn : Fn) (first cap : Array Value) (w : World), (Instr.makeFunc fn first cap).run Tryz.prog w = .ok (.func fn first cap) w := fun _ _ _ _ => rfl
  go_enter Tryz.func59, Tryz.ntmps59
  go_wp2_with fail
  go_ret
  exact ⟨rfl, rfl⟩
theorem SplitSeq_any (A B : ByteArray) (w : World) :
    Calls Tryz.prog 43 #[.string A, .string B] w fun e w' => e = .returned (.func (.func 81) #[] #[.pointer (some ⟨w.heap.size + 1, 0, none⟩), .pointer (some ⟨w.heap.size, 0, none⟩), .pointer (some ⟨w.heap.size + 2, 0, none⟩)]) ∧
      w' = ((w.alloc (.cells #[.string A] 9)).alloc (.cells #[.string B] 9)).alloc (.cells #[.int .i64 0] 3) := by
  go_enter Tryz.func43, Tryz.ntmps43
  go_wp2_with (go_at_call 59; (with_reducible refine (splitSeq_any _ _ _).mono ?_); rintro e w' ⟨rfl, rfl⟩)
  go_ret
  exact ⟨rfl, rfl⟩
def mostOf (pre : List (List UInt8)) : Nat := (pre.map lineRun).foldr max 0
theorem mostOf_snoc (pre : List (List UInt8)) (x : List UInt8) : mostOf (pre ++ [x]) = max (mostOf pre) (lineRun x) := by
  unfold mostOf
  rw [List.map_append, foldr_max_append]
  simp
theorem lineRun_le (x : List UInt8) : lineRun x ≤ x.length := by
  cases x with
  | nil => exact Nat.le_refl _
  | cons c l =>
    rw [lineRun, List.length_cons]
    split
    · have := (List.takeWhile_sublist (l := l) (· == c)).length_le; omega
    · omega
/-- Between two lines. -/
def RunI (w : World) (N : Nat) (pre : List (List UInt8)) (W : World) : Prop := Boxed W w.heap.size 3 (.int .i64 (mostOf pre : Nat)) ∧ Below w.heap.size w W ∧ mostOf pre ≤ N
set_option maxRecDepth 100000 in
set_option maxHeartbeats 8000000 in
theorem run_any (s : List UInt8) (w : World) (hs : s.length ≤ 1099511627776) :
    Calls Tryz.prog 28 #[.string (bs s)] w fun e w' => e = .returned (.int .i64 (runM s : Nat)) ∧ Below w.heap.size w w' := by
  have sl := bs_size s
  refine (callsIn_wide (n := 9)).1 ?_
  refine callsIn_of_wp_marks Tryz.func28 rfl trivial ?_ rfl
  simp only [Tryz.ntmps28, List.size_toArray, List.length_cons, List.length_nil, Nat.reduceAdd, Nat.reduceSub, Array.replicate_succ, Array.replicate_zero, List.push_toArray, List.append_toArray, List.nil_append, List.cons_append]
  gi_wp2_with fail
  refine ⟨trivial, ?_⟩
  refine (callsIn_wide.2 (SplitSeq_any _ _ _)).mono ?_
  rintro e w' ⟨rfl, rfl⟩
  gi_wp2_with fail
  obtain ⟨W0, hW0⟩ : ∃ W0, ((((w.alloc (.cells #[.int .i64 0] 3)).alloc (.cells #[.string (bs s)] 9)).alloc (.cells #[.string ⟨#[10]⟩] 9)).alloc (.cells #[.int .i64 0] 3)) = W0 := ⟨_, rfl⟩
  have b0 : Boxed W0 w.heap.size 3 (.int .i64 0) := by rw [← hW0]; exact (((Boxed.new w _ _).alloc _).alloc _).alloc _
  have b1 : Boxed W0 (w.heap.size + 1) 9 (.string (bs s)) := by
    have := ((Boxed.new (w.alloc (.cells #[.int .i64 0] 3)) 9 (.string (bs s))).alloc (.cells #[.string ⟨#[10]⟩] 9)).alloc (.cells #[.int .i64 0] 3)
    rw [World.size_alloc] at this
    rw [← hW0]; exact this
  have b2 : Boxed W0 (w.heap.size + 2) 9 (.string ⟨#[10]⟩) := by
    have := (Boxed.new ((w.alloc (.cells #[.int .i64 0] 3)).alloc (.cells #[.string (bs s)] 9)) 9 (.string ⟨#[10]⟩)).alloc (.cells #[.int .i64 0] 3)
    simp only [World.size_alloc, Nat.add_assoc, Nat.reduceAdd] at this
    rw [← hW0]; exact this
  have b3 : Boxed W0 (w.heap.size + 3) 3 (.int .i64 0) := by
    have := Boxed.new (((w.alloc (.cells #[.int .i64 0] 3)).alloc (.cells #[.string (bs s)] 9)).alloc (.cells #[.string ⟨#[10]⟩] 9)) 3 (.int .i64 0)
    simp only [World.size_alloc, Nat.add_assoc, Nat.reduceAdd] at this
    rw [← hW0]; exact this
  have hB0 : Below w.heap.size w W0 := by
    rw [← hW0]
    exact ((((Below.refl _ w).alloc (Nat.le_refl _) _).alloc (by simp) _).alloc (by simp; omega) _).alloc (by simp; omega) _
  have hsz : W0.heap.size = w.heap.size + 4 := by rw [← hW0]; simp
  simp only [World.size_alloc, Nat.add_assoc, Nat.reduceAdd] at hW0 ⊢
  rw [hW0]
  clear hW0
  refine range_cell (gf := 81) (lb := #[.pointer (some ⟨w.heap.size + 2, 0, none⟩), .pointer (some ⟨w.heap.size + 1, 0, none⟩), .pointer (some ⟨w.heap.size + 3, 0, none⟩)]) rfl (enters_of Tryz.func81 (by kernel_rfl) rfl)
    (α := List UInt8) (encs := fun x => #[.string (bs x)]) (fun _ => rfl) (S := fun ys => ys = segs s) (Px := fun x => x.length ≤ s.length) (Ok := OkS (w.heap.size + 1)) (Kp := KpS (w.heap.size + 1) (w.heap.size + 2) (w.heap.size + 3)) ?ok ?seq ?kt ?kb
    (RunI w s.length) ?i ?ip ?ia ?start ?body ?done
  case ok =>
    rintro A C (h | ⟨u, rfl⟩) i hi hl
    · exact h.block i hl (by simp)
    · exact Below.heap_setCell A ⟨w.heap.size + 1, 0, none⟩ u i (by show i ≠ w.heap.size + 1; omega)
  case seq =>
    intro l J W hW hJ hY h0
    exact split_in 8 (by omega) l (w.heap.size + 1) (w.heap.size + 2) (w.heap.size + 3) s hs (by omega) (by omega) J hJ hY W ((hW.block _ (by omega)).trans b1) ((hW.block _ (by omega)).trans b2) ((hW.block _ (by omega)).trans b3) h0
  case kt =>
    rintro A B C ⟨h1, h2, h3⟩ ⟨k1, k2, k3⟩
    exact ⟨k1.trans h1, k2.trans h2, k3.trans h3⟩
  case kb =>
    intro W l o o' hl _ _
    exact ⟨World.putObj_heap_other (by omega), World.putObj_heap_other (by omega), World.putObj_heap_other (by omega)⟩
  case i =>
    rintro pre A C ⟨h1, h2, h3⟩ (h | ⟨u, rfl⟩)
    · exact ⟨h1.kept h (by simp), h2.grown h h2.size (fun k e => by cases e), h3⟩
    · exact ⟨h1.other (by omega) _, h2.setCell (p := ⟨w.heap.size + 1, 0, none⟩) (Nat.le_succ _) _, h3⟩
  case ip =>
    rintro pre A l o o' ⟨h1, h2, h3⟩ hl ho hc
    exact ⟨h1.kept (grownBy_putObj' A l o') (by simp; omega), h2.grown (grownBy_putObj' A l o') h2.size (fun k e => by cases e; omega), h3⟩
  case ia =>
    rintro pre A o ⟨h1, h2, h3⟩
    exact ⟨h1.alloc _, h2.alloc h2.size _, h3⟩
  case start => exact ⟨b0, hB0, Nat.zero_le _⟩
  case body =>
    rintro l pre x W hl ⟨h1, h2, h3⟩ hx
    have sx := bs_size x
    gi_wp2_with fail
    refine ⟨trivial, fun W2 hI2 => ?_⟩
    obtain ⟨k1, k2, k3⟩ := hI2
    have c1 := k1.cell
    have f1 := k1.frozen
    by_cases hx0 : x = []
    · subst hx0
      have he : (bs ([] : List UInt8)).toList.isEmpty = true := by rw [Lib.toList_data, bs_data]; rfl
      have he2 : ((bs ([] : List UInt8)).toList == []) = true := by rw [Lib.toList_data, bs_data]; rfl
      gi_wp2_with fail
      refine ⟨trivial, ?_⟩
      gi_wp2_with fail
      exact ⟨(KeepsOthers.refl _).from _, ⟨by rw [mostOf_snoc, show lineRun [] = 0 from rfl, Nat.max_zero]; exact k1, k2, by rw [mostOf_snoc, show lineRun [] = 0 from rfl, Nat.max_zero]; exact k3⟩, rfl, rfl, rfl⟩
    · obtain ⟨c, t, hct⟩ : ∃ c t, x = c :: t := by
        cases x with
        | nil => exact absurd rfl hx0
        | cons c t => exact ⟨c, t, rfl⟩
      have he : (bs x).toList.isEmpty = false := by rw [Lib.toList_data, bs_data, hct]; rfl
      have he2 : ((bs x).toList == []) = false := by rw [Lib.toList_data, bs_data, hct]; rfl
      have hxl : 0 < x.length := by rw [hct]; simp
      have hpos : 0 < (bs x).size := by omega
      have hb0 : (bs x)[0]'hpos = c := by
        have := at_bs x 0 hpos
        have h2 : x[0]? = some c := by rw [hct]; rfl
        rw [h2] at this
        exact (Option.some.inj this).symm
      obtain ⟨ci, hci⟩ : ∃ ci : Int, (c.toNat : Int) = ci := ⟨_, rfl⟩
      have hb1 : (((bs x)[0]'hpos).toNat : Int) = ci := by rw [hb0]; exact hci
      have hx1 : (bs x).extract 0 1 = bs [c] := by rw [bs_front', hct]; rfl
      obtain ⟨I, hI⟩ : ∃ I, indexByte [60, 124, 61, 62] c = I := ⟨_, rfl⟩
      have CI : Hid (∀ w, Calls Tryz.prog 44 #[.string ⟨#[60, 124, 61, 62]⟩, .int .u8 ci] w fun e w' => e = .returned (.int .i64 I) ∧ w = w') := Lib.hid (fun w => by
        have := index_in ⟨#[60, 124, 61, 62]⟩ c w
        rw [hci] at this
        exact hI ▸ this)
      have hsI : isSign c = decide (0 ≤ I) := by
        rw [← hI]
        have : ∀ n : Fin 256, isSign (UInt8.ofNat n.val) = decide (0 ≤ indexByte [60, 124, 61, 62] (UInt8.ofNat n.val)) := by decide +kernel
        have := this ⟨c.toNat, c.toNat_lt⟩
        simpa only [UInt8.ofNat_toNat] using this
      cases hsg : isSign c with
      | false =>
        have hI0 : ¬ 0 ≤ I := by rw [hsg] at hsI; exact of_decide_eq_false hsI.symm
        have dI : decide (0 ≤ I) = false := decide_eq_false hI0
        have hl0 : lineRun x = 0 := by rw [hct, lineRun, if_neg (by rw [hsg]; decide)]
        have HL := Lib.hid hl0
        clear hI hsI hsg hl0 hb0 hct
        gi_wp2_with ((refine ⟨trivial, ?_⟩; gi_at_call 44; refine (CallsIn.inRound l (callsIn_wide.2 (CI.out _))).mono ?_; rintro e w1 ⟨rfl, rfl⟩))
        exact ⟨(KeepsOthers.refl _).from _, ⟨by rw [mostOf_snoc, HL.out, Nat.max_zero]; exact k1, k2, by rw [mostOf_snoc, HL.out, Nat.max_zero]; exact k3⟩, rfl, rfl, rfl⟩
      | true =>
        have hI0 : 0 ≤ I := by rw [hsg] at hsI; exact of_decide_eq_true hsI.symm
        have dI : decide (0 ≤ I) = true := decide_eq_true hI0
        have hc7 : c.toNat < 128 := by
          have : ∀ n : Fin 256, isSign (UInt8.ofNat n.val) = true → (UInt8.ofNat n.val).toNat < 128 := by decide +kernel
          have := this ⟨c.toNat, c.toNat_lt⟩
          simp only [UInt8.ofNat_toNat] at this
          exact this hsg
        obtain ⟨Rr, hRr⟩ : ∃ R, trimLeftB x c = R := ⟨_, rfl⟩
        have CT : Hid (∀ w, Calls Tryz.prog 45 #[.string (bs x), .string (bs [c])] w fun e w' => e = .returned (.string (bs Rr)) ∧ w = w') := Lib.hid (fun w => by
          have := Tryz.strings_TrimLeft_one (bs x) c hc7 w
          rw [bs_data, hRr] at this
          exact this.mono fun _ _ h => ⟨h.1, h.2.symm⟩)
        have hlr : x.length = lineRun x + Rr.length := by
          have h1 : x.takeWhile (· == c) ++ x.dropWhile (· == c) = x := List.takeWhile_append_dropWhile
          have h2 : lineRun x = (x.takeWhile (· == c)).length := by
            rw [hct, lineRun, if_pos hsg, List.takeWhile_cons, if_pos (by simp), List.length_cons]; omega
          rw [h2, ← hRr]
          unfold trimLeftB
          rw [← List.length_append, h1]
        obtain ⟨L, hL⟩ : ∃ L, lineRun x = L := ⟨_, rfl⟩
        have sR := bs_size Rr
        rw [hL] at hlr
        have HL := Lib.hid hL
        obtain ⟨m, hm⟩ : ∃ m, mostOf pre = m := ⟨_, rfl⟩
        have HM := Lib.hid hm
        rw [hm] at c1 k3
        have K12 := Lib.hid (And.intro k1 k2)
        have hsub : (x.length : Int) - (Rr.length : Int) = (L : Int) := by omega
        have hsubw : IntKind.i64.wrap ((x.length : Int) - (Rr.length : Int)) = (L : Int) := by rw [hsub, IntKind.wrap_i64]; omega
        have hwL : IntKind.i64.wrap (L : Int) = (L : Int) := by rw [IntKind.wrap_i64]; omega
        have hone : (1 : Int) ≤ (x.length : Int) := by omega
        have hone2 : ¬ (x.length : Int) < 1 := by omega
        have hmx5 : (if (L : Int) > (m : Int) then (L : Int) else (m : Int)) = ((max m L : Nat) : Int) := by split <;> omega
        have hmx6 : (if (m : Int) < (L : Int) then (L : Int) else (m : Int)) = ((max m L : Nat) : Int) := by split <;> omega
        have hLs : L ≤ s.length := by omega
        have HLR := Lib.hid hlr
        clear hlr
        clear hI hsI hsg hL hb0 hct hRr hm k1 k2 h1 h2 h3
        gi_wp2_with ((refine ⟨trivial, ?_⟩; gi_at_call 44; refine (CallsIn.inRound l (callsIn_wide.2 (CI.out _))).mono ?_; rintro e w1 ⟨rfl, rfl⟩))
        have hmx : Tryz.prog.follows .mixedOrders = true := by kernel_rfl
        refine wpIn_region_any hmx (wpAnyIn_round l rfl (noDefer_spec (by kernel_rfl)) _ _ _ _ ?_)
        change wpAnyIn _ _ _ _ _ _ _ _ _ (World.drew _)
        refine wpAnyIn_take (i := 1) (v := .string (bs x)) rfl rfl (by kernel_rfl) (by kernel_rfl) (by kernel_rfl) (fun _ _ _ h => h) ⟨Or.inl ⟨by rfl, fun w => by go_simp⟩, fun _ => rfl⟩ ?_
        refine wpAnyIn_take (i := 2) (v := .int .i64 x.length) rfl rfl (by kernel_rfl) (by kernel_rfl) (by kernel_rfl) (fun _ _ _ h => h) ⟨Or.inl ⟨by rfl, fun w => by go_simp⟩, fun _ => rfl⟩ ?_
        refine wpAnyIn_take (i := 3) (v := .string (bs x)) rfl rfl (by kernel_rfl) (by kernel_rfl) (by kernel_rfl) (fun _ _ _ h => h) ⟨Or.inl ⟨by rfl, fun w => by go_simp⟩, fun _ => rfl⟩ ?_
        refine wpAnyIn_take (i := 4) (v := .string (bs x)) rfl rfl (by kernel_rfl) (by kernel_rfl) (by kernel_rfl) (fun _ _ _ h => h) ⟨Or.inl ⟨by rfl, fun w => by go_simp⟩, fun _ => rfl⟩ ?_
        refine wpAnyIn_take (i := 5) (v := .string (bs [c])) rfl rfl (by kernel_rfl) (by kernel_rfl) (by kernel_rfl) (fun _ _ _ h => h) ⟨Or.inl ⟨by rfl, fun w => by go_simp⟩, fun _ => rfl⟩ ?_
        refine wpAnyIn_ready (rs := [0, 6]) (by kernel_rfl) (by simp) ?_
        refine AllReadyIn.cons rfl (fun K hK => ?_) (AllReadyIn.cons rfl (fun K hK => ?_) AllReadyIn.nil)
        · go_simp
          refine hK _ _ ?_
          clear hK K
          refine wpAnyIn_ready (rs := [6]) (by kernel_rfl) (by simp) ?_
          refine AllReadyIn.cons rfl (fun K hK => ?_) AllReadyIn.nil
          go_simp
          gi_wp2_with ((refine ⟨trivial, ?_⟩; gi_at_call 45; refine (callsIn_wide.2 (CT.out _)).mono ?_; rintro e w1 ⟨rfl, rfl⟩))
          refine wpAnyIn_take (i := 7) (v := .int .i64 Rr.length) rfl rfl (by kernel_rfl) (by kernel_rfl) (by kernel_rfl) (fun _ _ _ h => h) ⟨Or.inl ⟨by rfl, fun w => by go_simp⟩, fun _ => rfl⟩ ?_
          refine wpAnyIn_take (i := 8) (v := .int .i64 L) rfl rfl (by kernel_rfl) (by kernel_rfl) (by kernel_rfl) (fun _ _ _ h => h) ⟨Or.inl ⟨by rfl, fun w => by go_simp⟩, fun _ => rfl⟩ ?_
          refine wpAnyIn_take (i := 9) (v := .int .i64 ((max m L : Nat) : Int)) rfl rfl (by kernel_rfl) (by kernel_rfl) (by kernel_rfl) (fun _ _ _ h => h) ⟨Or.inl ⟨by rfl, fun w => by go_simp; omega⟩, fun _ => rfl⟩ ?_
          refine wpAnyIn_ready (rs := [10]) (by kernel_rfl) (by simp) ?_
          refine AllReadyIn.cons rfl (fun K hK => ?_) AllReadyIn.nil
          go_simp
          refine hK _ _ ?_
          clear hK K
          refine wpAnyIn_done (by kernel_rfl) ?_ _
          have hfin : mostOf (pre ++ [x]) = max m L := by rw [mostOf_snoc, HM.out, HL.out]
          exact ⟨rfl, ((KeepsOthers.drew _).trans (KeepsOthers.setCell _ _ _)).from _, ⟨by rw [hfin]; exact (show Boxed W2.drew w.heap.size 3 (.int .i64 (mostOf pre : Nat)) from K12.out.1).set _, K12.out.2.drew.setCell (p := ⟨w.heap.size, 0, none⟩) (Nat.le_refl _) _, by rw [hfin]; omega⟩,
            Below.heap_setCell _ ⟨w.heap.size, 0, none⟩ _ _ (by show w.heap.size + 1 ≠ w.heap.size; omega), Below.heap_setCell _ ⟨w.heap.size, 0, none⟩ _ _ (by show w.heap.size + 2 ≠ w.heap.size; omega), Below.heap_setCell _ ⟨w.heap.size, 0, none⟩ _ _ (by show w.heap.size + 3 ≠ w.heap.size; omega)⟩
        · go_simp
          gi_wp2_with ((refine ⟨trivial, ?_⟩; gi_at_call 45; refine (callsIn_wide.2 (CT.out _)).mono ?_; rintro e w1 ⟨rfl, rfl⟩))
          refine wpAnyIn_take (i := 7) (v := .int .i64 Rr.length) rfl rfl (by kernel_rfl) (by kernel_rfl) (by kernel_rfl) (fun _ _ _ h => h) ⟨Or.inl ⟨by rfl, fun w => by go_simp⟩, fun _ => rfl⟩ ?_
          refine wpAnyIn_take (i := 8) (v := .int .i64 L) rfl rfl (by kernel_rfl) (by kernel_rfl) (by kernel_rfl) (fun _ _ _ h => h) ⟨Or.inl ⟨by rfl, fun w => by go_simp⟩, fun _ => rfl⟩ ?_
          refine wpAnyIn_ready (rs := [0]) (by kernel_rfl) (by simp) ?_
          refine AllReadyIn.cons rfl (fun K hK => ?_) AllReadyIn.nil
          go_simp
          refine hK _ _ ?_
          clear hK K
          refine wpAnyIn_take (i := 9) (v := .int .i64 ((max m L : Nat) : Int)) rfl rfl (by kernel_rfl) (by kernel_rfl) (by kernel_rfl) (fun _ _ _ h => h) ⟨Or.inl ⟨by rfl, fun w => by go_simp; omega⟩, fun _ => rfl⟩ ?_
          refine wpAnyIn_ready (rs := [10]) (by kernel_rfl) (by simp) ?_
          refine AllReadyIn.cons rfl (fun K hK => ?_) AllReadyIn.nil
          go_simp
          refine hK _ _ ?_
          clear hK K
          refine wpAnyIn_done (by kernel_rfl) ?_ _
          have hfin : mostOf (pre ++ [x]) = max m L := by rw [mostOf_snoc, HM.out, HL.out]
          exact ⟨rfl, ((KeepsOthers.drew _).trans (KeepsOthers.setCell _ _ _)).from _, ⟨by rw [hfin]; exact (show Boxed W2.drew w.heap.size 3 (.int .i64 (mostOf pre : Nat)) from K12.out.1).set _, K12.out.2.drew.setCell (p := ⟨w.heap.size, 0, none⟩) (Nat.le_refl _) _, by rw [hfin]; omega⟩,
            Below.heap_setCell _ ⟨w.heap.size, 0, none⟩ _ _ (by show w.heap.size + 1 ≠ w.heap.size; omega), Below.heap_setCell _ ⟨w.heap.size, 0, none⟩ _ _ (by show w.heap.size + 2 ≠ w.heap.size; omega), Below.heap_setCell _ ⟨w.heap.size, 0, none⟩ _ _ (by show w.heap.size + 3 ≠ w.heap.size; omega)⟩
  case done =>
    rintro D ys W hD rfl ⟨h1, h2, h3⟩ hK
    have c1 := h1.cell
    gi_wp2_with fail
    refine ⟨by simp, .inl ⟨_, _, rfl, run_takeDeferred hK, ?_⟩⟩
    refine ⟨.int .i64 (mostOf (segs s) : Nat), by simp [results, Tryz.results28, go_sem], rfl, h2.grown (grownBy_putObj' W D (.deferred none)) h2.size (fun k e => by cases e; omega)⟩
end Go.Proofs.YtdegjfmjjabnnaaGreatDoor

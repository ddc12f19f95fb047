import Derived.Test.YtnnlpkbopeiefaaGreatDoorYsC
import Derived.Test.YtnnlpkbopeiefaaGreatDoorTn
import Derived.Test.YtnnlpkbopeiefaaGreatDoorWmn
import Derived.Test.YtnnlpkbopeiefaaGreatDoorWd
import Derived.Deep.RegionHeld3
/-! scarflaw11.small, walked. Printed by mkys.py. -/
namespace Go.Proofs.YtnnlpkbopeiefaaGreatDoor
set_option linter.unusedSimpArgs false
set_option linter.unusedVariables false
open Go.RowKit
open Go.Lib hiding intOf
theorem leafVD (w : World) (k : Int) (s : Stp) : VD w 1 (VT.mk k s [] []) (.slice none 0 0) (.slice none 0 0) := ⟨⟨none, 0, rfl, Nat.le_refl _, .inl rfl⟩, none, 0, rfl, Nat.le_refl _, .inl rfl⟩
def t1_11 : VT := .mk 3 [49] [] []
def t3_11 : VT := .mk 5 [] [] [.mk 3 [49] [] [], .mk 3 [50] [] []]
theorem r1_11 : readY [49, 46, 48] = (t1_11, 0) := by kernel_rfl
theorem r2_11 : readY [39, 49, 46, 48, 39] = (strT [49, 46, 48], 0) := by kernel_rfl
theorem r3_11 : readY [91, 49, 44, 32, 50, 93] = (t3_11, 0) := by kernel_rfl
theorem w1_11 : writeY (strT [49]) = ([39, 49, 39], 0) := by kernel_rfl
theorem w2_11 : writeY (strT [97, 58, 32, 98]) = ([39, 97, 58, 32, 98, 39], 0) := by kernel_rfl
theorem w3_11 : writeY (strT [10]) = ([34, 92, 110, 34], 0) := by kernel_rfl
theorem k1_11 : keyY [49] = ([49], 0) := by kernel_rfl
theorem b1_11 : bareB [45, 49] = true := by kernel_rfl
theorem b2_11 : bareB [45, 32, 49] = false := by kernel_rfl
theorem b3_11 : bareB [97, 58, 98] = true := by kernel_rfl
abbrev Sm11 (W : World) (Z1 Z2 Z3 : Nat) (pa : Option Addr) (ca : Nat) (pb : Option Addr) (cb : Nat) (pc : Option Addr) (cc : Nat) (pd : Option Addr) (cd : Nat) (pf : Option Addr) (cf : Nat) (w : World) : Prop :=
  ((w.cell? ⟨Z1, 0, none⟩ = some (.int .i64 3) ∧ w.cell? ⟨Z1, 1, none⟩ = some (.string ⟨#[49]⟩) ∧ w.cell? ⟨Z1, 2, none⟩ = some (.slice pa 0 ca) ∧ w.cell? ⟨Z1, 3, none⟩ = some (.slice pb 0 cb)) ∧
   (w.cell? ⟨Z2, 0, none⟩ = some (.int .i64 4) ∧ w.cell? ⟨Z2, 1, none⟩ = some (.string ⟨#[49, 46, 48]⟩) ∧ w.cell? ⟨Z2, 2, none⟩ = some (.slice pc 0 cc) ∧ w.cell? ⟨Z2, 3, none⟩ = some (.slice pd 0 cd)) ∧
   w.cell? ⟨Z3, 3, none⟩ = some (.slice pf 2 cf)) ∧ Hid (Below W.heap.size W w)
section
variable {W w w2 : World} {Z1 Z2 Z3 : Nat} {pa : Option Addr} {ca : Nat} {pb : Option Addr} {cb : Nat} {pc : Option Addr} {cc : Nat} {pd : Option Addr} {cd : Nat} {pf : Option Addr} {cf : Nat}
theorem Sm11.bel (h : Sm11 W Z1 Z2 Z3 pa ca pb cb pc cc pd cd pf cf w) : Below W.heap.size W w := h.2.out
theorem Sm11.step (h : Sm11 W Z1 Z2 Z3 pa ca pb cb pc cc pd cd pf cf w) (hb : Below w.heap.size w w2) : Sm11 W Z1 Z2 Z3 pa ca pb cb pc cc pd cd pf cf w2 := by
  obtain ⟨⟨⟨a0, a1, a2, a3⟩, ⟨b0, b1, b2, b3⟩, c3⟩, h8⟩ := h
  exact ⟨⟨⟨cell_keepT a0 hb, cell_keepT a1 hb, cell_keepT a2 hb, cell_keepT a3 hb⟩, ⟨cell_keepT b0 hb, cell_keepT b1 hb, cell_keepT b2 hb, cell_keepT b3 hb⟩, cell_keepT c3 hb⟩, Lib.hid (below_of_new h8.out hb)⟩
theorem Sm11.drew (h : Sm11 W Z1 Z2 Z3 pa ca pb cb pc cc pd cd pf cf w) : Sm11 W Z1 Z2 Z3 pa ca pb cb pc cc pd cd pf cf w.drew := h.step (Below.refl _ _).drew
end
set_option maxRecDepth 100000 in
set_option maxHeartbeats 4000000 in
theorem small11_any (w : World) (hV : AVar w) :
    Calls Tryz.prog 30 #[] w fun e w' => e = .returned (.bool true) ∧ Below w.heap.size w w' := by
  have HV := Lib.hid hV
  have CR1 : Hid (Calls Tryz.prog 35 #[.string ⟨#[49, 46, 48]⟩] w (NewE2 t1_11 0 w)) := Lib.hid (by have := yread_any [49, 46, 48] w (by decide) HV.out; rw [r1_11] at this; exact this)
  have CR2 : Hid (∀ w', Below w.heap.size w w' → Calls Tryz.prog 35 #[.string ⟨#[39, 49, 46, 48, 39]⟩] w' (NewE2 (strT [49, 46, 48]) 0 w')) := Lib.hid (fun w' hb => by have := yread_any [39, 49, 46, 48, 39] w' (by decide) (HV.out.keep hb); rw [r2_11] at this; exact this)
  have CR3 : Hid (∀ w', Below w.heap.size w w' → Calls Tryz.prog 35 #[.string ⟨#[91, 49, 44, 32, 50, 93]⟩] w' (NewE2 t3_11 0 w')) := Lib.hid (fun w' hb => by have := yread_any [91, 49, 44, 32, 50, 93] w' (by decide) (HV.out.keep hb); rw [r3_11] at this; exact this)
  have CO1 : Hid (∀ w', Calls Tryz.prog 47 #[.string ⟨#[49]⟩] w' fun e w2 => e = .returned (.agg #[.int .i64 4, .string ⟨#[49]⟩, .slice none 0 0, .slice none 0 0]) ∧ Below w'.heap.size w' w2) := Lib.hid (fun w' => vof_any [49] w')
  have CO2 : Hid (∀ w', Calls Tryz.prog 47 #[.string ⟨#[97, 58, 32, 98]⟩] w' fun e w2 => e = .returned (.agg #[.int .i64 4, .string ⟨#[97, 58, 32, 98]⟩, .slice none 0 0, .slice none 0 0]) ∧ Below w'.heap.size w' w2) := Lib.hid (fun w' => vof_any [97, 58, 32, 98] w')
  have CO3 : Hid (∀ w', Calls Tryz.prog 47 #[.string ⟨#[10]⟩] w' fun e w2 => e = .returned (.agg #[.int .i64 4, .string ⟨#[10]⟩, .slice none 0 0, .slice none 0 0]) ∧ Below w'.heap.size w' w2) := Lib.hid (fun w' => vof_any [10] w')
  have CO4 : Hid (∀ w', Calls Tryz.prog 47 #[.string ⟨#[49, 46, 48]⟩] w' fun e w2 => e = .returned (.agg #[.int .i64 4, .string ⟨#[49, 46, 48]⟩, .slice none 0 0, .slice none 0 0]) ∧ Below w'.heap.size w' w2) := Lib.hid (fun w' => vof_any [49, 46, 48] w')
  have CW1 : Hid (∀ w', Below w.heap.size w w' → Calls Tryz.prog 31 #[.agg #[.int .i64 4, .string ⟨#[49]⟩, .slice none 0 0, .slice none 0 0]] w' fun e w2 => e = .returned (.tuple #[.string ⟨#[39, 49, 39]⟩, .int .i64 0]) ∧ Below w'.heap.size w' w2) := Lib.hid (fun w' hb => by have := ywrite_any 1 (strT [49]) _ _ w' (leafVD w' 4 [49]) (by decide) (HV.out.keep hb).1; rw [w1_11] at this; exact this)
  have CW2 : Hid (∀ w', Below w.heap.size w w' → Calls Tryz.prog 31 #[.agg #[.int .i64 4, .string ⟨#[97, 58, 32, 98]⟩, .slice none 0 0, .slice none 0 0]] w' fun e w2 => e = .returned (.tuple #[.string ⟨#[39, 97, 58, 32, 98, 39]⟩, .int .i64 0]) ∧ Below w'.heap.size w' w2) := Lib.hid (fun w' hb => by have := ywrite_any 1 (strT [97, 58, 32, 98]) _ _ w' (leafVD w' 4 _) (by decide) (HV.out.keep hb).1; rw [w2_11] at this; exact this)
  have CW3 : Hid (∀ w', Below w.heap.size w w' → Calls Tryz.prog 31 #[.agg #[.int .i64 4, .string ⟨#[10]⟩, .slice none 0 0, .slice none 0 0]] w' fun e w2 => e = .returned (.tuple #[.string ⟨#[34, 92, 110, 34]⟩, .int .i64 0]) ∧ Below w'.heap.size w' w2) := Lib.hid (fun w' hb => by have := ywrite_any 1 (strT [10]) _ _ w' (leafVD w' 4 _) (by decide) (HV.out.keep hb).1; rw [w3_11] at this; exact this)
  have CK : Hid (∀ w', Below w.heap.size w w' → Calls Tryz.prog 33 #[.string ⟨#[49]⟩] w' fun e w2 => e = .returned (.tuple #[.string ⟨#[49]⟩, .int .i64 0]) ∧ Below w'.heap.size w' w2) := Lib.hid (fun w' hb => by have := ywritekey_any [49] w' (by decide) (HV.out.keep hb).1; rw [k1_11] at this; exact this)
  have CN : Hid (∀ w', Below w.heap.size w w' → Calls Tryz.prog 50 #[.int .i64 1] w' fun e w2 => e = .returned (.agg #[.int .i64 3, .string ⟨#[49]⟩, .slice none 0 0, .slice none 0 0]) ∧ Below w'.heap.size w' w2) := Lib.hid (fun w' hb => vnum1_any w' (HV.out.keep hb).1)
  have CB1 : Hid (∀ w', Below w.heap.size w w' → Calls Tryz.prog 40 #[.string ⟨#[45, 49]⟩] w' fun e w2 => e = .returned (.bool true) ∧ Below w'.heap.size w' w2) := Lib.hid (fun w' hb => by have := ybare_any [45, 49] w' (by decide) (HV.out.keep hb).1; rw [b1_11] at this; exact this)
  have CB2 : Hid (∀ w', Below w.heap.size w w' → Calls Tryz.prog 40 #[.string ⟨#[45, 32, 49]⟩] w' fun e w2 => e = .returned (.bool false) ∧ Below w'.heap.size w' w2) := Lib.hid (fun w' hb => by have := ybare_any [45, 32, 49] w' (by decide) (HV.out.keep hb).1; rw [b2_11] at this; exact this)
  have CB3 : Hid (∀ w', Below w.heap.size w w' → Calls Tryz.prog 40 #[.string ⟨#[97, 58, 98]⟩] w' fun e w2 => e = .returned (.bool true) ∧ Below w'.heap.size w' w2) := Lib.hid (fun w' hb => by have := ybare_any [97, 58, 98] w' (by decide) (HV.out.keep hb).1; rw [b3_11] at this; exact this)
  clear hV
  go_enter Tryz.func30, Tryz.ntmps30
  go_wp2_with fail
  refine CR1.out.mono ?_
  rintro e w1 ⟨⟨kv1, iv1, rfl, hv1⟩, hb1⟩
  obtain ⟨pa, ca, pb, cb, rfl, rfl⟩ := hv1.form
  have hba := below_alloc1 w1 (.cells #[.int .i64 3, .string ⟨#[49]⟩, .slice pa 0 ca, .slice pb 0 cb] 25)
  have hz1 := heap_alloc_new w1 (.cells #[.int .i64 3, .string ⟨#[49]⟩, .slice pa 0 ca, .slice pb 0 cb] 25)
  obtain ⟨w2, hw2⟩ : ∃ W, w1.alloc (.cells #[.int .i64 3, .string ⟨#[49]⟩, .slice pa 0 ca, .slice pb 0 cb] 25) = W := ⟨_, rfl⟩
  rw [hw2] at hba hz1
  obtain ⟨Z1, hZ1⟩ : ∃ Z, w1.heap.size = Z := ⟨_, rfl⟩
  rw [hZ1] at hz1
  have HZ1 := Lib.hid hz1
  have HB2 := Lib.hid (below_of_new hb1 hba)
  have HV1 := Lib.hid (hv1.keep hba)
  clear hb1 hba hz1 hv1 CR1
  rw [show vv t1_11 (.slice pa t1_11.keys.length ca) (.slice pb t1_11.items.length cb) = .agg #[.int .i64 3, .string ⟨#[49]⟩, .slice pa 0 ca, .slice pb 0 cb] from rfl]
  go_wp2_with fail
  refine (CR2.out _ HB2.out).mono ?_
  rintro e w3 ⟨⟨kv1, iv1, rfl, hv1⟩, hb1⟩
  obtain ⟨pc, cc, pd, cd, rfl, rfl⟩ := hv1.form
  have hba := below_alloc1 w3 (.cells #[.int .i64 4, .string ⟨#[49, 46, 48]⟩, .slice pc 0 cc, .slice pd 0 cd] 25)
  have hz1 := heap_alloc_new w3 (.cells #[.int .i64 4, .string ⟨#[49, 46, 48]⟩, .slice pc 0 cc, .slice pd 0 cd] 25)
  obtain ⟨w4, hw4⟩ : ∃ W, w3.alloc (.cells #[.int .i64 4, .string ⟨#[49, 46, 48]⟩, .slice pc 0 cc, .slice pd 0 cd] 25) = W := ⟨_, rfl⟩
  rw [hw4] at hba hz1
  obtain ⟨Z2, hZ2⟩ : ∃ Z, w3.heap.size = Z := ⟨_, rfl⟩
  rw [hZ2] at hz1
  have HZ2 := Lib.hid hz1
  have hb24 := below_of_new hb1 hba
  have HB4 := Lib.hid (below_of_new HB2.out hb24)
  have HZ1' := Lib.hid ((hb24.block Z1 (cell_it HZ1.out)).trans HZ1.out)
  have HV1' := Lib.hid (HV1.out.keep hb24)
  have HV2 := Lib.hid (hv1.keep hba)
  clear hb1 hba hz1 hv1 CR2 hb24 HZ1 HV1 hw2 hZ1
  rw [show vv (strT [49, 46, 48]) (.slice pc (strT [49, 46, 48]).keys.length cc) (.slice pd (strT [49, 46, 48]).items.length cd) = .agg #[.int .i64 4, .string ⟨#[49, 46, 48]⟩, .slice pc 0 cc, .slice pd 0 cd] from rfl]
  go_wp2_with fail
  refine (CR3.out _ HB4.out).mono ?_
  rintro e w5 ⟨⟨kv1, iv1, rfl, hv1⟩, hb1⟩
  obtain ⟨pe, ce, pf, cf, rfl, rfl⟩ := hv1.form
  have hba := below_alloc1 w5 (.cells #[.int .i64 5, .string ⟨#[]⟩, .slice pe 0 ce, .slice pf 2 cf] 25)
  have hz1 := heap_alloc_new w5 (.cells #[.int .i64 5, .string ⟨#[]⟩, .slice pe 0 ce, .slice pf 2 cf] 25)
  obtain ⟨w6, hw6⟩ : ∃ W, w5.alloc (.cells #[.int .i64 5, .string ⟨#[]⟩, .slice pe 0 ce, .slice pf 2 cf] 25) = W := ⟨_, rfl⟩
  rw [hw6] at hba hz1
  obtain ⟨Z3, hZ3⟩ : ∃ Z, w5.heap.size = Z := ⟨_, rfl⟩
  rw [hZ3] at hz1
  have HZ3 := Lib.hid hz1
  have hb24 := below_of_new hb1 hba
  have HB6 := Lib.hid (below_of_new HB4.out hb24)
  have HZ1 := Lib.hid ((hb24.block Z1 (cell_it HZ1'.out)).trans HZ1'.out)
  have HV1 := Lib.hid (HV1'.out.keep hb24)
  have HZ2' := Lib.hid ((hb24.block Z2 (cell_it HZ2.out)).trans HZ2.out)
  have HV2' := Lib.hid (HV2.out.keep hb24)
  clear hb1 hba hz1 hv1 CR3 hb24 HZ1' HV1' HZ2 HV2 hw4 hZ2
  rw [show vv t3_11 (.slice pe t3_11.keys.length ce) (.slice pf t3_11.items.length cf) = .agg #[.int .i64 5, .string ⟨#[]⟩, .slice pe 0 ce, .slice pf 2 cf] from rfl]
  have CE1 : Hid (∀ w', Below w6.heap.size w6 w' → Calls Tryz.prog 27 #[.agg #[.int .i64 3, .string ⟨#[49]⟩, .slice pa 0 ca, .slice pb 0 cb], .agg #[.int .i64 3, .string ⟨#[49]⟩, .slice none 0 0, .slice none 0 0]] w' fun e w2 => e = .returned (.bool true) ∧ Below w'.heap.size w' w2) := Lib.hid (fun w' hb => requal_any 1 t1_11 _ _ _ _ w' (HV1.out.keep hb).toVD (leafVD w' 3 _) (by decide))
  have CE2 : Hid (∀ w', Below w6.heap.size w6 w' → Calls Tryz.prog 27 #[.agg #[.int .i64 4, .string ⟨#[49, 46, 48]⟩, .slice pc 0 cc, .slice pd 0 cd], .agg #[.int .i64 4, .string ⟨#[49, 46, 48]⟩, .slice none 0 0, .slice none 0 0]] w' fun e w2 => e = .returned (.bool true) ∧ Below w'.heap.size w' w2) := Lib.hid (fun w' hb => requal_any 1 (strT [49, 46, 48]) _ _ _ _ w' (HV2'.out.keep hb).toVD (leafVD w' 4 _) (by decide))
  go_wp2_with fail
  refine (CO1.out _).mono ?_
  rintro e w7 ⟨rfl, hb7⟩
  have HB7 := Lib.hid (below_of_new HB6.out hb7)
  have HC7 : Hid (Below w6.heap.size w6 w7) := Lib.hid (hb7)
  clear hb7
  go_wp2_with fail
  refine (CW1.out _ HB7.out).mono ?_
  rintro e w8 ⟨rfl, hb8⟩
  have HB8 := Lib.hid (below_of_new HB7.out hb8)
  have HC8 : Hid (Below w6.heap.size w6 w8) := Lib.hid (below_of_new HC7.out hb8)
  clear hb8
  go_wp2_with fail
  refine (CO2.out _).mono ?_
  rintro e w9 ⟨rfl, hb9⟩
  have HB9 := Lib.hid (below_of_new HB8.out hb9)
  have HC9 : Hid (Below w6.heap.size w6 w9) := Lib.hid (below_of_new HC8.out hb9)
  clear hb9
  go_wp2_with fail
  refine (CW2.out _ HB9.out).mono ?_
  rintro e w10 ⟨rfl, hb10⟩
  have HB10 := Lib.hid (below_of_new HB9.out hb10)
  have HC10 : Hid (Below w6.heap.size w6 w10) := Lib.hid (below_of_new HC9.out hb10)
  clear hb10
  go_wp2_with fail
  refine (CO3.out _).mono ?_
  rintro e w11 ⟨rfl, hb11⟩
  have HB11 := Lib.hid (below_of_new HB10.out hb11)
  have HC11 : Hid (Below w6.heap.size w6 w11) := Lib.hid (below_of_new HC10.out hb11)
  clear hb11
  go_wp2_with fail
  refine (CW3.out _ HB11.out).mono ?_
  rintro e w12 ⟨rfl, hb12⟩
  have HB12 := Lib.hid (below_of_new HB11.out hb12)
  have HC12 : Hid (Below w6.heap.size w6 w12) := Lib.hid (below_of_new HC11.out hb12)
  clear hb12
  go_wp2_with fail
  refine (CK.out _ HB12.out).mono ?_
  rintro e w13 ⟨rfl, hb13⟩
  have HB13 := Lib.hid (below_of_new HB12.out hb13)
  have HC13 : Hid (Below w6.heap.size w6 w13) := Lib.hid (below_of_new HC12.out hb13)
  clear hb13
  obtain ⟨x0, x1, x2, x3, _⟩ := box4 ((HC13.out.block Z1 (cell_it HZ1.out)).trans HZ1.out)
  obtain ⟨y0, y1, y2, y3, _⟩ := box4 ((HC13.out.block Z2 (cell_it HZ2'.out)).trans HZ2'.out)
  obtain ⟨z0, z1, z2, z3, _⟩ := box4 ((HC13.out.block Z3 (cell_it HZ3.out)).trans HZ3.out)
  have HS0 : Sm11 w13 Z1 Z2 Z3 pa ca pb cb pc cc pd cd pf cf w13 := ⟨⟨⟨x0, x1, x2, x3⟩, ⟨y0, y1, y2, y3⟩, z3⟩, Lib.hid (Below.refl _ _)⟩
  have g1 : ((⟨#[39, 49, 39]⟩ : ByteArray).toList == (⟨#[39, 49, 39]⟩ : ByteArray).toList) = true := by simp
  have g2 : ((⟨#[39, 97, 58, 32, 98, 39]⟩ : ByteArray).toList == (⟨#[39, 97, 58, 32, 98, 39]⟩ : ByteArray).toList) = true := by simp
  have g3 : ((⟨#[34, 92, 110, 34]⟩ : ByteArray).toList == (⟨#[34, 92, 110, 34]⟩ : ByteArray).toList) = true := by simp
  have g4 : ((⟨#[49]⟩ : ByteArray).toList == (⟨#[49]⟩ : ByteArray).toList) = true := by simp
  clear x0 x1 x2 x3 y0 y1 y2 y3 z0 z1 z2 z3
  go_upto_region 8 with fail
  dsimp only [List.append_eq, List.cons_append, List.nil_append]
  go_region_held3 (fun w' => Sm11 w13 Z1 Z2 Z3 pa ca pb cb pc cc pd cd pf cf w') ((first | exact Sm11.drew (by assumption) | exact Sm11.step (by assumption) (by assumption) | assumption))
    ((first
      | (go_at_call 50; (with_reducible refine (CN.out _ (below_of_new HB13.out (Sm11.bel (by assumption : Sm11 w13 Z1 Z2 Z3 pa ca pb cb pc cc pd cd pf cf _)))).mono ?_); rintro e w20 ⟨rfl, hb20⟩)
      | (go_at_call 27; (with_reducible refine (CE1.out _ (below_of_new HC13.out (Sm11.bel (by assumption : Sm11 w13 Z1 Z2 Z3 pa ca pb cb pc cc pd cd pf cf _)))).mono ?_); rintro e w21 ⟨rfl, hb21⟩)
      | (go_at_call 47; (with_reducible refine (CO4.out _).mono ?_); rintro e w22 ⟨rfl, hb22⟩)
      | (go_at_call 27; (with_reducible refine (CE2.out _ (below_of_new HC13.out (Sm11.bel (by assumption : Sm11 w13 Z1 Z2 Z3 pa ca pb cb pc cc pd cd pf cf _)))).mono ?_); rintro e w23 ⟨rfl, hb23⟩)
      | (go_at_call 40; (with_reducible refine (CB1.out _ (below_of_new HB13.out (Sm11.bel (by assumption : Sm11 w13 Z1 Z2 Z3 pa ca pb cb pc cc pd cd pf cf _)))).mono ?_); rintro e w24 ⟨rfl, hb24⟩)
      | (go_at_call 40; (with_reducible refine (CB2.out _ (below_of_new HB13.out (Sm11.bel (by assumption : Sm11 w13 Z1 Z2 Z3 pa ca pb cb pc cc pd cd pf cf _)))).mono ?_); rintro e w25 ⟨rfl, hb25⟩)
      | (go_at_call 40; (with_reducible refine (CB3.out _ (below_of_new HB13.out (Sm11.bel (by assumption : Sm11 w13 Z1 Z2 Z3 pa ca pb cb pc cc pd cd pf cf _)))).mono ?_); rintro e w26 ⟨rfl, hb26⟩)))
  all_goals
    have HF := Lib.hid (by assumption : Sm11 w13 Z1 Z2 Z3 pa ca pb cb pc cc pd cd pf cf w26)
    have HBF : Hid (Below w.heap.size w w26) := Lib.hid (below_of_new HB13.out HF.out.2.out)
    go_wp2_with fail
    go_ret
    exact ⟨by first | rfl | simp, HBF.out⟩
end Go.Proofs.YtnnlpkbopeiefaaGreatDoor

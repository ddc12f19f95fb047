import Derived.Test.YtbldfpkfinpciaaGreatDoorRa16
import Derived.Test.YtbldfpkfinpciaaGreatDoorRa17
namespace Go.Proofs.YtbldfpkfinpciaaGreatDoor
set_option linter.unusedSimpArgs false
set_option linter.unusedVariables false
open Go.RowKit
open Go.Lib hiding intOf
theorem leafVD (w : World) (k : Int) (s : Stp) : VD w 1 (VT.mk k s [] []) (.slice none 0 0) (.slice none 0 0) := ⟨⟨none, 0, rfl, Nat.le_refl _, .inl rfl⟩, none, 0, rfl, Nat.le_refl _, .inl rfl⟩
def t1_11 : VT := .mk 3 [49] [] []
def t3_11 : VT := .mk 5 [] [] [.mk 3 [49] [] [], .mk 3 [50] [] []]
theorem r1_11 : readY [49, 46, 48] = (t1_11, 0) := by kernel_rfl
theorem r2_11 : readY [39, 49, 46, 48, 39] = (strT [49, 46, 48], 0) := by kernel_rfl
theorem r3_11 : readY [91, 49, 44, 32, 50, 93] = (t3_11, 0) := by kernel_rfl
theorem w1_11 : writeY (strT [49]) = ([39, 49, 39], 0) := by kernel_rfl
theorem w2_11 : writeY (strT [97, 58, 32, 98]) = ([39, 97, 58, 32, 98, 39], 0) := by kernel_rfl
theorem w3_11 : writeY (strT [10]) = ([34, 92, 110, 34], 0) := by kernel_rfl
theorem k1_11 : keyY [49] = ([49], 0) := by kernel_rfl
theorem b1_11 : bareB [45, 49] = true := by kernel_rfl
theorem b2_11 : bareB [45, 32, 49] = false := by kernel_rfl
theorem b3_11 : bareB [97, 58, 98] = true := by kernel_rfl
abbrev Sm11 (W : World) (Z1 Z2 Z3 : Nat) (pa : Option Addr) (ca : Nat) (pb : Option Addr) (cb : Nat) (pc : Option Addr) (cc : Nat) (pd : Option Addr) (cd : Nat) (pf : Option Addr) (cf : Nat) (w : World) : Prop :=
  ((w.cell? ⟨Z1, 0, none⟩ = some (.int .i64 3) ∧ w.cell? ⟨Z1, 1, none⟩ = some (.string ⟨#[49]⟩) ∧ w.cell? ⟨Z1, 2, none⟩ = some (.slice pa 0 ca) ∧ w.cell? ⟨Z1, 3, none⟩ = some (.slice pb 0 cb)) ∧
   (w.cell? ⟨Z2, 0, none⟩ = some (.int .i64 4) ∧ w.cell? ⟨Z2, 1, none⟩ = some (.string ⟨#[49, 46, 48]⟩) ∧ w.cell? ⟨Z2, 2, none⟩ = some (.slice pc 0 cc) ∧ w.cell? ⟨Z2, 3, none⟩ = some (.slice pd 0 cd)) ∧
   w.cell? ⟨Z3, 3, none⟩ = some (.slice pf 2 cf)) ∧ Hid (Below W.heap.size W w)
section
variable {W w w2 : World} {Z1 Z2 Z3 : Nat} {pa : Option Addr} {ca : Nat} {pb : Option Addr} {cb : Nat} {pc : Option Addr} {cc : Nat} {pd : Option Addr} {cd : Nat} {pf : Option Addr} {cf : Nat}
theorem Sm11.bel (h : Sm11 W Z1 Z2 Z3 pa ca pb cb pc cc pd cd pf cf w) : Below W.heap.size W w := h.2.out
theorem Sm11.step (h : Sm11 W Z1 Z2 Z3 pa ca pb cb pc cc pd cd pf cf w) (hb : Below w.heap.size w w2) : Sm11 W Z1 Z2 Z3 pa ca pb cb pc cc pd cd pf cf w2 := by
 obtain ⟨⟨⟨a0, a1, a2, a3⟩, ⟨b0, b1, b2, b3⟩, c3⟩, h8⟩ := h
 exact ⟨⟨⟨cell_keepT a0 hb, cell_keepT a1 hb, cell_keepT a2 hb, cell_keepT a3 hb⟩, ⟨cell_keepT b0 hb, cell_keepT b1 hb, cell_keepT b2 hb, cell_keepT b3 hb⟩, cell_keepT c3 hb⟩, Lib.hid (below_of_new h8.out hb)⟩
theorem Sm11.drew (h : Sm11 W Z1 Z2 Z3 pa ca pb cb pc cc pd cd pf cf w) : Sm11 W Z1 Z2 Z3 pa ca pb cb pc cc pd cd pf cf w.drew := h.step (Below.refl _ _).drew
end
set_option maxRecDepth 100000 in
set_option maxHeartbeats 4000000 in
theorem small11_any (w : World) (hV : AVar w) :
  Calls Tryz.prog 25 #[] w fun e w' => e = .returned (.bool true) ∧ Below w.heap.size w w' := by
 have HV := Lib.hid hV
 have CR1 : Hid (Calls Tryz.prog 26 #[.string ⟨#[49, 46, 48]⟩] w (NewE2 t1_11 0 w)) := Lib.hid (by have := yread_any [49, 46, 48] w (by decide) HV.out; rw [r1_11] at this; exact this)
 have CR2 : Hid (∀ w', Below w.heap.size w w' → Calls Tryz.prog 26 #[.string ⟨#[39, 49, 46, 48, 39]⟩] w' (NewE2 (strT [49, 46, 48]) 0 w')) := Lib.hid (fun w' hb => by have := yread_any [39, 49, 46, 48, 39] w' (by decide) (HV.out.keep hb); rw [r2_11] at this; exact this)
 have CR3 : Hid (∀ w', Below w.heap.size w w' → Calls Tryz.prog 26 #[.string ⟨#[91, 49, 44, 32, 50, 93]⟩] w' (NewE2 t3_11 0 w')) := Lib.hid (fun w' hb => by have := yread_any [91, 49, 44, 32, 50, 93] w' (by decide) (HV.out.keep hb); rw [r3_11] at this; exact this)
 have CO1 : Hid (∀ w', Calls Tryz.prog 38 #[.string ⟨#[49]⟩] w' fun e w2 => e = .returned (.agg #[.int .i64 4, .string ⟨#[49]⟩, .slice none 0 0, .slice none 0 0]) ∧ Below w'.heap.size w' w2) := Lib.hid (fun w' => vof_any [49] w')
 have CO2 : Hid (∀ w', Calls Tryz.prog 38 #[.string ⟨#[97, 58, 32, 98]⟩] w' fun e w2 => e = .returned (.agg #[.int .i64 4, .string ⟨#[97, 58, 32, 98]⟩, .slice none 0 0, .slice none 0 0]) ∧ Below w'.heap.size w' w2) := Lib.hid (fun w' => vof_any [97, 58, 32, 98] w')
 have CO3 : Hid (∀ w', Calls Tryz.prog 38 #[.string ⟨#[10]⟩] w' fun e w2 => e = .returned (.agg #[.int .i64 4, .string ⟨#[10]⟩, .slice none 0 0, .slice none 0 0]) ∧ Below w'.heap.size w' w2) := Lib.hid (fun w' => vof_any [10] w')
 have CO4 : Hid (∀ w', Calls Tryz.prog 38 #[.string ⟨#[49, 46, 48]⟩] w' fun e w2 => e = .returned (.agg #[.int .i64 4, .string ⟨#[49, 46, 48]⟩, .slice none 0 0, .slice none 0 0]) ∧ Below w'.heap.size w' w2) := Lib.hid (fun w' => vof_any [49, 46, 48] w')
 have CW1 : Hid (∀ w', Below w.heap.size w w' → Calls Tryz.prog 58 #[.agg #[.int .i64 4, .string ⟨#[49]⟩, .slice none 0 0, .slice none 0 0]] w' fun e w2 => e = .returned (.tuple #[.string ⟨#[39, 49, 39]⟩, .int .i64 0]) ∧ Below w'.heap.size w' w2) := Lib.hid (fun w' hb => by have := ywrite_any 1 (strT [49]) _ _ w' (leafVD w' 4 [49]) (by decide) (HV.out.keep hb).1; rw [w1_11] at this; exact this)
 have CW2 : Hid (∀ w', Below w.heap.size w w' → Calls Tryz.prog 58 #[.agg #[.int .i64 4, .string ⟨#[97, 58, 32, 98]⟩, .slice none 0 0, .slice none 0 0]] w' fun e w2 => e = .returned (.tuple #[.string ⟨#[39, 97, 58, 32, 98, 39]⟩, .int .i64 0]) ∧ Below w'.heap.size w' w2) := Lib.hid (fun w' hb => by have := ywrite_any 1 (strT [97, 58, 32, 98]) _ _ w' (leafVD w' 4 _) (by decide) (HV.out.keep hb).1; rw [w2_11] at this; exact this)
 have CW3 : Hid (∀ w', Below w.heap.size w w' → Calls Tryz.prog 58 #[.agg #[.int .i64 4, .string ⟨#[10]⟩, .slice none 0 0, .slice none 0 0]] w' fun e w2 => e = .returned (.tuple #[.string ⟨#[34, 92, 110, 34]⟩, .int .i64 0]) ∧ Below w'.heap.size w' w2) := Lib.hid (fun w' hb => by have := ywrite_any 1 (strT [10]) _ _ w' (leafVD w' 4 _) (by decide) (HV.out.keep hb).1; rw [w3_11] at this; exact this)
 have CK : Hid (∀ w', Below w.heap.size w w' → Calls Tryz.prog 24 #[.string ⟨#[49]⟩] w' fun e w2 => e = .returned (.tuple #[.string ⟨#[49]⟩, .int .i64 0]) ∧ Below w'.heap.size w' w2) := Lib.hid (fun w' hb => by have := ywritekey_any [49] w' (by decide) (HV.out.keep hb).1; rw [k1_11] at this; exact this)
 have CN : Hid (∀ w', Below w.heap.size w w' → Calls Tryz.prog 36 #[.int .i64 1] w' fun e w2 => e = .returned (.agg #[.int .i64 3, .string ⟨#[49]⟩, .slice none 0 0, .slice none 0 0]) ∧ Below w'.heap.size w' w2) := Lib.hid (fun w' hb => vnum1_any w' (HV.out.keep hb).1)
 have CB1 : Hid (∀ w', Below w.heap.size w w' → Calls Tryz.prog 31 #[.string ⟨#[45, 49]⟩] w' fun e w2 => e = .returned (.bool true) ∧ Below w'.heap.size w' w2) := Lib.hid (fun w' hb => by have := ybare_any [45, 49] w' (by decide) (HV.out.keep hb).1; rw [b1_11] at this; exact this)
 have CB2 : Hid (∀ w', Below w.heap.size w w' → Calls Tryz.prog 31 #[.string ⟨#[45, 32, 49]⟩] w' fun e w2 => e = .returned (.bool false) ∧ Below w'.heap.size w' w2) := Lib.hid (fun w' hb => by have := ybare_any [45, 32, 49] w' (by decide) (HV.out.keep hb).1; rw [b2_11] at this; exact this)
 have CB3 : Hid (∀ w', Below w.heap.size w w' → Calls Tryz.prog 31 #[.string ⟨#[97, 58, 98]⟩] w' fun e w2 => e = .returned (.bool true) ∧ Below w'.heap.size w' w2) := Lib.hid (fun w' hb => by have := ybare_any [97, 58, 98] w' (by decide) (HV.out.keep hb).1; rw [b3_11] at this; exact this)
 clear hV
 go_enter Tryz.func25, Tryz.ntmps25
 go_wp2_with fail
 refine CR1.out.mono ?_
 rintro e w1 ⟨⟨kv1, iv1, rfl, hv1⟩, hb1⟩
 obtain ⟨pa, ca, pb, cb, rfl, rfl⟩ := hv1.form
 have hba := below_alloc1 w1 (.cells #[.int .i64 3, .string ⟨#[49]⟩, .slice pa 0 ca, .slice pb 0 cb] 36)
 have hz1 := heap_alloc_new w1 (.cells #[.int .i64 3, .string ⟨#[49]⟩, .slice pa 0 ca, .slice pb 0 cb] 36)
 obtain ⟨w2, hw2⟩ : ∃ W, w1.alloc (.cells #[.int .i64 3, .string ⟨#[49]⟩, .slice pa 0 ca, .slice pb 0 cb] 36) = W := ⟨_, rfl⟩
 rw [hw2] at hba hz1
 obtain ⟨Z1, hZ1⟩ : ∃ Z, w1.heap.size = Z := ⟨_, rfl⟩
 rw [hZ1] at hz1
 have HZ1 := Lib.hid hz1
 have HB2 := Lib.hid (below_of_new hb1 hba)
 have HV1 := Lib.hid (hv1.keep hba)
 clear hb1 hba hz1 hv1 CR1
 rw [show vv t1_11 (.slice pa t1_11.keys.length ca) (.slice pb t1_11.items.length cb) = .agg #[.int .i64 3, .string ⟨#[49]⟩, .slice pa 0 ca, .slice pb 0 cb] from rfl]
 go_wp2_with fail
 refine (CR2.out _ HB2.out).mono ?_
 rintro e w3 ⟨⟨kv1, iv1, rfl, hv1⟩, hb1⟩
 obtain ⟨pc, cc, pd, cd, rfl, rfl⟩ := hv1.form
 have hba := below_alloc1 w3 (.cells #[.int .i64 4, .string ⟨#[49, 46, 48]⟩, .slice pc 0 cc, .slice pd 0 cd] 36)
 have hz1 := heap_alloc_new w3 (.cells #[.int .i64 4, .string ⟨#[49, 46, 48]⟩, .slice pc 0 cc, .slice pd 0 cd] 36)
 obtain ⟨w4, hw4⟩ : ∃ W, w3.alloc (.cells #[.int .i64 4, .string ⟨#[49, 46, 48]⟩, .slice pc 0 cc, .slice pd 0 cd] 36) = W := ⟨_, rfl⟩
 rw [hw4] at hba hz1
 obtain ⟨Z2, hZ2⟩ : ∃ Z, w3.heap.size = Z := ⟨_, rfl⟩
 rw [hZ2] at hz1
 have HZ2 := Lib.hid hz1
 have hb24 := below_of_new hb1 hba
 have HB4 := Lib.hid (below_of_new HB2.out hb24)
 have HZ1' := Lib.hid ((hb24.block Z1 (cell_it HZ1.out)).trans HZ1.out)
 have HV1' := Lib.hid (HV1.out.keep hb24)
 have HV2 := Lib.hid (hv1.keep hba)
 clear hb1 hba hz1 hv1 CR2 hb24 HZ1 HV1 hw2 hZ1
 rw [show vv (strT [49, 46, 48]) (.slice pc (strT [49, 46, 48]).keys.length cc) (.slice pd (strT [49, 46, 48]).items.length cd) = .agg #[.int .i64 4, .string ⟨#[49, 46, 48]⟩, .slice pc 0 cc, .slice pd 0 cd] from rfl]
 go_wp2_with fail
 refine (CR3.out _ HB4.out).mono ?_
 rintro e w5 ⟨⟨kv1, iv1, rfl, hv1⟩, hb1⟩
 obtain ⟨pe, ce, pf, cf, rfl, rfl⟩ := hv1.form
 have hba := below_alloc1 w5 (.cells #[.int .i64 5, .string ⟨#[]⟩, .slice pe 0 ce, .slice pf 2 cf] 36)
 have hz1 := heap_alloc_new w5 (.cells #[.int .i64 5, .string ⟨#[]⟩, .slice pe 0 ce, .slice pf 2 cf] 36)
 obtain ⟨w6, hw6⟩ : ∃ W, w5.alloc (.cells #[.int .i64 5, .string ⟨#[]⟩, .slice pe 0 ce, .slice pf 2 cf] 36) = W := ⟨_, rfl⟩
 rw [hw6] at hba hz1
 obtain ⟨Z3, hZ3⟩ : ∃ Z, w5.heap.size = Z := ⟨_, rfl⟩
 rw [hZ3] at hz1
 have HZ3 := Lib.hid hz1
 have hb24 := below_of_new hb1 hba
 have HB6 := Lib.hid (below_of_new HB4.out hb24)
 have HZ1 := Lib.hid ((hb24.block Z1 (cell_it HZ1'.out)).trans HZ1'.out)
 have HV1 := Lib.hid (HV1'.out.keep hb24)
 have HZ2' := Lib.hid ((hb24.block Z2 (cell_it HZ2.out)).trans HZ2.out)
 have HV2' := Lib.hid (HV2.out.keep hb24)
 clear hb1 hba hz1 hv1 CR3 hb24 HZ1' HV1' HZ2 HV2 hw4 hZ2
 rw [show vv t3_11 (.slice pe t3_11.keys.length ce) (.slice pf t3_11.items.length cf) = .agg #[.int .i64 5, .string ⟨#[]⟩, .slice pe 0 ce, .slice pf 2 cf] from rfl]
 have CE1 : Hid (∀ w', Below w6.heap.size w6 w' → Calls Tryz.prog 17 #[.agg #[.int .i64 3, .string ⟨#[49]⟩, .slice pa 0 ca, .slice pb 0 cb], .agg #[.int .i64 3, .string ⟨#[49]⟩, .slice none 0 0, .slice none 0 0]] w' fun e w2 => e = .returned (.bool true) ∧ Below w'.heap.size w' w2) := Lib.hid (fun w' hb => requal_any 1 t1_11 _ _ _ _ w' (HV1.out.keep hb).toVD (leafVD w' 3 _) (by decide))
 have CE2 : Hid (∀ w', Below w6.heap.size w6 w' → Calls Tryz.prog 17 #[.agg #[.int .i64 4, .string ⟨#[49, 46, 48]⟩, .slice pc 0 cc, .slice pd 0 cd], .agg #[.int .i64 4, .string ⟨#[49, 46, 48]⟩, .slice none 0 0, .slice none 0 0]] w' fun e w2 => e = .returned (.bool true) ∧ Below w'.heap.size w' w2) := Lib.hid (fun w' hb => requal_any 1 (strT [49, 46, 48]) _ _ _ _ w' (HV2'.out.keep hb).toVD (leafVD w' 4 _) (by decide))
 go_wp2_with fail
 refine (CO1.out _).mono ?_
 rintro e w7 ⟨rfl, hb7⟩
 have HB7 := Lib.hid (below_of_new HB6.out hb7)
 have HC7 : Hid (Below w6.heap.size w6 w7) := Lib.hid (hb7)
 clear hb7
 go_wp2_with fail
 refine (CW1.out _ HB7.out).mono ?_
 rintro e w8 ⟨rfl, hb8⟩
 have HB8 := Lib.hid (below_of_new HB7.out hb8)
 have HC8 : Hid (Below w6.heap.size w6 w8) := Lib.hid (below_of_new HC7.out hb8)
 clear hb8
 go_wp2_with fail
 refine (CO2.out _).mono ?_
 rintro e w9 ⟨rfl, hb9⟩
 have HB9 := Lib.hid (below_of_new HB8.out hb9)
 have HC9 : Hid (Below w6.heap.size w6 w9) := Lib.hid (below_of_new HC8.out hb9)
 clear hb9
 go_wp2_with fail
 refine (CW2.out _ HB9.out).mono ?_
 rintro e w10 ⟨rfl, hb10⟩
 have HB10 := Lib.hid (below_of_new HB9.out hb10)
 have HC10 : Hid (Below w6.heap.size w6 w10) := Lib.hid (below_of_new HC9.out hb10)
 clear hb10
 go_wp2_with fail
 refine (CO3.out _).mono ?_
 rintro e w11 ⟨rfl, hb11⟩
 have HB11 := Lib.hid (below_of_new HB10.out hb11)
 have HC11 : Hid (Below w6.heap.size w6 w11) := Lib.hid (below_of_new HC10.out hb11)
 clear hb11
 go_wp2_with fail
 refine (CW3.out _ HB11.out).mono ?_
 rintro e w12 ⟨rfl, hb12⟩
 have HB12 := Lib.hid (below_of_new HB11.out hb12)
 have HC12 : Hid (Below w6.heap.size w6 w12) := Lib.hid (below_of_new HC11.out hb12)
 clear hb12
 go_wp2_with fail
 refine (CK.out _ HB12.out).mono ?_
 rintro e w13 ⟨rfl, hb13⟩
 have HB13 := Lib.hid (below_of_new HB12.out hb13)
 have HC13 : Hid (Below w6.heap.size w6 w13) := Lib.hid (below_of_new HC12.out hb13)
 clear hb13
 obtain ⟨x0, x1, x2, x3, _⟩ := box4 ((HC13.out.block Z1 (cell_it HZ1.out)).trans HZ1.out)
 obtain ⟨y0, y1, y2, y3, _⟩ := box4 ((HC13.out.block Z2 (cell_it HZ2'.out)).trans HZ2'.out)
 obtain ⟨z0, z1, z2, z3, _⟩ := box4 ((HC13.out.block Z3 (cell_it HZ3.out)).trans HZ3.out)
 have HS0 : Sm11 w13 Z1 Z2 Z3 pa ca pb cb pc cc pd cd pf cf w13 := ⟨⟨⟨x0, x1, x2, x3⟩, ⟨y0, y1, y2, y3⟩, z3⟩, Lib.hid (Below.refl _ _)⟩
 have g1 : ((⟨#[39, 49, 39]⟩ : ByteArray).toList == (⟨#[39, 49, 39]⟩ : ByteArray).toList) = true := by simp
 have g2 : ((⟨#[39, 97, 58, 32, 98, 39]⟩ : ByteArray).toList == (⟨#[39, 97, 58, 32, 98, 39]⟩ : ByteArray).toList) = true := by simp
 have g3 : ((⟨#[34, 92, 110, 34]⟩ : ByteArray).toList == (⟨#[34, 92, 110, 34]⟩ : ByteArray).toList) = true := by simp
 have g4 : ((⟨#[49]⟩ : ByteArray).toList == (⟨#[49]⟩ : ByteArray).toList) = true := by simp
 clear x0 x1 x2 x3 y0 y1 y2 y3 z0 z1 z2 z3
 go_upto_region 8 with fail
 dsimp only [List.append_eq, List.cons_append, List.nil_append]
 go_region_held3 (fun w' => Sm11 w13 Z1 Z2 Z3 pa ca pb cb pc cc pd cd pf cf w') ((first | exact Sm11.drew (by assumption) | exact Sm11.step (by assumption) (by assumption) | assumption))
  ((first
   | (go_at_call 36; (with_reducible refine (CN.out _ (below_of_new HB13.out (Sm11.bel (by assumption : Sm11 w13 Z1 Z2 Z3 pa ca pb cb pc cc pd cd pf cf _)))).mono ?_); rintro e w20 ⟨rfl, hb20⟩)
   | (go_at_call 17; (with_reducible refine (CE1.out _ (below_of_new HC13.out (Sm11.bel (by assumption : Sm11 w13 Z1 Z2 Z3 pa ca pb cb pc cc pd cd pf cf _)))).mono ?_); rintro e w21 ⟨rfl, hb21⟩)
   | (go_at_call 38; (with_reducible refine (CO4.out _).mono ?_); rintro e w22 ⟨rfl, hb22⟩)
   | (go_at_call 17; (with_reducible refine (CE2.out _ (below_of_new HC13.out (Sm11.bel (by assumption : Sm11 w13 Z1 Z2 Z3 pa ca pb cb pc cc pd cd pf cf _)))).mono ?_); rintro e w23 ⟨rfl, hb23⟩)
   | (go_at_call 31; (with_reducible refine (CB1.out _ (below_of_new HB13.out (Sm11.bel (by assumption : Sm11 w13 Z1 Z2 Z3 pa ca pb cb pc cc pd cd pf cf _)))).mono ?_); rintro e w24 ⟨rfl, hb24⟩)
   | (go_at_call 31; (with_reducible refine (CB2.out _ (below_of_new HB13.out (Sm11.bel (by assumption : Sm11 w13 Z1 Z2 Z3 pa ca pb cb pc cc pd cd pf cf _)))).mono ?_); rintro e w25 ⟨rfl, hb25⟩)
   | (go_at_call 31; (with_reducible refine (CB3.out _ (below_of_new HB13.out (Sm11.bel (by assumption : Sm11 w13 Z1 Z2 Z3 pa ca pb cb pc cc pd cd pf cf _)))).mono ?_); rintro e w26 ⟨rfl, hb26⟩)))
 all_goals
  have HF := Lib.hid (by assumption : Sm11 w13 Z1 Z2 Z3 pa ca pb cb pc cc pd cd pf cf w26)
  have HBF : Hid (Below w.heap.size w w26) := Lib.hid (below_of_new HB13.out HF.out.2.out)
  go_wp2_with fail
  go_ret
  exact ⟨by first | rfl | simp, HBF.out⟩
set_option maxHeartbeats 1000000 in
theorem refDigits_any (s : ByteArray) (w : World) (hs : s.size ≤ 4294967296) :
  Calls Tryz.prog 182 #[.string s] w fun e w' => e = .returned (.bool (allDig s.data.toList)) ∧ Below w.heap.size w w' := by
 obtain ⟨R, hR⟩ : ∃ R, allDig s.data.toList = R := ⟨_, rfl⟩
 rw [hR]
 have HR := Lib.hid hR; clear hR
 go_enter Tryz.func182, Tryz.ntmps182
 go_wp2_with fail
 go_loopw [3] (fun i wr => ∃ p : Nat, p ≤ s.size ∧ i = .int .i64 p ∧ Hid (Digs s p) ∧ wr = w) (fun i _ => s.size - (RowKit.intOf i).toNat)
 case atStart => exact ⟨0, by omega, rfl, Digs.zero s, rfl⟩
 case round =>
  obtain ⟨p, hp, rfl, HD, rfl⟩ := hrel
  by_cases hlt : p < s.size
  ·have hlt' : (p : Int) < (s.size : Int) := by omega
   cases hd : isDig (s[p]'hlt) with
   | true =>
    have HN := Lib.hid (HD.out.next hlt hd)
    have hb := of_decide_eq_true hd
    clear hd
    go_wp2_with fail
    go_roundw
    case rel => exact ⟨p + 1, by omega, by rw [show ((p : Int) + 1) = ((p + 1 : Nat) : Int) by omega], HN.out, by first | rfl | trivial⟩
    case measure => simp [RowKit.intOf]; omega
   | false =>
    have hno : (s[p]'hlt).toNat < 48 ∨ 57 < (s[p]'hlt).toNat := by have h1 := of_decide_eq_false hd; omega
    have HF := Lib.hid (HR.out.symm.trans (digs_no hlt hd))
    clear hd
    rcases hno with hno | hno
    all_goals
     go_wp2_with fail
     go_ret
     exact ⟨ret_bool HF.out.symm, Below.refl _ _⟩
  ·have hp2 : p = s.size := by omega
   subst hp2
   have HF := Lib.hid (HR.out.symm.trans (HD.out.fin (Nat.le_refl _)))
   go_wp2_with fail
   go_ret
   refine ⟨ret_bool ?_, Below.refl _ _⟩
   rw [HF.out, Lib.toList_data]
   have hl : s.data.toList.length = s.size := rfl
   cases h : s.data.toList with
   | nil => rw [h] at hl; rw [← hl]; rfl
   | cons x t => rw [h] at hl; rw [← hl]; exact decide_eq_true (by simp)
theorem refDigits_is (s : ByteArray) (w : World) (R : Bool) (hs : s.size ≤ 4294967296) (h : allDig s.data.toList = R) :
  Calls Tryz.prog 182 #[.string s] w fun e w' => e = .returned (.bool R) ∧ Below w.heap.size w w' := by
 rw [← h]; exact refDigits_any s w hs
def cutLen (p : UInt8 → Bool) (l : List UInt8) : Nat := (l.takeWhile (fun c => !p c)).length
theorem cutLen_le (p : UInt8 → Bool) (l : List UInt8) : cutLen p l ≤ l.length := (List.takeWhile_sublist _).length_le
theorem cutLen_take (p : UInt8 → Bool) (l : List UInt8) : l.take (cutLen p l) = l.takeWhile (fun c => !p c) := by
 have h := List.takeWhile_append_dropWhile (p := fun c => !p c) (l := l)
 unfold cutLen
 conv => lhs; arg 2; rw [← h]
 exact List.take_left
theorem cutLen_drop (p : UInt8 → Bool) (l : List UInt8) : l.drop (cutLen p l) = l.dropWhile (fun c => !p c) := by
 have h := List.takeWhile_append_dropWhile (p := fun c => !p c) (l := l)
 unfold cutLen
 conv => lhs; arg 2; rw [← h]
 exact List.drop_left
theorem cutAt_len3 (p : UInt8 → Bool) (l : List UInt8) : cutAt p l = (l.take (cutLen p l), l.drop (cutLen p l + 1), decide (cutLen p l < l.length)) := by
 have h1 := cutLen_take p l
 have h2 := cutLen_drop p l
 have h3 := congrArg List.length h2
 rw [List.length_drop] at h3
 unfold cutAt
 split
 ·rename_i e
  rw [e] at h3
  simp only [List.length_nil] at h3
  rw [decide_eq_false (by omega), List.take_of_length_le (by omega), List.drop_of_length_le (by omega)]
 ·rename_i e
  rw [e] at h2 h3
  simp only [List.length_cons] at h3
  rw [decide_eq_true (by omega), h1, ← List.drop_drop, h2]; rfl
theorem takeWhile_all {p : UInt8 → Bool} : ∀ {l : List UInt8}, l.all p = true → l.takeWhile p = l
 | [], _ => rfl
 | c :: t, h => by
  rw [List.all_cons, Bool.and_eq_true] at h
  rw [List.takeWhile_cons, if_pos h.1, takeWhile_all h.2]
theorem noneYet_cut {p : UInt8 → Bool} {l : List UInt8} {k : Nat} (h : NoneYet p (bs l) k) (hk : k = (bs l).size ∨ ∃ hk : k < (bs l).size, p ((bs l)[k]'hk) = true) : k = cutLen p l := by
 unfold NoneYet at h
 rw [bs_data] at h
 have hs := bs_size l
 rcases hk with hk | ⟨hk, hp⟩
 ·rw [List.take_of_length_le (by omega)] at h
  unfold cutLen
  rw [takeWhile_all h]; omega
 ·have hk2 : k < l.length := by omega
  have e : l = l.take k ++ (l[k] :: l.drop (k + 1)) := by rw [← List.drop_eq_getElem_cons hk2, List.take_append_drop]
  have hb : (bs l)[k]'hk = l[k] := by simp [bs, ByteArray.getElem_eq_getElem_data]
  rw [hb] at hp
  unfold cutLen
  rw [e, List.takeWhile_append_of_pos (by rw [List.all_eq_true] at h; exact h), List.takeWhile_cons, if_neg (by simp [hp])]
  simp; omega
def partsV (l : List UInt8) : Value :=
 let c := cutAt isE (unsign l)
 let m := cutAt isDot c.1
 let x := if c.2.2 then unplus c.2.1 else [48]
 let r := if m.2.2 then m.2.1 else [48]
 .tuple #[.bool (l.head? == some 45), .string (bs m.1), .string (bs (if m.2.2 then m.2.1 else [])), .bool (c.2.2 && c.2.1.head? == some 45), .string (bs x), .bool (allDig m.1 && allDig r && allDig x && (m.1 == [48] || m.1.head? != some 48))]
set_option maxRecDepth 100000 in
set_option maxHeartbeats 2000000 in
theorem parts_any (l : List UInt8) (w : World) (hs : l.length ≤ 4294967296) :
  Calls Tryz.prog 127 #[.string (bs l)] w fun e w' => e = .returned (partsV l) ∧ Below w.heap.size w w' := by
 have hu := unsign_len l
 have sl := bs_size l
 obtain ⟨R, hR⟩ : ∃ R, partsV l = R := ⟨_, rfl⟩
 rw [hR]
 obtain ⟨ng, hng⟩ : ∃ ng, (l.head? == some 45) = ng := ⟨_, rfl⟩
 have HR := Lib.hid hR; have HNg := Lib.hid hng; clear hR hng
 go_enter Tryz.func127, Tryz.ntmps127
 go_upto_region 1 with fail
 go_cut [8] (fun s8 wx => s8 = .bool ng ∧ w = wx)
 case first =>
  by_cases h0 : 0 < (bs l).size
  ·have hT := head_is l 45 45 rfl h0
   rw [HNg.out] at hT
   cases ng
   all_goals
    go_wp2_with fail
    go_meet
    exact ⟨rfl, rfl⟩
  ·have hl0 : l = [] := List.eq_nil_of_length_eq_zero (by omega)
   subst hl0
   obtain rfl : false = ng := HNg.out
   go_wp2_with fail
   go_meet
   exact ⟨rfl, rfl⟩
 case rest =>
  obtain ⟨rfl, rfl⟩ := hcut
  go_upto_if 23 with fail
  go_cut [0] (fun s0 wx => s0 = .string (bs (unsign l)) ∧ w = wx)
  case first =>
   have hng := HNg.out
   cases ng with
   | true =>
    have h1 : 1 ≤ (bs l).size := by
     cases l with
     | nil => exact absurd hng (by decide)
     | cons _ _ => simp at sl ⊢; omega
    have hU : unsign l = l.drop 1 := by unfold unsign; rw [if_pos (beq_iff_eq.1 hng)]
    have HU := Lib.hid hU
    clear hU hng
    go_wp2_with fail
    go_meet
    exact ⟨by rw [HU.out, bs_from _ _ _ rfl], rfl⟩
   | false =>
    have HU := Lib.hid (unsign_no hng).1
    clear hng
    go_wp2_with fail
    go_meet
    exact ⟨by rw [HU.out], rfl⟩
  obtain ⟨rfl, rfl⟩ := hcut
  obtain ⟨u, hU⟩ : ∃ u, unsign l = u := ⟨_, rfl⟩
  rw [hU] at hu ⊢
  have HU := Lib.hid hU; clear hU
  have su := bs_size u
  go_upto_block 0 with fail
  go_cut [9] (fun s9 wx => s9 = .int .i64 (cutLen isE u) ∧ w = wx)
  case first =>
   go_wp2_with fail
   go_loopw [9] (fun i wr => ∃ k : Nat, k ≤ (bs u).size ∧ i = .int .i64 k ∧ Hid (NoneYet isE (bs u) k) ∧ w = wr) (fun i _ => (bs u).size - (RowKit.intOf i).toNat)
   case atStart => exact ⟨0, by omega, rfl, rfl, rfl⟩
   case round =>
    obtain ⟨k, hk, rfl, HY, rfl⟩ := hrel
    by_cases hlt : k < (bs u).size
    ·cases hp : isE ((bs u)[k]'hlt) with
     | true =>
      have HC := Lib.hid (noneYet_cut HY.out (.inr ⟨hlt, hp⟩))
      have T1 := byte_ne ((bs u)[k]'hlt) 101 101 rfl
      have T2 := byte_ne ((bs u)[k]'hlt) 69 69 rfl
      unfold isE at hp
      by_cases h1 : (((bs u)[k]'hlt) == 101) = true
      ·rw [h1] at T1
       clear hp h1 T2
       go_wp2_with fail
       go_meet
       exact ⟨by rw [← HC.out], rfl⟩
      ·rw [Bool.not_eq_true] at h1
       rw [h1, Bool.false_or] at hp
       rw [h1] at T1
       rw [hp] at T2
       clear hp h1
       go_wp2_with fail
       go_meet
       exact ⟨by rw [← HC.out], rfl⟩
     | false =>
      have HN := Lib.hid (HY.out.next hlt hp)
      have T1 := byte_ne ((bs u)[k]'hlt) 101 101 rfl
      have T2 := byte_ne ((bs u)[k]'hlt) 69 69 rfl
      unfold isE at hp
      rw [Bool.or_eq_false_iff] at hp
      rw [hp.1] at T1
      rw [hp.2] at T2
      clear hp
      go_wp2_with fail
      go_roundw
      case rel => exact ⟨k + 1, by omega, by go_num, HN.out, trivial⟩
      case measure => simp [RowKit.intOf]; omega
    ·have HC := Lib.hid (noneYet_cut HY.out (.inl (by omega)))
     go_wp2_with fail
     go_meet
     exact ⟨by rw [← HC.out], rfl⟩
  obtain ⟨rfl, rfl⟩ := hcut
  have hcl := cutLen_le isE u
  obtain ⟨K, hK⟩ : ∃ K, cutLen isE u = K := ⟨_, rfl⟩
  have hc := cutAt_len3 isE u
  rw [hK] at hcl hc
  rw [hK]
  have HC := Lib.hid hc; clear hK hc
  obtain ⟨X, hX⟩ : ∃ X, (if (cutAt isE u).2.2 then unplus (cutAt isE u).2.1 else [48]) = X := ⟨_, rfl⟩
  obtain ⟨mn, hmn⟩ : ∃ mn, ((cutAt isE u).2.2 && (cutAt isE u).2.1.head? == some 45) = mn := ⟨_, rfl⟩
  have HX := Lib.hid hX; have HM := Lib.hid hmn; clear hX hmn
  go_upto_if 47 with fail
  go_cut [10, 11] (fun s10 s11 wx => s10 = .string (bs X) ∧ s11 = .bool mn ∧ w = wx)
  case first =>
   have hx := HX.out
   have hm := HM.out
   rw [HC.out] at hx hm
   by_cases hk : K < u.length
   ·rw [decide_eq_true hk] at hx hm
    simp only [if_true, Bool.true_and] at hx hm
    obtain ⟨y, hy⟩ : ∃ y, u.drop (K + 1) = y := ⟨_, rfl⟩
    rw [hy] at hx hm
    have HY := Lib.hid hy
    have sy := bs_size y
    have hky : y.length ≤ u.length := by rw [← hy, List.length_drop]; omega
    clear hy
    have HX2 := Lib.hid hx; have HM2 := Lib.hid hm; clear hx hm
    go_upto_region 10 with fail
    go_cut [10] (fun s10 wx => s10 = .string (bs y) ∧ w = wx)
    case first =>
     go_wp2_with fail
     go_meet
     exact ⟨by rw [bs_from _ _ _ rfl, HY.out], rfl⟩
    obtain ⟨rfl, rfl⟩ := hcut
    go_upto_region 11 with fail
    go_cut [11] (fun s11 wx => s11 = .bool mn ∧ w = wx)
    case first =>
     by_cases h0 : 0 < (bs y).size
     ·have hT := head_is y 45 45 rfl h0
      rw [HM2.out] at hT
      cases mn
      all_goals
       go_wp2_with fail
       go_meet
       exact ⟨rfl, rfl⟩
     ·have hl0 : y = [] := List.eq_nil_of_length_eq_zero (by omega)
      subst hl0
      obtain rfl : false = mn := HM2.out
      go_wp2_with fail
      go_meet
      exact ⟨rfl, rfl⟩
    obtain ⟨rfl, rfl⟩ := hcut
    obtain ⟨pl, hpl⟩ : ∃ pl, (y.head? == some 43) = pl := ⟨_, rfl⟩
    have HP := Lib.hid hpl; clear hpl
    have hne : mn = true ∨ pl = true → 1 ≤ (bs y).size := by
     intro h
     have h1 := HM2.out; have h2 := HP.out
     cases y with
     | nil => rcases h with rfl | rfl; exact absurd h1 (by decide); exact absurd h2 (by decide)
     | cons _ _ => simp at sy ⊢; omega
    go_upto_region 12 with fail
    obtain ⟨q, hq⟩ : ∃ q, (mn || pl) = q := ⟨_, rfl⟩
    have HQ := Lib.hid hq; clear hq
    go_cut [70] (fun s70 wx => s70 = .bool q ∧ w = wx)
    case first =>
     cases mn with
     | true =>
      obtain rfl : true = q := HQ.out
      go_wp2_with fail
      go_meet
      exact ⟨rfl, rfl⟩
     | false =>
      by_cases h0 : 0 < (bs y).size
      ·have hT := head_is y 43 43 rfl h0
       rw [HP.out] at hT
       cases pl
       ·obtain rfl : false = q := HQ.out
        go_wp2_with fail
        go_meet
        exact ⟨rfl, rfl⟩
       ·obtain rfl : true = q := HQ.out
        go_wp2_with fail
        go_meet
        exact ⟨rfl, rfl⟩
      ·have hl0 : y = [] := List.eq_nil_of_length_eq_zero (by omega)
       subst hl0
       obtain rfl : false = pl := HP.out
       obtain rfl : false = q := HQ.out
       go_wp2_with fail
       go_meet
       exact ⟨rfl, rfl⟩
    obtain ⟨rfl, rfl⟩ := hcut
    have hxx := HX2.out
    unfold unplus at hxx
    cases q with
    | true =>
     have hor : mn = true ∨ pl = true := by have := HQ.out; rwa [Bool.or_eq_true] at this
     have h1 := hne hor
     have hor2 : y.head? = some 45 ∨ y.head? = some 43 := by
      rcases hor with h | h
      ·exact .inl (beq_iff_eq.1 (HM2.out.trans h))
      ·exact .inr (beq_iff_eq.1 (HP.out.trans h))
     rw [if_pos hor2] at hxx
     have HX3 := Lib.hid hxx; clear hxx hor hor2 hne
     go_wp2_with fail
     go_meet
     exact ⟨by rw [bs_from _ _ _ rfl, HX3.out], rfl, rfl⟩
    | false =>
     have hno := HQ.out
     rw [Bool.or_eq_false_iff] at hno
     have hor2 : ¬ (y.head? = some 45 ∨ y.head? = some 43) := by
      rintro (h | h)
      ·have := HM2.out; rw [hno.1, beq_eq_false_iff_ne] at this; exact this h
      ·have := HP.out; rw [hno.2, beq_eq_false_iff_ne] at this; exact this h
     rw [if_neg hor2] at hxx
     subst hxx
     clear hno hor2 hne
     go_wp2_with fail
     go_meet
     exact ⟨rfl, rfl, rfl⟩
   ·rw [decide_eq_false hk] at hx hm
    simp only [Bool.false_eq_true, if_false, Bool.false_and] at hx hm
    subst hx
    subst hm
    have hk2 : K = u.length := by omega
    subst hk2
    go_wp2_with fail
    go_meet
    exact ⟨rfl, rfl, rfl⟩
  obtain ⟨rfl, rfl, rfl⟩ := hcut
  obtain ⟨m, hm⟩ : ∃ m, (cutAt isE u).1 = m := ⟨_, rfl⟩
  have hm2 := hm
  rw [HC.out] at hm2
  have hml : m.length ≤ u.length := by rw [← hm2]; simp; omega
  have HMm := Lib.hid hm; have HM3 := Lib.hid hm2; clear hm hm2
  have sm := bs_size m
  go_upto_region 14 with fail
  go_cut [0] (fun s0 wx => s0 = .string (bs m) ∧ w = wx)
  case first =>
   go_wp2_with fail
   go_meet
   exact ⟨by rw [bs_front, bs_data, HM3.out], rfl⟩
  obtain ⟨rfl, rfl⟩ := hcut
  go_upto_block 2 with fail
  go_cut [9] (fun s9 wx => s9 = .int .i64 (cutLen isDot m) ∧ w = wx)
  case first =>
   go_wp2_with fail
   go_loopw [9] (fun i wr => ∃ k : Nat, k ≤ (bs m).size ∧ i = .int .i64 k ∧ Hid (NoneYet isDot (bs m) k) ∧ w = wr) (fun i _ => (bs m).size - (RowKit.intOf i).toNat)
   case atStart => exact ⟨0, by omega, rfl, rfl, rfl⟩
   case round =>
    obtain ⟨k, hk, rfl, HY, rfl⟩ := hrel
    by_cases hlt : k < (bs m).size
    ·have T1 := byte_ne ((bs m)[k]'hlt) 46 46 rfl
     cases hp : isDot ((bs m)[k]'hlt) with
     | true =>
      have HC := Lib.hid (noneYet_cut HY.out (.inr ⟨hlt, hp⟩))
      unfold isDot at hp
      rw [hp] at T1
      clear hp
      go_wp2_with fail
      go_meet
      exact ⟨by rw [← HC.out], rfl⟩
     | false =>
      have HN := Lib.hid (HY.out.next hlt hp)
      unfold isDot at hp
      rw [hp] at T1
      clear hp
      go_wp2_with fail
      go_roundw
      case rel => exact ⟨k + 1, by omega, by go_num, HN.out, trivial⟩
      case measure => simp [RowKit.intOf]; omega
    ·have HC := Lib.hid (noneYet_cut HY.out (.inl (by omega)))
     go_wp2_with fail
     go_meet
     exact ⟨by rw [← HC.out], rfl⟩
  obtain ⟨rfl, rfl⟩ := hcut
  have hcl2 := cutLen_le isDot m
  obtain ⟨K2, hK2⟩ : ∃ K2, cutLen isDot m = K2 := ⟨_, rfl⟩
  have hc2 := cutAt_len3 isDot m
  rw [hK2] at hcl2 hc2
  rw [hK2]
  have HC2 := Lib.hid hc2; clear hK2 hc2
  obtain ⟨wh, hwh⟩ : ∃ wh, (cutAt isDot m).1 = wh := ⟨_, rfl⟩
  obtain ⟨r, hr⟩ : ∃ r, (if (cutAt isDot m).2.2 then (cutAt isDot m).2.1 else [48]) = r := ⟨_, rfl⟩
  obtain ⟨rs, hrs⟩ : ∃ rs, (if (cutAt isDot m).2.2 then (cutAt isDot m).2.1 else []) = rs := ⟨_, rfl⟩
  have HWh := Lib.hid hwh; have HRr := Lib.hid hr; have HRs := Lib.hid hrs
  rw [HC2.out] at hwh hr hrs
  simp only [] at hwh
  have hwl : wh.length ≤ m.length := by rw [← hwh]; simp; omega
  have HWh2 := Lib.hid hwh; clear hwh
  have swh := bs_size wh
  go_upto_region 18 with fail
  go_cut [12] (fun s12 wx => s12 = .string (bs wh) ∧ w = wx)
  case first =>
   go_wp2_with fail
   go_meet
   exact ⟨by rw [bs_front, bs_data, HWh2.out], rfl⟩
  obtain ⟨rfl, rfl⟩ := hcut
  have hrl : r.length ≤ 4294967296 := by
   rw [← hr]
   by_cases hk : K2 < m.length
   ·rw [decide_eq_true hk]; simp; omega
   ·rw [decide_eq_false hk]; simp
  have HR2 := Lib.hid hr; clear hr
  have HRs2 := Lib.hid hrs; clear hrs
  go_upto_if 94 with fail
  go_cut [13] (fun s13 wx => s13 = .string (bs r) ∧ w = wx)
  case first =>
   have hr := HR2.out
   by_cases hk : K2 < m.length
   ·rw [decide_eq_true hk, if_pos rfl] at hr
    have HR3 := Lib.hid hr; clear hr
    go_wp2_with fail
    go_meet
    exact ⟨by rw [bs_from _ _ _ rfl, HR3.out], rfl⟩
   ·rw [decide_eq_false hk, if_neg (by simp)] at hr
    subst hr
    have hk2 : K2 = m.length := by omega
    subst hk2
    go_wp2_with fail
    go_meet
    exact ⟨rfl, rfl⟩
  obtain ⟨rfl, rfl⟩ := hcut
  have hXl : X.length ≤ 4294967296 := by
   have hx := HX.out
   rw [HC.out] at hx
   rw [← hx]
   by_cases hk : K < u.length
   ·rw [decide_eq_true hk, if_pos rfl]
    unfold unplus
    split <;> simp <;> omega
   ·rw [decide_eq_false hk]; simp
  obtain ⟨D1, hD1⟩ : ∃ D1, allDig wh = D1 := ⟨_, rfl⟩
  obtain ⟨D2, hD2⟩ : ∃ D2, allDig r = D2 := ⟨_, rfl⟩
  obtain ⟨D3, hD3⟩ : ∃ D3, allDig X = D3 := ⟨_, rfl⟩
  have C1 := Lib.hid (fun w => refDigits_is (bs wh) w D1 (by rw [bs_size]; omega) (by rw [bs_data]; exact hD1))
  have C2 := Lib.hid (fun w => refDigits_is (bs r) w D2 (by rw [bs_size]; omega) (by rw [bs_data]; exact hD2))
  have C3 := Lib.hid (fun w => refDigits_is (bs X) w D3 (by rw [bs_size]; omega) (by rw [bs_data]; exact hD3))
  have HD1 := Lib.hid hD1; have HD2 := Lib.hid hD2; have HD3 := Lib.hid hD3
  clear hD1 hD2 hD3
  go_upto_region 22 with fail
  go_cut [14] (fun s14 wx => s14 = .bool (D1 && D2 && D3 && (wh == [48] || wh.head? != some 48)) ∧ Hid (Below w.heap.size w wx))
  case first =>
   cases D1 with
   | false =>
    go_wp2_with (go_at_call 182; (with_reducible refine (C1.out _).mono ?_); rintro e w1 ⟨rfl, hb1⟩)
    go_meet
    exact ⟨by simp, hb1⟩
   | true =>
    have hne : wh ≠ [] := (allDig_ne HD1.out).1
    have h0 : 0 < (bs wh).size := by
     cases wh with
     | nil => exact absurd rfl hne
     | cons _ _ => simp at swh ⊢; omega
    clear hne
    go_wp2_with (go_at_call 182; (with_reducible refine (C1.out _).mono ?_); rintro e w1 ⟨rfl, hb1⟩)
    cases D2 with
    | false =>
     refine (C2.out _).mono ?_
     rintro e w2 ⟨rfl, hb2⟩
     go_wp2_with fail
     go_meet
     exact ⟨by simp, below_of_new hb1 hb2⟩
    | true =>
     refine (C2.out _).mono ?_
     rintro e w2 ⟨rfl, hb2⟩
     have HB2 := Lib.hid (below_of_new hb1 hb2); clear hb1 hb2
     cases D3 with
     | false =>
      go_wp2_with (go_at_call 182; (with_reducible refine (C3.out _).mono ?_); rintro e w3 ⟨rfl, hb3⟩)
      go_meet
      exact ⟨by simp, below_of_new HB2.out hb3⟩
     | true =>
      have hT := head_is wh 48 48 rfl h0
      have hT2 := byte_ne ((bs wh)[0]'h0) 48 48 rfl
      have hT3 := byte_eq ((bs wh)[0]'h0) 48 48 rfl
      rw [← hT3, hT] at hT2
      clear hT hT3
      by_cases hz : wh = [48]
      ·subst hz
       have e1 : ((bs [48]).toList == [48]) = true := by rw [Lib.toList_data, bs_data]; rfl
       go_wp2_with (go_at_call 182; (with_reducible refine (C3.out _).mono ?_); rintro e w3 ⟨rfl, hb3⟩)
       go_meet
       exact ⟨by simp, below_of_new HB2.out hb3⟩
      ·have e1 : (bs wh).toList = wh := by rw [Lib.toList_data, bs_data]
       have e2 : (wh == [48]) = false := beq_eq_false_iff_ne.2 hz
       cases hh : wh.head? == some 48
       all_goals
        have HH := Lib.hid hh
        rw [hh] at hT2
        clear hh
        go_wp2_with (go_at_call 182; (with_reducible refine (C3.out _).mono ?_); rintro e w3 ⟨rfl, hb3⟩)
        go_meet
        exact ⟨by rw [bne, HH.out, e2]; rfl, below_of_new HB2.out hb3⟩
  obtain ⟨rfl, HB⟩ := hcut
  go_upto_if 121 with fail
  go_cut [13] (fun s13 wx => s13 = .string (bs rs) ∧ Hid (Below w.heap.size w wx))
  case first =>
   have hr := HR2.out
   have hr2 := HRs2.out
   by_cases hk : K2 < m.length
   ·rw [decide_eq_true hk, if_pos rfl] at hr hr2
    have h3 := hr2.symm.trans hr
    have H3 := Lib.hid h3; clear hr hr2 h3
    have hT : ((K2 : Int) == (m.length : Int)) = false := beq_eq_false_iff_ne.2 (by omega)
    go_wp2_with fail
    go_meet
    exact ⟨by rw [H3.out], HB.out⟩
   ·rw [decide_eq_false hk, if_neg (by simp)] at hr hr2
    subst hr hr2
    have hk2 : K2 = m.length := by omega
    subst hk2
    go_wp2_with fail
    go_meet
    exact ⟨rfl, HB.out⟩
  obtain ⟨rfl, HB2⟩ := hcut
  go_wp2_with fail
  refine bodyPost_ret (v := .tuple #[.bool ng, .string (bs wh), .string (bs rs), .bool mn, .string (bs X), .bool (D1 && D2 && D3 && (wh == [48] || wh.head? != some 48))]) ?_ rfl ⟨?_, HB2.out⟩
  ·simp [results, Tryz.results127, go_sem]
  ·rw [← HR.out]
   unfold partsV
   simp only [HU.out, HMm.out, HNg.out, HX.out, HM.out, HWh.out, HRr.out, HRs.out, HD1.out, HD2.out, HD3.out]
theorem parse_parts (l : List UInt8) : ∃ ng wh rs mn x ok, partsV l = .tuple #[.bool ng, .string (bs wh), .string (bs rs), .bool mn, .string (bs x), .bool ok] ∧
  (ok = false → parseL l = (nought, 2)) ∧
  (ok = true → allDig wh = true ∧ rs.all isDig = true ∧ x.all isDig = true ∧ x ≠ [] ∧ wh.length + rs.length ≤ l.length ∧ x.length ≤ l.length + 1 ∧ parseL l = parseLit ⟨ng, wh, rs, mn, x⟩) := by
 have hu := unsign_len l
 have hl := cutAt_len2 isE (unsign l)
 have hl2 := cutAt_len2 isDot (cutAt isE (unsign l)).1
 obtain ⟨c, hc⟩ : ∃ c, cutAt isE (unsign l) = c := ⟨_, rfl⟩
 rw [hc] at hl hl2
 obtain ⟨m, y, has⟩ := c
 simp only [] at hl hl2
 obtain ⟨d, hd⟩ : ∃ d, cutAt isDot m = d := ⟨_, rfl⟩
 rw [hd] at hl2
 obtain ⟨wh, rs, pt⟩ := d
 simp only [] at hl2
 have hrs : pt = false → rs = [] := fun h => (cutAt_no (h ▸ hd)).2
 have a48 : allDig [48] = true := rfl
 have hP : partsV l = .tuple #[.bool (l.head? == some 45), .string (bs wh), .string (bs (if pt then rs else [])), .bool (has && y.head? == some 45), .string (bs (if has then unplus y else [48])), .bool (allDig wh && allDig (if pt then rs else [48]) && allDig (if has then unplus y else [48]) && (wh == [48] || wh.head? != some 48))] := by
  unfold partsV; simp only [hc, hd]
 have hL : litOf l = if litOk has pt (if has then unplus y else []) wh rs then some ⟨l.head? == some 45, wh, rs, has && y.head? == some 45, if has then unplus y else []⟩ else none := by
  unfold litOf; simp only [hc, hd]
 have hOk : litOk has pt (if has then unplus y else []) wh rs = (allDig wh && allDig (if pt then rs else [48]) && allDig (if has then unplus y else [48]) && (wh == [48] || wh.head? != some 48)) := by
  unfold litOk
  cases has <;> cases pt <;> simp only [if_true, if_false, Bool.false_eq_true, a48, Bool.not_true, Bool.not_false, Bool.true_or, Bool.false_or, Bool.true_and, Bool.and_true]
  ·rw [Bool.and_comm (allDig (unplus y))]
  ·rw [Bool.and_comm (allDig (unplus y))]
 refine ⟨_, _, _, _, _, _, hP, ?_, ?_⟩
 ·intro hok
  unfold parseL
  rw [hL, hOk, hok, if_neg (by simp)]
 ·intro hok
  have hlit := hL
  rw [hOk, hok, if_pos rfl] at hlit
  simp only [Bool.and_eq_true] at hok
  obtain ⟨⟨⟨h1, h2⟩, h3⟩, h4⟩ := hok
  refine ⟨h1, ?_, (allDig_ne h3).2, (allDig_ne h3).1, ?_, ?_, ?_⟩
  ·cases pt
   ·rfl
   ·exact (allDig_ne h2).2
  ·cases pt <;> simp <;> omega
  ·cases has
   ·simp
   ·have : (unplus y).length ≤ y.length := by unfold unplus; split <;> simp
    rw [if_pos rfl]; omega
  ·unfold parseL
   rw [hlit]
   have e1 : noZeros [48] = [] := rfl
   have e2 : noZeros ([] : List UInt8) = [] := rfl
   have e3 : decV [48] = 0 := rfl
   have e4 : decV [] = 0 := rfl
   cases has <;> cases pt <;> simp only [if_true, if_false, Bool.false_eq_true, parseLit, e1, e2, e3, e4, hrs, Bool.false_and]
def strip1 : List UInt8 → List UInt8
 | [] => []
 | [c] => [c]
 | c :: d :: t => if c = 48 then strip1 (d :: t) else c :: d :: t
theorem strip1_eq : ∀ x : List UInt8, x ≠ [] → strip1 x = if noZeros x = [] then (match x.getLast? with | some c => [c] | none => []) else noZeros x
 | [], h => absurd rfl h
 | [c], _ => by
  unfold strip1 noZeros
  by_cases h : c = 48
  ·subst h; rfl
  ·simp [List.dropWhile_cons, h]
 | c :: d :: t, _ => by
  unfold strip1
  by_cases h : c = 48
  ·rw [if_pos h, strip1_eq (d :: t) (by simp)]
   subst h
   have e : noZeros (48 :: d :: t) = noZeros (d :: t) := by unfold noZeros; rw [List.dropWhile_cons, if_pos (by decide)]
   rw [e]; rfl
  ·rw [if_neg h]
   have e : noZeros (c :: d :: t) = c :: d :: t := by unfold noZeros; rw [List.dropWhile_cons, if_neg (by simpa using h)]
   rw [e, if_neg (by simp)]
theorem noZeros_nil {x : List UInt8} (h : noZeros x = []) : ∀ c ∈ x, c = 48 := by
 induction x with
 | nil => intro c hc; cases hc
 | cons d t ih =>
  unfold noZeros at h
  rw [List.dropWhile_cons] at h
  by_cases hd : d = 48
  ·rw [if_pos (by simp [hd])] at h
   intro c hc
   rcases List.mem_cons.1 hc with rfl | hc
   ·exact hd
   ·exact ih h c hc
  ·rw [if_neg (by simpa using hd)] at h
   cases h
theorem strip1_facts (x : List UInt8) (h : x ≠ []) (hd : x.all isDig = true) : (9 < (strip1 x).length ↔ 9 < (noZeros x).length) ∧ decV (strip1 x) = decV x ∧ (strip1 x).all isDig = true := by
 rw [strip1_eq x h]
 by_cases hz : noZeros x = []
 ·rw [if_pos hz]
  have hl : x.getLast? = some 48 := by
   rw [List.getLast?_eq_some_getLast h, noZeros_nil hz _ (List.getLast_mem h)]
  rw [hl, hz]
  refine ⟨by simp, ?_, rfl⟩
  rw [← decV_noZeros x, hz]; rfl
 ·rw [if_neg hz]
  exact ⟨Iff.rfl, decV_noZeros x, noZeros_all hd⟩
def litRest (ng : Bool) (wh rs : List UInt8) (mn : Bool) (V : Int) : Num × Int :=
 if noZeros (wh ++ rs) = [] then (nought, 0) else
 if (if mn then -V else V) - rs.length + ((noZeros (wh ++ rs)).length - (noTail (noZeros (wh ++ rs))).length) < -1000000 ∨ 1000000 < (if mn then -V else V) - rs.length + ((noZeros (wh ++ rs)).length - (noTail (noZeros (wh ++ rs))).length) then (nought, 4) else
 (⟨ng, noTail (noZeros (wh ++ rs)), (if mn then -V else V) - rs.length + ((noZeros (wh ++ rs)).length - (noTail (noZeros (wh ++ rs))).length)⟩, 0)
theorem parseLit_rest (ng : Bool) (wh rs : List UInt8) (mn : Bool) (x : List UInt8) : parseLit ⟨ng, wh, rs, mn, x⟩ =
  if 1000 < wh.length + rs.length then (nought, 3) else if 9 < (noZeros x).length then (nought, 4) else litRest ng wh rs mn (decV x) := rfl
theorem last_is (l : List UInt8) (c : UInt8) (n : Int) (hn : n = c.toNat) (k : Nat) (hk : k = l.length - 1) (h : k < (bs l).size) : (((((bs l)[k]'h).toNat : Int)) == n) = (l.getLast? == some c) := by
 have hs := bs_size l
 subst hk
 have h1 := last_at (bs l) (by omega)
 rw [bs_data] at h1
 have e : (bs l)[(bs l).size - 1]'(by omega) = (bs l)[l.length - 1]'h := by simp only [hs]
 rw [e] at h1
 rw [byte_eq _ c n hn, h1]
 by_cases hc : (bs l)[l.length - 1]'h = c
 ·rw [hc]; simp
 ·rw [beq_eq_false_iff_ne.2 hc, beq_eq_false_iff_ne.2 (by simpa using hc)]
def strSize : Value → Nat
 | .string b => b.size
 | _ => 0
theorem bs_cut1 (c : UInt8) (t : List UInt8) (n : Nat) (h : n = (c :: t).length) : (bs (c :: t)).extract 1 n = bs t := by rw [bs_from _ _ _ h]; rfl
theorem bs_cutLast (t : List UInt8) (c : UInt8) (n : Nat) (h : n = t.length) : (bs (t ++ [c])).extract 0 n = bs t := by rw [bs_front, bs_data, h, List.take_left]
theorem noTail_snoc (t : List UInt8) : noTail (t ++ [48]) = noTail t := by unfold noTail; simp
theorem noTail_snoc_no (t : List UInt8) (c : UInt8) (h : c ≠ 48) : noTail (t ++ [c]) = t ++ [c] := by unfold noTail; simp [h]
theorem noZeros_cons (t : List UInt8) : noZeros (48 :: t) = noZeros t := by unfold noZeros; rw [List.dropWhile_cons, if_pos (by decide)]
theorem noZeros_cons_no (c : UInt8) (t : List UInt8) (h : c ≠ 48) : noZeros (c :: t) = c :: t := by unfold noZeros; rw [List.dropWhile_cons, if_neg (by simpa using h)]
set_option maxRecDepth 100000 in
set_option maxHeartbeats 4000000 in
theorem refParse_any (l : List UInt8) (w : World) (hs : l.length ≤ 4294967296) :
  Calls Tryz.prog 73 #[.string (bs l)] w fun e w' => e = Parsed (parseL l) ∧ Below w.heap.size w w' := by
 obtain ⟨R, hR⟩ : ∃ R, parseL l = R := ⟨_, rfl⟩
 rw [hR]
 obtain ⟨ng, wh, rs, mn, x, ok, hPV, h0, h1⟩ := parse_parts l
 have CP := Lib.hid (fun w => hPV ▸ parts_any l w hs)
 rw [hR] at h0 h1
 have H0 := Lib.hid h0; have H1 := Lib.hid h1; clear h0 h1 hPV hR
 go_enter Tryz.func73, Tryz.ntmps73
 go_wp2_with fail
 refine (CP.out _).mono ?_
 rintro e w1 ⟨rfl, hb1⟩
 have HB1 := Lib.hid (((Below.refl w.heap.size w).alloc (Nat.le_refl _) _).trans (hb1.mono (by simp)))
 have HK1 := Lib.hid ((hb1.block w.heap.size (by simp)).trans (heap_alloc_new w _))
 have hz1 : w.heap.size < w1.heap.size := cell_it HK1.out
 clear hb1
 obtain ⟨r0, r1, r2, g0, g1, g2⟩ := box3 HK1.out
 cases ok with
 | false =>
  have HR1 := Lib.hid (H0.out rfl)
  go_wp2_with fail
  have hf := box3 (box_set (box_set (box_set HK1.out 0 (.bool false)) 1 (.string ⟨#[]⟩)) 2 (.int .i64 0))
  clear r0 r1 r2 g0 g1 g2
  obtain ⟨r0, r1, r2, g0, g1, g2⟩ := hf
  refine bodyPost_ret (v := .tuple #[numV nought, .int .i64 2]) ?_ rfl ⟨by rw [HR1.out]; rfl, ?_⟩
  ·simp [results, Tryz.results73, go_sem, r0, r1, r2, numV, nought]; try rfl
  ·repeat (first | refine below_set ?_ (Nat.le_refl _) | refine Below.drew ?_)
   exact HB1.out
 | true =>
 obtain ⟨p1, p2, p3, p4, l1, l2, hR⟩ := H1.out rfl
 have sw := bs_size wh
 have sr := bs_size rs
 rw [parseLit_rest] at hR
 obtain ⟨q1, q2, q3⟩ := strip1_facts x p4 p3
 by_cases t1 : 1000 < wh.length + rs.length
 ·rw [if_pos t1] at hR
  have HR1 := Lib.hid hR; clear hR q1 q2 q3 p1 p2 p3
  go_wp2_with fail
  have hf := box3 (box_set (box_set (box_set HK1.out 0 (.bool false)) 1 (.string ⟨#[]⟩)) 2 (.int .i64 0))
  clear r0 r1 r2 g0 g1 g2
  obtain ⟨r0, r1, r2, g0, g1, g2⟩ := hf
  refine bodyPost_ret (v := .tuple #[numV nought, .int .i64 3]) ?_ rfl ⟨by rw [HR1.out]; rfl, ?_⟩
  ·simp [results, Tryz.results73, go_sem, r0, r1, r2, numV, nought]; try rfl
  ·repeat (first | refine below_set ?_ (Nat.le_refl _) | refine Below.drew ?_)
   exact HB1.out
 rw [if_neg t1] at hR
 have hR1 : (if 9 < (strip1 x).length then (nought, 4) else litRest ng wh rs mn (decV x)) = R := by
  by_cases hh : 9 < (strip1 x).length
  ·rw [if_pos hh]; rw [if_pos (q1.1 hh)] at hR; exact hR.symm
  ·rw [if_neg hh]; rw [if_neg (fun h => hh (q1.2 h))] at hR; exact hR.symm
 rw [← q2] at hR1
 clear hR q1 q2
 have HR2 := Lib.hid hR1; have HZ := Lib.hid q3; have HP1 := Lib.hid p1; have HP2 := Lib.hid p2; have HP4 := Lib.hid p4
 clear hR1 q3 p1 p2 p3 p4
 go_upto_block 0 with fail
 obtain ⟨Z, hZ⟩ : ∃ Z, strip1 x = Z := ⟨_, rfl⟩
 rw [hZ] at HR2 HZ
 have HZx := Lib.hid hZ; clear hZ
 go_cut [8] (fun s8 wx => s8 = .string (bs Z) ∧ w1 = wx)
 case first =>
  go_wp2_with fail
  go_loopw [8] (fun s8 wr => ∃ e, s8 = .string (bs e) ∧ Hid (strip1 e = Z ∧ e ≠ []) ∧ e.length ≤ l.length + 1 ∧ w1 = wr) (fun s8 _ => strSize s8)
  case atStart => exact ⟨x, rfl, ⟨HZx.out, HP4.out⟩, l2, rfl⟩
  case round =>
   obtain ⟨e, rfl, HE, hel, rfl⟩ := hrel
   have se := bs_size e
   match e, HE, hel, se with
   | [], HE, _, _ => exact absurd rfl HE.out.2
   | [c], HE, _, se =>
    have HF := Lib.hid HE.out.1.symm
    clear HE
    go_wp2_with fail
    go_meet
    exact ⟨by rw [HF.out]; rfl, rfl⟩
   | c :: d :: t, HE, hel, se =>
    have hpos : 0 < (bs (c :: d :: t)).size := by rw [se]; simp
    have hlong : 1 < (bs (c :: d :: t)).size := by rw [se]; simp
    have hT := head_is (c :: d :: t) 48 48 rfl hpos
    by_cases hc : c = 48
    ·have h2 := HE.out.1
     unfold strip1 at h2
     rw [if_pos hc] at h2
     have HE2 := Lib.hid (And.intro h2 (List.cons_ne_nil d t))
     rw [show ((c :: d :: t).head? == some 48) = true from by rw [hc]; rfl] at hT
     have HL := Lib.hid (bs_cut1 c (d :: t) _ se)
     have hel2 : (d :: t).length ≤ l.length + 1 := by simp at hel ⊢; omega
     have HM := Lib.hid (show strSize (.string (bs (d :: t))) < strSize (.string (bs (c :: d :: t))) from by unfold strSize; simp only [bs_size]; simp)
     clear h2 HE hc se hel
     go_wp2_with fail
     go_roundw
     case rel => exact ⟨d :: t, by rw [HL.out], HE2.out, hel2, trivial⟩
     case measure => rw [HL.out]; exact HM.out
    ·have h2 := HE.out.1
     unfold strip1 at h2
     rw [if_neg hc] at h2
     have HF := Lib.hid h2
     rw [show ((c :: d :: t).head? == some 48) = false from by simpa using hc] at hT
     clear h2 HE hc
     go_wp2_with fail
     go_meet
     exact ⟨by rw [← HF.out], rfl⟩
 obtain ⟨rfl, rfl⟩ := hcut
 have sz := bs_size Z
 by_cases t2 : 9 < Z.length
 ·have hR := HR2.out
  rw [if_pos t2] at hR
  have HR1 := Lib.hid hR; clear hR
  go_wp2_with fail
  have hf := box3 (box_set (box_set (box_set HK1.out 0 (.bool false)) 1 (.string ⟨#[]⟩)) 2 (.int .i64 0))
  clear r0 r1 r2 g0 g1 g2
  obtain ⟨r0, r1, r2, g0, g1, g2⟩ := hf
  refine bodyPost_ret (v := .tuple #[numV nought, .int .i64 4]) ?_ rfl ⟨by rw [← HR1.out]; rfl, ?_⟩
  ·simp [results, Tryz.results73, go_sem, r0, r1, r2, numV, nought]; try rfl
  ·repeat (first | refine below_set ?_ (Nat.le_refl _) | refine Below.drew ?_)
   exact HB1.out
 have hR := HR2.out
 rw [if_neg t2] at hR
 obtain ⟨S, hS⟩ : ∃ S, bs Z = S := ⟨_, rfl⟩
 have hZb : S.data.toList = Z := by rw [← hS, bs_data]
 rw [hS] at sz ⊢
 have hsz : S.size ≤ 9 := by omega
 have HZb := Lib.hid hZb; have HRr := Lib.hid hR
 clear hS hZb hR t2 sz
 have hDz : ∀ p (h : p < S.size), isDig (S[p]'h) = true := fun p h => by
  have h1 := HZ.out
  rw [← HZb.out, List.all_eq_true] at h1
  exact h1 _ (Array.getElem_mem_toList _)
 have hbd : ∀ p, 0 ≤ decV (S.data.toList.take p) ∧ decV (S.data.toList.take p) < 1000000000 := fun p => by
  have h1 : (S.data.toList.take p).all isDig = true := by
   have h2 := HZ.out
   rw [← HZb.out] at h2
   rw [List.all_eq_true] at h2 ⊢
   exact fun x hx => h2 x (List.take_subset _ _ hx)
  have h3 := decV_bd _ h1
  have h4 : (S.data.toList.take p).length ≤ 9 := by rw [List.length_take]; have : S.data.toList.length = S.size := rfl; omega
  have h5 : (10 : Int) ^ (S.data.toList.take p).length ≤ 10 ^ 9 := by exact_mod_cast Nat.pow_le_pow_right (n := 10) (by decide) h4
  omega
 have HDz := Lib.hid hDz; have HBd := Lib.hid hbd; clear hDz hbd
 obtain ⟨V, hV⟩ : ∃ V, decV Z = V := ⟨_, rfl⟩
 have hVb := HBd.out S.size
 have hall : S.data.toList.take S.size = Z := by rw [List.take_of_length_le (by have : S.data.toList.length = S.size := rfl; omega), HZb.out]
 rw [hall, hV] at hVb
 have HA := Lib.hid hall; have HV := Lib.hid hV; clear hall hV
 go_upto_block 2 with fail
 go_cut [10] (fun s10 wx => s10 = .int .i64 V ∧ w1 = wx)
 case first =>
  go_wp2_with fail
  go_loopw [10, 11] (fun s10 s11 wr => ∃ p : Nat, p ≤ S.size ∧ s11 = .int .i64 p ∧ s10 = .int .i64 (decV (S.data.toList.take p)) ∧ w1 = wr) (fun _ i _ => S.size - (RowKit.intOf i).toNat)
  case atStart => exact ⟨0, by omega, rfl, rfl, rfl⟩
  case round =>
   obtain ⟨p, hp, rfl, rfl, rfl⟩ := hrel
   by_cases hlt : p < S.size
   ·have hdg := HDz.out p hlt
    have hb := of_decide_eq_true hdg
    have hstep : decV (S.data.toList.take (p + 1)) = 10 * decV (S.data.toList.take p) + (((S[p]'hlt).toNat : Int) - 48) := by rw [take_next S p hlt, decV_snoc]
    have b1 := HBd.out p
    have b2 := HBd.out (p + 1)
    generalize decV (S.data.toList.take p) = U at *
    have HS := Lib.hid hstep
    rw [hstep] at b2
    clear hdg hstep
    go_wp2_with fail
    go_roundw
    case rel => exact ⟨p + 1, by omega, by go_num, by rw [HS.out], trivial⟩
    case measure => simp [RowKit.intOf]; omega
   ·obtain rfl : p = S.size := by omega
    have b1 := HBd.out S.size
    go_wp2_with fail
    go_meet
    exact ⟨by rw [HA.out, HV.out], rfl⟩
 obtain ⟨rfl, rfl⟩ := hcut
 obtain ⟨E, hE⟩ : ∃ E, (if mn then -V else V) = E := ⟨_, rfl⟩
 have hEb : -1000000000 ≤ E ∧ E ≤ 1000000000 := by rw [← hE]; split <;> omega
 have hR := HRr.out
 rw [HV.out] at hR
 unfold litRest at hR
 rw [hE] at hR
 have HE := Lib.hid hE; have HRs := Lib.hid hR; clear hE hR HRr
 go_upto_if 60 with fail
 go_cut [10] (fun s10 wx => s10 = .int .i64 E ∧ w1 = wx)
 case first =>
  have hE := HE.out
  cases mn
  all_goals
   first | rw [if_pos rfl] at hE | rw [if_neg (by simp)] at hE
   subst hE
   go_wp2_with fail
   go_meet
   exact ⟨rfl, rfl⟩
 obtain ⟨rfl, rfl⟩ := hcut
 have hrs : rs.length ≤ 1000 := by omega
 obtain ⟨E1, hE1⟩ : ∃ E1, E - (rs.length : Int) = E1 := ⟨_, rfl⟩
 have hE1b : -1000001000 ≤ E1 ∧ E1 ≤ 1000000000 := by omega
 have hR := HRs.out
 rw [hE1] at hR
 have HRt := Lib.hid hR; have HE1 := Lib.hid hE1; clear hR hE1 HRs
 go_upto_region 17 with fail
 go_cut [10] (fun s10 wx => s10 = .int .i64 E1 ∧ w1 = wx)
 case first =>
  go_wp2_with fail
  go_meet
  exact ⟨by rw [HE1.out], rfl⟩
 obtain ⟨rfl, rfl⟩ := hcut
 go_upto_region 18 with fail
 go_cut [12] (fun s12 wx => s12 = .string (bs (wh ++ rs)) ∧ w1 = wx)
 case first =>
  go_wp2_with fail
  go_meet
  exact ⟨by rw [bs_append], rfl⟩
 obtain ⟨rfl, rfl⟩ := hcut
 obtain ⟨y, hy⟩ : ∃ y, wh ++ rs = y := ⟨_, rfl⟩
 have hyl : y.length ≤ 1000 := by rw [← hy, List.length_append]; omega
 rw [hy]
 have hR := HRt.out
 rw [hy] at hR
 have sD0 := hyl
 obtain ⟨D, hD⟩ : ∃ D, noZeros y = D := ⟨_, rfl⟩
 rw [hD] at hR
 have hDh : D.head? ≠ some 48 := hD ▸ noZeros_head y
 have hDl : D.length ≤ 1000 := by
  have := (List.dropWhile_sublist (p := fun c : UInt8 => c == 48) (l := y)).length_le
  have h2 : (noZeros y).length ≤ y.length := this
  rw [hD] at h2; omega
 have HDh := Lib.hid hDh; have HD := Lib.hid hD; have HRu := Lib.hid hR; clear hR hD hDh hy HRt
 go_upto_block 4 with fail
 go_cut [12] (fun s12 wx => s12 = .string (bs D) ∧ w1 = wx)
 case first =>
  go_wp2_with fail
  go_loopw [12] (fun s12 wr => ∃ e, s12 = .string (bs e) ∧ Hid (noZeros e = D) ∧ e.length ≤ 1000 ∧ w1 = wr) (fun s _ => strSize s)
  case atStart => exact ⟨y, rfl, HD.out, hyl, rfl⟩
  case round =>
   obtain ⟨e, rfl, HE, hel, rfl⟩ := hrel
   have se := bs_size e
   match e, HE, hel, se with
   | [], HE, _, se =>
    have HF := Lib.hid (show [] = D from HE.out)
    clear HE
    go_wp2_with fail
    go_meet
    exact ⟨by rw [← HF.out], rfl⟩
   | c :: t, HE, hel, se =>
    have hpos : 0 < (bs (c :: t)).size := by rw [se]; simp
    have hT := head_is (c :: t) 48 48 rfl hpos
    by_cases hc : c = 48
    ·have h2 := HE.out
     rw [hc, noZeros_cons] at h2
     have HE2 := Lib.hid h2
     rw [show ((c :: t).head? == some 48) = true from by rw [hc]; rfl] at hT
     have HL := Lib.hid (bs_cut1 c t _ se)
     have hel2 : t.length ≤ 1000 := by simp at hel; omega
     have HM := Lib.hid (show strSize (.string (bs t)) < strSize (.string (bs (c :: t))) from by unfold strSize; simp only [bs_size]; simp)
     clear h2 HE hc se hel
     go_wp2_with fail
     go_roundw
     case rel => exact ⟨t, by rw [HL.out], HE2.out, hel2, trivial⟩
     case measure => rw [HL.out]; exact HM.out
    ·have h2 := HE.out
     rw [noZeros_cons_no c t hc] at h2
     have HF := Lib.hid h2
     rw [show ((c :: t).head? == some 48) = false from by simpa using hc] at hT
     clear h2 HE hc
     go_wp2_with fail
     go_meet
     exact ⟨by rw [← HF.out], rfl⟩
 obtain ⟨rfl, rfl⟩ := hcut
 have sD := bs_size D
 have hDt : (bs D).toList = D := by rw [Lib.toList_data, bs_data]
 by_cases hne : D = []
 ·have hR := HRu.out
  rw [if_pos hne] at hR
  have HR1 := Lib.hid hR; clear hR
  rw [hne] at hDt
  go_wp2_with fail
  have hf := box3 (box_set (box_set (box_set HK1.out 0 (.bool false)) 1 (.string ⟨#[]⟩)) 2 (.int .i64 0))
  clear r0 r1 r2 g0 g1 g2
  obtain ⟨r0, r1, r2, g0, g1, g2⟩ := hf
  refine bodyPost_ret (v := .tuple #[numV nought, .int .i64 0]) ?_ rfl ⟨by rw [← HR1.out]; rfl, ?_⟩
  ·simp [results, Tryz.results73, go_sem, r0, r1, r2, numV, nought]; try rfl
  ·repeat (first | refine below_set ?_ (Nat.le_refl _) | refine Below.drew ?_)
   exact HB1.out
 have hR := HRu.out
 rw [if_neg hne] at hR
 have hDn : ¬ (bs D).toList = [] := by rw [hDt]; exact hne
 have hDn2 : ((bs D).toList == []) = false := beq_eq_false_iff_ne.2 hDn
 have hDn3 : (bs D).toList.isEmpty = false := by rw [hDt]; cases D with | nil => exact absurd rfl hne | cons _ _ => rfl
 obtain ⟨T, hT⟩ : ∃ T, noTail D = T := ⟨_, rfl⟩
 have hTl : T.length ≤ D.length := by
  have := congrArg List.length (noTail_split D)
  rw [List.length_append, hT] at this; omega
 rw [hT] at hR
 have HT := Lib.hid hT; have HRv := Lib.hid hR; have HNe := Lib.hid hne; clear hT hR hne hDt HRu
 go_upto_block 6 with fail
 go_cut [12, 10] (fun s12 s10 wx => s12 = .string (bs T) ∧ s10 = .int .i64 (E1 + ((D.length : Int) - (T.length : Int))) ∧ w1 = wx)
 case first =>
  go_wp2_with fail
  go_loopw [12, 10] (fun s12 s10 wr => ∃ e : List UInt8, s12 = .string (bs e) ∧ s10 = .int .i64 (E1 + ((D.length : Int) - (e.length : Int))) ∧ Hid (noTail e = T ∧ e ≠ [] ∧ e.head? ≠ some 48) ∧ e.length ≤ D.length ∧ w1 = wr) (fun s _ _ => strSize s)
  case atStart => exact ⟨D, rfl, by rw [Int.sub_self, Int.add_zero], ⟨HT.out, HNe.out, HDh.out⟩, Nat.le_refl _, rfl⟩
  case round =>
   obtain ⟨e, rfl, rfl, HE, hel, rfl⟩ := hrel
   have se := bs_size e
   obtain ⟨a, c, hac⟩ : ∃ a c, e = a ++ [c] := ⟨e.dropLast, e.getLast HE.out.2.1, (List.dropLast_concat_getLast HE.out.2.1).symm⟩
   have hal : e.length = a.length + 1 := by rw [hac]; simp
   have hidx : (bs e).size - 1 < (bs e).size := by omega
   have hpos : 0 < (bs e).size := by omega
   have hidx2 : e.length - 1 < (bs e).size := by omega
   have hT := last_is e 48 48 rfl (e.length - 1) rfl hidx2
   have hel1 : 1 ≤ e.length := by omega
   by_cases hc : c = 48
   ·rw [show (e.getLast? == some 48) = true from by rw [hac, List.getLast?_concat, hc]; rfl] at hT
    have hane : a ≠ [] := by
     intro h; subst h
     have := HE.out.2.2; rw [hac, hc] at this; exact this rfl
    have hah : a.head? ≠ some 48 := by
     have := HE.out.2.2; rw [hac] at this
     cases a with
     | nil => exact absurd rfl hane
     | cons z zs => simpa using this
    have HE2 := Lib.hid (show noTail a = T ∧ a ≠ [] ∧ a.head? ≠ some 48 from ⟨by have := HE.out.1; rw [hac, hc, noTail_snoc] at this; exact this, hane, hah⟩)
    have HL := Lib.hid (show (bs e).extract 0 (e.length - 1) = bs a from by rw [hac]; exact bs_cutLast a c _ (by simp))
    have hal2 : a.length ≤ D.length := by omega
    have HM := Lib.hid (show strSize (.string (bs a)) < strSize (.string (bs e)) from by unfold strSize; simp only [bs_size]; omega)
    have HN := Lib.hid (show E1 + ((D.length : Int) - (e.length : Int)) + 1 = E1 + ((D.length : Int) - (a.length : Int)) from by omega)
    clear hc hane hah hac HE hal
    go_wp2_with fail
    go_roundw
    case rel => exact ⟨a, by rw [HL.out], by rw [HN.out], HE2.out, hal2, trivial⟩
    case measure => rw [HL.out]; exact HM.out
   ·rw [show (e.getLast? == some 48) = false from by rw [hac, List.getLast?_concat]; simpa using hc] at hT
    have HF := Lib.hid (show e = T from by have := HE.out.1; rw [hac, noTail_snoc_no a c hc] at this; rw [hac]; exact this)
    clear hac HE hc hal
    go_wp2_with fail
    go_meet
    exact ⟨by rw [← HF.out], by rw [← HF.out], rfl⟩
 obtain ⟨rfl, rfl, rfl⟩ := hcut
 obtain ⟨K, hK⟩ : ∃ K, E1 + ((D.length : Int) - (T.length : Int)) = K := ⟨_, rfl⟩
 have hKb : -1000001000 ≤ K ∧ K ≤ 1000001000 := by omega
 have h0 := HRv.out
 rw [hK] at h0 ⊢
 clear hK HRv
 by_cases hk : K < -1000000 ∨ 1000000 < K
 ·rw [if_pos hk] at h0
  have HR1 := Lib.hid h0; clear h0
  rcases hk with hk | hk
  all_goals
   go_wp2_with fail
   have hf := box3 (box_set (box_set (box_set HK1.out 0 (.bool false)) 1 (.string ⟨#[]⟩)) 2 (.int .i64 0))
   clear r0 r1 r2 g0 g1 g2
   obtain ⟨r0, r1, r2, g0, g1, g2⟩ := hf
   refine bodyPost_ret (v := .tuple #[numV nought, .int .i64 4]) ?_ rfl ⟨by rw [← HR1.out]; rfl, ?_⟩
   ·simp [results, Tryz.results73, go_sem, r0, r1, r2, numV, nought]; try rfl
   ·repeat (first | refine below_set ?_ (Nat.le_refl _) | refine Below.drew ?_)
    exact HB1.out
 ·rw [if_neg hk] at h0
  have HR1 := Lib.hid h0; clear h0
  have hk1 : -1000000 ≤ K := by omega
  have hk2 : K ≤ 1000000 := by omega
  clear hk
  go_wp2_with fail
  have hf := box3 (box_set (box_set (box_set HK1.out 0 (.bool ng)) 1 (.string (bs T))) 2 (.int .i64 K))
  clear r0 r1 r2 g0 g1 g2
  obtain ⟨r0, r1, r2, g0, g1, g2⟩ := hf
  refine bodyPost_ret (v := .tuple #[numV ⟨ng, T, K⟩, .int .i64 0]) ?_ rfl ⟨by rw [← HR1.out]; rfl, ?_⟩
  ·simp [results, Tryz.results73, go_sem, r0, r1, r2, numV, nought]; try rfl
  ·repeat (first | refine below_set ?_ (Nat.le_refl _) | refine Below.drew ?_)
   exact HB1.out
end Go.Proofs.YtbldfpkfinpciaaGreatDoor

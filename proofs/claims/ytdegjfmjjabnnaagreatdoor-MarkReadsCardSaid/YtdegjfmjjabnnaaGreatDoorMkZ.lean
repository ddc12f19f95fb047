import Derived.Test.YtdegjfmjjabnnaaGreatDoorMkY
/-! The walk of scarflaw25.small. -/
namespace Go.Proofs.YtdegjfmjjabnnaaGreatDoor
set_option linter.unusedSimpArgs false
set_option linter.unusedVariables false
open Go.RowKit
open Go.Lib hiding intOf

theorem PV.new (w : World) (l : List Part) (cs : Array Value) (hcs : cs.toList = partCells l) : PV (w.alloc (.cells cs 30)) (.slice (some ⟨w.heap.size, 0, none⟩) l.length l.length) l := by
  refine ⟨_, _, rfl, .inr ⟨w.heap.size, 0, rfl, by simp, fun j x hx => ?_⟩⟩
  have hc : ∀ k, (w.alloc (.cells cs 30)).cell? ⟨w.heap.size, k, none⟩ = (partCells l)[k]? := fun k => by rw [World.cell?_alloc_new, ← hcs, Array.getElem?_toList]
  obtain ⟨a, b, c, d, e⟩ := partCells_at l j x hx
  unfold PCells
  rw [Nat.zero_add]
  exact ⟨by rw [hc, a], by rw [hc, b], by rw [hc, c], by rw [hc, d], by rw [hc, e]⟩
theorem IV.new (w : World) (l : List Int) (cs : Array Value) (hcs : cs.toList = l.map (Value.int .i64)) : IV (w.alloc (.cells cs 3)) (.slice (some ⟨w.heap.size, 0, none⟩) l.length l.length) l := by
  refine ⟨_, _, rfl, Nat.le_refl _, .inr ⟨w.heap.size, 0, rfl, by simp, fun j k hk => ?_⟩⟩
  rw [Nat.zero_add, World.cell?_alloc_new, ← Array.getElem?_toList, hcs, List.getElem?_map, hk]
  rfl
def smL : List Part := [textP [97], ⟨true, [], [49], [50], [51]⟩, textP [98]]
def smS : List UInt8 := [35, 109, 97, 114, 107, 115, 32, 55, 10, 97, 10, 60, 60, 60, 60, 60, 60, 60, 10, 50, 10, 124, 124, 124, 124, 124, 124, 124, 10, 49, 10, 61, 61, 61, 61, 61, 61, 61, 10, 51, 10, 62, 62, 62, 62, 62, 62, 62, 10, 98]
def smX : List Part := [textP [120, 10, 61, 61, 61, 61, 61, 61, 61, 61]]
theorem sm1 : widthM smL = 7 := by decide
theorem sm2 : widthM smX = 9 := by decide
theorem sm0 : Go.Lib.itoa ((7 : Nat) : Int) = [55] := by
  rw [Go.Lib.itoa_nonneg, Go.Lib.decDigits]
  rfl
theorem sm3 : encM smL = (smS, 0) := by
  unfold encM
  rw [sm1, headM, sm0]
  decide
theorem sm4 : pickM smL [2] = ([97, 51, 98], 0) := by decide
theorem sm5 : decP smS = some smL := (decP_good smS smL (by decide)).2 ⟨sm3, by decide⟩
theorem sm6 : (bodyM (widthM smL) smL).length ≤ 1099511627776 := by rw [sm1]; decide
theorem sm7 : Sz smL := by unfold Sz smL textP; simp
theorem sm8 : Sz smX := by unfold Sz smX textP; simp
set_option maxRecDepth 100000 in
set_option maxHeartbeats 8000000 in
theorem small_any (w : World) (hV : MkV w) : Calls Tryz.prog 4 #[] w fun e w' => e = .returned (.bool true) ∧ Below w.heap.size w w' := by
  have HV := Lib.hid hV
  have CE : Hid (∀ v w, PV w v smL → PTab w → Calls Tryz.prog 8 #[v] w fun e w' => e = .returned (.tuple #[.string (bs smS), .int .i64 0]) ∧ Below w.heap.size w w') := Lib.hid (fun v w hv hT => by
    have := encode_any v smL w hv sm7 hT sm6
    rw [sm3] at this
    exact this)
  have CD : Hid (∀ w, MkV w → Calls Tryz.prog 5 #[.string (bs smS)] w fun e w' => (∃ v, e = .returned (.tuple #[v, .bool true]) ∧ PV w' v smL) ∧ Below w.heap.size w w') := Lib.hid (fun w hV =>
    (decode_any smS w (by decide) hV).mono fun e w' ⟨h, hb⟩ => And.intro (by
      rcases h with ⟨l, v, h1, h2, h3⟩ | ⟨h1, _⟩
      · rw [sm5] at h1
        cases h1
        exact ⟨v, h2, h3⟩
      · rw [sm5] at h1
        cases h1) hb)
  have CP : Hid (∀ v pv w, PV w v smL → IV w pv [2] → Calls Tryz.prog 9 #[v, pv] w fun e w' => e = .returned (.tuple #[.string (bs [97, 51, 98]), .int .i64 0]) ∧ Below w.heap.size w w') := Lib.hid (fun v pv w hv hp => by
    have := pick_any v pv smL [2] w hv hp (by decide) (by decide) (by decide)
    rw [sm4] at this
    exact this)
  have CS : Hid (∀ v u w, PV w v smL → PV w u smL → Calls Tryz.prog 7 #[v, u] w fun e w' => e = .returned (.bool true) ∧ Below w.heap.size w w') := Lib.hid (fun v u w h1 h2 => rSame_yes v u smL w h1 h2 (by decide))
  have CX : Hid (∀ v w, PV w v smX → Calls Tryz.prog 10 #[v] w fun e w' => e = .returned (.int .i64 9) ∧ Below w.heap.size w w') := Lib.hid (fun v w hv => by
    have := width_any v smX w hv sm8
    rw [sm2] at this
    exact this)
  have H0 : Hid (PV (w.alloc (.cells #[.bool false, .string ⟨#[97]⟩, .string ⟨#[]⟩, .string ⟨#[]⟩, .string ⟨#[]⟩, .bool true, .string ⟨#[]⟩, .string ⟨#[49]⟩, .string ⟨#[50]⟩, .string ⟨#[51]⟩, .bool false, .string ⟨#[98]⟩, .string ⟨#[]⟩, .string ⟨#[]⟩, .string ⟨#[]⟩] 30)) (.slice (some ⟨w.heap.size, 0, none⟩) 3 3) smL) := Lib.hid (PV.new w smL _ rfl)
  go_enter Tryz.func4, Tryz.ntmps4
  go_upto_region 2 with fail
  obtain ⟨W0, hW0⟩ : ∃ W, w.alloc (.cells #[.bool false, .string ⟨#[97]⟩, .string ⟨#[]⟩, .string ⟨#[]⟩, .string ⟨#[]⟩, .bool true, .string ⟨#[]⟩, .string ⟨#[49]⟩, .string ⟨#[50]⟩, .string ⟨#[51]⟩, .bool false, .string ⟨#[98]⟩, .string ⟨#[]⟩, .string ⟨#[]⟩, .string ⟨#[]⟩] 30) = W := ⟨_, rfl⟩
  have HB0 : Hid (Below w.heap.size w W0) := Lib.hid (by rw [← hW0]; exact below_alloc1 w _)
  rw [hW0] at H0 ⊢
  obtain ⟨M, hM⟩ : ∃ M, w.heap.size = M := ⟨_, rfl⟩
  rw [hM] at H0 ⊢
  clear hW0
  go_wp2_with (go_at_call 8; (with_reducible refine (CE.out _ _ H0.out (HV.out.keep HB0.out).p).mono ?_); rintro e w1 ⟨rfl, hb⟩; have HB1 := Lib.hid (below_of_new HB0.out hb); have H1 := Lib.hid (H0.out.keep hb); clear hb)
  go_wp2_with (go_at_call 5; (with_reducible refine (CD.out _ (HV.out.keep HB1.out)).mono ?_); rintro e w2 ⟨⟨v, rfl, hv⟩, hb⟩; have HB2 := Lib.hid (below_of_new HB1.out hb); have H2 := Lib.hid (And.intro (H1.out.keep hb) hv); clear hb hv)
  have hb3 := below_alloc1 w2 (.cells #[.int .i64 2] 3)
  have hi3 : IV (w2.alloc (.cells #[.int .i64 2] 3)) (.slice (some ⟨w2.heap.size, 0, none⟩) 1 1) [2] := IV.new w2 [2] #[.int .i64 2] rfl
  obtain ⟨w3, hw3⟩ : ∃ W, w2.alloc (.cells #[.int .i64 2] 3) = W := ⟨_, rfl⟩
  rw [hw3] at hb3 hi3 ⊢
  obtain ⟨M2, hM2⟩ : ∃ M, w2.heap.size = M := ⟨_, rfl⟩
  rw [hM2] at hi3
  rw [hM2]
  have HB3 := Lib.hid (below_of_new HB2.out hb3)
  have H3 := Lib.hid (And.intro (H2.out.1.keep hb3) (H2.out.2.keep hb3))
  have HI3 := Lib.hid hi3
  clear hb3 hi3 hw3 hM2
  with_reducible refine (CP.out _ _ _ H3.out.1 HI3.out).mono ?_
  rintro e w4 ⟨rfl, hb⟩
  have HB4 := Lib.hid (below_of_new HB3.out hb)
  have H4 := Lib.hid (And.intro (H3.out.1.keep hb) (H3.out.2.keep hb))
  clear hb
  have hq1 : ((bs smS).toList == [35, 109, 97, 114, 107, 115, 32, 55, 10, 97, 10, 60, 60, 60, 60, 60, 60, 60, 10, 50, 10, 124, 124, 124, 124, 124, 124, 124, 10, 49, 10, 61, 61, 61, 61, 61, 61, 61, 10, 51, 10, 62, 62, 62, 62, 62, 62, 62, 10, 98]) = true := by rw [Lib.toList_data, bs_data]; decide
  have hq2 : ((bs [97, 51, 98]).toList == [97, 51, 98]) = true := by rw [Lib.toList_data, bs_data]; decide
  go_wp2_with (go_at_call 7; (with_reducible refine (CS.out _ _ _ H4.out.1 H4.out.2).mono ?_); rintro e w5 ⟨rfl, hb⟩; have HB5 := Lib.hid (below_of_new HB4.out hb); clear hb)
  have hb6 := below_alloc1 w5 (.cells #[.bool false, .string ⟨#[120, 10, 61, 61, 61, 61, 61, 61, 61, 61]⟩, .string ⟨#[]⟩, .string ⟨#[]⟩, .string ⟨#[]⟩] 30)
  have hx6 : PV (w5.alloc (.cells #[.bool false, .string ⟨#[120, 10, 61, 61, 61, 61, 61, 61, 61, 61]⟩, .string ⟨#[]⟩, .string ⟨#[]⟩, .string ⟨#[]⟩] 30)) (.slice (some ⟨w5.heap.size, 0, none⟩) 1 1) smX := PV.new w5 smX _ rfl
  obtain ⟨w6, hw6⟩ : ∃ W, w5.alloc (.cells #[.bool false, .string ⟨#[120, 10, 61, 61, 61, 61, 61, 61, 61, 61]⟩, .string ⟨#[]⟩, .string ⟨#[]⟩, .string ⟨#[]⟩] 30) = W := ⟨_, rfl⟩
  rw [hw6] at hb6 hx6 ⊢
  have HB6 := Lib.hid (below_of_new HB5.out hb6)
  clear hb6 hw6
  with_reducible refine (CX.out _ _ hx6).mono ?_
  rintro e w7 ⟨rfl, hb⟩
  have HB7 := Lib.hid (below_of_new HB6.out hb)
  clear hb hx6
  go_wp2_with fail
  go_ret
  exact ⟨rfl, HB7.out⟩
end Go.Proofs.YtdegjfmjjabnnaaGreatDoor

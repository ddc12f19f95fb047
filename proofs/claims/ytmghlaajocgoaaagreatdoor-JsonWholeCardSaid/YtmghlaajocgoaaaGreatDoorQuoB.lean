import Derived.Test.YtmghlaajocgoaaaGreatDoorQuoA
import Derived.Test.YtmghlaajocgoaaaGreatDoorShelfC
import Derived.Test.YtmghlaajocgoaaaGreatDoorRnT
import Derived.Test.YtmghlaajocgoaaaGreatDoorEnc
import Derived.Lib.QuoteLoop
import Derived.Deep.CutBlock
import Derived.WalkMore
/-! The walks of strings.IndexRune, IndexAny, ContainsAny at three signs, of strconv.ParseUint, and of quote.four. -/
namespace Go.Proofs.YtmghlaajocgoaaaGreatDoor
set_option linter.unusedSimpArgs false
set_option linter.unusedVariables false
open Go.RowKit
open Go.Lib hiding intOf

theorem quiet_add_left {P : Program} {f : FuncId} {args : Array Value} {w : World} {a n : Nat} {v : Value}
    (h : Calls P f args (w.drewN (a + n)) fun e w' => e = .returned v ∧ w.drewN (a + n) = w') :
    Calls P f args (w.drewN (a + n)) fun e w'' => e = .returned v ∧ ∃ m, w'' = w.drewN (a + m) :=
  h.mono fun _ _ ⟨he, hm⟩ => ⟨he, n, hm.symm⟩
theorem quiet_left {P : Program} {f : FuncId} {args : Array Value} {w : World} {n : Nat} {v : Value}
    (h : Calls P f args (w.drewN n) fun e w' => e = .returned v ∧ w.drewN n = w') : Calls P f args (w.drewN n) fun e w'' => e = .returned v ∧ ∃ m, w'' = w.drewN m :=
  h.mono fun _ _ ⟨he, hm⟩ => ⟨he, n, hm.symm⟩
theorem validRune_yes (r : Int) (w : World) (h1 : 128 ≤ r) (h2 : r ≤ 1114111) (h3 : r < 55296 ∨ 57343 < r) :
    Calls Tryz.prog 109 #[.int .i32 r] w fun e w' => e = .returned (.bool true) ∧ w = w' := by
  rcases h3 with h3 | h3
  all_goals
    go_enter Tryz.func109, Tryz.ntmps109
    go_wp2_with fail
    go_ret
    exact ⟨rfl, rfl⟩
theorem indexByte_none : ∀ (l : List UInt8) (b : UInt8), (∀ c ∈ l, c ≠ b) → Lib.indexByte l b = -1
  | [], b, _ => rfl
  | c :: t, b, h => by
    have h1 : (c == b) = false := beq_eq_false_iff_ne.2 (h c (by simp))
    have h2 := indexByte_none t b (fun x hx => h x (by simp [hx]))
    unfold Lib.indexByte
    simp [h1, h2]
theorem index_not (A : ByteArray) (b : UInt8) (hb : 128 ≤ b.toNat) (hA : A.data.toList.all (fun c => decide (c.toNat < 128)) = true) (w : World) :
    Calls Tryz.prog 54 #[.string A, .int .u8 (b.toNat : Int)] w fun e w' => e = .returned (.int .i64 (-1)) ∧ w = w' := by
  have h := index_in A b w
  rw [indexByte_none] at h
  · exact h
  · intro c hc e
    have := of_decide_eq_true (List.all_eq_true.1 hA c hc)
    rw [e] at this; omega
theorem index_none (A : ByteArray) (i k : Nat) (b : UInt8) (hb : 128 ≤ b.toNat) (hA : A.data.toList.all (fun c => decide (c.toNat < 128)) = true := by decide) (w : World) :
    Calls Tryz.prog 54 #[.string (A.extract i k), .int .u8 (b.toNat : Int)] w fun e w' => e = .returned (.int .i64 (-1)) ∧ w = w' := by
  have h := index_in (A.extract i k) b w
  rw [indexByte_none] at h
  · exact h
  · intro c hc e
    rw [bs_extract, bs_data] at hc
    have hm : c ∈ A.data.toList := List.mem_of_mem_drop (List.mem_of_mem_take hc)
    have := of_decide_eq_true (List.all_eq_true.1 hA c hm)
    rw [e] at this; omega
set_option maxHeartbeats 4000000 in
set_option maxRecDepth 100000 in
theorem indexRune_bad (S : ByteArray) (w : World) (hS : S.data.toList.all (fun c => decide (c.toNat < 128)) = true) (hsz : S.size ≤ 4294967296) :
    Calls Tryz.prog 105 #[.string S, .int .i32 65533] w fun e w' => e = .returned (.int .i64 (-1)) ∧ Below w.heap.size w w' := by
  have hall : ∀ p (h : p < S.size), (S[p]'h).toNat < 128 := fun p h => of_decide_eq_true (List.all_eq_true.1 hS _ (Array.getElem_mem_toList _))
  have HA := Lib.hid hall; clear hall hS
  go_enter Tryz.func105, Tryz.ntmps105
  go_wp2_with fail
  go_loopw [5, 6] (fun _ _ wr => ∃ p : Nat, p ≤ S.size ∧ Hid (wr.heap[w.heap.size]? = some (.stringIter S p)) ∧ Hid (Below w.heap.size w wr)) (fun _ _ wr => S.size - wr.iterPos w.heap.size)
  case atStart => exact ⟨0, by omega, World.iter_heap w S 0, (Below.refl _ _).alloc (Nat.le_refl _) _⟩
  case round =>
    obtain ⟨p, hp, HI, HW⟩ := hrel
    by_cases hlt : p < S.size
    · have hb := HA.out p hlt
      have hd := decode_ascii S p hlt hb
      have e1 : runeI S p = ((S[p]'hlt).toNat : Int) := by unfold runeI; rw [hd]
      have e2 : widN S p = 1 := by unfold widN; rw [hd]
      have hnx : ∀ ty, (Instr.next (.pointer (some ⟨w.heap.size, 0, none⟩)) true ty).run Tryz.prog wr = .ok (.tuple #[.bool true, .int .i64 p, .int .i32 ((S[p]'hlt).toNat : Int)]) (wr.iterAt w.heap.size S (p + 1)) := fun ty => by
        have := Lib.run_next_any_at (P := Tryz.prog) wr w.heap.size S p ty HI.out hlt
        have h3 := e1; have h4 := e2
        unfold runeI at h3; unfold widN at h4
        rw [h3, h4] at this; exact this
      have HI2 := Lib.hid (Lib.iterAt_heap wr w.heap.size S p (p + 1) HI.out)
      have HW2 := Lib.hid (Lib.below_iterAt HW.out (Nat.le_refl w.heap.size) S (p + 1))
      have HM := Lib.hid (iterPos_of HI.out)
      have t1 : (((S[p]'hlt).toNat : Int) == 65533) = false := beq_eq_false_iff_ne.2 (by omega)
      clear e1 e2 hd
      go_wp2_with fail
      go_roundw
      case rel => exact ⟨p + 1, by omega, HI2.out, HW2.out⟩
      case measure => rw [iterPos_of HI2.out, HM.out]; omega
    · have hnx : ∀ ty, (Instr.next (.pointer (some ⟨w.heap.size, 0, none⟩)) true ty).run Tryz.prog wr = .ok (.tuple #[.bool false]) wr := fun ty => Lib.run_next_end_at wr _ S p ty HI.out hlt
      go_wp2_with fail
      go_ret
      exact ⟨rfl, HW.out⟩
set_option maxHeartbeats 4000000 in
set_option maxRecDepth 100000 in
theorem indexRune_far (r : Int) (w : World) (h1 : 128 ≤ r) (h2 : r ≤ 1114111) (h3 : r < 55296 ∨ 57343 < r) :
    Calls Tryz.prog 105 #[.string ⟨#[43, 45, 95]⟩, .int .i32 r] w fun e w' => e = .returned (.int .i64 (-1)) ∧ Below w.heap.size w w' := by
  by_cases h4 : r = 65533
  · subst h4; exact indexRune_bad _ w (by decide) (by decide)
  · have h5 : (r == 65533) = false := beq_eq_false_iff_ne.2 h4
    go_enter Tryz.func105, Tryz.ntmps105
    go_wp2_with fail
    refine (validRune_yes r _ h1 h2 h3).mono ?_
    rintro e w' ⟨rfl, rfl⟩
    go_wp2_with fail
    go_step3
    obtain ⟨n, hn, hsz, hlast⟩ := enc_far r h1 h2 h3
    obtain ⟨E, hE⟩ : ∃ E, Utf8.encode r = E := ⟨_, rfl⟩
    rw [hE] at hsz hlast
    have HE := Lib.hid hE; clear hE
    go_upto_region 1 with fail
    go_cut [7] (fun s7 wx => s7 = .string E ∧ w = wx)
    case first =>
      go_wp2_with fail
      go_meet
      exact ⟨by rw [HE.out], rfl⟩
    obtain ⟨rfl, rfl⟩ := hcut
    clear HE h3 h4 h5
    obtain rfl | rfl | rfl : n = 2 ∨ n = 3 ∨ n = 4 := by omega
    · have h1' : 1 < E.size := by omega
      have hb := hlast (by omega)
      simp only [Nat.reduceSub] at hb
      have t1 : ((((⟨#[43, 45, 95]⟩ : ByteArray)[1]'(by decide)).toNat : Int) != ((E[1]'h1').toNat : Int)) = true := bne_iff_ne.2 (by show ((45 : Nat) : Int) ≠ _; omega)
      have CI := Lib.hid (index_none (⟨#[43, 45, 95]⟩ : ByteArray) 2 3 (E[1]'h1') (by omega))
      have hs3 : (⟨#[43, 45, 95]⟩ : ByteArray).size = 3 := rfl
      clear hlast hn
      go_wp2_with fail
      go_loopw [9] (fun s9 wr => s9 = .int .i64 1 ∧ w = wr) (fun _ _ => 0)
      case atStart => exact ⟨rfl, rfl⟩
      case round =>
        obtain ⟨rfl, rfl⟩ := hrel
        go_wp2_with fail
        go_step3
        go_wp2_with fail
        go_quiet (fail)
        go_wp2_with fail
        go_quiet ((go_at_call 54; first | exact quiet_left (CI.out _) | exact quiet_add_left (CI.out _)))
        go_wp2_with fail
        show bodyPost Tryz.prog Tryz.f105 (fun e w' => e = Ending.returned (Value.int IntKind.i64 (-1)) ∧ Below w.heap.size w w') Exit.ret _ _
        go_ret
        exact ⟨rfl, below_drewN (Below.refl _ _) _⟩
    · have h1' : 2 < E.size := by omega
      have hb := hlast (by omega)
      simp only [Nat.reduceSub] at hb
      have t1 : ((((⟨#[43, 45, 95]⟩ : ByteArray)[2]'(by decide)).toNat : Int) != ((E[2]'h1').toNat : Int)) = true := bne_iff_ne.2 (by show ((95 : Nat) : Int) ≠ _; omega)
      have CI := Lib.hid (index_none (⟨#[43, 45, 95]⟩ : ByteArray) 3 3 (E[2]'h1') (by omega))
      have hs3 : (⟨#[43, 45, 95]⟩ : ByteArray).size = 3 := rfl
      clear hlast hn
      go_wp2_with fail
      go_loopw [9] (fun s9 wr => s9 = .int .i64 2 ∧ w = wr) (fun _ _ => 0)
      case atStart => exact ⟨rfl, rfl⟩
      case round =>
        obtain ⟨rfl, rfl⟩ := hrel
        go_wp2_with fail
        go_step3
        go_wp2_with fail
        go_quiet (fail)
        go_wp2_with fail
        go_quiet ((go_at_call 54; first | exact quiet_left (CI.out _) | exact quiet_add_left (CI.out _)))
        go_wp2_with fail
        show bodyPost Tryz.prog Tryz.f105 (fun e w' => e = Ending.returned (Value.int IntKind.i64 (-1)) ∧ Below w.heap.size w w') Exit.ret _ _
        go_ret
        exact ⟨rfl, below_drewN (Below.refl _ _) _⟩
    · have h3' : ¬ (3 : Int) < 3 := by omega
      clear hlast hn
      go_wp2_with fail
      go_loopw [9] (fun s9 wr => s9 = .int .i64 3 ∧ w = wr) (fun _ _ => 0)
      case atStart => exact ⟨rfl, rfl⟩
      case round =>
        obtain ⟨rfl, rfl⟩ := hrel
        go_wp2_with fail
        rw [Exit.noGoto_ret]
        go_ret
        exact ⟨rfl, Below.refl _ _⟩
theorem rune_ok (s : ByteArray) (p : Nat) : runeI s p < 55296 ∨ 57343 < runeI s p := by
  unfold runeI
  rw [decode_at]
  have := decodeN_valid (s.size - p) (s.get! p).toNat (s.get! (p + 1)).toNat (s.get! (p + 2)).toNat (s.get! (p + 3)).toNat (UInt8.toNat_lt _)
  omega
theorem indexByte_hit (l : List UInt8) (b : UInt8) (h : 0 ≤ Lib.indexByte l b) : b ∈ l := by
  apply Classical.byContradiction
  intro hn
  rw [indexByte_none l b (fun c hc e => hn (e ▸ hc))] at h
  omega
def Rix (r : Int) (e : Ending) : Prop := ∃ k : Int, e = .returned (.int .i64 k) ∧ (0 ≤ k → r = 43 ∨ r = 45 ∨ r = 95)
theorem indexRune_any (r : Int) (w : World) (h0 : 0 ≤ r) (h2 : r ≤ 1114111) (h3 : r < 55296 ∨ 57343 < r) :
    Calls Tryz.prog 105 #[.string ⟨#[43, 45, 95]⟩, .int .i32 r] w fun e w' => Rix r e ∧ Below w.heap.size w w' := by
  by_cases h1 : r < 128
  · refine (Tryz.strings_IndexRune_ascii ⟨#[43, 45, 95]⟩ r w h0 h1).mono ?_
    rintro e w' ⟨rfl, hw⟩
    rw [hw]
    refine ⟨⟨_, rfl, fun h => ?_⟩, Below.refl _ _⟩
    have hm := indexByte_hit _ _ h
    have hr : r.toNat.toUInt8.toNat = r.toNat := by
      rw [show r.toNat.toUInt8 = UInt8.ofNat r.toNat from rfl, UInt8.toNat_ofNat']
      exact Nat.mod_eq_of_lt (by omega)
    simp only [List.mem_cons, List.not_mem_nil, or_false] at hm
    rcases hm with hm | hm | hm
    all_goals
      have h4 := congrArg UInt8.toNat hm
      rw [hr] at h4
      first | (left; have : r.toNat = 43 := h4; omega) | (right; left; have : r.toNat = 45 := h4; omega) | (right; right; have : r.toNat = 95 := h4; omega)
  · refine (indexRune_far r w (by omega) h2 h3).mono ?_
    rintro e w' ⟨rfl, hb⟩
    exact ⟨⟨_, rfl, fun h => by omega⟩, hb⟩
/-- What ContainsAny tells at three signs of ASCII: a bool; true means that one of them is there. -/
def Cont (t : ByteArray) (e : Ending) : Prop := ∃ B, e = .returned (.bool B) ∧ (B = true → ∃ c ∈ t.data.toList, c.toNat = 43 ∨ c.toNat = 45 ∨ c.toNat = 95)
def Idx (t : ByteArray) (e : Ending) : Prop := ∃ k : Int, e = .returned (.int .i64 k) ∧ (0 ≤ k → ∃ c ∈ t.data.toList, c.toNat = 43 ∨ c.toNat = 45 ∨ c.toNat = 95)
set_option maxHeartbeats 4000000 in
set_option maxRecDepth 100000 in
theorem indexAny_any (t : ByteArray) (w : World) (hs : t.size ≤ 8) :
    Calls Tryz.prog 114 #[.string t, .string ⟨#[43, 45, 95]⟩] w fun e w' => Idx t e ∧ Below w.heap.size w w' := by
  go_enter Tryz.func114, Tryz.ntmps114
  go_wp2_with fail
  refine (Tryz.strings_shouldUseASCIISet _ _).mono ?_
  rintro e w' ⟨rfl, hw⟩
  rw [hw]
  clear hw
  have hn8 : decide (8 < (t.size : Int)) = false := decide_eq_false (by omega)
  rw [hn8]
  go_wp2_with fail
  go_loopw [9, 10] (fun _ _ wr => ∃ p : Nat, p ≤ t.size ∧ Hid (wr.heap[w.heap.size]? = some (.stringIter t p)) ∧ Hid (Below w.heap.size w wr)) (fun _ _ wr => t.size - wr.iterPos w.heap.size)
  case atStart => exact ⟨0, by omega, World.iter_heap w t 0, (Below.refl _ _).alloc (Nat.le_refl _) _⟩
  case round =>
    obtain ⟨p, hp, HI, HW⟩ := hrel
    by_cases hlt : p < t.size
    · have hw := widN_bd t p hlt
      have hrb := runeI_bd t p
      have hok := rune_ok t p
      have hnx : ∀ ty, (Instr.next (.pointer (some ⟨w.heap.size, 0, none⟩)) true ty).run Tryz.prog wr = .ok (.tuple #[.bool true, .int .i64 p, .int .i32 (runeI t p)]) (wr.iterAt w.heap.size t (p + widN t p)) := fun ty => Lib.run_next_any_at wr _ t p ty HI.out hlt
      have hz : w.heap.size < wr.heap.size := cell_it HI.out
      have HI2 := Lib.hid (Lib.iterAt_heap wr w.heap.size t p (p + widN t p) HI.out)
      have HW2 := Lib.hid (Lib.below_iterAt HW.out (Nat.le_refl w.heap.size) t (p + widN t p))
      have HM := Lib.hid (iterPos_of HI.out)
      have hhit : (runeI t p = 43 ∨ runeI t p = 45 ∨ runeI t p = 95) → ∃ c ∈ t.data.toList, c.toNat = 43 ∨ c.toNat = 45 ∨ c.toNat = 95 := fun h => by
        refine ⟨t[p]'hlt, Array.getElem_mem_toList _, ?_⟩
        by_cases hb : (t[p]'hlt).toNat < 128
        · have hd := decode_ascii t p hlt hb
          unfold runeI at h; rw [hd] at h; simp only [] at h; omega
        · have hd := (decode_high t p hlt (by omega)).1
          unfold runeI at h; omega
      have HH := Lib.hid hhit; clear hhit
      generalize runeI t p = r at *
      generalize widN t p = wd at *
      go_wp2_with fail
      refine (indexRune_any r _ hrb.1 hrb.2 hok).mono ?_
      rintro e w2 ⟨⟨k, rfl, hk⟩, hb2⟩
      have HK := Lib.hid hk; clear hk
      have HI3 := Lib.hid ((hb2.block w.heap.size (cell_it HI2.out)).trans HI2.out)
      have HW3 := Lib.hid (HW2.out.trans (hb2.mono HW2.out.size))
      clear hb2
      by_cases hk0 : 0 ≤ k
      · have HF := Lib.hid (HH.out (HK.out hk0))
        go_wp2_with fail
        go_ret
        exact ⟨⟨_, rfl, fun _ => HF.out⟩, HW3.out⟩
      · go_wp2_with fail
        go_roundw
        case rel => exact ⟨p + wd, by omega, HI3.out, HW3.out⟩
        case measure => rw [iterPos_of HI3.out, HM.out]; omega
    · have hnx : ∀ ty, (Instr.next (.pointer (some ⟨w.heap.size, 0, none⟩)) true ty).run Tryz.prog wr = .ok (.tuple #[.bool false]) wr := fun ty => Lib.run_next_end_at wr _ t p ty HI.out hlt
      go_wp2_with fail
      go_ret
      exact ⟨⟨_, rfl, fun h => by omega⟩, HW.out⟩
theorem containsAny_any (t : ByteArray) (w : World) (hs : t.size ≤ 8) :
    Calls Tryz.prog 112 #[.string t, .string ⟨#[43, 45, 95]⟩] w fun e w' => Cont t e ∧ Below w.heap.size w w' := by
  go_enter Tryz.func112, Tryz.ntmps112
  go_wp2_with fail
  refine (indexAny_any t w hs).mono ?_
  rintro e w1 ⟨⟨k, rfl, hk⟩, hb1⟩
  have HK := Lib.hid hk; clear hk
  by_cases hk0 : 0 ≤ k
  · have HF := Lib.hid (HK.out hk0)
    have hd : decide (0 ≤ k) = true := decide_eq_true hk0
    go_wp2_with fail
    go_ret
    exact ⟨⟨_, rfl, fun _ => HF.out⟩, hb1⟩
  · have hd : decide (0 ≤ k) = false := decide_eq_false hk0
    go_wp2_with fail
    go_ret
    exact ⟨⟨_, rfl, fun h => by cases h⟩, hb1⟩
end Go.Proofs.YtmghlaajocgoaaaGreatDoor

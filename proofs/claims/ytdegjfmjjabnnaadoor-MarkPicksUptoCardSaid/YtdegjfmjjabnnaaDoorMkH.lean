import Derived.Test.YtdegjfmjjabnnaaDoorMkG
import Derived.BigQuiet
import Derived.Deep.QuietTactic
/-! The walks of scarfref25.Same (at the same parts), scarflaw25.few. -/
namespace Go.Proofs.YtdegjfmjjabnnaaDoor
set_option linter.unusedSimpArgs false
set_option linter.unusedVariables false
open Go.RowKit
open Go.Lib hiding intOf
attribute [local go_sem] eqSides

set_option maxRecDepth 100000 in
set_option maxHeartbeats 4000000 in
theorem rSame_yes (v1 v2 : Value) (l : List Part) (w : World) (h1 : PV w v1 l) (h2 : PV w v2 l) (hl : l.length ≤ 1073741825) :
    Calls Tryd.prog 18 #[v1, v2] w fun e w' => e = .returned (.bool true) ∧ Below w.heap.size w w' := by
  obtain ⟨p, c, rfl, hp⟩ := h1
  obtain ⟨q, d, rfl, hq⟩ := h2
  have HP : Hid (PLies w p l) := Lib.hid hp
  have HQ : Hid (PLies w q l) := Lib.hid hq
  clear hp hq
  go_enter Tryd.func18, Tryd.ntmps18
  go_wp2_with fail
  go_loopw [5] (fun s5 wr => ∃ (j : Nat), s5 = .int .i64 j ∧ j ≤ l.length ∧ Hid (Below w.heap.size w wr)) (fun s5 _ => l.length - (RowKit.intOf s5).toNat)
  case atStart => exact ⟨0, rfl, by omega, Below.refl _ _⟩
  case round =>
    obtain ⟨j, rfl, hj, HB⟩ := hrel
    by_cases hlt : j < l.length
    · obtain ⟨x, hx⟩ : ∃ x, l[j]? = some x := ⟨_, List.getElem?_eq_getElem hlt⟩
      obtain ⟨g, o, rfl, hg, _, c0, c1, c2, c3, c4⟩ := (HP.out.keep HB.out).at_ hx
      obtain ⟨g2, o2, rfl, hg2, _, d0, d1, d2, d3, d4⟩ := (HQ.out.keep HB.out).at_ hx
      have hlz : (j : Int) < (l.length : Int) := by omega
      clear hx
      go_wp2_with fail
      go_quiet (fail)
      go_wp2_with fail
      go_roundw
      case rel => exact ⟨j + 1, by go_num, by omega, below_drewN HB.out _⟩
      case measure => simp [RowKit.intOf]; omega
    · go_wp2_with fail
      go_ret
      exact ⟨rfl, HB.out⟩
def Few (l : List Part) : Prop := l.length ≤ 60 ∧ ∀ x ∈ l, x.text.length + x.s0.length + x.s1.length + x.s2.length ≤ 1024
def FewE (l : List Part) (w : World) (e : Ending) (w' : World) : Prop := ∃ b, e = .returned (.bool b) ∧ (b = true → Few l) ∧ Below w.heap.size w w'
set_option maxRecDepth 100000 in
set_option maxHeartbeats 4000000 in
theorem few_any (v : Value) (l : List Part) (w : World) (hv : PV w v l) (hs : Sz l) :
    Calls Tryd.prog 9 #[v] w (FewE l w) := by
  obtain ⟨p, c, rfl, hp⟩ := hv
  have HP : Hid (PLies w p l) := Lib.hid hp
  have hl := hs.1
  clear hp
  go_enter Tryd.func9, Tryd.ntmps9
  go_wp2_with fail
  go_loopw [3] (fun s3 wr => ∃ (j : Nat), s3 = .int .i64 j ∧ j ≤ l.length ∧ j ≤ 100 ∧ Hid (∀ i x, i < j → l[i]? = some x → x.text.length + x.s0.length + x.s1.length + x.s2.length ≤ 1024) ∧ Hid (Below w.heap.size w wr)) (fun s3 _ => l.length - (RowKit.intOf s3).toNat)
  case atStart => exact ⟨0, rfl, by omega, by omega, fun i x hi => by omega, Below.refl _ _⟩
  case round =>
    obtain ⟨j, rfl, hj, hj1, HC, HB⟩ := hrel
    by_cases hlt : j < l.length
    · have hlz : (j : Int) < (l.length : Int) := by omega
      by_cases h100 : j < 100
      · have hhz : (j : Int) < 100 := by omega
        obtain ⟨x, hx⟩ : ∃ x, l[j]? = some x := ⟨_, List.getElem?_eq_getElem hlt⟩
        obtain ⟨g, o, rfl, hg, _, c0, c1, c2, c3, c4⟩ := (HP.out.keep HB.out).at_ hx
        obtain ⟨z0, z1, z2, z3⟩ := hs.at_ hx
        have s0 := bs_size x.text; have s1 := bs_size x.s0; have s2 := bs_size x.s1; have s3 := bs_size x.s2
        by_cases hbig : 1024 < x.text.length + x.s0.length + x.s1.length + x.s2.length
        · have hbz : (1024 : Int) < (x.text.length : Int) + (x.s0.length : Int) + (x.s1.length : Int) + (x.s2.length : Int) := by omega
          clear hx
          go_wp2_with fail
          go_quiet (fail)
          go_wp2_with fail
          go_ret
          exact ⟨_, rfl, fun h => (by cases h), below_drewN HB.out _⟩
        · have hbz : ¬ (1024 : Int) < (x.text.length : Int) + (x.s0.length : Int) + (x.s1.length : Int) + (x.s2.length : Int) := by omega
          have db : decide ((1024 : Int) < (x.text.length : Int) + (x.s0.length : Int) + (x.s1.length : Int) + (x.s2.length : Int)) = false := decide_eq_false hbz
          have HC2 : Hid (∀ i x, i < j + 1 → l[i]? = some x → x.text.length + x.s0.length + x.s1.length + x.s2.length ≤ 1024) := Lib.hid (fun i y hi hy => by
            by_cases h : i < j
            · exact HC.out i y h hy
            · obtain rfl : i = j := by omega
              rw [hx] at hy
              cases hy
              omega)
          clear hx HC
          go_wp2_with fail
          go_quiet (fail)
          go_wp2_with fail
          go_roundw
          case rel => exact ⟨j + 1, by go_num, by omega, by omega, HC2, below_drewN HB.out _⟩
          case measure => simp [RowKit.intOf]; omega
      · have hhz : ¬ (j : Int) < 100 := by omega
        have hh2 : ¬ (l.length : Int) ≤ 60 := by omega
        have dh : decide ((j : Int) < 100) = false := decide_eq_false hhz
        have dh2 : decide ((l.length : Int) ≤ 60) = false := decide_eq_false hh2
        go_wp2_with fail
        go_ret
        exact ⟨_, rfl, fun h => (by first | cases h | (have := of_decide_eq_true h; omega)), HB.out⟩
    · have HF : Hid (l.length ≤ 60 → Few l) := Lib.hid (fun h => ⟨h, fun x hx => by
        obtain ⟨i, hi⟩ := List.getElem?_of_mem hx
        exact HC.out i x (by have := (List.getElem?_eq_some_iff.1 hi).1; omega) hi⟩)
      go_wp2_with fail
      go_ret
      exact ⟨_, rfl, fun h => HF.out (by have := of_decide_eq_true h; omega), HB.out⟩
end Go.Proofs.YtdegjfmjjabnnaaDoor

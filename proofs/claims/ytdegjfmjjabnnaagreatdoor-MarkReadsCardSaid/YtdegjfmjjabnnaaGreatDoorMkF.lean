import Derived.Test.YtdegjfmjjabnnaaGreatDoorMkD
/-! The walks of scarfref25: Right, hunks, Same (where they are); scarflaw25.few. -/
namespace Go.Proofs.YtdegjfmjjabnnaaGreatDoor
set_option linter.unusedSimpArgs false
set_option linter.unusedVariables false
open Go.RowKit
open Go.Lib hiding intOf

/-- How a test of an empty text reads. -/
theorem empty_is (X : List UInt8) (b : Bool) (h : (X == []) = b) : ((bs X).toList == []) = b ∧ (bs X).toList.isEmpty = b ∧ ((bs X).toList != []) = !b := by
  have e : (bs X).toList = X := by rw [Lib.toList_data, bs_data]
  rw [e, bne, h]
  refine ⟨rfl, ?_, rfl⟩
  rw [← h]
  cases X <;> rfl
def prevH (l : List Part) : Nat → Bool
  | 0 => true
  | j + 1 => match l[j]? with
    | none => true
    | some x => x.hunk
theorem prevH_succ {l : List Part} {j : Nat} {x : Part} (h : l[j]? = some x) : prevH l (j + 1) = x.hunk := by
  show (match l[j]? with | none => true | some x => x.hunk) = x.hunk
  rw [h]
theorem drop_at {α : Type} {l : List α} {j : Nat} {x : α} (h : l[j]? = some x) : l.drop j = x :: l.drop (j + 1) := by
  obtain ⟨hlt, e⟩ := List.getElem?_eq_some_iff.1 h
  rw [List.drop_eq_getElem_cons hlt, e]
/-- A part of parts, at its place. -/
theorem PV.at_ {w : World} {v : Value} {l : List Part} (h : PV w v l) : ∃ p c, v = .slice p l.length c ∧ (∀ (j : Nat) (x : Part), l[j]? = some x → ∃ g o, p = some ⟨g, o, none⟩ ∧ g < w.heap.size ∧ PCells w g (o + j * 5) x) := by
  obtain ⟨p, c, h1, h2⟩ := h
  refine ⟨p, c, h1, fun j x hx => ?_⟩
  rcases h2 with h2 | ⟨g, o, h2, h3, h4⟩
  · rw [h2] at hx; simp at hx
  · exact ⟨g, o, h2, h3, h4 j x hx⟩
/-- Where parts lie: one place for all of them. -/
def PLies (w : World) (p : Option Addr) (l : List Part) : Prop := l = [] ∨ ∃ g o, p = some ⟨g, o, none⟩ ∧ g < w.heap.size ∧ PartsAt w g o l
theorem PLies.keep {w w' : World} {p : Option Addr} {l : List Part} (h : PLies w p l) (hb : Below w.heap.size w w') : PLies w' p l := by
  rcases h with h2 | ⟨g, o, h2, h3, h4⟩
  · exact .inl h2
  · exact .inr ⟨g, o, h2, Nat.lt_of_lt_of_le h3 hb.size, fun j x hx => (h4 j x hx).keep hb h3⟩
theorem PLies.at_ {w : World} {p : Option Addr} {l : List Part} (h : PLies w p l) {j : Nat} {x : Part} (hx : l[j]? = some x) : ∃ g o, p = some ⟨g, o, none⟩ ∧ g < w.heap.size ∧ PartsAt w g o l ∧ PCells w g (o + j * 5) x := by
  rcases h with h2 | ⟨g, o, h2, h3, h4⟩
  · rw [h2] at hx; simp at hx
  · exact ⟨g, o, h2, h3, h4, h4 j x hx⟩
set_option maxRecDepth 100000 in
set_option maxHeartbeats 4000000 in
theorem rHunks_any (v : Value) (l : List Part) (w : World) (hv : PV w v l) (hl : l.length ≤ 1073741825) :
    Calls Tryz.prog 20 #[v] w fun e w' => e = .returned (.int .i64 (hunksM l : Nat)) ∧ Below w.heap.size w w' := by
  obtain ⟨p, c, rfl, hp⟩ := hv
  have HP : Hid (PLies w p l) := Lib.hid hp
  clear hp
  have HN : Hid (hunksM l = 0 + hunksM (l.drop 0)) := Lib.hid (by rw [List.drop_zero, Nat.zero_add])
  go_enter Tryz.func20, Tryz.ntmps20
  go_wp2_with fail
  go_loopw [3, 4] (fun s3 s4 wr => ∃ (j n : Nat), s4 = .int .i64 j ∧ s3 = .int .i64 n ∧ j ≤ l.length ∧ n ≤ j ∧ Hid (hunksM l = n + hunksM (l.drop j)) ∧ Hid (Below w.heap.size w wr)) (fun _ s4 _ => l.length - (RowKit.intOf s4).toNat)
  case atStart => exact ⟨0, 0, rfl, rfl, by omega, by omega, HN, Below.refl _ _⟩
  case round =>
    obtain ⟨j, n, rfl, rfl, hj, hn, HC, HB⟩ := hrel
    by_cases hlt : j < l.length
    · obtain ⟨x, hx⟩ : ∃ x, l[j]? = some x := ⟨_, List.getElem?_eq_getElem hlt⟩
      obtain ⟨g, o, rfl, hg, _, c0, c1, c2, c3, c4⟩ := (HP.out.keep HB.out).at_ hx
      have hc := HC.out
      rw [drop_at hx] at hc
      unfold hunksM at hc
      rw [List.countP_cons] at hc
      have hlz : (j : Int) < (l.length : Int) := by omega
      obtain ⟨b, hb⟩ : ∃ b, x.hunk = b := ⟨_, rfl⟩
      rw [hb] at c0 hc
      clear hx hb
      cases b with
      | true =>
        have HC2 : Hid (hunksM l = (n + 1) + hunksM (l.drop (j + 1))) := Lib.hid (by unfold hunksM; simp at hc; omega)
        clear hc HC
        go_wp2_with fail
        go_roundw
        case rel => exact ⟨j + 1, n + 1, by go_num, by go_num, by omega, by omega, HC2, by first | exact HB.out | exact below_drewN HB.out _⟩
        case measure => simp [RowKit.intOf]; omega
      | false =>
        have HC2 : Hid (hunksM l = n + hunksM (l.drop (j + 1))) := Lib.hid (by unfold hunksM; simp at hc; omega)
        clear hc HC
        go_wp2_with fail
        go_roundw
        case rel => exact ⟨j + 1, n, by go_num, rfl, by omega, by omega, HC2, by first | exact HB.out | exact below_drewN HB.out _⟩
        case measure => simp [RowKit.intOf]; omega
    · have HF : Hid (hunksM l = n) := Lib.hid (by
        have := HC.out
        rw [List.drop_of_length_le (by omega)] at this
        simpa [hunksM] using this)
      go_wp2_with fail
      go_ret
      exact ⟨ret_int (by rw [HF.out]), HB.out⟩
end Go.Proofs.YtdegjfmjjabnnaaGreatDoor

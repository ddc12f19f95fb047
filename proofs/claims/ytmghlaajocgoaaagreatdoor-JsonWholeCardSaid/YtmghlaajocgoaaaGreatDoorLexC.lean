import Derived.Test.YtmghlaajocgoaaaGreatDoorLexA
import Derived.Test.YtmghlaajocgoaaaGreatDoorQuoE
import Derived.Test.YtmghlaajocgoaaaGreatDoorNumJ
import Derived.Deep.RegionHeld3
/-! The walks of lex: small, among, run, word, the closures of next. -/
namespace Go.Proofs.YtmghlaajocgoaaaGreatDoor
set_option linter.unusedSimpArgs false
set_option linter.unusedVariables false
open Go.RowKit
open Go.Lib hiding intOf

theorem bs_at (l : List UInt8) (k : Nat) (h : k < l.length) (h2 : k < (bs l).size) : (bs l)[k]'h2 = l[k]'h := by
  have := at_bs l k h2
  rw [List.getElem?_eq_getElem h] at this
  exact (Option.some.inj this).symm
theorem small1_any (b : UInt8) (w : World) : Calls Tryz.prog 59 #[.int .u8 (b.toNat : Int)] w fun e w' => e = .returned (.bool (isSmall b)) ∧ w = w' := by
  obtain ⟨R, hR⟩ : ∃ R, isSmall b = R := ⟨_, rfl⟩
  rw [hR]
  unfold isSmall at hR
  obtain ⟨n, hn⟩ : ∃ n : Int, (b.toNat : Int) = n := ⟨_, rfl⟩
  rw [hn]
  by_cases h1 : 97 ≤ n
  · by_cases h2 : n ≤ 122
    · rw [decide_eq_true (by omega)] at hR
      subst hR
      clear hn
      go_enter Tryz.func59, Tryz.ntmps59
      go_wp2_with fail
      go_ret
      exact ⟨rfl, rfl⟩
    · rw [decide_eq_false (by omega)] at hR
      subst hR
      have h2' : decide (n ≤ 122) = false := decide_eq_false h2
      clear hn h2
      go_enter Tryz.func59, Tryz.ntmps59
      go_wp2_with fail
      go_ret
      exact ⟨rfl, rfl⟩
  · rw [decide_eq_false (by omega)] at hR
    subst hR
    have h1' : decide (97 ≤ n) = false := decide_eq_false h1
    clear hn h1
    go_enter Tryz.func59, Tryz.ntmps59
    go_wp2_with fail
    go_ret
    exact ⟨rfl, rfl⟩
theorem among1_any (X : Nat) (A : ByteArray) (b : UInt8) (w : World) (hc : w.cell? ⟨X, 0, none⟩ = some (.string A)) :
    Calls Tryz.prog 67 #[.int .u8 (b.toNat : Int), .pointer (some ⟨X, 0, none⟩)] w fun e w' => e = .returned (.bool (decide (0 ≤ Lib.indexByte A.data.toList b))) ∧ w = w' := by
  have C := Lib.hid (index_in A b w)
  obtain ⟨K, hK⟩ : ∃ K, Lib.indexByte A.data.toList b = K := ⟨_, rfl⟩
  rw [hK] at C ⊢
  obtain ⟨B, hB⟩ : ∃ B, decide (0 ≤ K) = B := ⟨_, rfl⟩
  rw [hB]
  clear hK
  go_enter Tryz.func67, Tryz.ntmps67
  go_wp2_with (go_at_call 54; refine C.out.mono ?_; rintro e w' ⟨rfl, rfl⟩)
  go_ret
  exact ⟨rfl, rfl⟩
theorem among_any (A : ByteArray) (w : World) :
    Calls Tryz.prog 56 #[.string A] w fun e w' => e = .returned (.func (.func 67) #[] #[.pointer (some ⟨w.heap.size, 0, none⟩)]) ∧ w' = w.alloc (.cells #[.string A] 9) := by
  have hmf : ∀ (fn : Fn) (first cap : Array Value) (w : World), (Instr.makeFunc fn first cap).run Tryz.prog w = .ok (.func fn first cap) w := fun _ _ _ _ => rfl
  go_enter Tryz.func56, Tryz.ntmps56
  go_wp2_with fail
  go_ret
  exact ⟨rfl, rfl⟩
set_option maxHeartbeats 1000000 in
theorem runAmong_any (l : List UInt8) (X : Nat) (A : ByteArray) (p : UInt8 → Bool) (hp : ∀ b, decide (0 ≤ Lib.indexByte A.data.toList b) = p b) (w : World) (hs : l.length ≤ 1073741824) (hc : w.cell? ⟨X, 0, none⟩ = some (.string A)) :
    Calls Tryz.prog 55 #[.string (bs l), .func (.func 67) #[] #[.pointer (some ⟨X, 0, none⟩)]] w fun e w' => e = .returned (.int .i64 (runL p l)) ∧ w = w' := by
  have sl := bs_size l
  obtain ⟨R, hR⟩ : ∃ R, runL p l = R := ⟨_, rfl⟩
  rw [hR]
  have HR := Lib.hid hR; clear hR
  have CA : Hid (∀ b : UInt8, Calls Tryz.prog 67 #[.int .u8 (b.toNat : Int), .pointer (some ⟨X, 0, none⟩)] w fun e w' => e = .returned (.bool (p b)) ∧ w = w') := Lib.hid (fun b => by rw [← hp b]; exact among1_any X A b w hc)
  clear hp hc
  go_enter Tryz.func55, Tryz.ntmps55
  go_wp2_with fail
  go_loop [8] (fun s8 => ∃ k : Nat, s8 = .int .i64 k ∧ k ≤ l.length ∧ Hid (R = k + runL p (l.drop k))) (fun s8 => l.length - (RowKit.intOf s8).toNat)
  case atStart => exact ⟨0, rfl, by omega, Lib.hid (by rw [List.drop_zero, HR.out]; omega)⟩
  case round =>
    obtain ⟨k, rfl, hk, HG⟩ := hrel
    by_cases hlt : k < l.length
    · have hlt' : k < (bs l).size := by omega
      have hge := bs_at l k hlt hlt'
      have hg := HG.out
      rw [List.drop_eq_getElem_cons hlt, runL_cons, ← hge] at hg
      have hgN := congrArg (fun c : UInt8 => (c.toNat : Int)) hge
      have CC := Lib.hid (CA.out ((bs l)[k]'hlt'))
      cases hp : p ((bs l)[k]'hlt') with
      | true =>
        rw [hp] at CC
        rw [hp, if_pos rfl] at hg
        have HG2 : Hid (R = (k + 1) + runL p (l.drop (k + 1))) := Lib.hid (by omega)
        clear hp hg hge hgN HG
        go_wp2_with (go_at_call 67; (with_reducible refine CC.out.mono ?_); rintro e w' ⟨rfl, rfl⟩)
        go_round
        case rel => exact ⟨k + 1, by go_num, by omega, HG2.out⟩
        case measure => simp [RowKit.intOf]; omega
      | false =>
        rw [hp] at CC
        rw [hp, if_neg (by simp)] at hg
        have HF : Hid (R = k) := Lib.hid (by omega)
        clear hp hg hge hgN HG
        go_wp2_with (go_at_call 67; (with_reducible refine CC.out.mono ?_); rintro e w' ⟨rfl, rfl⟩)
        go_ret
        exact ⟨ret_int (by rw [HF.out]), rfl⟩
    · have HF : Hid (R = l.length) := by
        have hg := HG.out
        rw [List.drop_of_length_le (by omega)] at hg
        exact Lib.hid (by rw [hg]; show k + 0 = _; omega)
      clear HG
      go_wp2_with fail
      go_ret
      exact ⟨ret_int (by rw [HF.out]), rfl⟩
set_option maxHeartbeats 1000000 in
theorem runSmall_any (l : List UInt8) (w : World) (hs : l.length ≤ 1073741824) :
    Calls Tryz.prog 55 #[.string (bs l), .func (.func 59) #[] #[]] w fun e w' => e = .returned (.int .i64 (runL isSmall l)) ∧ w = w' := by
  have sl := bs_size l
  obtain ⟨R, hR⟩ : ∃ R, runL isSmall l = R := ⟨_, rfl⟩
  rw [hR]
  have HR := Lib.hid hR; clear hR
  have CA := Lib.hid (fun b : UInt8 => small1_any b w)
  go_enter Tryz.func55, Tryz.ntmps55
  go_wp2_with fail
  go_loop [8] (fun s8 => ∃ k : Nat, s8 = .int .i64 k ∧ k ≤ l.length ∧ Hid (R = k + runL isSmall (l.drop k))) (fun s8 => l.length - (RowKit.intOf s8).toNat)
  case atStart => exact ⟨0, rfl, by omega, Lib.hid (by rw [List.drop_zero, HR.out]; omega)⟩
  case round =>
    obtain ⟨k, rfl, hk, HG⟩ := hrel
    by_cases hlt : k < l.length
    · have hlt' : k < (bs l).size := by omega
      have hge := bs_at l k hlt hlt'
      have hg := HG.out
      rw [List.drop_eq_getElem_cons hlt, runL_cons, ← hge] at hg
      have hgN := congrArg (fun c : UInt8 => (c.toNat : Int)) hge
      have CC := Lib.hid (CA.out ((bs l)[k]'hlt'))
      cases hp : isSmall ((bs l)[k]'hlt') with
      | true =>
        rw [hp] at CC
        rw [hp, if_pos rfl] at hg
        have HG2 : Hid (R = (k + 1) + runL isSmall (l.drop (k + 1))) := Lib.hid (by omega)
        clear hp hg hge hgN HG
        go_wp2_with (go_at_call 59; (with_reducible refine CC.out.mono ?_); rintro e w' ⟨rfl, rfl⟩)
        go_round
        case rel => exact ⟨k + 1, by go_num, by omega, HG2.out⟩
        case measure => simp [RowKit.intOf]; omega
      | false =>
        rw [hp] at CC
        rw [hp, if_neg (by simp)] at hg
        have HF : Hid (R = k) := Lib.hid (by omega)
        clear hp hg hge hgN HG
        go_wp2_with (go_at_call 59; (with_reducible refine CC.out.mono ?_); rintro e w' ⟨rfl, rfl⟩)
        go_ret
        exact ⟨ret_int (by rw [HF.out]), rfl⟩
    · have HF : Hid (R = l.length) := by
        have hg := HG.out
        rw [List.drop_of_length_le (by omega)] at hg
        exact Lib.hid (by rw [hg]; show k + 0 = _; omega)
      clear HG
      go_wp2_with fail
      go_ret
      exact ⟨ret_int (by rw [HF.out]), rfl⟩
theorem word_any (l : List UInt8) (w : World) :
    Calls Tryz.prog 60 #[.string (bs l)] w fun e w' => e = .returned (.int .i64 (wordL l)) ∧ w = w' := by
  obtain ⟨R, hR⟩ : ∃ R, wordL l = R := ⟨_, rfl⟩
  rw [hR]
  unfold wordL at hR
  have hd : (bs l).toList = l := by rw [Lib.toList_data, bs_data]
  by_cases h1 : l = [116, 114, 117, 101]
  · rw [if_pos h1] at hR
    subst hR h1
    go_enter Tryz.func60, Tryz.ntmps60
    go_wp2_with fail
    go_ret
    exact ⟨rfl, rfl⟩
  rw [if_neg h1] at hR
  by_cases h2 : l = [102, 97, 108, 115, 101]
  · rw [if_pos h2] at hR
    subst hR h2
    go_enter Tryz.func60, Tryz.ntmps60
    go_wp2_with fail
    go_ret
    exact ⟨rfl, rfl⟩
  rw [if_neg h2] at hR
  by_cases h3 : l = [110, 117, 108, 108]
  · rw [if_pos h3] at hR
    subst hR h3
    go_enter Tryz.func60, Tryz.ntmps60
    go_wp2_with fail
    go_ret
    exact ⟨rfl, rfl⟩
  rw [if_neg h3] at hR
  subst hR
  have e1 : ((bs l).toList == [116, 114, 117, 101]) = false := by rw [hd]; simpa using h1
  have e2 : ((bs l).toList == [102, 97, 108, 115, 101]) = false := by rw [hd]; simpa using h2
  have e3 : ((bs l).toList == [110, 117, 108, 108]) = false := by rw [hd]; simpa using h3
  clear hd h1 h2 h3
  go_enter Tryz.func60, Tryz.ntmps60
  go_wp2_with fail
  go_ret
  exact ⟨rfl, rfl⟩
/-- A call of among: what holds the bytes is new. -/
def AmongE (A : ByteArray) (w : World) (e : Ending) (w' : World) : Prop := ∃ X : Nat, e = .returned (.func (.func 67) #[] #[.pointer (some ⟨X, 0, none⟩)]) ∧ w'.cell? ⟨X, 0, none⟩ = some (.string A) ∧ Below w.heap.size w w'
theorem among_new (A : ByteArray) (w : World) : Calls Tryz.prog 56 #[.string A] w (AmongE A w) :=
  (among_any A w).mono fun _ _ ⟨he, hw⟩ => ⟨_, he, by rw [hw]; exact cell_of_one (heap_alloc_new w _), by rw [hw]; exact below_alloc1 w _⟩
/-- Block X is a token. -/
def TokBox (w : World) (X : Nat) (k a b : Int) : Prop := w.heap[X]? = some (.cells #[.int .i64 k, .int .i64 a, .int .i64 b] 51 (0, 0))
abbrev TokCells (w : World) (X : Nat) (k a b : Int) : Prop := w.cell? ⟨X, 0, none⟩ = some (.int .i64 k) ∧ w.cell? ⟨X, 1, none⟩ = some (.int .i64 a) ∧ w.cell? ⟨X, 2, none⟩ = some (.int .i64 b) ∧
  w.frozen? ⟨X, 0, none⟩ = false ∧ w.frozen? ⟨X, 1, none⟩ = false ∧ w.frozen? ⟨X, 2, none⟩ = false
theorem TokBox.cells {w : World} {X : Nat} {k a b : Int} (h : TokBox w X k a b) : TokCells w X k a b :=
  ⟨cell_of_row w X 0 _ _ (0, 0) h, cell_of_row w X 1 _ _ (0, 0) h, cell_of_row w X 2 _ _ (0, 0) h, by simp [World.frozen?, show w.heap[X]? = _ from h], by simp [World.frozen?, show w.heap[X]? = _ from h], by simp [World.frozen?, show w.heap[X]? = _ from h]⟩
theorem TokBox.lt {w : World} {X : Nat} {k a b : Int} (h : TokBox w X k a b) : X < w.heap.size := cell_it h
theorem TokBox.keep {w w' : World} {X : Nat} {k a b : Int} (h : TokBox w X k a b) (hb : Below w.heap.size w w') : TokBox w' X k a b := (hb.block X h.lt).trans h
theorem TokBox.drew {w : World} {X : Nat} {k a b : Int} (h : TokBox w X k a b) : TokBox w.drew X k a b := h
/-- A token is set. -/
def putT (w : World) (X : Nat) (k a b : Int) : World := ((w.setCell ⟨X, 0, none⟩ (.int .i64 k)).setCell ⟨X, 1, none⟩ (.int .i64 a)).setCell ⟨X, 2, none⟩ (.int .i64 b)
theorem TokBox.put {w : World} {X : Nat} {k a b k2 a2 b2 : Int} (h : TokBox w X k a b) : TokBox (putT w X k2 a2 b2) X k2 a2 b2 := by
  unfold TokBox at h ⊢
  unfold putT
  simp [World.setCell, Array.getElem?_modify, h]
theorem below_putT {B : Nat} {w w' : World} {X : Nat} {k a b : Int} (h : Below B w w') (hX : B ≤ X) : Below B w (putT w' X k a b) :=
  ((h.setCell (p := ⟨X, 0, none⟩) hX _).setCell (p := ⟨X, 1, none⟩) hX _).setCell (p := ⟨X, 2, none⟩) hX _
def tokV (k a b : Int) : Value := .agg #[.int .i64 k, .int .i64 a, .int .i64 b]
theorem token_any (kd a tw : Int) (X : Nat) (w : World) (hc : w.cell? ⟨X, 0, none⟩ = some (.int .i64 a)) :
    Calls Tryz.prog 52 #[.int .i64 kd, .int .i64 tw, .pointer (some ⟨X, 0, none⟩)] w fun e w' => e = .returned (.tuple #[.agg #[.int .i64 kd, .int .i64 a, .int .i64 tw], .int .i64 0]) ∧ Below w.heap.size w w' := by
  have hX : X < w.heap.size := cell_lt hc
  go_enter Tryz.func52, Tryz.ntmps52
  go_wp2_with fail
  have hT : TokBox (w.alloc (.cells #[.int .i64 kd, .int .i64 a, .int .i64 tw] 51)) w.heap.size kd a tw := heap_alloc_new w _
  have hb := below_alloc1 w (.cells #[.int .i64 kd, .int .i64 a, .int .i64 tw] 51)
  obtain ⟨W, hW⟩ : ∃ W, w.alloc (.cells #[.int .i64 kd, .int .i64 a, .int .i64 tw] 51) = W := ⟨_, rfl⟩
  rw [hW] at hT hb ⊢
  obtain ⟨c0, c1, c2, _⟩ := hT.cells
  refine bodyPost_ret (v := .tuple #[.agg #[.int .i64 kd, .int .i64 a, .int .i64 tw], .int .i64 0]) ?_ rfl ⟨rfl, hb⟩
  simp [results, Tryz.results52, go_sem, c0, c1, c2]
theorem tfail_any (a er : Int) (w : World) :
    Calls Tryz.prog 53 #[.int .i64 a, .int .i64 er] w fun e w' => e = .returned (.tuple #[.agg #[.int .i64 0, .int .i64 a, .int .i64 a], .int .i64 er]) ∧ Below w.heap.size w w' := by
  go_enter Tryz.func53, Tryz.ntmps53
  go_wp2_with fail
  have hT : TokBox (w.alloc (.cells #[.int .i64 0, .int .i64 a, .int .i64 a] 51)) w.heap.size 0 a a := heap_alloc_new w _
  have hb := below_alloc1 w (.cells #[.int .i64 0, .int .i64 a, .int .i64 a] 51)
  obtain ⟨W, hW⟩ : ∃ W, w.alloc (.cells #[.int .i64 0, .int .i64 a, .int .i64 a] 51) = W := ⟨_, rfl⟩
  rw [hW] at hT hb ⊢
  obtain ⟨c0, c1, c2, _⟩ := hT.cells
  refine bodyPost_ret (v := .tuple #[.agg #[.int .i64 0, .int .i64 a, .int .i64 a], .int .i64 er]) ?_ rfl ⟨rfl, hb⟩
  simp [results, Tryz.results53, go_sem, c0, c1, c2]
end Go.Proofs.YtmghlaajocgoaaaGreatDoor

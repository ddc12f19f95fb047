import Derived.Test.YtmghlaajocgoaaaGreatDoorLexA
import Derived.Test.YtmghlaajocgoaaaGreatDoorQuoE
import Derived.Test.YtmghlaajocgoaaaGreatDoorNumI
import Derived.Deep.RegionHeld3
import Derived.Deep.DeepCutAuto
/-! The walks of lex: small, among, run, word, the closures of next. -/
namespace Go.Proofs.YtmghlaajocgoaaaGreatDoor
set_option linter.unusedSimpArgs false
set_option linter.unusedVariables false
open Go.RowKit
open Go.Lib hiding intOf
theorem bs_at (l : List UInt8) (k : Nat) (h : k < l.length) (h2 : k < (bs l).size) : (bs l)[k]'h2 = l[k]'h := by
  have := at_bs l k h2
  rw [List.getElem?_eq_getElem h] at this
  exact (Option.some.inj this).symm
theorem small1_any (b : UInt8) (w : World) : Calls Tryz.prog 59 #[.int .u8 (b.toNat : Int)] w fun e w' => e = .returned (.bool (isSmall b)) ∧ w = w' := by
  obtain ⟨R, hR⟩ : ∃ R, isSmall b = R := ⟨_, rfl⟩
  rw [hR]
  unfold isSmall at hR
  obtain ⟨n, hn⟩ : ∃ n : Int, (b.toNat : Int) = n := ⟨_, rfl⟩
  rw [hn]
  by_cases h1 : 97 ≤ n
  · by_cases h2 : n ≤ 122
    · rw [decide_eq_true (by omega)] at hR
      subst hR
      clear hn
      go_enter Tryz.func59, Tryz.ntmps59
      go_wp2_with fail
      go_ret
      exact ⟨rfl, rfl⟩
    · rw [decide_eq_false (by omega)] at hR
      subst hR
      have h2' : decide (n ≤ 122) = false := decide_eq_false h2
      clear hn h2
      go_enter Tryz.func59, Tryz.ntmps59
      go_wp2_with fail
      go_ret
      exact ⟨rfl, rfl⟩
  · rw [decide_eq_false (by omega)] at hR
    subst hR
    have h1' : decide (97 ≤ n) = false := decide_eq_false h1
    clear hn h1
    go_enter Tryz.func59, Tryz.ntmps59
    go_wp2_with fail
    go_ret
    exact ⟨rfl, rfl⟩
theorem among1_any (X : Nat) (A : ByteArray) (b : UInt8) (w : World) (hc : w.cell? ⟨X, 0, none⟩ = some (.string A)) :
    Calls Tryz.prog 67 #[.int .u8 (b.toNat : Int), .pointer (some ⟨X, 0, none⟩)] w fun e w' => e = .returned (.bool (decide (0 ≤ Lib.indexByte A.data.toList b))) ∧ w = w' := by
  have C := Lib.hid (index_in A b w)
  obtain ⟨K, hK⟩ : ∃ K, Lib.indexByte A.data.toList b = K := ⟨_, rfl⟩
  rw [hK] at C ⊢
  obtain ⟨B, hB⟩ : ∃ B, decide (0 ≤ K) = B := ⟨_, rfl⟩
  rw [hB]
  clear hK
  go_enter Tryz.func67, Tryz.ntmps67
  go_wp2_with (go_at_call 54; refine C.out.mono ?_; rintro e w' ⟨rfl, rfl⟩)
  go_ret
  exact ⟨rfl, rfl⟩
theorem among_any (A : ByteArray) (w : World) :
    Calls Tryz.prog 56 #[.string A] w fun e w' => e = .returned (.func (.func 67) #[] #[.pointer (some ⟨w.heap.size, 0, none⟩)]) ∧ w' = w.alloc (.cells #[.string A] 9) := by
  have hmf : ∀ (fn : Fn) (first cap : Array Value) (w : World), (Instr.makeFunc fn first cap).run Tryz.prog w = .ok (.func fn first cap) w := fun _ _ _ _ => rfl
  go_enter Tryz.func56, Tryz.ntmps56
  go_wp2_with fail
  go_ret
  exact ⟨rfl, rfl⟩
set_option maxHeartbeats 1000000 in
theorem runAmong_any (l : List UInt8) (X : Nat) (A : ByteArray) (p : UInt8 → Bool) (hp : ∀ b, decide (0 ≤ Lib.indexByte A.data.toList b) = p b) (w : World) (hs : l.length ≤ 1073741824) (hc : w.cell? ⟨X, 0, none⟩ = some (.string A)) :
    Calls Tryz.prog 55 #[.string (bs l), .func (.func 67) #[] #[.pointer (some ⟨X, 0, none⟩)]] w fun e w' => e = .returned (.int .i64 (runL p l)) ∧ w = w' := by
  have sl := bs_size l
  obtain ⟨R, hR⟩ : ∃ R, runL p l = R := ⟨_, rfl⟩
  rw [hR]
  have HR := Lib.hid hR; clear hR
  have CA : Hid (∀ b : UInt8, Calls Tryz.prog 67 #[.int .u8 (b.toNat : Int), .pointer (some ⟨X, 0, none⟩)] w fun e w' => e = .returned (.bool (p b)) ∧ w = w') := Lib.hid (fun b => by rw [← hp b]; exact among1_any X A b w hc)
  clear hp hc
  go_enter Tryz.func55, Tryz.ntmps55
  go_wp2_with fail
  go_loop [8] (fun s8 => ∃ k : Nat, s8 = .int .i64 k ∧ k ≤ l.length ∧ Hid (R = k + runL p (l.drop k))) (fun s8 => l.length - (RowKit.intOf s8).toNat)
  case atStart => exact ⟨0, rfl, by omega, Lib.hid (by rw [List.drop_zero, HR.out]; omega)⟩
  case round =>
    obtain ⟨k, rfl, hk, HG⟩ := hrel
    by_cases hlt : k < l.length
    · have hlt' : k < (bs l).size := by omega
      have hge := bs_at l k hlt hlt'
      have hg := HG.out
      rw [List.drop_eq_getElem_cons hlt, runL_cons, ← hge] at hg
      have hgN := congrArg (fun c : UInt8 => (c.toNat : Int)) hge
      have CC := Lib.hid (CA.out ((bs l)[k]'hlt'))
      cases hp : p ((bs l)[k]'hlt') with
      | true =>
        rw [hp] at CC
        rw [hp, if_pos rfl] at hg
        have HG2 : Hid (R = (k + 1) + runL p (l.drop (k + 1))) := Lib.hid (by omega)
        clear hp hg hge hgN HG
        go_wp2_with (go_at_call 67; (with_reducible refine CC.out.mono ?_); rintro e w' ⟨rfl, rfl⟩)
        go_round
        case rel => exact ⟨k + 1, by go_num, by omega, HG2.out⟩
        case measure => simp [RowKit.intOf]; omega
      | false =>
        rw [hp] at CC
        rw [hp, if_neg (by simp)] at hg
        have HF : Hid (R = k) := Lib.hid (by omega)
        clear hp hg hge hgN HG
        go_wp2_with (go_at_call 67; (with_reducible refine CC.out.mono ?_); rintro e w' ⟨rfl, rfl⟩)
        go_ret
        exact ⟨ret_int (by rw [HF.out]), rfl⟩
    · have HF : Hid (R = l.length) := by
        have hg := HG.out
        rw [List.drop_of_length_le (by omega)] at hg
        exact Lib.hid (by rw [hg]; show k + 0 = _; omega)
      clear HG
      go_wp2_with fail
      go_ret
      exact ⟨ret_int (by rw [HF.out]), rfl⟩
set_option maxHeartbeats 1000000 in
theorem runSmall_any (l : List UInt8) (w : World) (hs : l.length ≤ 1073741824) :
    Calls Tryz.prog 55 #[.string (bs l), .func (.func 59) #[] #[]] w fun e w' => e = .returned (.int .i64 (runL isSmall l)) ∧ w = w' := by
  have sl := bs_size l
  obtain ⟨R, hR⟩ : ∃ R, runL isSmall l = R := ⟨_, rfl⟩
  rw [hR]
  have HR := Lib.hid hR; clear hR
  have CA := Lib.hid (fun b : UInt8 => small1_any b w)
  go_enter Tryz.func55, Tryz.ntmps55
  go_wp2_with fail
  go_loop [8] (fun s8 => ∃ k : Nat, s8 = .int .i64 k ∧ k ≤ l.length ∧ Hid (R = k + runL isSmall (l.drop k))) (fun s8 => l.length - (RowKit.intOf s8).toNat)
  case atStart => exact ⟨0, rfl, by omega, Lib.hid (by rw [List.drop_zero, HR.out]; omega)⟩
  case round =>
    obtain ⟨k, rfl, hk, HG⟩ := hrel
    by_cases hlt : k < l.length
    · have hlt' : k < (bs l).size := by omega
      have hge := bs_at l k hlt hlt'
      have hg := HG.out
      rw [List.drop_eq_getElem_cons hlt, runL_cons, ← hge] at hg
      have hgN := congrArg (fun c : UInt8 => (c.toNat : Int)) hge
      have CC := Lib.hid (CA.out ((bs l)[k]'hlt'))
      cases hp : isSmall ((bs l)[k]'hlt') with
      | true =>
        rw [hp] at CC
        rw [hp, if_pos rfl] at hg
        have HG2 : Hid (R = (k + 1) + runL isSmall (l.drop (k + 1))) := Lib.hid (by omega)
        clear hp hg hge hgN HG
        go_wp2_with (go_at_call 59; (with_reducible refine CC.out.mono ?_); rintro e w' ⟨rfl, rfl⟩)
        go_round
        case rel => exact ⟨k + 1, by go_num, by omega, HG2.out⟩
        case measure => simp [RowKit.intOf]; omega
      | false =>
        rw [hp] at CC
        rw [hp, if_neg (by simp)] at hg
        have HF : Hid (R = k) := Lib.hid (by omega)
        clear hp hg hge hgN HG
        go_wp2_with (go_at_call 59; (with_reducible refine CC.out.mono ?_); rintro e w' ⟨rfl, rfl⟩)
        go_ret
        exact ⟨ret_int (by rw [HF.out]), rfl⟩
    · have HF : Hid (R = l.length) := by
        have hg := HG.out
        rw [List.drop_of_length_le (by omega)] at hg
        exact Lib.hid (by rw [hg]; show k + 0 = _; omega)
      clear HG
      go_wp2_with fail
      go_ret
      exact ⟨ret_int (by rw [HF.out]), rfl⟩
theorem word_any (l : List UInt8) (w : World) :
    Calls Tryz.prog 60 #[.string (bs l)] w fun e w' => e = .returned (.int .i64 (wordL l)) ∧ w = w' := by
  obtain ⟨R, hR⟩ : ∃ R, wordL l = R := ⟨_, rfl⟩
  rw [hR]
  unfold wordL at hR
  have hd : (bs l).toList = l := by rw [Lib.toList_data, bs_data]
  by_cases h1 : l = [116, 114, 117, 101]
  · rw [if_pos h1] at hR
    subst hR h1
    go_enter Tryz.func60, Tryz.ntmps60
    go_wp2_with fail
    go_ret
    exact ⟨rfl, rfl⟩
  rw [if_neg h1] at hR
  by_cases h2 : l = [102, 97, 108, 115, 101]
  · rw [if_pos h2] at hR
    subst hR h2
    go_enter Tryz.func60, Tryz.ntmps60
    go_wp2_with fail
    go_ret
    exact ⟨rfl, rfl⟩
  rw [if_neg h2] at hR
  by_cases h3 : l = [110, 117, 108, 108]
  · rw [if_pos h3] at hR
    subst hR h3
    go_enter Tryz.func60, Tryz.ntmps60
    go_wp2_with fail
    go_ret
    exact ⟨rfl, rfl⟩
  rw [if_neg h3] at hR
  subst hR
  have e1 : ((bs l).toList == [116, 114, 117, 101]) = false := by rw [hd]; simpa using h1
  have e2 : ((bs l).toList == [102, 97, 108, 115, 101]) = false := by rw [hd]; simpa using h2
  have e3 : ((bs l).toList == [110, 117, 108, 108]) = false := by rw [hd]; simpa using h3
  clear hd h1 h2 h3
  go_enter Tryz.func60, Tryz.ntmps60
  go_wp2_with fail
  go_ret
  exact ⟨rfl, rfl⟩
/-- A call of among: what holds the bytes is new. -/
def AmongE (A : ByteArray) (w : World) (e : Ending) (w' : World) : Prop := ∃ X : Nat, e = .returned (.func (.func 67) #[] #[.pointer (some ⟨X, 0, none⟩)]) ∧ w'.cell? ⟨X, 0, none⟩ = some (.string A) ∧ Below w.heap.size w w'
theorem among_new (A : ByteArray) (w : World) : Calls Tryz.prog 56 #[.string A] w (AmongE A w) :=
  (among_any A w).mono fun _ _ ⟨he, hw⟩ => ⟨_, he, by rw [hw]; exact cell_of_one (heap_alloc_new w _), by rw [hw]; exact below_alloc1 w _⟩
/-- Block X is a token. -/
def TokBox (w : World) (X : Nat) (k a b : Int) : Prop := w.heap[X]? = some (.cells #[.int .i64 k, .int .i64 a, .int .i64 b] 51 (0, 0))
abbrev TokCells (w : World) (X : Nat) (k a b : Int) : Prop := w.cell? ⟨X, 0, none⟩ = some (.int .i64 k) ∧ w.cell? ⟨X, 1, none⟩ = some (.int .i64 a) ∧ w.cell? ⟨X, 2, none⟩ = some (.int .i64 b) ∧
  w.frozen? ⟨X, 0, none⟩ = false ∧ w.frozen? ⟨X, 1, none⟩ = false ∧ w.frozen? ⟨X, 2, none⟩ = false
theorem TokBox.cells {w : World} {X : Nat} {k a b : Int} (h : TokBox w X k a b) : TokCells w X k a b :=
  ⟨cell_of_row w X 0 _ _ (0, 0) h, cell_of_row w X 1 _ _ (0, 0) h, cell_of_row w X 2 _ _ (0, 0) h, by simp [World.frozen?, show w.heap[X]? = _ from h], by simp [World.frozen?, show w.heap[X]? = _ from h], by simp [World.frozen?, show w.heap[X]? = _ from h]⟩
theorem TokBox.lt {w : World} {X : Nat} {k a b : Int} (h : TokBox w X k a b) : X < w.heap.size := cell_it h
theorem TokBox.keep {w w' : World} {X : Nat} {k a b : Int} (h : TokBox w X k a b) (hb : Below w.heap.size w w') : TokBox w' X k a b := (hb.block X h.lt).trans h
theorem TokBox.drew {w : World} {X : Nat} {k a b : Int} (h : TokBox w X k a b) : TokBox w.drew X k a b := h
/-- A token is set. -/
def putT (w : World) (X : Nat) (k a b : Int) : World := ((w.setCell ⟨X, 0, none⟩ (.int .i64 k)).setCell ⟨X, 1, none⟩ (.int .i64 a)).setCell ⟨X, 2, none⟩ (.int .i64 b)
theorem TokBox.put {w : World} {X : Nat} {k a b k2 a2 b2 : Int} (h : TokBox w X k a b) : TokBox (putT w X k2 a2 b2) X k2 a2 b2 := by
  unfold TokBox at h ⊢
  unfold putT
  simp [World.setCell, Array.getElem?_modify, h]
theorem below_putT {B : Nat} {w w' : World} {X : Nat} {k a b : Int} (h : Below B w w') (hX : B ≤ X) : Below B w (putT w' X k a b) :=
  ((h.setCell (p := ⟨X, 0, none⟩) hX _).setCell (p := ⟨X, 1, none⟩) hX _).setCell (p := ⟨X, 2, none⟩) hX _
def tokV (k a b : Int) : Value := .agg #[.int .i64 k, .int .i64 a, .int .i64 b]
theorem token_any (kd a tw : Int) (X : Nat) (w : World) (hc : w.cell? ⟨X, 0, none⟩ = some (.int .i64 a)) :
    Calls Tryz.prog 52 #[.int .i64 kd, .int .i64 tw, .pointer (some ⟨X, 0, none⟩)] w fun e w' => e = .returned (.tuple #[.agg #[.int .i64 kd, .int .i64 a, .int .i64 tw], .int .i64 0]) ∧ Below w.heap.size w w' := by
  have hX : X < w.heap.size := cell_lt hc
  go_enter Tryz.func52, Tryz.ntmps52
  go_wp2_with fail
  have hT : TokBox (w.alloc (.cells #[.int .i64 kd, .int .i64 a, .int .i64 tw] 51)) w.heap.size kd a tw := heap_alloc_new w _
  have hb := below_alloc1 w (.cells #[.int .i64 kd, .int .i64 a, .int .i64 tw] 51)
  obtain ⟨W, hW⟩ : ∃ W, w.alloc (.cells #[.int .i64 kd, .int .i64 a, .int .i64 tw] 51) = W := ⟨_, rfl⟩
  rw [hW] at hT hb ⊢
  obtain ⟨c0, c1, c2, _⟩ := hT.cells
  refine bodyPost_ret (v := .tuple #[.agg #[.int .i64 kd, .int .i64 a, .int .i64 tw], .int .i64 0]) ?_ rfl ⟨rfl, hb⟩
  simp [results, Tryz.results52, go_sem, c0, c1, c2]
theorem tfail_any (a er : Int) (w : World) :
    Calls Tryz.prog 53 #[.int .i64 a, .int .i64 er] w fun e w' => e = .returned (.tuple #[.agg #[.int .i64 0, .int .i64 a, .int .i64 a], .int .i64 er]) ∧ Below w.heap.size w w' := by
  go_enter Tryz.func53, Tryz.ntmps53
  go_wp2_with fail
  have hT : TokBox (w.alloc (.cells #[.int .i64 0, .int .i64 a, .int .i64 a] 51)) w.heap.size 0 a a := heap_alloc_new w _
  have hb := below_alloc1 w (.cells #[.int .i64 0, .int .i64 a, .int .i64 a] 51)
  obtain ⟨W, hW⟩ : ∃ W, w.alloc (.cells #[.int .i64 0, .int .i64 a, .int .i64 a] 51) = W := ⟨_, rfl⟩
  rw [hW] at hT hb ⊢
  obtain ⟨c0, c1, c2, _⟩ := hT.cells
  refine bodyPost_ret (v := .tuple #[.agg #[.int .i64 0, .int .i64 a, .int .i64 a], .int .i64 er]) ?_ rfl ⟨rfl, hb⟩
  simp [results, Tryz.results53, go_sem, c0, c1, c2]
end Go.Proofs.YtmghlaajocgoaaaGreatDoor
/-! The walk of lex.next: the token at a byte (tokR). -/
namespace Go.Proofs.YtmghlaajocgoaaaGreatDoor
set_option linter.unusedSimpArgs false
set_option linter.unusedVariables false
open Go.RowKit
open Go.Lib hiding intOf
theorem sign_index (c : UInt8) : Lib.indexByte [123, 125, 91, 93, 44, 58] c = match signI c with | some k => (k : Int) | none => -1 := by
  have : ∀ n : Fin 256, Lib.indexByte [123, 125, 91, 93, 44, 58] (UInt8.ofNat n.val) = match signI (UInt8.ofNat n.val) with | some k => (k : Int) | none => -1 := by decide +kernel
  have := this ⟨c.toNat, c.toNat_lt⟩
  simpa only [UInt8.ofNat_toNat] using this
theorem blank_index (c : UInt8) : decide (0 ≤ Lib.indexByte [32, 9, 10, 13] c) = isBlank c := by
  have : ∀ n : Fin 256, decide (0 ≤ Lib.indexByte [32, 9, 10, 13] (UInt8.ofNat n.val)) = isBlank (UInt8.ofNat n.val) := by decide +kernel
  have := this ⟨c.toNat, c.toNat_lt⟩
  simpa only [UInt8.ofNat_toNat] using this
theorem num_index (c : UInt8) : decide (0 ≤ Lib.indexByte [45, 43, 46, 48, 49, 50, 51, 52, 53, 54, 55, 56, 57, 101, 69] c) = isNumB c := by
  have : ∀ n : Fin 256, decide (0 ≤ Lib.indexByte [45, 43, 46, 48, 49, 50, 51, 52, 53, 54, 55, 56, 57, 101, 69] (UInt8.ofNat n.val)) = isNumB (UInt8.ofNat n.val) := by decide +kernel
  have := this ⟨c.toNat, c.toNat_lt⟩
  simpa only [UInt8.ofNat_toNat] using this
theorem dig_iff (c : UInt8) : isDig c = decide (48 ≤ (c.toNat : Int) ∧ (c.toNat : Int) ≤ 57) := by
  unfold isDig
  rw [Bool.eq_iff_iff]
  simp
  omega
/-- What next hands back: kind, from, to, how it is wrong. -/
def nextQ (T : Nat × Nat × Int) (a : Nat) : Int × Int × Int × Int := if T.2.2 = 0 then (T.1, a, a + T.2.1, 0) else (0, a + T.2.1, a + T.2.1, T.2.2)
def nextR (l : List UInt8) (a : Nat) : Int × Int × Int × Int := nextQ (tokR (l.drop a)) a
def NextE (r : Int × Int × Int × Int) : Ending := .returned (.tuple #[.agg #[.int .i64 r.1, .int .i64 r.2.1, .int .i64 r.2.2.1], .int .i64 r.2.2.2])
/-- What next holds: where it is asked, its result; below it nothing has turned. -/
structure NSt (w : World) (a : Int) (w' : World) : Prop where
  p : w'.heap[w.heap.size]? = some (.cells #[.int .i64 a] 3 (0, 0))
  t : TokBox w' (w.heap.size + 1) 0 0 0
  b : Below w.heap.size w w'
abbrev NCells (w : World) (a : Int) (w' : World) : Prop := w'.cell? ⟨w.heap.size, 0, none⟩ = some (.int .i64 a) ∧ w'.frozen? ⟨w.heap.size, 0, none⟩ = false ∧ TokCells w' (w.heap.size + 1) 0 0 0
theorem NSt.cells {w w' : World} {a : Int} (h : NSt w a w') : NCells w a w' := ⟨cell_of_one h.p, free_of_one h.p, h.t.cells⟩
theorem NSt.keep {w w1 w2 : World} {a : Int} (h : NSt w a w1) (hb : Below w1.heap.size w1 w2) : NSt w a w2 :=
  ⟨(hb.block _ (cell_it h.p)).trans h.p, h.t.keep hb, h.b.trans (hb.mono h.b.size)⟩
theorem NSt.drew {w w1 : World} {a : Int} (h : NSt w a w1) : NSt w a w1.drew := ⟨h.p, h.t, h.b.drew⟩
theorem NSt.start (w : World) (a : Int) : NSt w a ((w.alloc (.cells #[.int .i64 a] 3)).alloc (.cells #[.int .i64 0, .int .i64 0, .int .i64 0] 51)) := by
  refine ⟨?_, ?_, ?_⟩
  · exact (Below.heap_alloc _ _ w.heap.size (by simp)).trans (heap_alloc_new w _)
  · have := heap_alloc_new (w.alloc (.cells #[.int .i64 a] 3)) (.cells #[.int .i64 0, .int .i64 0, .int .i64 0] 51)
    rw [World.size_alloc] at this
    exact this
  · exact (below_alloc1 w _).trans ((below_alloc1 (w.alloc (.cells #[.int .i64 a] 3)) _).mono (by simp))
/-- What the drawn regions carry: where next is asked, and a result, whatever it is. -/
def NAny (w : World) (a : Int) (w' : World) : Prop := ∃ k x y, w'.heap[w.heap.size]? = some (.cells #[.int .i64 a] 3 (0, 0)) ∧ TokBox w' (w.heap.size + 1) k x y ∧ Below w.heap.size w w'
abbrev NTwo (w : World) (a : Int) (w' : World) : Prop := w'.cell? ⟨w.heap.size, 0, none⟩ = some (.int .i64 a) ∧ Hid (NAny w a w')
theorem NTwo.of {w w' : World} {a : Int} (h : NAny w a w') : NTwo w a w' := by
  obtain ⟨k, x, y, h1, h2, h3⟩ := h
  exact ⟨cell_of_one h1, Lib.hid ⟨k, x, y, h1, h2, h3⟩⟩
theorem NTwo.start {w w' : World} {a : Int} (h : NSt w a w') : NTwo w a w' := NTwo.of ⟨0, 0, 0, h.p, h.t, h.b⟩
theorem NTwo.drew {w w' : World} {a : Int} (h : NTwo w a w') : NTwo w a w'.drew := by
  obtain ⟨k, x, y, h1, h2, h3⟩ := h.2.out
  exact NTwo.of ⟨k, x, y, h1, h2, h3.drew⟩
theorem NTwo.step {w w1 w2 : World} {a : Int} (h : NTwo w a w1) (hb : Below w1.heap.size w1 w2) : NTwo w a w2 := by
  obtain ⟨k, x, y, h1, h2, h3⟩ := h.2.out
  exact NTwo.of ⟨k, x, y, (hb.block _ (cell_it h1)).trans h1, h2.keep hb, h3.trans (hb.mono h3.size)⟩
theorem NTwo.cellsE {w w1 : World} {a : Int} (h : NTwo w a w1) : ∃ k x y, TokCells w1 (w.heap.size + 1) k x y := by
  obtain ⟨k, x, y, h1, h2, h3⟩ := h.2.out
  exact ⟨k, x, y, h2.cells⟩
theorem set_far {w : World} {p : Addr} {u : Value} {g : Nat} (h : g ≠ p.block) : (w.setCell p u).heap[g]? = w.heap[g]? := Below.heap_setCell w p u g h
theorem NTwo.putG {w w1 : World} {a : Int} (h : NTwo w a w1) (k x y : Int) : (putT w1 (w.heap.size + 1) k x y).heap[w.heap.size]? = some (.cells #[.int .i64 a] 3 (0, 0)) ∧ TokBox (putT w1 (w.heap.size + 1) k x y) (w.heap.size + 1) k x y ∧ Below w.heap.size w (putT w1 (w.heap.size + 1) k x y) := by
  obtain ⟨k0, x0, y0, h1, h2, h3⟩ := h.2.out
  refine ⟨?_, h2.put, below_putT h3 (Nat.le_succ _)⟩
  unfold putT
  rw [set_far (by simp), set_far (by simp), set_far (by simp)]
  exact h1
theorem NTwo.put {w w1 : World} {a : Int} (h : NTwo w a w1) (k x y : Int) : NTwo w a (((w1.setCell ⟨w.heap.size + 1, 0, none⟩ (.int .i64 k)).setCell ⟨w.heap.size + 1, 1, none⟩ (.int .i64 x)).setCell ⟨w.heap.size + 1, 2, none⟩ (.int .i64 y)) := by
  obtain ⟨h1, h2, h3⟩ := h.putG k x y
  exact NTwo.of ⟨k, x, y, h1, h2, h3⟩
/-- The result, once it is set. -/
theorem NSt.put {w w1 : World} {a : Int} (h : NSt w a w1) (k x y : Int) : TokBox (putT w1 (w.heap.size + 1) k x y) (w.heap.size + 1) k x y ∧ Below w.heap.size w (putT w1 (w.heap.size + 1) k x y) :=
  ⟨h.t.put, below_putT h.b (Nat.le_succ _)⟩
theorem endL_at (l : List UInt8) (a : Nat) (ha : a < l.length) : endL l a = ((readL (l.drop a) 0).2.1 + a, (readL (l.drop a) 0).2.2) := by
  unfold endL
  rw [if_neg (by omega), readL_drop l a (by omega)]
theorem tokR_head {u : List UInt8} {c : UInt8} (h : u.head? = some c) : tokR u = (match signI c with
    | some k => (2 + k, 1, 0)
    | none => if isBlank c then (1, runL isBlank u, 0) else if c = 34 then (if (readL u 0).2.2 = 0 then (8, (readL u 0).2.1.toNat, 0) else (0, (readL u 0).2.1.toNat, (readL u 0).2.2)) else
      if c = 45 ∨ isDig c = true then (if (parseL (u.take (runL isNumB u))).2 = 0 then (9, runL isNumB u, 0) else (0, 0, (parseL (u.take (runL isNumB u))).2)) else
      if wordL (u.take (runL isSmall u)) = 0 then (0, 0, 2) else (wordL (u.take (runL isSmall u)), runL isSmall u, 0) : Nat × Nat × Int) := by
  cases u with
  | nil => cases h
  | cons d r =>
    obtain rfl : d = c := by simpa using h
    rfl
set_option maxRecDepth 100000 in
set_option maxHeartbeats 4000000 in
theorem next_any (l : List UInt8) (a : Nat) (w : World) (hs : l.length ≤ 1048576) (ha : a < l.length) (hV : SVar w) (hT : Tabs w) :
    Calls Tryz.prog 45 #[.string (bs l), .int .i64 a] w fun e w' => e = NextE (nextR l a) ∧ Below w.heap.size w w' := by
  have hmf : ∀ (fn : Fn) (first cap : Array Value) (w : World), (Instr.makeFunc fn first cap).run Tryz.prog w = .ok (.func fn first cap) w := fun _ _ _ _ => rfl
  have sl := bs_size l
  obtain ⟨R, hR⟩ : ∃ R, nextR l a = R := ⟨_, rfl⟩
  rw [hR]
  unfold nextR at hR
  have hex : (bs l).extract a l.length = bs (l.drop a) := bs_from l a _ rfl
  have hEnd := endL_at l a ha
  have CE0 := Lib.hid (fun w hV hT => end_any l a w (by omega) hV hT)
  obtain ⟨EE, hEE⟩ : ∃ EE, endL l a = EE := ⟨_, rfl⟩
  rw [hEE] at CE0 hEnd
  obtain ⟨ek, ee⟩ := EE
  simp only [] at CE0 hEnd
  have hsl : ∀ n, (bs l).extract a (a + n) = bs ((l.drop a).take n) := fun n => by rw [bs_extract, bs_data, Nat.add_sub_cancel_left]
  obtain ⟨u, hu⟩ : ∃ u, l.drop a = u := ⟨_, rfl⟩
  have hul : u.length = l.length - a := by rw [← hu, List.length_drop]
  have hub : u.length ≤ 1048576 := by omega
  have hua : a + u.length ≤ l.length := by omega
  have hu0 : 0 < u.length := by omega
  have su := bs_size u
  rw [hu] at hex hR hEnd
  simp only [hu] at hsl
  have h0 : 0 < (bs u).size := by omega
  obtain ⟨c, hc⟩ : ∃ c, u.head? = some c := by cases u with | nil => simp at hu0 | cons c r => exact ⟨c, rfl⟩
  have hc0 : (((bs u)[0]'h0).toNat : Int) = (c.toNat : Int) := by
    have := head_at (bs u) h0
    rw [bs_data, hc] at this
    rw [← Option.some.inj this]
  have HV := Lib.hid hV; have HT := Lib.hid hT; clear hV hT
  have CI := Lib.hid (fun w => index_in ⟨#[123, 125, 91, 93, 44, 58]⟩ c w)
  have CB := Lib.hid (fun w => index_in ⟨#[32, 9, 10, 13]⟩ c w)
  rw [show (⟨#[123, 125, 91, 93, 44, 58]⟩ : ByteArray).data.toList = [123, 125, 91, 93, 44, 58] from rfl, sign_index] at CI
  rw [show (⟨#[32, 9, 10, 13]⟩ : ByteArray).data.toList = [32, 9, 10, 13] from rfl] at CB
  have hbi := blank_index c
  obtain ⟨KB, hKB⟩ : ∃ KB, Lib.indexByte [32, 9, 10, 13] c = KB := ⟨_, rfl⟩
  rw [hKB] at CB hbi
  have hdi := dig_iff c
  have h34i : c = 34 ↔ (c.toNat : Int) = 34 := ⟨fun h => by rw [h]; rfl, fun h => UInt8.toNat_inj.1 (by show c.toNat = 34; omega)⟩
  have h45i : c = 45 ↔ (c.toNat : Int) = 45 := ⟨fun h => by rw [h]; rfl, fun h => UInt8.toNat_inj.1 (by show c.toNat = 45; omega)⟩
  rw [tokR_head hc] at hR
  have RB : Hid (∀ (X : Nat) (w : World), w.cell? ⟨X, 0, none⟩ = some (.string ⟨#[32, 9, 10, 13]⟩) → Calls Tryz.prog 55 #[.string (bs u), .func (.func 67) #[] #[.pointer (some ⟨X, 0, none⟩)]] w fun e w' => e = .returned (.int .i64 (runL isBlank u)) ∧ w = w') := Lib.hid (fun X w h => runAmong_any _ X _ isBlank blank_index w (by omega) h)
  have RN : Hid (∀ (X : Nat) (w : World), w.cell? ⟨X, 0, none⟩ = some (.string ⟨#[45, 43, 46, 48, 49, 50, 51, 52, 53, 54, 55, 56, 57, 101, 69]⟩) → Calls Tryz.prog 55 #[.string (bs u), .func (.func 67) #[] #[.pointer (some ⟨X, 0, none⟩)]] w fun e w' => e = .returned (.int .i64 (runL isNumB u)) ∧ w = w') := Lib.hid (fun X w h => runAmong_any _ X _ isNumB num_index w (by omega) h)
  have RS := Lib.hid (fun w => runSmall_any u w (by omega))
  have hrb := runL_le isBlank u
  have hrn := runL_le isNumB u
  have hrs := runL_le isSmall u
  have CW := Lib.hid (fun w => word_any (u.take (runL isSmall u)) w)
  have CP := Lib.hid (fun w => parse_any (u.take (runL isNumB u)) w (by rw [List.length_take]; omega))
  have hwc := wordL_cases (u.take (runL isSmall u))
  have ef : (bs u).extract 0 (runL isSmall u) = bs (u.take (runL isSmall u)) := by rw [bs_front, bs_data]
  have en := hsl (runL isNumB u)
  obtain ⟨nb, hnb⟩ : ∃ x, runL isBlank u = x := ⟨_, rfl⟩
  obtain ⟨nn, hnn⟩ : ∃ x, runL isNumB u = x := ⟨_, rfl⟩
  obtain ⟨ns, hns⟩ : ∃ x, runL isSmall u = x := ⟨_, rfl⟩
  rw [hnb] at RB hrb hR
  rw [hnn] at RN hrn CP hR en
  rw [hns] at RS hrs CW hR ef hwc
  obtain ⟨wd, hwd⟩ : ∃ x, wordL (u.take ns) = x := ⟨_, rfl⟩
  obtain ⟨PR, hPR⟩ : ∃ x, parseL (u.take nn) = x := ⟨_, rfl⟩
  rw [hwd] at CW hwc hR
  rw [hPR] at CP hR
  obtain ⟨n, hn⟩ : ∃ n : Int, (c.toNat : Int) = n := ⟨_, rfl⟩
  rw [hn] at CI CB hdi h34i h45i hc0
  have ha1 : (a : Int) + 1 ≤ 1048576 := by omega
  have hab : (a : Int) + (nb : Int) ≤ 1048576 := by omega
  have han : (a : Int) + (nn : Int) ≤ 1048576 := by omega
  have has : (a : Int) + (ns : Int) ≤ 1048576 := by omega
  have wab : IntKind.i64.wrap ((a : Int) + (nb : Int)) = (a : Int) + (nb : Int) := by rw [IntKind.wrap_i64]; omega
  have wan : IntKind.i64.wrap ((a : Int) + (nn : Int)) = (a : Int) + (nn : Int) := by rw [IntKind.wrap_i64]; omega
  have hrf := readL_fail u
  have HE : Hid (ek = a + (readL u 0).2.1.toNat ∧ ee = (readL u 0).2.2) := Lib.hid (by
    obtain ⟨g1, g2⟩ := Prod.mk.inj hEnd
    exact ⟨by rw [g1]; omega, g2⟩)
  have CE := CE0
  have TK := Lib.hid (fun kd tw W hc => token_any kd a tw w.heap.size W hc)
  have TF := Lib.hid (fun x er W => tfail_any x er W)
  have hek : 0 ≤ ek ∧ ek ≤ 1048576 := by have := HE.out.1; omega
  have HR := Lib.hid hR
  have HX := Lib.hid (And.intro hsl (And.intro hEnd (And.intro hwc (And.intro hdi (And.intro h34i h45i)))))
  have HA := Lib.hid (And.intro wab wan)
  have HB := Lib.hid hbi
  clear hKB hu hul hR hsl hEnd hwc hdi h34i h45i wab wan hbi hnb hnn hns hc hwd hPR hn hEE hrf CE0
  go_enter Tryz.func45, Tryz.ntmps45
  go_wp2_with fail
  have HN := Lib.hid (NSt.start w a)
  obtain ⟨W0, hW0⟩ : ∃ W, ((w.alloc (.cells #[.int .i64 a] 3)).alloc (.cells #[.int .i64 0, .int .i64 0, .int .i64 0] 51)) = W := ⟨_, rfl⟩
  rw [hW0] at HN ⊢
  clear hW0
  cases hsg : signI c with
  | some k =>
    have hk5 := signI_cases c k hsg
    have HF : Hid (((2 : Int) + (k : Int), (a : Int), (a : Int) + 1, (0 : Int)) = R) := Lib.hid (by
      have := HR.out
      rw [hsg] at this
      rw [← this]; unfold nextQ; simp)
    rw [hsg] at CI
    clear hsg HR HX HB HE
    obtain ⟨p0, q0, t0, t1, t2, f0, f1, f2⟩ := HN.out.cells
    with_reducible refine (CI.out _).mono ?_
    rintro e w' ⟨rfl, rfl⟩
    go_wp2_with fail
    clear t0 t1 t2 f0 f1 f2 q0
    with_reducible refine (TK.out _ _ _ p0).mono ?_
    rintro e w3 ⟨rfl, hb⟩
    have HN := Lib.hid (HN.out.keep hb)
    clear p0 hb
    obtain ⟨p0, q0, t0, t1, t2, f0, f1, f2⟩ := HN.out.cells
    go_wp2_with fail
    have HP := Lib.hid (HN.out.put (2 + (k : Int)) ((a : Int)) ((a : Int) + 1))
    obtain ⟨WF, hWF⟩ : ∃ W, putT w3 (w.heap.size + 1) (2 + (k : Int)) ((a : Int)) ((a : Int) + 1) = W := ⟨_, rfl⟩
    rw [hWF] at HP
    dsimp only [putT] at hWF
    rw [hWF]
    clear hWF p0 q0 t0 t1 t2 f0 f1 f2
    obtain ⟨c0, c1, c2, _⟩ := HP.out.1.cells
    refine bodyPost_ret (v := .tuple #[.agg #[.int .i64 (2 + (k : Int)), .int .i64 ((a : Int)), .int .i64 ((a : Int) + 1)], .int .i64 0]) ?_ rfl ⟨by rw [← HF.out]; rfl, HP.out.2⟩
    simp [results, Tryz.results45, go_sem, c0, c1, c2]
  | none =>
    have HR2 : Hid (nextQ (if isBlank c = true then (1, nb, 0) else if c = 34 then (if (readL u 0).2.2 = 0 then (8, (readL u 0).2.1.toNat, 0) else (0, (readL u 0).2.1.toNat, (readL u 0).2.2)) else
        if c = 45 ∨ isDig c = true then (if PR.2 = 0 then (9, nn, 0) else (0, 0, PR.2)) else if wd = 0 then (0, 0, 2) else (wd, ns, 0)) a = R) := Lib.hid (by
      have := HR.out
      rw [hsg] at this
      exact this)
    rw [hsg] at CI
    clear hsg HR
    obtain ⟨p0, q0, t0, t1, t2, f0, f1, f2⟩ := HN.out.cells
    with_reducible refine (CI.out _).mono ?_
    rintro e w' ⟨rfl, rfl⟩
    go_wp2_with fail
    with_reducible refine (CB.out _).mono ?_
    rintro e w' ⟨rfl, rfl⟩
    by_cases hbl : isBlank c = true
    · have HF : Hid (((1 : Int), (a : Int), (a : Int) + (nb : Int), (0 : Int)) = R) := Lib.hid (by
        have := HR2.out
        rw [if_pos hbl] at this
        rw [← this]; unfold nextQ; simp)
      have dKB : decide (0 ≤ KB) = true := by rw [HB.out]; exact hbl
      have wab := HA.out.1
      clear hbl HR2 HX HB HE HA
      clear p0 q0 t0 t1 t2 f0 f1 f2
      have hS : NTwo w a W0 := NTwo.start HN.out
      go_upto_region 9 with fail
      go_region_held3 (fun w' => NTwo w a w') ((first | exact NTwo.drew (by assumption) | exact NTwo.step (by assumption) (by assumption) | exact NTwo.put (by assumption) _ _ _ | assumption))
        (first
          | (go_at_call 56; (with_reducible refine (among_new _ _).mono ?_); rintro e w1 ⟨X, rfl, hx, hb1⟩)
          | (go_at_call 55; (with_reducible refine (RB.out _ _ (by exact hx)).mono ?_); rintro e w2 ⟨rfl, rfl⟩)
          | (go_at_call 52; (with_reducible refine (TK.out _ _ _ ((by assumption : NTwo w a _).1)).mono ?_); rintro e w3 ⟨rfl, hb3⟩; have hn3 : NTwo w a w3 := NTwo.step (by assumption) hb3; obtain ⟨k3, x3, y3, t0, t1, t2, f0, f1, f2⟩ := hn3.cellsE))
      have HP := Lib.hid (hn3.putG (1) ((a : Int)) ((a : Int) + (nb : Int)))
      obtain ⟨WF, hWF⟩ : ∃ W, putT w3 (w.heap.size + 1) (1) ((a : Int)) ((a : Int) + (nb : Int)) = W := ⟨_, rfl⟩
      rw [hWF] at HP
      dsimp only [putT] at hWF
      rw [hWF]
      clear hWF
      clear hx hb1 hb3 hn3 t0 t1 t2 f0 f1 f2
      obtain ⟨c0, c1, c2, _⟩ := HP.out.2.1.cells
      go_wp2_with fail
      refine bodyPost_ret (v := .tuple #[.agg #[.int .i64 (1), .int .i64 ((a : Int)), .int .i64 ((a : Int) + (nb : Int))], .int .i64 0]) ?_ rfl ⟨by rw [← HF.out]; rfl, HP.out.2.2⟩
      simp [results, Tryz.results45, go_sem, c0, c1, c2]
    rw [if_neg hbl] at HR2
    have dKB : decide (0 ≤ KB) = false := by rw [HB.out]; simpa using hbl
    clear HB hbl RB
    by_cases h34 : c = 34
    · have hn34 := HX.out.2.2.2.2.1.1 h34
      rw [if_pos h34] at HR2
      subst hn34
      by_cases he0 : ee = 0
      · have HF : Hid (((8 : Int), (a : Int), ek, (0 : Int)) = R) := Lib.hid (by
          have := HR2.out
          rw [if_pos (by rw [← HE.out.2]; exact he0)] at this
          rw [← this, HE.out.1]; unfold nextQ; simp)
        subst he0
        clear HR2 HX HE HA h34
        go_wp2_with fail
        with_reducible refine (CE.out _ (HV.out.keep HN.out.b) (HT.out.keep HN.out.b)).mono ?_
        rintro e w2 ⟨rfl, hb⟩
        have HN := Lib.hid (HN.out.keep hb)
        clear p0 q0 t0 t1 t2 f0 f1 f2 hb
        obtain ⟨p0, q0, t0, t1, t2, f0, f1, f2⟩ := HN.out.cells
        go_wp2_with fail
        clear t0 t1 t2 f0 f1 f2 q0
        with_reducible refine (TK.out _ _ _ p0).mono ?_
        rintro e w3 ⟨rfl, hb⟩
        have HN := Lib.hid (HN.out.keep hb)
        clear p0 hb
        obtain ⟨p0, q0, t0, t1, t2, f0, f1, f2⟩ := HN.out.cells
        go_wp2_with fail
        have HP := Lib.hid (HN.out.put (8) ((a : Int)) (ek))
        obtain ⟨WF, hWF⟩ : ∃ W, putT w3 (w.heap.size + 1) (8) ((a : Int)) (ek) = W := ⟨_, rfl⟩
        rw [hWF] at HP
        dsimp only [putT] at hWF
        rw [hWF]
        clear hWF
        clear p0 q0 t0 t1 t2 f0 f1 f2
        obtain ⟨c0, c1, c2, _⟩ := HP.out.1.cells
        refine bodyPost_ret (v := .tuple #[.agg #[.int .i64 (8), .int .i64 ((a : Int)), .int .i64 (ek)], .int .i64 0]) ?_ rfl ⟨by rw [← HF.out]; rfl, HP.out.2⟩
        simp [results, Tryz.results45, go_sem, c0, c1, c2]
      · have HF : Hid (((0 : Int), ek, ek, ee) = R) := Lib.hid (by
          have := HR2.out
          rw [if_neg (by rw [← HE.out.2]; exact he0)] at this
          rw [← this, HE.out.1]; unfold nextQ; simp only []; rw [if_neg (by rw [← HE.out.2]; exact he0), ← HE.out.2])
        have te : (ee != 0) = true := bne_iff_ne.2 he0
        clear HR2 HX HE HA h34 he0
        go_wp2_with fail
        with_reducible refine (CE.out _ (HV.out.keep HN.out.b) (HT.out.keep HN.out.b)).mono ?_
        rintro e w2 ⟨rfl, hb⟩
        have HN := Lib.hid (HN.out.keep hb)
        clear p0 q0 t0 t1 t2 f0 f1 f2 hb
        go_wp2_with fail
        with_reducible refine (TF.out _ _ _).mono ?_
        rintro e w3 ⟨rfl, hb⟩
        have HN := Lib.hid (HN.out.keep hb)
        clear hb
        obtain ⟨p0, q0, t0, t1, t2, f0, f1, f2⟩ := HN.out.cells
        go_wp2_with fail
        have HP := Lib.hid (HN.out.put (0) (ek) (ek))
        obtain ⟨WF, hWF⟩ : ∃ W, putT w3 (w.heap.size + 1) (0) (ek) (ek) = W := ⟨_, rfl⟩
        rw [hWF] at HP
        dsimp only [putT] at hWF
        rw [hWF]
        clear hWF
        clear p0 q0 t0 t1 t2 f0 f1 f2
        obtain ⟨c0, c1, c2, _⟩ := HP.out.1.cells
        refine bodyPost_ret (v := .tuple #[.agg #[.int .i64 (0), .int .i64 (ek), .int .i64 (ek)], .int .i64 ee]) ?_ rfl ⟨by rw [← HF.out]; rfl, HP.out.2⟩
        simp [results, Tryz.results45, go_sem, c0, c1, c2]
    rw [if_neg h34] at HR2
    have t34 : (n == 34) = false := beq_eq_false_iff_ne.2 (fun e => h34 (HX.out.2.2.2.2.1.2 e))
    by_cases hd : c = 45 ∨ isDig c = true
    · rw [if_pos hd] at HR2
      have hd2 : n = 45 ∨ ((n == 45) = false ∧ decide (48 ≤ n) = true ∧ decide (n ≤ 57) = true) := by
        by_cases h : n = 45
        · exact .inl h
        · right
          rcases hd with hd | hd
          · exact absurd (HX.out.2.2.2.2.2.1 hd) h
          · rw [HX.out.2.2.2.1, decide_eq_true_eq] at hd
            exact ⟨beq_eq_false_iff_ne.2 h, decide_eq_true hd.1, decide_eq_true hd.2⟩
      have wan := HA.out.2
      obtain ⟨P1, P2⟩ := PR
      clear HX HA HE hd h34
      go_upto_region 15 with fail
      go_cut [72] (fun s72 wx => s72 = .bool true ∧ Hid (NSt w a wx))
      case first =>
        rcases hd2 with rfl | ⟨d1, d2, d3⟩
        all_goals
          go_wp2_with fail
          go_meet
          exact ⟨rfl, HN⟩
      clear p0 q0 t0 t1 t2 f0 f1 f2 HN
      obtain ⟨rfl, HN⟩ := hcut
      have hS : NTwo w a wc := NTwo.start HN.out
      go_upto_region 16 with fail
      go_region_held3 (fun w' => NTwo w a w') ((first | exact NTwo.drew (by assumption) | exact NTwo.step (by assumption) (by assumption) | assumption))
        (first
          | (go_at_call 56; (with_reducible refine (among_new _ _).mono ?_); rintro e w1 ⟨X, rfl, hx, hb1⟩)
          | (go_at_call 55; (with_reducible refine (RN.out _ _ (by exact hx)).mono ?_); rintro e w2 ⟨rfl, rfl⟩))
      have hn1 : NTwo w a w1 := by assumption
      clear hx hb1 hS
      have HN1 := Lib.hid hn1
      have hna := hn1.1
      clear hn1
      have HBn : Hid (Below w.heap.size w w1) := Lib.hid (by obtain ⟨_, _, _, _, _, h3⟩ := HN1.out.2.out; exact h3)
      unfold Parsed numV at CP
      obtain ⟨g, d, e⟩ := P1
      simp only [] at CP HR2
      go_wp2_with fail
      with_reducible refine (CP.out _).mono ?_
      rintro e w2 ⟨rfl, hb2⟩
      have HN2 := Lib.hid (NTwo.step HN1.out hb2)
      clear HN1 hb2 hna
      go_upto_region 18 with fail
      have HN3 := Lib.hid (NTwo.step HN2.out (below_alloc1 w2 (.cells #[.bool g, .string (bs d), .int .i64 e] 75)))
      obtain ⟨W2, hW2⟩ : ∃ W, w2.alloc (.cells #[.bool g, .string (bs d), .int .i64 e] 75) = W := ⟨_, rfl⟩
      rw [hW2] at HN3 ⊢
      clear hW2 HN2
      have hna := HN3.out.1
      by_cases hp : P2 = 0
      · have HF : Hid (((9 : Int), (a : Int), (a : Int) + (nn : Int), (0 : Int)) = R) := Lib.hid (by
          have := HR2.out
          rw [if_pos hp] at this
          rw [← this]; unfold nextQ; simp)
        subst hp
        clear HR2
        go_wp2_with fail
        with_reducible refine (TK.out _ _ _ hna).mono ?_
        rintro e w3 ⟨rfl, hb⟩
        have hn := NTwo.step HN3.out hb
        clear hb hna
        obtain ⟨k3, x3, y3, t0, t1, t2, f0, f1, f2⟩ := hn.cellsE
        go_wp2_with fail
        have HP := Lib.hid (hn.putG (9) ((a : Int)) ((a : Int) + (nn : Int)))
        obtain ⟨WF, hWF⟩ : ∃ W, putT w3 (w.heap.size + 1) (9) ((a : Int)) ((a : Int) + (nn : Int)) = W := ⟨_, rfl⟩
        rw [hWF] at HP
        dsimp only [putT] at hWF
        rw [hWF]
        clear hWF t0 t1 t2 f0 f1 f2
        obtain ⟨c0, c1, c2, _⟩ := HP.out.2.1.cells
        refine bodyPost_ret (v := .tuple #[.agg #[.int .i64 (9), .int .i64 ((a : Int)), .int .i64 ((a : Int) + (nn : Int))], .int .i64 0]) ?_ rfl ⟨by rw [← HF.out]; rfl, HP.out.2.2⟩
        simp [results, Tryz.results45, go_sem, c0, c1, c2]
      · have HF : Hid (((0 : Int), (a : Int), (a : Int), P2) = R) := Lib.hid (by
          have := HR2.out
          rw [if_neg hp] at this
          rw [← this]; unfold nextQ; simp only []; rw [if_neg hp]; simp)
        have te : (P2 != 0) = true := bne_iff_ne.2 hp
        clear HR2 hp
        go_wp2_with fail
        with_reducible refine (TF.out _ _ _).mono ?_
        rintro e w3 ⟨rfl, hb⟩
        have hn := NTwo.step HN3.out hb
        clear hb hna
        obtain ⟨k3, x3, y3, t0, t1, t2, f0, f1, f2⟩ := hn.cellsE
        go_wp2_with fail
        have HP := Lib.hid (hn.putG (0) ((a : Int)) ((a : Int)))
        obtain ⟨WF, hWF⟩ : ∃ W, putT w3 (w.heap.size + 1) (0) ((a : Int)) ((a : Int)) = W := ⟨_, rfl⟩
        rw [hWF] at HP
        dsimp only [putT] at hWF
        rw [hWF]
        clear hWF t0 t1 t2 f0 f1 f2
        obtain ⟨c0, c1, c2, _⟩ := HP.out.2.1.cells
        refine bodyPost_ret (v := .tuple #[.agg #[.int .i64 (0), .int .i64 ((a : Int)), .int .i64 ((a : Int))], .int .i64 P2]) ?_ rfl ⟨by rw [← HF.out]; rfl, HP.out.2.2⟩
        simp [results, Tryz.results45, go_sem, c0, c1, c2]
    · rw [if_neg hd] at HR2
      have hd2 : (n == 45) = false ∧ (decide (48 ≤ n) = false ∨ (decide (48 ≤ n) = true ∧ decide (n ≤ 57) = false)) := by
        refine ⟨beq_eq_false_iff_ne.2 (fun e => hd (.inl (HX.out.2.2.2.2.2.2 e))), ?_⟩
        by_cases h : 48 ≤ n
        · right
          exact ⟨decide_eq_true h, decide_eq_false (fun h2 => hd (.inr (by rw [HX.out.2.2.2.1]; exact decide_eq_true ⟨h, h2⟩)))⟩
        · left; exact decide_eq_false h
      obtain ⟨d1, d2⟩ := hd2
      have hw12 : wd ≤ 12 := by have := HX.out.2.2.1; omega
      have wns : IntKind.i64.wrap ((a : Int) + (ns : Int)) = (a : Int) + (ns : Int) := by rw [IntKind.wrap_i64]; omega
      clear HX HA HE hd h34 CP RN
      go_upto_region 15 with fail
      go_cut [72] (fun s72 wx => s72 = .bool false ∧ Hid (NSt w a wx))
      case first =>
        rcases d2 with d2 | ⟨d2, d3⟩
        all_goals
          go_wp2_with fail
          go_meet
          exact ⟨rfl, HN⟩
      clear p0 q0 t0 t1 t2 f0 f1 f2 HN
      obtain ⟨rfl, HN⟩ := hcut
      obtain ⟨p0, q0, t0, t1, t2, f0, f1, f2⟩ := HN.out.cells
      by_cases hw0 : wd = 0
      · have HF : Hid (((0 : Int), (a : Int), (a : Int), (2 : Int)) = R) := Lib.hid (by
          have := HR2.out
          rw [if_pos hw0] at this
          rw [← this]; unfold nextQ; simp)
        subst hw0
        clear HR2
        go_wp2_with (go_at_call 55; (with_reducible refine (RS.out _).mono ?_); rintro e w' ⟨rfl, rfl⟩)
        with_reducible refine (CW.out _).mono ?_
        rintro e w' ⟨rfl, rfl⟩
        go_wp2_with fail
        with_reducible refine (TF.out _ _ _).mono ?_
        rintro e w3 ⟨rfl, hb⟩
        have hn := NTwo.step (NTwo.start HN.out) hb
        clear hb p0 q0 t0 t1 t2 f0 f1 f2
        obtain ⟨k3, x3, y3, t0, t1, t2, f0, f1, f2⟩ := hn.cellsE
        go_wp2_with fail
        have HP := Lib.hid (hn.putG (0) ((a : Int)) ((a : Int)))
        obtain ⟨WF, hWF⟩ : ∃ W, putT w3 (w.heap.size + 1) (0) ((a : Int)) ((a : Int)) = W := ⟨_, rfl⟩
        rw [hWF] at HP
        dsimp only [putT] at hWF
        rw [hWF]
        clear hWF t0 t1 t2 f0 f1 f2
        obtain ⟨c0, c1, c2, _⟩ := HP.out.2.1.cells
        refine bodyPost_ret (v := .tuple #[.agg #[.int .i64 (0), .int .i64 ((a : Int)), .int .i64 ((a : Int))], .int .i64 2]) ?_ rfl ⟨by rw [← HF.out]; rfl, HP.out.2.2⟩
        simp [results, Tryz.results45, go_sem, c0, c1, c2]
      · have HF : Hid (((wd : Int), (a : Int), (a : Int) + (ns : Int), (0 : Int)) = R) := Lib.hid (by
          have := HR2.out
          rw [if_neg hw0] at this
          rw [← this]; unfold nextQ; simp)
        have tw : ((wd : Int) != 0) = true := bne_iff_ne.2 (by omega)
        clear HR2 hw0
        go_wp2_with (go_at_call 55; (with_reducible refine (RS.out _).mono ?_); rintro e w' ⟨rfl, rfl⟩)
        with_reducible refine (CW.out _).mono ?_
        rintro e w' ⟨rfl, rfl⟩
        go_wp2_with fail
        with_reducible refine (TK.out _ _ _ p0).mono ?_
        rintro e w3 ⟨rfl, hb⟩
        have hn := NTwo.step (NTwo.start HN.out) hb
        clear hb p0 q0 t0 t1 t2 f0 f1 f2
        obtain ⟨k3, x3, y3, t0, t1, t2, f0, f1, f2⟩ := hn.cellsE
        go_wp2_with fail
        have HP := Lib.hid (hn.putG ((wd : Int)) ((a : Int)) ((a : Int) + (ns : Int)))
        obtain ⟨WF, hWF⟩ : ∃ W, putT w3 (w.heap.size + 1) ((wd : Int)) ((a : Int)) ((a : Int) + (ns : Int)) = W := ⟨_, rfl⟩
        rw [hWF] at HP
        dsimp only [putT] at hWF
        rw [hWF]
        clear hWF t0 t1 t2 f0 f1 f2
        obtain ⟨c0, c1, c2, _⟩ := HP.out.2.1.cells
        refine bodyPost_ret (v := .tuple #[.agg #[.int .i64 ((wd : Int)), .int .i64 ((a : Int)), .int .i64 ((a : Int) + (ns : Int))], .int .i64 0]) ?_ rfl ⟨by rw [← HF.out]; rfl, HP.out.2.2⟩
        simp [results, Tryz.results45, go_sem, c0, c1, c2]
end Go.Proofs.YtmghlaajocgoaaaGreatDoor

import Derived.Test.YtdegjfmjjabnnaaGreatDoorMkN
/-! The walks of mark: lines, order. -/
namespace Go.Proofs.YtdegjfmjjabnnaaGreatDoor
set_option linter.unusedSimpArgs false
set_option linter.unusedVariables false
open Go.RowKit
open Go.Lib hiding intOf

def linesV (n : Nat) : Value := .agg #[.string (bs (mark 60 n)), .string (bs (mark 124 n)), .string (bs (mark 61 n)), .string (bs (mark 62 n))]
theorem order_any (w : World) : Calls Tryz.prog 33 #[] w fun e w' => e = .returned (.agg #[.int .i64 1, .int .i64 0, .int .i64 2]) ∧ Below w.heap.size w w' := by
  go_enter Tryz.func33, Tryz.ntmps33
  go_wp2_with fail
  refine bodyPost_ret (v := .agg #[.int .i64 1, .int .i64 0, .int .i64 2]) ?_ rfl ⟨rfl, (Below.refl _ _).alloc (Nat.le_refl _) _⟩
  simp [results, Tryz.results33, go_sem]
/-- Block O is an array of four texts. -/
def Box4 (W : World) (O : Nat) (a b c d : ByteArray) : Prop := W.heap[O]? = some (.cells #[.string a, .string b, .string c, .string d] 39 (0, 0))
theorem Box4.cells {W : World} {O : Nat} {a b c d : ByteArray} (h : Box4 W O a b c d) : (W.cell? ⟨O, 0, none⟩ = some (.string a) ∧ W.cell? ⟨O, 1, none⟩ = some (.string b) ∧ W.cell? ⟨O, 2, none⟩ = some (.string c) ∧ W.cell? ⟨O, 3, none⟩ = some (.string d)) ∧
    (W.frozen? ⟨O, 0, none⟩ = false ∧ W.frozen? ⟨O, 1, none⟩ = false ∧ W.frozen? ⟨O, 2, none⟩ = false ∧ W.frozen? ⟨O, 3, none⟩ = false) :=
  ⟨⟨cell_of_row _ _ 0 _ _ (0, 0) h, cell_of_row _ _ 1 _ _ (0, 0) h, cell_of_row _ _ 2 _ _ (0, 0) h, cell_of_row _ _ 3 _ _ (0, 0) h⟩, by simp [World.frozen?, show W.heap[O]? = _ from h]⟩
theorem Box4.keep {W W' : World} {O : Nat} {a b c d : ByteArray} (h : Box4 W O a b c d) (hb : Below W.heap.size W W') : Box4 W' O a b c d := (hb.block O (cell_it h)).trans h
theorem Box4.set0 {W : World} {O : Nat} {a b c d : ByteArray} (h : Box4 W O a b c d) (x : ByteArray) : Box4 (W.setCell ⟨O, 0, none⟩ (.string x)) O x b c d := by unfold Box4 at h ⊢; simp [World.setCell, Array.getElem?_modify, h]
theorem Box4.set1 {W : World} {O : Nat} {a b c d : ByteArray} (h : Box4 W O a b c d) (x : ByteArray) : Box4 (W.setCell ⟨O, 1, none⟩ (.string x)) O a x c d := by unfold Box4 at h ⊢; simp [World.setCell, Array.getElem?_modify, h]
theorem Box4.set2 {W : World} {O : Nat} {a b c d : ByteArray} (h : Box4 W O a b c d) (x : ByteArray) : Box4 (W.setCell ⟨O, 2, none⟩ (.string x)) O a b x d := by unfold Box4 at h ⊢; simp [World.setCell, Array.getElem?_modify, h]
theorem Box4.set3 {W : World} {O : Nat} {a b c d : ByteArray} (h : Box4 W O a b c d) (x : ByteArray) : Box4 (W.setCell ⟨O, 3, none⟩ (.string x)) O a b c x := by unfold Box4 at h ⊢; simp [World.setCell, Array.getElem?_modify, h]
theorem Box4.other {W : World} {O P : Nat} {a b c d : ByteArray} (h : Box4 W O a b c d) (hne : O ≠ P) (k : Nat) (u : Value) : Box4 (W.setCell ⟨P, k, none⟩ u) O a b c d := (Below.heap_setCell W ⟨P, k, none⟩ u O hne).trans h
theorem repeat_one (c : UInt8) : ∀ n, Lib.repeatL [c] n = List.replicate n c
  | 0 => rfl
  | n + 1 => by
    rw [List.replicate_succ, ← repeat_one c n]
    rfl
theorem rep_any (c : UInt8) (A : ByteArray) (hA : A = bs [c]) (n : Nat) (w : World) (hn : n ≤ 1099511627776) :
    Calls Tryz.prog 31 #[.string A, .int .i64 n] w fun e w' => e = .returned (.string (bs (List.replicate n c))) ∧ Below w.heap.size w w' := by
  subst hA
  have := Tryz.strings_Repeat (bs [c]) n w (by omega) (by rw [bs_size]; simp; omega)
  rw [bs_data, repeat_one] at this
  exact this
/-- Between two rounds of lines. -/
def LnI (w : World) (R O : Nat) (a b c d : ByteArray) (W : World) : Prop := Box4 W O a b c d ∧ Box4 W R ⟨#[]⟩ ⟨#[]⟩ ⟨#[]⟩ ⟨#[]⟩ ∧ Below w.heap.size w W
theorem LnI.keep {w W W' : World} {R O : Nat} {a b c d : ByteArray} (h : LnI w R O a b c d W) (hb : Below W.heap.size W W') : LnI w R O a b c d W' := ⟨h.1.keep hb, h.2.1.keep hb, below_of_new h.2.2 hb⟩
set_option maxRecDepth 100000 in
set_option maxHeartbeats 8000000 in
theorem lines_any (n : Nat) (w : World) (hn : n ≤ 1099511627776) :
    Calls Tryz.prog 12 #[.int .i64 n] w fun e w' => e = .returned (linesV n) ∧ Below w.heap.size w w' := by
  have C0 := Lib.hid (fun w => rep_any 60 (({ data := #[60, 124, 61, 62] } : ByteArray).extract 0 1) (by rfl) n w hn)
  have C1 := Lib.hid (fun w => rep_any 124 (({ data := #[60, 124, 61, 62] } : ByteArray).extract 1 2) (by rfl) n w hn)
  have C2 := Lib.hid (fun w => rep_any 61 (({ data := #[60, 124, 61, 62] } : ByteArray).extract 2 3) (by rfl) n w hn)
  have C3 := Lib.hid (fun w => rep_any 62 (({ data := #[60, 124, 61, 62] } : ByteArray).extract 3 4) (by rfl) n w hn)
  have s0 : (bs (List.replicate n (60 : UInt8))).size = n := by rw [bs_size]; simp
  have s1 : (bs (List.replicate n (124 : UInt8))).size = n := by rw [bs_size]; simp
  have s2 : (bs (List.replicate n (61 : UInt8))).size = n := by rw [bs_size]; simp
  have s3 : (bs (List.replicate n (62 : UInt8))).size = n := by rw [bs_size]; simp
  have hm : ∀ c : UInt8, (⟨#[10]⟩ : ByteArray) ++ bs (List.replicate n c) ++ ⟨#[10]⟩ = bs (mark c n) := fun c => by
    rw [show (⟨#[10]⟩ : ByteArray) = bs [10] from rfl, bs_append, bs_append]; rfl
  have m0 := hm 60; have m1 := hm 124; have m2 := hm 61; have m3 := hm 62
  have hI0 : LnI w w.heap.size (w.heap.size + 1) ⟨#[]⟩ ⟨#[]⟩ ⟨#[]⟩ ⟨#[]⟩ ((w.alloc (.cells #[.string ⟨#[]⟩, .string ⟨#[]⟩, .string ⟨#[]⟩, .string ⟨#[]⟩] 39)).alloc (.cells #[.string ⟨#[]⟩, .string ⟨#[]⟩, .string ⟨#[]⟩, .string ⟨#[]⟩] 39)) := by
    refine ⟨?_, (Below.heap_alloc _ _ _ (by simp)).trans (heap_alloc_new w _), ((Below.refl _ w).alloc (Nat.le_refl _) _).alloc (by simp) _⟩
    have := heap_alloc_new (w.alloc (.cells #[.string ⟨#[]⟩, .string ⟨#[]⟩, .string ⟨#[]⟩, .string ⟨#[]⟩] 39)) (.cells #[.string ⟨#[]⟩, .string ⟨#[]⟩, .string ⟨#[]⟩, .string ⟨#[]⟩] 39)
    rw [World.size_alloc] at this
    exact this
  have HI0 := Lib.hid hI0
  clear hm hI0
  go_enter Tryz.func12, Tryz.ntmps12
  go_wp2_with fail
  refine wp_loop_rounds 5 ?_
  rw [rounds_succ]
  go_wp2_with (go_at_call 31; (with_reducible refine (C0.out _).mono ?_); rintro e w1 ⟨rfl, hb⟩; have HI0a := Lib.hid (HI0.out.keep hb); obtain ⟨⟨c0, c1, c2, c3⟩, ⟨f0, f1, f2, f3⟩⟩ := HI0a.out.1.cells; clear hb)
  have HI1 : Hid (LnI w w.heap.size (w.heap.size + 1) (bs (mark 60 n)) ⟨#[]⟩ ⟨#[]⟩ ⟨#[]⟩ (w1.setCell ⟨w.heap.size + 1, 0, none⟩ (.string (bs (mark 60 n))))) := Lib.hid ⟨HI0a.out.1.set0 _, HI0a.out.2.1.other (by omega) _ _, HI0a.out.2.2.setCell (p := ⟨w.heap.size + 1, 0, none⟩) (Nat.le_succ _) _⟩
  obtain ⟨W1, hW⟩ : ∃ W, w1.setCell ⟨w.heap.size + 1, 0, none⟩ (.string (bs (mark 60 n))) = W := ⟨_, rfl⟩
  rw [hW] at HI1 ⊢
  clear hW c0 c1 c2 c3 f0 f1 f2 f3 HI0a HI0
  rw [rounds_succ]
  go_wp2_with (go_at_call 31; (with_reducible refine (C1.out _).mono ?_); rintro e w2 ⟨rfl, hb⟩; have HI1a := Lib.hid (HI1.out.keep hb); obtain ⟨⟨c0, c1, c2, c3⟩, ⟨f0, f1, f2, f3⟩⟩ := HI1a.out.1.cells; clear hb)
  have HI2 : Hid (LnI w w.heap.size (w.heap.size + 1) (bs (mark 60 n)) (bs (mark 124 n)) ⟨#[]⟩ ⟨#[]⟩ (w2.setCell ⟨w.heap.size + 1, 1, none⟩ (.string (bs (mark 124 n))))) := Lib.hid ⟨HI1a.out.1.set1 _, HI1a.out.2.1.other (by omega) _ _, HI1a.out.2.2.setCell (p := ⟨w.heap.size + 1, 1, none⟩) (Nat.le_succ _) _⟩
  obtain ⟨W2, hW⟩ : ∃ W, w2.setCell ⟨w.heap.size + 1, 1, none⟩ (.string (bs (mark 124 n))) = W := ⟨_, rfl⟩
  rw [hW] at HI2 ⊢
  clear hW c0 c1 c2 c3 f0 f1 f2 f3 HI1a HI1
  rw [rounds_succ]
  go_wp2_with (go_at_call 31; (with_reducible refine (C2.out _).mono ?_); rintro e w3 ⟨rfl, hb⟩; have HI2a := Lib.hid (HI2.out.keep hb); obtain ⟨⟨c0, c1, c2, c3⟩, ⟨f0, f1, f2, f3⟩⟩ := HI2a.out.1.cells; clear hb)
  have HI3 : Hid (LnI w w.heap.size (w.heap.size + 1) (bs (mark 60 n)) (bs (mark 124 n)) (bs (mark 61 n)) ⟨#[]⟩ (w3.setCell ⟨w.heap.size + 1, 2, none⟩ (.string (bs (mark 61 n))))) := Lib.hid ⟨HI2a.out.1.set2 _, HI2a.out.2.1.other (by omega) _ _, HI2a.out.2.2.setCell (p := ⟨w.heap.size + 1, 2, none⟩) (Nat.le_succ _) _⟩
  obtain ⟨W3, hW⟩ : ∃ W, w3.setCell ⟨w.heap.size + 1, 2, none⟩ (.string (bs (mark 61 n))) = W := ⟨_, rfl⟩
  rw [hW] at HI3 ⊢
  clear hW c0 c1 c2 c3 f0 f1 f2 f3 HI2a HI2
  rw [rounds_succ]
  go_wp2_with (go_at_call 31; (with_reducible refine (C3.out _).mono ?_); rintro e w4 ⟨rfl, hb⟩; have HI3a := Lib.hid (HI3.out.keep hb); obtain ⟨⟨c0, c1, c2, c3⟩, ⟨f0, f1, f2, f3⟩⟩ := HI3a.out.1.cells; clear hb)
  have HI4 : Hid (LnI w w.heap.size (w.heap.size + 1) (bs (mark 60 n)) (bs (mark 124 n)) (bs (mark 61 n)) (bs (mark 62 n)) (w4.setCell ⟨w.heap.size + 1, 3, none⟩ (.string (bs (mark 62 n))))) := Lib.hid ⟨HI3a.out.1.set3 _, HI3a.out.2.1.other (by omega) _ _, HI3a.out.2.2.setCell (p := ⟨w.heap.size + 1, 3, none⟩) (Nat.le_succ _) _⟩
  obtain ⟨W4, hW⟩ : ∃ W, w4.setCell ⟨w.heap.size + 1, 3, none⟩ (.string (bs (mark 62 n))) = W := ⟨_, rfl⟩
  rw [hW] at HI4 ⊢
  clear hW c0 c1 c2 c3 f0 f1 f2 f3 HI3a HI3
  rw [rounds_succ]
  obtain ⟨⟨c0, c1, c2, c3⟩, ⟨f0, f1, f2, f3⟩⟩ := HI4.out.1.cells
  obtain ⟨⟨r0, r1, r2, r3⟩, ⟨q0, q1, q2, q3⟩⟩ := HI4.out.2.1.cells
  go_wp2_with fail
  obtain ⟨⟨y0, y1, y2, y3⟩, _⟩ := ((((HI4.out.2.1.set0 (bs (mark 60 n))).set1 (bs (mark 124 n))).set2 (bs (mark 61 n))).set3 (bs (mark 62 n))).cells
  refine bodyPost_ret (v := linesV n) ?_ rfl ⟨rfl, (((HI4.out.2.2.setCell (p := ⟨w.heap.size, 0, none⟩) (Nat.le_refl _) _).setCell (p := ⟨w.heap.size, 1, none⟩) (Nat.le_refl _) _).setCell (p := ⟨w.heap.size, 2, none⟩) (Nat.le_refl _) _).setCell (p := ⟨w.heap.size, 3, none⟩) (Nat.le_refl _) _⟩
  simp [results, Tryz.results12, go_sem, linesV, y0, y1, y2, y3]
end Go.Proofs.YtdegjfmjjabnnaaGreatDoor

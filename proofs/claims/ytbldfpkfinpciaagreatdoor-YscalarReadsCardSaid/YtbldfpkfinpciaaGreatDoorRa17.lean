import Derived.Test.YtbldfpkfinpciaaGreatDoorRa14
namespace Go.Proofs.YtbldfpkfinpciaaGreatDoor
set_option linter.unusedSimpArgs false
set_option linter.unusedVariables false
open Go.RowKit
structure EbT (T : TypeId) (n : Nat) : Prop where
 lies : liesAt Tryz.prog Tryz.prog.depth T (n / Tryz.prog.cellsOf T) 0 116 1 = true
 ne : T ≠ 5
def EB (T : TypeId) (ext : List Value) (B b : Nat) (p : Value) (l : List UInt8) (w : World) : Prop :=
 B ≤ b ∧ ∃ v, w.heap[b]? = some (.cells (p :: v :: ext).toArray T (0, 0)) ∧ w.ownsRowF B 5 1 v l.length (Lib.byteCells l) ∧ v.ownBlock ≠ some b
def EbN (T : TypeId) (ext : List Value) (B b : Nat) (l : List UInt8) (w : World) : Prop := EB T ext B b (.pointer none) l w ∨ EB T ext B b (.pointer (some ⟨b, 0, none⟩)) l w
section
variable {T : TypeId} {ext : List Value} {B b : Nat} {p : Value} {l : List UInt8} {w w' : World}
theorem EB.cell0 (h : EB T ext B b p l w) : w.cell? ⟨b, 0, none⟩ = some p := by
 obtain ⟨_, v, hb, _⟩ := h
 simp [World.cell?, hb]
theorem EB.shape (h : EB T ext B b p l w) : w.shape? b = some (T, ext.length + 2) := by
 obtain ⟨_, v, hb, _⟩ := h
 simp [World.shape?, hb]
theorem EB.lt (h : EB T ext B b p l w) : b < w.heap.size := by
 obtain ⟨_, v, hb, _⟩ := h
 exact cell_it hb
theorem EB.frozen0 (h : EB T ext B b p l w) : w.frozen? ⟨b, 0, none⟩ = false := by
 obtain ⟨_, v, hb, _⟩ := h
 simp [World.frozen?, hb]
theorem EB.used (h : EB T ext B b p l w) (q : Value) : EB T ext B b q l (w.setCell ⟨b, 0, none⟩ q) := by
 obtain ⟨hB, v, hb, hown, hne⟩ := h
 refine ⟨hB, v, ?_, ?_, hne⟩
 ·simp [World.setCell, Array.getElem?_modify, hb]
 ·refine hown.kept (row := some b) ⟨rfl, rfl, rfl, by simp [World.setCell], fun k _ hk => Below.heap_setCell _ _ _ _ (fun e => hk (by simp [e]))⟩ ?_
  exact Or.inr hne
theorem EB.put {v v' : Value} {l' : List UInt8} (hB : B ≤ b) (hb : w.heap[b]? = some (.cells (p :: v :: ext).toArray T (0, 0))) (hown : w.ownsRowF B 5 1 v' l'.length (Lib.byteCells l')) (hT : T ≠ 5) :
  EB T ext B b p l' (w.setCell ⟨b, 1, none⟩ v') := by
 have hne := Lib.ownBlock_neF hown hb hT
 refine ⟨hB, v', ?_, ?_, hne⟩
 ·simp [World.setCell, Array.getElem?_modify, hb]
 ·exact hown.kept (row := some b) ⟨rfl, rfl, rfl, by simp [World.setCell], fun k _ hk => Below.heap_setCell _ _ _ _ (fun e => hk (by simp [e]))⟩ (Or.inr hne)
theorem EB.keep (h : EB T ext B b p l w) (hb : Below w.heap.size w w') : EB T ext B b p l w' := by
 have hlt := h.lt
 obtain ⟨hB, v, hbk, hown, hne⟩ := h
 refine ⟨hB, v, (hb.block b hlt).trans hbk, ?_, hne⟩
 refine hown.kept (row := none) ⟨hb.os, hb.tape, hb.output, hb.size, fun k hk _ => hb.block k hk⟩ ?_
 cases hv : v.ownBlock <;> simp
theorem EbN.keep (h : EbN T ext B b l w) (hb : Below w.heap.size w w') : EbN T ext B b l w' := h.elim (fun h => .inl (h.keep hb)) (fun h => .inr (h.keep hb))
theorem EbN.lt (h : EbN T ext B b l w) : b < w.heap.size := h.elim (fun h => h.lt) (fun h => h.lt)
theorem EbN.le (h : EbN T ext B b l w) : B ≤ b := h.elim (fun h => h.1) (fun h => h.1)
theorem EbN.new (w : World) (T : TypeId) (ext : List Value) : EbN T ext w.heap.size w.heap.size [] (w.alloc (.cells (.pointer none :: .slice none 0 0 :: ext).toArray T)) :=
 .inl ⟨Nat.le_refl _, _, heap_alloc_new w _, World.ownsRowF_nil _ _ _ _, by simp [Value.ownBlock]⟩
end
abbrev EbW (T : TypeId) (ext : List Value) (B b : Nat) (l : List UInt8) (w w' : World) : Prop := EbN T ext B b l w' ∧ Below B w w' ∧ Lib.OthersKept 5 (some b) w w'
set_option maxHeartbeats 1000000 in
set_option maxRecDepth 100000 in
theorem ebCheck_any {T : TypeId} {ext : List Value} (hT : EbT T (ext.length + 2)) (B b : Nat) (l : List UInt8) (w : World) (h : EbN T ext B b l w) :
  Calls Tryz.prog 147 #[.pointer (some ⟨b, 0, none⟩)] w fun e w' => e = .returned (.tuple #[]) ∧ EB T ext B b (.pointer (some ⟨b, 0, none⟩)) l w' ∧ Below B w w' ∧ Lib.OthersKept 5 (some b) w w' := by
 obtain ⟨j, hj, hjs⟩ := Option.map_eq_some_iff.1 (show (Tryz.prog.info? 116).map (·.size) = some 2 by kernel_rfl)
 rcases h with h | h
 ·have h0 := h.cell0
  have hfz := h.frozen0
  have hsh := h.shape
  have H := Lib.hid h
  go_enter Tryz.func147, Tryz.ntmps147
  go_wp2_with fail
  rw [Lib.run_to_unsafe w ⟨b, 0, none⟩ Tryz.underlying114 Tryz.underlying204 hj (by rw [hjs]; decide) hsh (Nat.zero_lt_succ _)]
  simp only [Result.andThen]
  rw [Oper.upon_value]
  go_wp2_with fail
  rw [run_callFunc_extern Tryz.func192 (by kernel_rfl) (by kernel_rfl) (by kernel_rfl) (e := Extern.AbiNoEscape.same) (by kernel_rfl)]
  rw [Lib.run_noEscape]
  simp only [Result.andThen]
  rw [Oper.upon_value]
  go_wp2_with fail
  rw [Lib.run_from_unsafe w ⟨b, 0, none⟩ Tryz.underlying204 Tryz.underlying114 hj hsh hT.lies]
  simp only [Result.andThen]
  rw [Oper.upon_value]
  go_wp2_with fail
  go_end0
  exact ⟨rfl, H.out.used _, (Below.refl B w).setCell (p := ⟨b, 0, none⟩) H.out.1 _, (Lib.OthersKept.refl _ _ w).setCell ⟨b, 0, none⟩ rfl _⟩
 ·have h0 := h.cell0
  have hnq := Lib.run_neq_ptr_same w ⟨b, 0, none⟩ Tryz.underlying114 hj
  have H := Lib.hid h
  go_enter Tryz.func147, Tryz.ntmps147
  go_wp2_with fail
  go_end0
  exact ⟨rfl, H.out, Below.refl B _, Lib.OthersKept.refl _ _ _⟩
set_option maxHeartbeats 2000000 in
set_option maxRecDepth 100000 in
theorem ebByte_any {T : TypeId} {ext : List Value} (hT : EbT T (ext.length + 2)) (B b : Nat) (l : List UInt8) (c : UInt8) (w : World) (h : EbN T ext B b l w) (hl : l.length ≤ 4294967296) (hBw : B ≤ w.heap.size) :
  Calls Tryz.prog 155 #[.pointer (some ⟨b, 0, none⟩), .int .u8 (c.toNat : Int)] w fun e w' => e = .returned .nilIface ∧ EbW T ext B b (l ++ [c]) w w' := by
 obtain ⟨i0, hi, hz0, hz1, hz2⟩ := info_parts (show (Tryz.prog.info? 5).map (fun i => (i.zero, i.size, i.bytes)) = some (some (.int .u8 0), 1, 1) by kernel_rfl)
 have HC := Lib.hid (ebCheck_any hT B b l w h)
 clear h
 go_enter Tryz.func155, Tryz.ntmps155
 go_wp2_with fail
 refine HC.out.mono ?_
 rintro e w1 ⟨rfl, h1, hb1, hk1⟩
 obtain ⟨hB, v, hbk, hown, hne⟩ := h1
 have c0 : w1.cell? ⟨b, 0, none⟩ = some (.pointer (some ⟨b, 0, none⟩)) := by rw [Lib.cell_of_heap hbk]; rfl
 have c1 : w1.cell? ⟨b, 1, none⟩ = some v := by rw [Lib.cell_of_heap hbk]; rfl
 go_wp2_with (at_builtin; refine wpList_append_ownF _ rfl _ _ 84 rfl B 5 i0 (.int .u8 0) 1 1 Tryz.underlying84 hi hz0 hz1 hz2 rfl (by decide) _ _ _ rfl (hown.alloc _) ⟨w1.heap.size, 0, none⟩ 1 1 [.int .u8 (c.toNat : Int)] rfl rfl ?c1 ?c2 ?c3 ?c4 ?c5 ?_)
 case c1 =>
  intro j u hj
  match j, hj with
  | 0, hj => simp at hj; subst hj; simp [Addr.add]
 case c2 => intro u hu; simp at hu; subst hu; rfl
 case c3 => unfold maxLen; omega
 case c4 => omega
 case c5 => have := hb1.size; simp; omega
 intro v' w2 hown' hgrow _
 have hlt : b < w1.heap.size := cell_it hbk
 have hb2 : w2.heap[b]? = some (.cells (.pointer (some ⟨b, 0, none⟩) :: v :: ext).toArray T (0, 0)) := by
  rw [hgrow.block b (by simp; omega) (fun e => hne e.symm), Lib.alloc_old w1 _ b hlt]
  exact hbk
 have d0 : w2.cell? ⟨b, 0, none⟩ = some (.pointer (some ⟨b, 0, none⟩)) := by rw [Lib.cell_of_heap hb2]; rfl
 have d1 : w2.cell? ⟨b, 1, none⟩ = some v := by rw [Lib.cell_of_heap hb2]; rfl
 have f1 : w2.frozen? ⟨b, 1, none⟩ = false := Lib.frozen_of_heap hb2 1
 obtain ⟨g, cap, rfl⟩ : ∃ g cap, v' = .slice (some ⟨g, 0, none⟩) (l.length + 1) cap := by
  rcases hown'.2 with ⟨_, h0⟩ | ⟨g, cap, cur, fz, hv, _⟩
  ·omega
  ·exact ⟨g, cap, hv⟩
 go_wp2_with fail
 go_ret
 refine ⟨rfl, ?_, ?_, ((hk1.alloc _).grown hgrow (Lib.ownsRowF_kind (hown.alloc _))).setCell ⟨b, 1, none⟩ rfl _⟩
 ·refine .inr (EB.put hB hb2 (l' := l ++ [c]) ?_ hT.ne)
  rw [show Lib.byteCells (l ++ [c]) = Lib.byteCells l ++ [.int .u8 (c.toNat : Int)] from by rw [Lib.byteCells_append]; rfl, List.length_append, List.length_singleton]
  exact hown'
 ·exact ((hb1.alloc (by have := hb1.size; omega) _).grown hgrow (by have := hb1.size; simp; omega) (fun k hk => (hown.lt k hk).1)).setCell (p := ⟨b, 1, none⟩) hB _
set_option maxHeartbeats 2000000 in
set_option maxRecDepth 100000 in
theorem ebStr_any {T : TypeId} {ext : List Value} (hT : EbT T (ext.length + 2)) (B b : Nat) (l s : List UInt8) (w : World) (h : EbN T ext B b l w) (hl : l.length ≤ 4294967296) (hs : s.length ≤ 4294967296) (hBw : B ≤ w.heap.size) :
  Calls Tryz.prog 91 #[.pointer (some ⟨b, 0, none⟩), .string (bs s)] w fun e w' => e = .returned (.tuple #[.int .i64 (s.length : Int), .nilIface]) ∧ EbW T ext B b (l ++ s) w w' := by
 obtain ⟨i0, hi, hz0, hz1, hz2⟩ := info_parts (show (Tryz.prog.info? 5).map (fun i => (i.zero, i.size, i.bytes)) = some (some (.int .u8 0), 1, 1) by kernel_rfl)
 have HC := Lib.hid (ebCheck_any hT B b l w h)
 have ss := bs_size s
 clear h
 go_enter Tryz.func91, Tryz.ntmps91
 go_wp2_with fail
 refine HC.out.mono ?_
 rintro e w1 ⟨rfl, h1, hb1, hk1⟩
 obtain ⟨hB, v, hbk, hown, hne⟩ := h1
 have c0 : w1.cell? ⟨b, 0, none⟩ = some (.pointer (some ⟨b, 0, none⟩)) := by rw [Lib.cell_of_heap hbk]; rfl
 have c1 : w1.cell? ⟨b, 1, none⟩ = some v := by rw [Lib.cell_of_heap hbk]; rfl
 go_wp2_with (at_builtin; refine Lib.wpList_append_own_stringF _ rfl _ _ 84 9 rfl B 5 i0 Tryz.underlying84 Tryz.underlying9 hi hz0 hz1 hz2 _ _ _ rfl hown (bs s) rfl ?c3 ?c4 ?c5 ?_)
 case c3 => rw [ss]; unfold maxLen; omega
 case c4 => rw [ss]; omega
 case c5 => have := hb1.size; omega
 intro v' w2 hown' hgrow _
 have hlt : b < w1.heap.size := cell_it hbk
 have hb2 : w2.heap[b]? = some (.cells (.pointer (some ⟨b, 0, none⟩) :: v :: ext).toArray T (0, 0)) := by
  rw [hgrow.block b hlt (fun e => hne e.symm)]
  exact hbk
 have d0 : w2.cell? ⟨b, 0, none⟩ = some (.pointer (some ⟨b, 0, none⟩)) := by rw [Lib.cell_of_heap hb2]; rfl
 have d1 : w2.cell? ⟨b, 1, none⟩ = some v := by rw [Lib.cell_of_heap hb2]; rfl
 have f1 : w2.frozen? ⟨b, 1, none⟩ = false := Lib.frozen_of_heap hb2 1
 obtain ⟨ao, n', cap, rfl⟩ : ∃ ao n' cap, v' = .slice ao n' cap := by
  rcases hown'.2 with ⟨hv, _⟩ | ⟨g, cap, cur, fz, hv, _⟩
  ·exact ⟨_, _, _, hv⟩
  ·exact ⟨_, _, _, hv⟩
 have hsc : Lib.byteCells (l ++ s) = Lib.byteCells l ++ Lib.strCells (bs s) := by
  rw [Lib.byteCells_append]
  congr 1
 go_wp2_with fail
 go_ret2
 refine ⟨rfl, ?_, ?_, (hk1.grown hgrow (Lib.ownsRowF_kind hown)).setCell ⟨b, 1, none⟩ rfl _⟩
 ·refine .inr (EB.put hB hb2 (l' := l ++ s) ?_ hT.ne)
  rw [hsc, List.length_append, ← ss]
  exact hown'
 ·exact (hb1.grown hgrow (by have := hb1.size; omega) (fun k hk => (hown.lt k hk).1)).setCell (p := ⟨b, 1, none⟩) hB _
set_option maxHeartbeats 2000000 in
set_option maxRecDepth 100000 in
theorem ebString_any {T : TypeId} {ext : List Value} (B b : Nat) (l : List UInt8) (w : World) (h : EbN T ext B b l w) (h0 : l ≠ []) :
  Calls Tryz.prog 92 #[.pointer (some ⟨b, 0, none⟩)] w fun e w' => e = .returned (.string (bs l)) ∧ Below B w w' := by
 obtain ⟨p, hB, v, hbk, hown, hne⟩ : ∃ p, EB T ext B b p l w := by
  rcases h with h | h
  ·exact ⟨_, h⟩
  ·exact ⟨_, h⟩
 have hl0 : l.length ≠ 0 := by simpa using h0
 obtain ⟨g, cap, cur, fz, rfl, hbg, hg, hfz, hnc, hcm, hcs, htake⟩ : ∃ g cap cur fz, v = .slice (some ⟨g, 0, none⟩) l.length cap ∧ B ≤ g ∧ w.heap[g]? = some (.cells cur 5 fz) ∧ fz.2 ≤ l.length * 1 ∧ l.length ≤ cap ∧ cap ≤ maxLen ∧ cur.size = cap * 1 ∧ cur.toList.take (l.length * 1) = Lib.byteCells l := by
  rcases hown.2 with ⟨_, hz⟩ | ⟨g, cap, cur, fz, hv, r⟩
  ·exact absurd hz hl0
  ·exact ⟨g, cap, cur, fz, hv, r⟩
 have c1 : w.drew.cell? ⟨b, 1, none⟩ = some (.slice (some ⟨g, 0, none⟩) l.length cap) := by
  have : w.drew.heap[b]? = some (.cells (p :: .slice (some ⟨g, 0, none⟩) l.length cap :: ext).toArray T (0, 0)) := hbk
  rw [Lib.cell_of_heap this]; rfl
 have hSD : (Builtin.unsafeSliceData_ #[84] 159 #[.slice (some ⟨g, 0, none⟩) l.length cap]).run Tryz.prog w.drew = .ok (.pointer (some ⟨g, 0, none⟩)) w.drew :=
  Lib.run_unsafeSliceData_row _ _ _ _ _ _ (by omega)
 have hUS : (Builtin.unsafeString_ #[159, 3] 9 #[.pointer (some ⟨g, 0, none⟩), .int .i64 l.length]).run Tryz.prog w.drew = .ok (.string (bs l)) (w.drew.freeze ⟨g, 0, none⟩ l.length) := by
  refine Lib.run_unsafeString_row w.drew 159 3 9 5 Tryz.underlying159 (by kernel_rfl) g cur.size (by have hg' : w.drew.heap[g]? = some (.cells cur 5 fz) := hg; simp [World.shape?, hg']) l h0 (by omega) (by unfold maxLen at hcm; omega) ?_
  intro j x hx
  have := hown.cells (g := g) rfl j (.int .u8 x.toNat) (by simp [Lib.byteCells, hx])
  exact this
 have hfr : Below B w (w.drew.freeze ⟨g, 0, none⟩ l.length) := Lib.below_freeze (Below.drew (Below.refl B w)) (p := ⟨g, 0, none⟩) hbg _
 clear hown htake hbk
 go_enter Tryz.func92, Tryz.ntmps92
 go_wp2_with fail
 go_region
 all_goals (go_wp2_with fail; go_ret; exact ⟨rfl, hfr⟩)
end Go.Proofs.YtbldfpkfinpciaaGreatDoor
namespace Go.Proofs.YtbldfpkfinpciaaGreatDoor
set_option linter.unusedSimpArgs false
set_option linter.unusedVariables false
open Go.RowKit
open Go.Lib hiding intOf
mutual
def compactL : VT → Stp
 | .mk k s ks l => if k = 1 then nullL else if k = 4 then (quoteL s).1 else if k = 5 then 91 :: (itemsL true l ++ [93]) else if k = 6 then 123 :: (membersL true l ks ++ [125]) else s
def itemsL (first : Bool) : List VT → Stp
 | [] => []
 | x :: l => (if first then [] else [44]) ++ compactL x ++ itemsL false l
def membersL (first : Bool) : List VT → List Stp → Stp
 | [], _ => []
 | x :: l, ks => (if first then [] else [44]) ++ ((quoteL (ks.headD [])).1 ++ [58] ++ compactL x) ++ membersL false l ks.tail
end
theorem itemsL_app (f : Bool) (a : List VT) (x : VT) : itemsL f (a ++ [x]) = itemsL f a ++ ((if f && a.isEmpty then [] else [44]) ++ compactL x) := by
 induction a generalizing f with
 | nil => simp [itemsL]
 | cons y a ih => rw [List.cons_append, itemsL, itemsL, ih]; simp
theorem membersL_app (f : Bool) (a : List VT) (x : VT) : ∀ (ks : List Stp) (k : Stp), ks[a.length]? = some k → membersL f (a ++ [x]) ks = membersL f a ks ++ ((if f && a.isEmpty then [] else [44]) ++ ((quoteL k).1 ++ [58] ++ compactL x)) := by
 induction a generalizing f with
 | nil =>
  intro ks k hk
  cases ks with
  | nil => simp at hk
  | cons k0 ks => simp at hk; subst hk; simp [membersL]
 | cons y a ih =>
  intro ks k hk
  cases ks with
  | nil => simp at hk
  | cons k0 ks =>
   rw [List.cons_append, membersL, membersL]
   simp only [List.tail_cons]
   rw [ih false ks k (by simpa using hk)]
   simp
def Kp (B b : Nat) (w w' : World) : Prop := Below B w w' ∧ Lib.OthersKept 5 (some b) w w'
section
variable {B b : Nat} {w w1 w2 : World}
theorem Kp.refl (B b : Nat) (w : World) : Kp B b w w := ⟨Below.refl B w, Lib.OthersKept.refl _ _ w⟩
theorem Kp.trans (h : Kp B b w w1) (h2 : Kp B b w1 w2) : Kp B b w w2 := ⟨h.1.trans h2.1, h.2.trans h2.2⟩
theorem Kp.of_below (h : Below w.heap.size w w1) (hB : B ≤ w.heap.size) : Kp B b w w1 :=
 ⟨h.mono hB, fun k o hk _ _ => (h.block k (cell_it hk)).trans hk⟩
theorem VBox.kp {X : Nat} {t : VT} {kv iv : Value} (h : VBox w X t kv iv) (hk : Kp B b w w1) (hX : X ≠ b) : VBox w1 X t kv iv :=
 hk.2 X _ h (fun e => hX (Option.some.inj e)) (fun c fz e => by injection e with _ e; exact absurd e (by decide))
end
mutual
theorem compact_len : ∀ t : VT, (compactL t).length + 4 ≤ 12 * t.bulk
 | .mk k s ks l => by
  rw [compactL, VT.bulk]
  have h1 := quoteL_len s
  have h2 := items_len true l
  have h3 := members_len true l ks
  split
  ·simp [nullL]; omega
  ·split
   ·omega
   ·split
    ·simp only [List.length_cons, List.length_append, List.length_nil]; omega
    ·split
     ·simp only [List.length_cons, List.length_append, List.length_nil]; omega
     ·omega
theorem items_len (f : Bool) : ∀ l : List VT, (itemsL f l).length ≤ 12 * bulks l
 | [] => by simp [itemsL]
 | x :: l => by
  rw [itemsL, bulks]
  have h1 := compact_len x
  have h2 := items_len false l
  simp only [List.length_append]
  split
  ·simp only [List.length_nil]; omega
  ·simp only [List.length_cons, List.length_nil]; omega
theorem members_len (f : Bool) : ∀ (l : List VT) (ks : List Stp), (membersL f l ks).length ≤ 12 * bulks l + 6 * totS ks
 | [], ks => by simp [membersL]
 | x :: l, ks => by
  rw [membersL, bulks]
  have h1 := compact_len x
  have h2 := members_len false l ks.tail
  have h3 := quoteL_len (ks.headD [])
  have h4 : totS ks = (ks.headD []).length + totS ks.tail := by cases ks <;> simp [totS]
  simp only [List.length_append, List.length_cons, List.length_nil]
  split
  ·simp only [List.length_nil]; omega
  ·simp only [List.length_cons, List.length_nil]; omega
end
theorem bulks_take {l : List VT} {i : Nat} {x : VT} (h : l[i]? = some x) : bulks (l.take i) + x.bulk ≤ bulks l := by
 have h1 := bulks_app (l.take (i + 1)) (l.drop (i + 1))
 rw [List.take_append_drop, take_one h, bulks_app, bulks, bulks] at h1
 omega
theorem totS_app (a b : List Stp) : totS (a ++ b) = totS a + totS b := by simp [totS]
theorem totS_take_le (l : List Stp) (n : Nat) : totS (l.take n) ≤ totS l := by
 have h := totS_app (l.take n) (l.drop n)
 rw [List.take_append_drop] at h
 omega
theorem totS_take {l : List Stp} {i : Nat} {x : Stp} (h : l[i]? = some x) : totS (l.take i) + x.length ≤ totS l := by
 have h1 := totS_app (l.take (i + 1)) (l.drop (i + 1))
 have h2 : totS [x] = x.length := by simp [totS]
 rw [List.take_append_drop, take_one h, totS_app, h2] at h1
 omega
def pX : List Value := [.bool false, .int .i64 0]
theorem pT : EbT 174 (pX.length + 2) := ⟨by kernel_rfl, by decide⟩
abbrev PN (B b : Nat) (l : Stp) (w : World) : Prop := EbN 174 pX B b l w
theorem EbN.ext0 {T : TypeId} {x y : Value} {B b : Nat} {l : Stp} {w : World} (h : EbN T [x, y] B b l w) : w.cell? ⟨b, 2, none⟩ = some x := by
 rcases h with ⟨_, v, hb, _⟩ | ⟨_, v, hb, _⟩ <;> simp [World.cell?, hb]
theorem pline_any (B b : Nat) (l : Stp) (lev : Int) (w : World) (h : PN B b l w) :
  Calls Tryz.prog 244 #[.pointer (some ⟨b, 0, none⟩), .int .i64 lev] w fun e w' => e = .returned (.tuple #[]) ∧ w' = w := by
 have c2 : w.cell? ⟨b, 2, none⟩ = some (.bool false) := EbN.ext0 h
 go_enter Tryz.func244, Tryz.ntmps244
 go_wp2_with fail
 go_end0
 exact ⟨rfl, rfl⟩
theorem pquoted_any (w0 : World) (hV : YVar w0) (b : Nat) (l s : Stp) (w : World) (h : PN w0.heap.size b l w) (hb0 : Below w0.heap.size w0 w) (hl : l.length ≤ 4294967296) (hs : s.length ≤ 134217728) :
  Calls Tryz.prog 200 #[.pointer (some ⟨b, 0, none⟩), .string (bs s)] w fun e w' => e = .returned (.tuple #[]) ∧ PN w0.heap.size b (l ++ (quoteL s).1) w' ∧ Kp w0.heap.size b w w' := by
 have C1 := quote_any s w (by omega) (hV.keep hb0).1.1 (hV.keep hb0).2.1
 have hq := quoteL_len s
 have hBw : w0.heap.size ≤ w.heap.size := hb0.size
 have HC2 := Lib.hid (fun (w' : World) (hb : Below w.heap.size w w') => ebStr_any pT w0.heap.size b l (quoteL s).1 w' (h.keep hb) hl (by omega) (Nat.le_trans hBw hb.size))
 unfold QuoteE at C1
 obtain ⟨Q, hQ⟩ : ∃ Q, quoteL s = Q := ⟨_, rfl⟩
 rw [hQ] at C1 HC2
 rw [hQ]
 obtain ⟨qt, qe⟩ := Q
 have HC1 := Lib.hid C1
 clear C1 hQ hq h
 simp only [] at HC1 HC2 ⊢
 go_enter Tryz.func200, Tryz.ntmps200
 go_wp2_with fail
 refine HC1.out.mono ?_
 rintro e w1 ⟨rfl, hb1⟩
 have HB1 := Lib.hid hb1
 clear hb1
 go_wp2_with fail
 refine (HC2.out _ HB1.out).mono ?_
 rintro e w2 ⟨rfl, h2, h3, h4⟩
 have H2 := Lib.hid h2
 have HK : Hid (Kp w0.heap.size b w w2) := Lib.hid ((Kp.of_below HB1.out hBw).trans ⟨h3, h4⟩)
 clear h2 h3 h4
 go_wp2_with fail
 go_end0
 exact ⟨rfl, H2.out, HK.out⟩
def PVc (w0 : World) (n : Nat) : Prop := ∀ (b : Nat) (t : VT) (kv iv : Value) (w : World) (l : Stp) (lev : Int), VD w0 n t kv iv → everyB rnodeB t = true → PN w0.heap.size b l w → Below w0.heap.size w0 w → l.length + 12 * t.bulk ≤ 1610612736 → 0 ≤ lev ∧ lev + (n : Int) ≤ 1073741824 →
 Calls Tryz.prog 160 #[.pointer (some ⟨b, 0, none⟩), vv t kv iv, .int .i64 lev] w fun e w' => e = .returned (.tuple #[]) ∧ PN w0.heap.size b (l ++ compactL t) w' ∧ Kp w0.heap.size b w w'
theorem pitem_any (w0 : World) (hV : YVar w0) (n : Nat) (IH : PVc w0 n) (b : Nat) (t : VT) (kv : Value) (p : Option Addr) (c : Nat) (i : Nat) (x : VT) (w : World) (l : Stp) (lev : Int) (hlc : t.items.length ≤ 1073741824) (hit : Items w0 n p t.items) (hx : t.items[i]? = some x) (hev : everyB rnodeB x = true) (h : PN w0.heap.size b l w) (hb0 : Below w0.heap.size w0 w) (hl : l.length + 12 * x.bulk ≤ 1610612736) (hlev : 0 ≤ lev ∧ lev + (n : Int) ≤ 1073741824) (hkv : ∃ pk nk ck, kv = .slice pk nk ck) :
  Calls Tryz.prog 202 #[.pointer (some ⟨b, 0, none⟩), vv t kv (.slice p t.items.length c), .int .i64 (i : Int), .int .i64 lev] w fun e w' => e = .returned (.tuple #[]) ∧ PN w0.heap.size b (l ++ compactL x) w' ∧ Kp w0.heap.size b w w' := by
 obtain ⟨pk, nk, ck, rfl⟩ := hkv
 have hBw : w0.heap.size ≤ w.heap.size := hb0.size
 obtain ⟨X, hX⟩ : ∃ X, w.heap.size = X := ⟨_, rfl⟩
 obtain ⟨W1, hW1⟩ : ∃ W, w.alloc (.cells #[.int .i64 t.kind, .string (bs t.text), .slice pk nk ck, .slice p t.items.length c] 36) = W := ⟨_, rfl⟩
 have HB1 : Hid (Below w.heap.size w W1) := Lib.hid (by rw [← hW1]; exact below_alloc1 _ _)
 have HXB : Hid (VBox W1 X t (.slice pk nk ck) (.slice p t.items.length c)) := Lib.hid (by rw [← hW1, ← hX]; exact VBox.new w t _ _)
 have HB01 := Lib.hid (hb0.trans (HB1.out.mono hBw))
 obtain ⟨g, o, kv', iv', rfl, hg, n0, n1, n2, n3, hvd⟩ := hit i x hx
 obtain ⟨pk2, ck2, px, cx, rfl, rfl⟩ := hvd.form
 have hil := (List.getElem?_eq_some_iff.1 hx).1
 have hi1 : (i : Int) < (t.items.length : Int) := by omega
 have hi0 : (0 : Int) ≤ (i : Int) := by omega
 have m0 : W1.cell? ⟨g, o + i * 4, none⟩ = some (.int .i64 x.kind) := by rw [HB01.out.cell (p := ⟨g, _, none⟩) hg]; exact n0
 have m1 : W1.cell? ⟨g, o + i * 4 + 1, none⟩ = some (.string (bs x.text)) := by rw [HB01.out.cell (p := ⟨g, _, none⟩) hg]; exact n1
 have m2 : W1.cell? ⟨g, o + i * 4 + 2, none⟩ = some (.slice pk2 x.keys.length ck2) := by rw [HB01.out.cell (p := ⟨g, _, none⟩) hg]; exact n2
 have m3 : W1.cell? ⟨g, o + i * 4 + 3, none⟩ = some (.slice px x.items.length cx) := by rw [HB01.out.cell (p := ⟨g, _, none⟩) hg]; exact n3
 have HC := Lib.hid (IH b x _ _ W1 l lev hvd hev (h.keep HB1.out) HB01.out hl hlev)
 unfold vv at HC ⊢
 clear hit hvd n0 n1 n2 n3 h hx hev hb0
 go_enter Tryz.func202, Tryz.ntmps202
 go_upto_region 1 with fail
 clear hW1
 obtain ⟨b0, b1, b2, b3⟩ := HXB.out.cells
 go_wp2_with fail
 refine HC.out.mono ?_
 rintro e w2 ⟨rfl, h2, h3⟩
 have H2 := Lib.hid h2
 have HK : Hid (Kp w0.heap.size b w w2) := Lib.hid ((Kp.of_below HB1.out hBw).trans h3)
 clear h2 h3 b0 b1 b2 b3 m0 m1 m2 m3
 go_wp2_with fail
 go_end0
 exact ⟨rfl, H2.out, HK.out⟩
theorem pmember_any (w0 : World) (hV : YVar w0) (n : Nat) (IH : PVc w0 n) (b : Nat) (t : VT) (kv : Value) (p : Option Addr) (c : Nat) (i : Nat) (x : VT) (k : Stp) (w : World) (l : Stp) (lev : Int) (hlc : t.items.length ≤ 1073741824) (hkl : t.keys.length ≤ 1073741824) (hks : SV w0 kv t.keys) (hk : t.keys[i]? = some k) (hkb : k.length ≤ 134217728) (hit : Items w0 n p t.items) (hx : t.items[i]? = some x) (hev : everyB rnodeB x = true) (h : PN w0.heap.size b l w) (hb0 : Below w0.heap.size w0 w) (hl : l.length + 12 * k.length + 8 + 12 * x.bulk ≤ 1610612736) (hlev : 0 ≤ lev ∧ lev + (n : Int) ≤ 1073741824) :
  Calls Tryz.prog 203 #[.pointer (some ⟨b, 0, none⟩), vv t kv (.slice p t.items.length c), .int .i64 (i : Int), .int .i64 lev] w fun e w' => e = .returned (.tuple #[]) ∧ PN w0.heap.size b (l ++ ((quoteL k).1 ++ [58] ++ compactL x)) w' ∧ Kp w0.heap.size b w w' := by
 obtain ⟨pk, ck, rfl, hck, hlies⟩ := hks
 have hBw : w0.heap.size ≤ w.heap.size := hb0.size
 obtain ⟨X, hX⟩ : ∃ X, w.heap.size = X := ⟨_, rfl⟩
 obtain ⟨W1, hW1⟩ : ∃ W, w.alloc (.cells #[.int .i64 t.kind, .string (bs t.text), .slice pk t.keys.length ck, .slice p t.items.length c] 36) = W := ⟨_, rfl⟩
 have HB1 : Hid (Below w.heap.size w W1) := Lib.hid (by rw [← hW1]; exact below_alloc1 _ _)
 have HXB : Hid (VBox W1 X t (.slice pk t.keys.length ck) (.slice p t.items.length c)) := Lib.hid (by rw [← hW1, ← hX]; exact VBox.new w t _ _)
 have HB01 := Lib.hid (hb0.trans (HB1.out.mono hBw))
 have hXb : X ≠ b := by rw [← hX]; exact Nat.ne_of_gt h.lt
 have hBX : w0.heap.size ≤ X := by omega
 have hBb := h.le
 have hqb := quoteL_len k
 obtain ⟨gk, ok, rfl, hck0⟩ := (hlies.keep HB01.out).at_ hk
 have hil := (List.getElem?_eq_some_iff.1 hx).1
 have hkil := (List.getElem?_eq_some_iff.1 hk).1
 have hi1 : (i : Int) < (t.items.length : Int) := by omega
 have hi1k : (i : Int) < (t.keys.length : Int) := by omega
 have hi0 : (0 : Int) ≤ (i : Int) := by omega
 have HIT := Lib.hid hit
 have HX := Lib.hid hx
 have HEV := Lib.hid hev
 have HQ := Lib.hid (pquoted_any w0 hV b l k W1 (h.keep HB1.out) HB01.out (by omega) hkb)
 have HIHf := Lib.hid IH
 unfold vv
 clear hit h hx hev hk hlies hb0
 go_enter Tryz.func203, Tryz.ntmps203
 go_upto_region 1 with fail
 clear hW1
 obtain ⟨b0, b1, b2, b3⟩ := HXB.out.cells
 go_wp2_with fail
 refine HQ.out.mono ?_
 rintro e w2 ⟨rfl, h2, h3⟩
 have H2 := Lib.hid h2
 have HK2 := Lib.hid h3
 have HB2 := Lib.hid (HB01.out.trans h3.1)
 clear h2 h3 b0 b1 b2 b3 hck0
 have HW2 := Lib.hid (ebByte_any pT w0.heap.size b (l ++ (quoteL k).1) 58 w2 H2.out (by rw [List.length_append]; omega) HB2.out.size)
 go_wp2_with fail
 refine HW2.out.mono ?_
 rintro e w3 ⟨rfl, h2, h3, h4⟩
 have H3 := Lib.hid h2
 have HK3 : Hid (Kp w0.heap.size b W1 w3) := Lib.hid (HK2.out.trans ⟨h3, h4⟩)
 have HB3 := Lib.hid (HB01.out.trans HK3.out.1)
 clear h2 h3 h4 HW2 HQ
 have c2 : w3.cell? ⟨b, 2, none⟩ = some (.bool false) := EbN.ext0 H3.out
 obtain ⟨b0, b1, b2, b3⟩ := (HXB.out.kp HK3.out hXb).cells
 obtain ⟨g, o, kv', iv', rfl, hg, n0, n1, n2, n3, hvd⟩ := HIT.out i x HX.out
 obtain ⟨pk2, ck2, px, cx, rfl, rfl⟩ := hvd.form
 have m0 : w3.cell? ⟨g, o + i * 4, none⟩ = some (.int .i64 x.kind) := by rw [HB3.out.cell (p := ⟨g, _, none⟩) hg]; exact n0
 have m1 : w3.cell? ⟨g, o + i * 4 + 1, none⟩ = some (.string (bs x.text)) := by rw [HB3.out.cell (p := ⟨g, _, none⟩) hg]; exact n1
 have m2 : w3.cell? ⟨g, o + i * 4 + 2, none⟩ = some (.slice pk2 x.keys.length ck2) := by rw [HB3.out.cell (p := ⟨g, _, none⟩) hg]; exact n2
 have m3 : w3.cell? ⟨g, o + i * 4 + 3, none⟩ = some (.slice px x.items.length cx) := by rw [HB3.out.cell (p := ⟨g, _, none⟩) hg]; exact n3
 have HC := Lib.hid (HIHf.out b x _ _ w3 (l ++ (quoteL k).1 ++ [58]) lev hvd HEV.out H3.out HB3.out (by simp only [List.length_append, List.length_singleton]; omega) hlev)
 unfold vv at HC
 clear hvd n0 n1 n2 n3
 go_wp2_with fail
 refine HC.out.mono ?_
 rintro e w4 ⟨rfl, h2, h3⟩
 have H4 := Lib.hid h2
 have HK : Hid (Kp w0.heap.size b w w4) := Lib.hid ((Kp.of_below HB1.out hBw).trans (HK3.out.trans h3))
 clear h2 h3 b0 b1 b2 b3 m0 m1 m2 m3 c2
 go_wp2_with fail
 go_end0
 exact ⟨rfl, by simpa using H4.out, HK.out⟩
set_option maxRecDepth 100000 in
set_option maxHeartbeats 1000000 in
theorem pitems_any (w0 : World) (hV : YVar w0) (n : Nat) (IH : PVc w0 n) (b : Nat) (t : VT) (kv : Value) (p : Option Addr) (c : Nat) (w : World) (l : Stp) (lev : Int) (hbk : t.bulk ≤ 134217728) (hks : SV w0 kv t.keys) (hit : Items w0 n p t.items) (hev : everyL rnodeB t.items = true) (h : PN w0.heap.size b l w) (hb0 : Below w0.heap.size w0 w) (hl : l.length + 12 * t.bulk ≤ 1610612736) (hlev : 0 ≤ lev ∧ lev + 1 + (n : Int) ≤ 1073741824) :
  Calls Tryz.prog 201 #[.pointer (some ⟨b, 0, none⟩), vv t kv (.slice p t.items.length c), .int .i64 lev, .string ⟨#[91, 93]⟩, .func (.func 202) #[.pointer (some ⟨b, 0, none⟩)] #[]] w fun e w' => e = .returned (.tuple #[]) ∧ PN w0.heap.size b (l ++ 91 :: (itemsL true t.items ++ [93])) w' ∧ Kp w0.heap.size b w w' := by
 have HKS := Lib.hid hks
 obtain ⟨pk, ck, rfl, hck, hlies⟩ := hks
 have hBw : w0.heap.size ≤ w.heap.size := hb0.size
 obtain ⟨X, hX⟩ : ∃ X, w.heap.size = X := ⟨_, rfl⟩
 obtain ⟨W1, hW1⟩ : ∃ W, w.alloc (.cells #[.int .i64 t.kind, .string (bs t.text), .slice pk t.keys.length ck, .slice p t.items.length c] 36) = W := ⟨_, rfl⟩
 have HB1 : Hid (Below w.heap.size w W1) := Lib.hid (by rw [← hW1]; exact below_alloc1 _ _)
 have HXB : Hid (VBox W1 X t (.slice pk t.keys.length ck) (.slice p t.items.length c)) := Lib.hid (by rw [← hW1, ← hX]; exact VBox.new w t _ _)
 have HB01 := Lib.hid (hb0.trans (HB1.out.mono hBw))
 have hXb : X ≠ b := by rw [← hX]; exact Nat.ne_of_gt h.lt
 have hBX : w0.heap.size ≤ X := by omega
 have hll : bulks t.items + totS t.keys + t.keys.length < t.bulk := by cases t; rw [VT.bulk]; simp only [VT.items, VT.keys]; omega
 have hlen := len_le_bulks t.items
 have HIT := Lib.hid hit
 have HEV := Lib.hid hev
 have H1 := Lib.hid (h.keep HB1.out)
 have HIHf := Lib.hid IH
 have HW0 : Hid (∀ w', Below W1.heap.size W1 w' → Calls Tryz.prog 155 #[.pointer (some ⟨b, 0, none⟩), .int .u8 91] w' fun e w2 => e = .returned .nilIface ∧ EbW 174 pX w0.heap.size b (l ++ [91]) w' w2) := Lib.hid (fun w' hb => ebByte_any pT w0.heap.size b l 91 w' (H1.out.keep hb) (by omega) (Nat.le_trans HB01.out.size hb.size))
 unfold vv
 clear hit h hev hlies hb0
 go_enter Tryz.func201, Tryz.ntmps201
 go_upto_region 1 with fail
 clear hW1
 go_cut [11, 12, 13, 14, 15, 16] (fun s11 s12 s13 s14 s15 s16 wx => Hid (PN w0.heap.size b (l ++ [91]) wx) ∧ Hid (Kp w0.heap.size b W1 wx))
 case first =>
  go_region_law ((go_simp; go_at_call 155; (refine (HW0.out _ (Below.refl _ _).drew).mono ?_); rintro e w3 ⟨rfl, h2, h3, h4⟩))
  all_goals
   have H3 := Lib.hid h2
   have HK3 : Hid (Kp w0.heap.size b W1 w3) := Lib.hid (Kp.trans (Kp.of_below (Below.refl _ W1).drew HB01.out.size) ⟨h3, h4⟩)
   clear h2 h3 h4
   go_wp2_with fail
   go_meet
   exact ⟨H3, HK3⟩
 obtain ⟨H2, HK2⟩ := hcut
 clear HW0
 obtain ⟨b0, b1, b2, b3⟩ := (HXB.out.kp HK2.out hXb).cells
 go_wp2_with fail
 clear b0 b1 b2 b3
 go_loopw [10, 20] (fun s10 s20 wr => ∃ i : Nat, s20 = .int .i64 (i : Int) ∧ i ≤ t.items.length ∧ Hid (PN w0.heap.size b (l ++ [91] ++ itemsL true (t.items.take i)) wr) ∧ Hid ((itemsL true (t.items.take i)).length ≤ 12 * bulks (t.items.take i)) ∧ Hid (Kp w0.heap.size b W1 wr)) (fun _ s20 _ => t.items.length - (RowKit.intOf s20).toNat)
 case atStart => exact ⟨0, rfl, Nat.zero_le _, Lib.hid (by simpa [itemsL] using H2.out), Lib.hid (by simp [itemsL]), HK2⟩
 case round =>
  obtain ⟨i, rfl, hi, HP, HL, HKr⟩ := hrel
  by_cases hil : i < t.items.length
  ·obtain ⟨x, hx⟩ : ∃ x, t.items[i]? = some x := ⟨_, List.getElem?_eq_getElem hil⟩
   have hi1 : (i : Int) < (t.items.length : Int) := by omega
   have dk : decide ((i : Int) < (t.items.length : Int)) = true := decide_eq_true hi1
   have hxm := List.mem_of_getElem? hx
   have hxb := bulk_mem hxm
   have hxe : everyB rnodeB x = true := by
    have h1 := HEV.out
    rw [everyL_eq, List.all_eq_true] at h1
    exact h1 x hxm
   have HBr := Lib.hid (HB01.out.trans HKr.out.1)
   have hlb := HL.out
   have htk : bulks (t.items.take i) + x.bulk ≤ bulks t.items := bulks_take hx
   have HX := Lib.hid hx
   have HXE := Lib.hid hxe
   obtain ⟨A, hA⟩ : ∃ A, l ++ [91] ++ itemsL true (t.items.take i) = A := ⟨_, rfl⟩
   have hAl : A.length = l.length + 1 + (itemsL true (t.items.take i)).length := by rw [← hA]; simp only [List.length_append, List.length_cons, List.length_nil]
   rw [hA] at HP
   have HPB : Hid (∀ w', Below wr.heap.size wr w' → Calls Tryz.prog 155 #[.pointer (some ⟨b, 0, none⟩), .int .u8 44] w' fun e w2 => e = .returned .nilIface ∧ EbW 174 pX w0.heap.size b (A ++ [44]) w' w2) := Lib.hid (fun w' hb => ebByte_any pT w0.heap.size b A 44 w' (HP.out.keep hb) (by omega) (Nat.le_trans HBr.out.size hb.size))
   have HA := Lib.hid hA
   clear hx hxe hA hxm
   obtain ⟨b0, b1, b2, b3⟩ := (HXB.out.kp HKr.out hXb).cells
   obtain ⟨C, hC⟩ : ∃ C : Stp, A ++ (if i = 0 then [] else [44]) = C := ⟨_, rfl⟩
   have hCl : C.length ≤ A.length + 1 := by rw [← hC]; split <;> simp
   have HC0 := Lib.hid hC
   clear hC
   go_upto_if 24 with fail
   go_cut [25, 26, 27, 28] (fun s25 s26 s27 s28 wx => Hid (PN w0.heap.size b C wx) ∧ Hid (Kp w0.heap.size b wr wx))
   case first =>
    cases i with
    | zero =>
     have hC := HC0.out
     simp only [if_true, List.append_nil] at hC
     subst hC
     go_wp2_with fail
     go_meet
     exact ⟨HP, Lib.hid (Kp.refl _ _ _)⟩
    | succ i0 =>
     have hC := HC0.out
     rw [if_neg (by omega)] at hC
     subst hC
     have d0 : decide ((0 : Int) < ((i0 + 1 : Nat) : Int)) = true := decide_eq_true (by omega)
     have d1 : decide ((0 : Int) < (i0 : Int) + 1) = true := decide_eq_true (by omega)
     go_wp2_with fail
     refine (HPB.out _ (Below.refl _ _)).mono ?_
     rintro e w3 ⟨rfl, h2, h3, h4⟩
     have H3 := Lib.hid h2
     have HK3 : Hid (Kp w0.heap.size b wr w3) := Lib.hid ⟨h3, h4⟩
     clear h2 h3 h4
     go_wp2_with fail
     go_meet
     exact ⟨H3, HK3⟩
   obtain ⟨H3, HK3⟩ := hcut
   have HKc : Hid (Kp w0.heap.size b W1 wc) := Lib.hid (HKr.out.trans HK3.out)
   have HBc := Lib.hid (HB01.out.trans HKc.out.1)
   clear b0 b1 b2 b3 HPB
   obtain ⟨b0, b1, b2, b3⟩ := (HXB.out.kp HKc.out hXb).cells
   have HLn := Lib.hid (pline_any w0.heap.size b C (lev + 1) wc H3.out)
   go_wp2_with fail
   refine HLn.out.mono ?_
   rintro e w4 ⟨rfl, rfl⟩
   have HE := Lib.hid (pitem_any w0 hV n HIHf.out b t (.slice pk t.keys.length ck) p c i x w4 C (lev + 1) (by omega) HIT.out HX.out HXE.out H3.out HBc.out (by omega) (by omega) ⟨_, _, _, rfl⟩)
   unfold vv at HE
   go_wp2_with fail
   refine HE.out.mono ?_
   rintro e w5 ⟨rfl, h2, h3⟩
   have H5 := Lib.hid h2
   have HK5 : Hid (Kp w0.heap.size b W1 w5) := Lib.hid (HKc.out.trans h3)
   clear h2 h3 b0 b1 b2 b3 HE HLn
   have hnew : l ++ [91] ++ itemsL true (t.items.take (i + 1)) = C ++ compactL x := by
    rw [take_one HX.out, itemsL_app, ← List.append_assoc, HA.out, ← HC0.out]
    by_cases h0 : i = 0
    ·subst h0; simp
    ·have : (t.items.take i).isEmpty = false := by
      cases hi0 : t.items.take i with
      | nil =>
       have := congrArg List.length hi0
       rw [List.length_take] at this
       simp only [List.length_nil] at this
       omega
      | cons _ _ => rfl
     rw [this, if_neg h0]
     simp
   have hnl : (itemsL true (t.items.take (i + 1))).length ≤ 12 * bulks (t.items.take (i + 1)) := by
    rw [take_one HX.out, itemsL_app, List.length_append, bulks_app, bulks]
    have h1 := HL.out
    have h2 := compact_len x
    have h3 : bulks ([] : List VT) = 0 := rfl
    rw [h3]
    split <;> simp only [List.length_append, List.length_cons, List.length_nil] <;> omega
   go_wp2_with fail
   go_roundw
   case rel => exact ⟨i + 1, by go_num, hil, Lib.hid (by rw [hnew]; exact H5.out), Lib.hid hnl, HK5⟩
   case measure => simp only [RowKit.intOf]; omega
  ·have dk : decide ((i : Int) < (t.items.length : Int)) = false := decide_eq_false (by omega)
   obtain rfl : i = t.items.length := by omega
   rw [List.take_length] at HP HL
   obtain ⟨A, hA⟩ : ∃ A, l ++ [91] ++ itemsL true t.items = A := ⟨_, rfl⟩
   have hAl : A.length = l.length + 1 + (itemsL true t.items).length := by rw [← hA]; simp only [List.length_append, List.length_cons, List.length_nil]
   rw [hA] at HP
   have hlb := HL.out
   have htl := totS_take_le t.keys t.items.length
   have hgoal : l ++ 91 :: (itemsL true t.items ++ [93]) = A ++ [93] := by rw [← hA]; simp
   have HG := Lib.hid hgoal
   have HBr := Lib.hid (HB01.out.trans HKr.out.1)
   have HPB : Hid (∀ w', Below wr.heap.size wr w' → Calls Tryz.prog 155 #[.pointer (some ⟨b, 0, none⟩), .int .u8 93] w' fun e w2 => e = .returned .nilIface ∧ EbW 174 pX w0.heap.size b (A ++ [93]) w' w2) := Lib.hid (fun w' hb => ebByte_any pT w0.heap.size b A 93 w' (HP.out.keep hb) (by omega) (Nat.le_trans HBr.out.size hb.size))
   clear hA hgoal
   obtain ⟨b0, b1, b2, b3⟩ := (HXB.out.kp HKr.out hXb).cells
   go_upto_if 43 with fail
   go_cut [44, 45, 46] (fun s44 s45 s46 wx => wr = wx)
   case first =>
    by_cases hz : 0 < t.items.length
    ·have dz : decide ((0 : Int) < (t.items.length : Int)) = true := decide_eq_true (by omega)
     have dz2 : decide (0 < t.items.length) = true := decide_eq_true hz
     have HLn := Lib.hid (pline_any w0.heap.size b A lev wr HP.out)
     go_wp2_with fail
     refine HLn.out.mono ?_
     rintro e w4 ⟨rfl, rfl⟩
     go_wp2_with fail
     go_meet
     exact rfl
    ·have dz : decide ((0 : Int) < (t.items.length : Int)) = false := decide_eq_false (by omega)
     have dz2 : decide (0 < t.items.length) = false := decide_eq_false hz
     go_wp2_with fail
     go_meet
     exact rfl
   obtain rfl := hcut
   go_upto_region 12 with fail
   go_region_law ((go_simp; go_at_call 155; (refine (HPB.out _ (Below.refl _ _).drew).mono ?_); rintro e w3 ⟨rfl, h2, h3, h4⟩))
   all_goals
    have H3 := Lib.hid h2
    have HK3 : Hid (Kp w0.heap.size b W1 w3) := Lib.hid (HKr.out.trans (Kp.trans (Kp.of_below (Below.refl _ _).drew HBr.out.size) ⟨h3, h4⟩))
    clear h2 h3 h4
    go_wp2_with fail
    go_end0
    exact ⟨rfl, by rw [HG.out]; exact H3.out, (Kp.of_below HB1.out hBw).trans HK3.out⟩
set_option maxRecDepth 100000 in
set_option maxHeartbeats 1000000 in
theorem pmembers_any (w0 : World) (hV : YVar w0) (n : Nat) (IH : PVc w0 n) (b : Nat) (t : VT) (kv : Value) (p : Option Addr) (c : Nat) (w : World) (l : Stp) (lev : Int) (hbk : t.bulk ≤ 134217728) (hks : SV w0 kv t.keys) (hkl : t.keys.length = t.items.length) (hit : Items w0 n p t.items) (hev : everyL rnodeB t.items = true) (h : PN w0.heap.size b l w) (hb0 : Below w0.heap.size w0 w) (hl : l.length + 12 * t.bulk ≤ 1610612736) (hlev : 0 ≤ lev ∧ lev + 1 + (n : Int) ≤ 1073741824) :
  Calls Tryz.prog 201 #[.pointer (some ⟨b, 0, none⟩), vv t kv (.slice p t.items.length c), .int .i64 lev, .string ⟨#[123, 125]⟩, .func (.func 203) #[.pointer (some ⟨b, 0, none⟩)] #[]] w fun e w' => e = .returned (.tuple #[]) ∧ PN w0.heap.size b (l ++ 123 :: (membersL true t.items t.keys ++ [125])) w' ∧ Kp w0.heap.size b w w' := by
 have HKL := Lib.hid hkl
 have hkl2 : t.keys.length ≤ 134217728 := by cases t; rw [VT.bulk] at hbk; simp only [VT.keys] at hkl ⊢; omega
 clear hkl
 have HKS := Lib.hid hks
 obtain ⟨pk, ck, rfl, hck, hlies⟩ := hks
 have hBw : w0.heap.size ≤ w.heap.size := hb0.size
 obtain ⟨X, hX⟩ : ∃ X, w.heap.size = X := ⟨_, rfl⟩
 obtain ⟨W1, hW1⟩ : ∃ W, w.alloc (.cells #[.int .i64 t.kind, .string (bs t.text), .slice pk t.keys.length ck, .slice p t.items.length c] 36) = W := ⟨_, rfl⟩
 have HB1 : Hid (Below w.heap.size w W1) := Lib.hid (by rw [← hW1]; exact below_alloc1 _ _)
 have HXB : Hid (VBox W1 X t (.slice pk t.keys.length ck) (.slice p t.items.length c)) := Lib.hid (by rw [← hW1, ← hX]; exact VBox.new w t _ _)
 have HB01 := Lib.hid (hb0.trans (HB1.out.mono hBw))
 have hXb : X ≠ b := by rw [← hX]; exact Nat.ne_of_gt h.lt
 have hBX : w0.heap.size ≤ X := by omega
 have hll : bulks t.items + totS t.keys + t.keys.length < t.bulk := by cases t; rw [VT.bulk]; simp only [VT.items, VT.keys]; omega
 have hlen := len_le_bulks t.items
 have HIT := Lib.hid hit
 have HEV := Lib.hid hev
 have H1 := Lib.hid (h.keep HB1.out)
 have HIHf := Lib.hid IH
 have HW0 : Hid (∀ w', Below W1.heap.size W1 w' → Calls Tryz.prog 155 #[.pointer (some ⟨b, 0, none⟩), .int .u8 123] w' fun e w2 => e = .returned .nilIface ∧ EbW 174 pX w0.heap.size b (l ++ [123]) w' w2) := Lib.hid (fun w' hb => ebByte_any pT w0.heap.size b l 123 w' (H1.out.keep hb) (by omega) (Nat.le_trans HB01.out.size hb.size))
 unfold vv
 clear hit h hev hlies hb0
 go_enter Tryz.func201, Tryz.ntmps201
 go_upto_region 1 with fail
 clear hW1
 go_cut [11, 12, 13, 14, 15, 16] (fun s11 s12 s13 s14 s15 s16 wx => Hid (PN w0.heap.size b (l ++ [123]) wx) ∧ Hid (Kp w0.heap.size b W1 wx))
 case first =>
  go_region_law ((go_simp; go_at_call 155; (refine (HW0.out _ (Below.refl _ _).drew).mono ?_); rintro e w3 ⟨rfl, h2, h3, h4⟩))
  all_goals
   have H3 := Lib.hid h2
   have HK3 : Hid (Kp w0.heap.size b W1 w3) := Lib.hid (Kp.trans (Kp.of_below (Below.refl _ W1).drew HB01.out.size) ⟨h3, h4⟩)
   clear h2 h3 h4
   go_wp2_with fail
   go_meet
   exact ⟨H3, HK3⟩
 obtain ⟨H2, HK2⟩ := hcut
 clear HW0
 obtain ⟨b0, b1, b2, b3⟩ := (HXB.out.kp HK2.out hXb).cells
 go_wp2_with fail
 clear b0 b1 b2 b3
 go_loopw [10, 20] (fun s10 s20 wr => ∃ i : Nat, s20 = .int .i64 (i : Int) ∧ i ≤ t.items.length ∧ Hid (PN w0.heap.size b (l ++ [123] ++ membersL true (t.items.take i) t.keys) wr) ∧ Hid ((membersL true (t.items.take i) t.keys).length ≤ 12 * bulks (t.items.take i) + 6 * totS (t.keys.take i)) ∧ Hid (Kp w0.heap.size b W1 wr)) (fun _ s20 _ => t.items.length - (RowKit.intOf s20).toNat)
 case atStart => exact ⟨0, rfl, Nat.zero_le _, Lib.hid (by simpa [membersL] using H2.out), Lib.hid (by simp [membersL]), HK2⟩
 case round =>
  obtain ⟨i, rfl, hi, HP, HL, HKr⟩ := hrel
  by_cases hil : i < t.items.length
  ·obtain ⟨x, hx⟩ : ∃ x, t.items[i]? = some x := ⟨_, List.getElem?_eq_getElem hil⟩
   have hi1 : (i : Int) < (t.items.length : Int) := by omega
   have dk : decide ((i : Int) < (t.items.length : Int)) = true := decide_eq_true hi1
   have hxm := List.mem_of_getElem? hx
   have hxb := bulk_mem hxm
   have hxe : everyB rnodeB x = true := by
    have h1 := HEV.out
    rw [everyL_eq, List.all_eq_true] at h1
    exact h1 x hxm
   have HBr := Lib.hid (HB01.out.trans HKr.out.1)
   have hlb := HL.out
   have htk : bulks (t.items.take i) + x.bulk ≤ bulks t.items := bulks_take hx
   obtain ⟨k, hk⟩ : ∃ k, t.keys[i]? = some k := ⟨_, List.getElem?_eq_getElem (by have := HKL.out; omega)⟩
   have htt : totS (t.keys.take i) + k.length ≤ totS t.keys := totS_take hk
   have hkm := totS_mem (List.mem_of_getElem? hk)
   have HKX := Lib.hid hk
   clear hk
   have HX := Lib.hid hx
   have HXE := Lib.hid hxe
   obtain ⟨A, hA⟩ : ∃ A, l ++ [123] ++ membersL true (t.items.take i) t.keys = A := ⟨_, rfl⟩
   have hAl : A.length = l.length + 1 + (membersL true (t.items.take i) t.keys).length := by rw [← hA]; simp only [List.length_append, List.length_cons, List.length_nil]
   rw [hA] at HP
   have HPB : Hid (∀ w', Below wr.heap.size wr w' → Calls Tryz.prog 155 #[.pointer (some ⟨b, 0, none⟩), .int .u8 44] w' fun e w2 => e = .returned .nilIface ∧ EbW 174 pX w0.heap.size b (A ++ [44]) w' w2) := Lib.hid (fun w' hb => ebByte_any pT w0.heap.size b A 44 w' (HP.out.keep hb) (by omega) (Nat.le_trans HBr.out.size hb.size))
   have HA := Lib.hid hA
   clear hx hxe hA hxm
   obtain ⟨b0, b1, b2, b3⟩ := (HXB.out.kp HKr.out hXb).cells
   obtain ⟨C, hC⟩ : ∃ C : Stp, A ++ (if i = 0 then [] else [44]) = C := ⟨_, rfl⟩
   have hCl : C.length ≤ A.length + 1 := by rw [← hC]; split <;> simp
   have HC0 := Lib.hid hC
   clear hC
   go_upto_if 24 with fail
   go_cut [25, 26, 27, 28] (fun s25 s26 s27 s28 wx => Hid (PN w0.heap.size b C wx) ∧ Hid (Kp w0.heap.size b wr wx))
   case first =>
    cases i with
    | zero =>
     have hC := HC0.out
     simp only [if_true, List.append_nil] at hC
     subst hC
     go_wp2_with fail
     go_meet
     exact ⟨HP, Lib.hid (Kp.refl _ _ _)⟩
    | succ i0 =>
     have hC := HC0.out
     rw [if_neg (by omega)] at hC
     subst hC
     have d0 : decide ((0 : Int) < ((i0 + 1 : Nat) : Int)) = true := decide_eq_true (by omega)
     have d1 : decide ((0 : Int) < (i0 : Int) + 1) = true := decide_eq_true (by omega)
     go_wp2_with fail
     refine (HPB.out _ (Below.refl _ _)).mono ?_
     rintro e w3 ⟨rfl, h2, h3, h4⟩
     have H3 := Lib.hid h2
     have HK3 : Hid (Kp w0.heap.size b wr w3) := Lib.hid ⟨h3, h4⟩
     clear h2 h3 h4
     go_wp2_with fail
     go_meet
     exact ⟨H3, HK3⟩
   obtain ⟨H3, HK3⟩ := hcut
   have HKc : Hid (Kp w0.heap.size b W1 wc) := Lib.hid (HKr.out.trans HK3.out)
   have HBc := Lib.hid (HB01.out.trans HKc.out.1)
   clear b0 b1 b2 b3 HPB
   obtain ⟨b0, b1, b2, b3⟩ := (HXB.out.kp HKc.out hXb).cells
   have HLn := Lib.hid (pline_any w0.heap.size b C (lev + 1) wc H3.out)
   go_wp2_with fail
   refine HLn.out.mono ?_
   rintro e w4 ⟨rfl, rfl⟩
   have HE := Lib.hid (pmember_any w0 hV n HIHf.out b t (.slice pk t.keys.length ck) p c i x k w4 C (lev + 1) (by omega) (by omega) HKS.out HKX.out (by omega) HIT.out HX.out HXE.out H3.out HBc.out (by omega) (by omega))
   unfold vv at HE
   go_wp2_with fail
   refine HE.out.mono ?_
   rintro e w5 ⟨rfl, h2, h3⟩
   have H5 := Lib.hid h2
   have HK5 : Hid (Kp w0.heap.size b W1 w5) := Lib.hid (HKc.out.trans h3)
   clear h2 h3 b0 b1 b2 b3 HE HLn
   have hnew : l ++ [123] ++ membersL true (t.items.take (i + 1)) t.keys = C ++ ((quoteL k).1 ++ [58] ++ compactL x) := by
    rw [take_one HX.out, membersL_app _ _ _ _ k (by rw [List.length_take, Nat.min_eq_left (by omega)]; exact HKX.out), ← List.append_assoc, HA.out, ← HC0.out]
    by_cases h0 : i = 0
    ·subst h0; simp
    ·have : (t.items.take i).isEmpty = false := by
      cases hi0 : t.items.take i with
      | nil =>
       have := congrArg List.length hi0
       rw [List.length_take] at this
       simp only [List.length_nil] at this
       omega
      | cons _ _ => rfl
     rw [this, if_neg h0]
     simp
   have hnl : (membersL true (t.items.take (i + 1)) t.keys).length ≤ 12 * bulks (t.items.take (i + 1)) + 6 * totS (t.keys.take (i + 1)) := by
    rw [take_one HX.out, membersL_app _ _ _ _ k (by rw [List.length_take, Nat.min_eq_left (by omega)]; exact HKX.out), List.length_append, bulks_app, bulks]
    have h1 := HL.out
    have h2 := compact_len x
    have h3 : bulks ([] : List VT) = 0 := rfl
    rw [h3]
    have ht1 : totS (t.keys.take i ++ [k]) = totS (t.keys.take i) + k.length := by rw [totS_app]; simp [totS]
    have h5 := quoteL_len k
    rw [take_one HKX.out, ht1]
    split <;> simp only [List.length_append, List.length_cons, List.length_nil] <;> omega
   go_wp2_with fail
   go_roundw
   case rel => exact ⟨i + 1, by go_num, hil, Lib.hid (by rw [hnew]; exact H5.out), Lib.hid hnl, HK5⟩
   case measure => simp only [RowKit.intOf]; omega
  ·have dk : decide ((i : Int) < (t.items.length : Int)) = false := decide_eq_false (by omega)
   obtain rfl : i = t.items.length := by omega
   rw [List.take_length] at HP HL
   obtain ⟨A, hA⟩ : ∃ A, l ++ [123] ++ membersL true t.items t.keys = A := ⟨_, rfl⟩
   have hAl : A.length = l.length + 1 + (membersL true t.items t.keys).length := by rw [← hA]; simp only [List.length_append, List.length_cons, List.length_nil]
   rw [hA] at HP
   have hlb := HL.out
   have htl := totS_take_le t.keys t.items.length
   have hgoal : l ++ 123 :: (membersL true t.items t.keys ++ [125]) = A ++ [125] := by rw [← hA]; simp
   have HG := Lib.hid hgoal
   have HBr := Lib.hid (HB01.out.trans HKr.out.1)
   have HPB : Hid (∀ w', Below wr.heap.size wr w' → Calls Tryz.prog 155 #[.pointer (some ⟨b, 0, none⟩), .int .u8 125] w' fun e w2 => e = .returned .nilIface ∧ EbW 174 pX w0.heap.size b (A ++ [125]) w' w2) := Lib.hid (fun w' hb => ebByte_any pT w0.heap.size b A 125 w' (HP.out.keep hb) (by omega) (Nat.le_trans HBr.out.size hb.size))
   clear hA hgoal
   obtain ⟨b0, b1, b2, b3⟩ := (HXB.out.kp HKr.out hXb).cells
   go_upto_if 43 with fail
   go_cut [44, 45, 46] (fun s44 s45 s46 wx => wr = wx)
   case first =>
    by_cases hz : 0 < t.items.length
    ·have dz : decide ((0 : Int) < (t.items.length : Int)) = true := decide_eq_true (by omega)
     have dz2 : decide (0 < t.items.length) = true := decide_eq_true hz
     have HLn := Lib.hid (pline_any w0.heap.size b A lev wr HP.out)
     go_wp2_with fail
     refine HLn.out.mono ?_
     rintro e w4 ⟨rfl, rfl⟩
     go_wp2_with fail
     go_meet
     exact rfl
    ·have dz : decide ((0 : Int) < (t.items.length : Int)) = false := decide_eq_false (by omega)
     have dz2 : decide (0 < t.items.length) = false := decide_eq_false hz
     go_wp2_with fail
     go_meet
     exact rfl
   obtain rfl := hcut
   go_upto_region 12 with fail
   go_region_law ((go_simp; go_at_call 155; (refine (HPB.out _ (Below.refl _ _).drew).mono ?_); rintro e w3 ⟨rfl, h2, h3, h4⟩))
   all_goals
    have H3 := Lib.hid h2
    have HK3 : Hid (Kp w0.heap.size b W1 w3) := Lib.hid (HKr.out.trans (Kp.trans (Kp.of_below (Below.refl _ _).drew HBr.out.size) ⟨h3, h4⟩))
    clear h2 h3 h4
    go_wp2_with fail
    go_end0
    exact ⟨rfl, by rw [HG.out]; exact H3.out, (Kp.of_below HB1.out hBw).trans HK3.out⟩
theorem rnode_of {t : VT} (h : everyB rnodeB t = true) : rnodeB t = true ∧ everyL rnodeB t.items = true := by
 cases t
 rw [everyB, Bool.and_eq_true] at h
 exact h
theorem rnode_keys {t : VT} (h : rnodeB t = true) (h6 : t.kind = 6) : t.keys.length = t.items.length := by
 unfold rnodeB at h
 rw [Bool.and_eq_true] at h
 have h2 := h.2
 unfold nodeB nodeF at h2
 rw [if_neg (by omega), if_pos h6, Bool.and_eq_true] at h2
 unfold keyedB at h2
 simp only [Bool.and_eq_true, decide_eq_true_eq] at h2
 exact h2.1.2
theorem compactL_eq (t : VT) : compactL t = (if t.kind = 1 then nullL else if t.kind = 4 then (quoteL t.text).1 else if t.kind = 5 then 91 :: (itemsL true t.items ++ [93]) else if t.kind = 6 then 123 :: (membersL true t.items t.keys ++ [125]) else t.text) := by cases t; rw [compactL]; rfl
set_option maxRecDepth 100000 in
set_option maxHeartbeats 1000000 in
theorem pvalue_step (w0 : World) (hV : YVar w0) (n : Nat) (IH : PVc w0 n) : PVc w0 (n + 1) := by
 intro b t kv iv w l lev hvd hev h hb0 hl hlev
 have hmf : ∀ (fn : Fn) (first cap : Array Value) (w : World), (Instr.makeFunc fn first cap).run Tryz.prog w = .ok (.func fn first cap) w := fun _ _ _ _ => rfl
 obtain ⟨m', hm, hks, p, c, rfl, hlc, hit⟩ := hvd.parts
 obtain rfl : n = m' := by omega
 have HKS := Lib.hid hks
 obtain ⟨pk, ck, rfl, hck, hlies⟩ := hks
 have hBw : w0.heap.size ≤ w.heap.size := hb0.size
 obtain ⟨X, hX⟩ : ∃ X, w.heap.size = X := ⟨_, rfl⟩
 obtain ⟨W1, hW1⟩ : ∃ W, w.alloc (.cells #[.int .i64 t.kind, .string (bs t.text), .slice pk t.keys.length ck, .slice p t.items.length c] 36) = W := ⟨_, rfl⟩
 have HB1 : Hid (Below w.heap.size w W1) := Lib.hid (by rw [← hW1]; exact below_alloc1 _ _)
 have HXB : Hid (VBox W1 X t (.slice pk t.keys.length ck) (.slice p t.items.length c)) := Lib.hid (by rw [← hW1, ← hX]; exact VBox.new w t _ _)
 have HB01 := Lib.hid (hb0.trans (HB1.out.mono hBw))
 have H1 := Lib.hid (h.keep HB1.out)
 obtain ⟨hrn, hel⟩ := rnode_of hev
 have HRN := Lib.hid hrn
 have HKW : Hid (Kp w0.heap.size b w W1) := Lib.hid (Kp.of_below HB1.out hBw)
 have hbs : t.text.length + bulks t.items + totS t.keys + t.keys.length < t.bulk := by cases t; rw [VT.bulk]; simp only [VT.items, VT.keys, VT.text]; omega
 have HIT := Lib.hid hit
 have HEL := Lib.hid hel
 have HIHf := Lib.hid IH
 rw [compactL_eq]
 unfold vv
 have HQ : Hid (∀ s : Stp, s.length ≤ t.bulk → Calls Tryz.prog 91 #[.pointer (some ⟨b, 0, none⟩), .string (bs s)] W1 fun e w' => e = .returned (.tuple #[.int .i64 (s.length : Int), .nilIface]) ∧ EbW 174 pX w0.heap.size b (l ++ s) W1 w') := Lib.hid (fun s hs => ebStr_any pT w0.heap.size b l s W1 H1.out (by omega) (by omega) HB01.out.size)
 clear hit hvd hev h hlies hrn hel hb0 hm
 by_cases k1 : t.kind = 1
 ·rw [if_pos k1]
  have d1 : (t.kind == 1) = true := by rw [k1]; rfl
  have HC : Hid (Calls Tryz.prog 91 #[.pointer (some ⟨b, 0, none⟩), .string ⟨#[110, 117, 108, 108]⟩] W1 fun e w' => e = .returned (.tuple #[.int .i64 4, .nilIface]) ∧ EbW 174 pX w0.heap.size b (l ++ nullL) W1 w') := Lib.hid (ebStr_any pT w0.heap.size b l nullL W1 H1.out (by omega) (by decide) HB01.out.size)
  clear k1
  go_enter Tryz.func160, Tryz.ntmps160
  go_upto_region 1 with fail
  clear hW1
  obtain ⟨b0, b1, b2, b3⟩ := HXB.out.cells
  go_wp2_with fail
  refine HC.out.mono ?_
  rintro e w2 ⟨rfl, h2, h3, h4⟩
  have H2 := Lib.hid h2
  have HK2 : Hid (Kp w0.heap.size b w w2) := Lib.hid (HKW.out.trans ⟨h3, h4⟩)
  clear h2 h3 h4 b0 b1 b2 b3
  go_wp2_with fail
  go_end0
  exact ⟨rfl, H2.out, HK2.out⟩
 have d1 : (t.kind == 1) = false := beq_eq_false_iff_ne.2 k1
 rw [if_neg k1]
 by_cases k4 : t.kind = 4
 ·rw [if_pos k4]
  have d4 : (t.kind == 4) = true := by rw [k4]; rfl
  have HC := Lib.hid (pquoted_any w0 hV b l t.text W1 H1.out HB01.out (by omega) (by omega))
  clear k1 k4
  go_enter Tryz.func160, Tryz.ntmps160
  go_upto_region 1 with fail
  clear hW1
  obtain ⟨b0, b1, b2, b3⟩ := HXB.out.cells
  go_wp2_with fail
  refine HC.out.mono ?_
  rintro e w2 ⟨rfl, h2, h3⟩
  have H2 := Lib.hid h2
  have HK2 : Hid (Kp w0.heap.size b w w2) := Lib.hid (HKW.out.trans h3)
  clear h2 h3 b0 b1 b2 b3
  go_wp2_with fail
  go_end0
  exact ⟨rfl, H2.out, HK2.out⟩
 have d4 : (t.kind == 4) = false := beq_eq_false_iff_ne.2 k4
 rw [if_neg k4]
 by_cases k5 : t.kind = 5
 ·rw [if_pos k5]
  have d5 : (t.kind == 5) = true := by rw [k5]; rfl
  have HC := Lib.hid (pitems_any w0 hV n HIHf.out b t (.slice pk t.keys.length ck) p c W1 l lev (by omega) HKS.out HIT.out HEL.out H1.out HB01.out hl (by omega))
  unfold vv at HC
  clear k1 k4 k5
  go_enter Tryz.func160, Tryz.ntmps160
  go_upto_region 1 with fail
  clear hW1
  obtain ⟨b0, b1, b2, b3⟩ := HXB.out.cells
  go_wp2_with fail
  refine HC.out.mono ?_
  rintro e w2 ⟨rfl, h2, h3⟩
  have H2 := Lib.hid h2
  have HK2 : Hid (Kp w0.heap.size b w w2) := Lib.hid (HKW.out.trans h3)
  clear h2 h3 b0 b1 b2 b3
  go_wp2_with fail
  go_end0
  exact ⟨rfl, H2.out, HK2.out⟩
 have d5 : (t.kind == 5) = false := beq_eq_false_iff_ne.2 k5
 rw [if_neg k5]
 by_cases k6 : t.kind = 6
 ·rw [if_pos k6]
  have d6 : (t.kind == 6) = true := by rw [k6]; rfl
  have HC := Lib.hid (pmembers_any w0 hV n HIHf.out b t (.slice pk t.keys.length ck) p c W1 l lev (by omega) HKS.out (rnode_keys HRN.out k6) HIT.out HEL.out H1.out HB01.out hl (by omega))
  unfold vv at HC
  clear k1 k4 k5 k6
  go_enter Tryz.func160, Tryz.ntmps160
  go_upto_region 1 with fail
  clear hW1
  obtain ⟨b0, b1, b2, b3⟩ := HXB.out.cells
  go_wp2_with fail
  refine HC.out.mono ?_
  rintro e w2 ⟨rfl, h2, h3⟩
  have H2 := Lib.hid h2
  have HK2 : Hid (Kp w0.heap.size b w w2) := Lib.hid (HKW.out.trans h3)
  clear h2 h3 b0 b1 b2 b3
  go_wp2_with fail
  go_end0
  exact ⟨rfl, H2.out, HK2.out⟩
 have d6 : (t.kind == 6) = false := beq_eq_false_iff_ne.2 k6
 rw [if_neg k6]
 have HC := Lib.hid (fun (w' : World) (hb : Below W1.heap.size W1 w') => ebStr_any pT w0.heap.size b l t.text w' (H1.out.keep hb) (by omega) (by omega) (Nat.le_trans HB01.out.size hb.size))
 clear k1 k4 k5 k6
 go_enter Tryz.func160, Tryz.ntmps160
 go_upto_region 1 with fail
 clear hW1
 obtain ⟨b0, b1, b2, b3⟩ := HXB.out.cells
 go_upto_region 2 with fail
 go_region_law ((go_simp; go_at_call 91; (refine (HC.out _ (Below.refl _ _).drew).mono ?_); rintro e w2 ⟨rfl, h2, h3, h4⟩))
 all_goals
  have H2 := Lib.hid h2
  have HK2 : Hid (Kp w0.heap.size b w w2) := Lib.hid (HKW.out.trans (Kp.trans (Kp.of_below (Below.refl _ _).drew HB01.out.size) ⟨h3, h4⟩))
  clear h2 h3 h4 b0 b1 b2 b3
  go_wp2_with fail
  go_end0
  exact ⟨rfl, H2.out, HK2.out⟩
theorem pvalue_any (w0 : World) (hV : YVar w0) : ∀ n, PVc w0 n
 | 0 => fun b t kv iv w l lev h => h.elim
 | n + 1 => pvalue_step w0 hV n (pvalue_any w0 hV n)
theorem VD.tight {w : World} : ∀ {n : Nat} {t : VT} {kv iv : Value}, VD w n t kv iv → VD w t.depth t kv iv
 | 0, _, _, _, h => h.elim
 | n + 1, t, kv, iv, h => by
  obtain ⟨h1, p, c, h2, h3, h4⟩ := h
  obtain ⟨k, s, ks, l⟩ := t
  rw [VT.depth]
  refine ⟨h1, p, c, h2, h3, ?_⟩
  rcases h4 with h4 | ⟨g, o, h4, h5, h6⟩
  ·exact .inl h4
  ·refine .inr ⟨g, o, h4, h5, fun j x hx => ?_⟩
   obtain ⟨kv', iv', e0, e1, e2, e3, e4⟩ := h6 j x hx
   have hd := depth_mem (List.mem_of_getElem? (show l[j]? = some x from hx))
   have := e4.tight.more (depths l - x.depth)
   rw [show x.depth + (depths l - x.depth) = depths l by omega] at this
   exact ⟨kv', iv', e0, e1, e2, e3, this⟩
theorem VD.small {w : World} {n : Nat} {t : VT} {kv iv : Value} (h : VD w n t kv iv) : ∃ m, m ≤ t.bulk ∧ VD w m t kv iv :=
 ⟨t.depth, Nat.le_trans (depth_le_size t) (size_le_bulk t), h.tight⟩
theorem dec_ne {s : Stp} (h : decB s = true) : s ≠ [] := by
 unfold decB at h
 simp only [Bool.and_eq_true, decide_eq_true_eq] at h
 have h' : parseL s = ((parseL s).1, 0) := by rw [← h.1]
 have := textL_ne (parseL_right h')
 rw [h.2] at this
 exact this
theorem compact_ne {t : VT} (h : rnodeB t = true) : compactL t ≠ [] := by
 rw [compactL_eq]
 unfold rnodeB at h
 simp only [Bool.and_eq_true, decide_eq_true_eq] at h
 obtain ⟨h7, h⟩ := h
 unfold nodeB nodeF at h
 by_cases h1 : t.kind = 1
 ·rw [if_pos h1]; decide
 by_cases h4 : t.kind = 4
 ·rw [if_neg h1, if_pos h4]
  rw [if_neg (by omega), if_neg (by omega)] at h
  split at h
  ·cases h
  ·rw [if_neg (by omega), if_neg (by omega)] at h
   unfold quoteL
   rw [if_pos h]
   simp
 by_cases h5 : t.kind = 5
 ·rw [if_neg h1, if_neg h4, if_pos h5]; simp
 by_cases h6 : t.kind = 6
 ·rw [if_neg h1, if_neg h4, if_neg h5, if_pos h6]; simp
 rw [if_neg h1, if_neg h4, if_neg h5, if_neg h6]
 rw [if_neg h5, if_neg h6] at h
 split at h
 ·cases h
 ·split at h
  ·rw [Bool.or_eq_true, decide_eq_true_eq, decide_eq_true_eq] at h
   rcases h with h | h <;> rw [h] <;> decide
  ·split at h
   ·exact dec_ne h
   ·first | cases h | (rw [if_neg h4] at h; cases h)
def compP (t : VT) : Stp × Int := if RightB t then (compactL t, 0) else ([], 1)
theorem right_every {t : VT} (h : RightB t = true) : everyB rnodeB t = true := by
 unfold RightB at h
 rw [Bool.and_eq_true] at h
 exact h.2
set_option maxRecDepth 100000 in
set_option maxHeartbeats 1000000 in
theorem compact_any (n : Nat) (t : VT) (kv iv : Value) (w : World) (hn : VD w n t kv iv) (hbk : t.bulk ≤ 33554432) (hV : YVar w) :
  Calls Tryz.prog 105 #[vv t kv iv] w fun e w' => e = QuotedE (compP t) ∧ Below w.heap.size w w' := by
 obtain ⟨m, hm, h⟩ := hn.small
 clear hn
 obtain ⟨pk, ck, p, c, rfl, rfl⟩ := h.form
 obtain ⟨X, hX⟩ : ∃ X, w.heap.size = X := ⟨_, rfl⟩
 obtain ⟨W1, hW1⟩ : ∃ W, w.alloc (.cells #[.int .i64 t.kind, .string (bs t.text), .slice pk t.keys.length ck, .slice p t.items.length c] 36) = W := ⟨_, rfl⟩
 have HB1 : Hid (Below w.heap.size w W1) := Lib.hid (by rw [← hW1]; exact below_alloc1 _ _)
 have HXB : Hid (VBox W1 X t (.slice pk t.keys.length ck) (.slice p t.items.length c)) := Lib.hid (by rw [← hW1, ← hX]; exact VBox.new w t _ _)
 have HVD := Lib.hid (h.keep HB1.out)
 have HV := Lib.hid (hV.keep HB1.out)
 have HC1 := Lib.hid (vright_any m t _ _ W1 HVD.out (by omega) HV.out.1)
 unfold vv at HC1 ⊢
 unfold compP
 obtain ⟨y, hy⟩ : ∃ y, RightB t = y := ⟨_, rfl⟩
 rw [hy] at HC1
 rw [hy]
 have HY := Lib.hid hy
 clear h hV hy
 cases y with
 | false =>
  rw [if_neg (by simp)]
  go_enter Tryz.func105, Tryz.ntmps105
  go_upto_region 1 with fail
  clear hW1
  obtain ⟨b0, b1, b2, b3⟩ := HXB.out.cells
  go_wp2_with fail
  refine HC1.out.mono ?_
  rintro e w2 ⟨rfl, hb2⟩
  have HB2 := Lib.hid (below_of_new HB1.out hb2)
  clear hb2 b0 b1 b2 b3
  go_wp2_with fail
  go_ret2
  exact ⟨rfl, by first | exact HB2.out | (rw [← hX]; exact HB2.out)⟩
 | true =>
  rw [if_pos rfl]
  have HNE := Lib.hid (compact_ne (rnode_of (right_every HY.out)).1)
  obtain ⟨C, hC⟩ : ∃ C, compactL t = C := ⟨_, rfl⟩
  rw [hC] at HNE
  rw [hC]
  have HCe := Lib.hid hC
  clear hC
  go_enter Tryz.func105, Tryz.ntmps105
  go_upto_region 1 with fail
  clear hW1
  obtain ⟨b0, b1, b2, b3⟩ := HXB.out.cells
  go_wp2_with fail
  refine HC1.out.mono ?_
  rintro e w2 ⟨rfl, hb2⟩
  have HB2 := Lib.hid hb2
  have HXB2 := HXB.out.keep hb2
  have HVD2 := Lib.hid (HVD.out.keep hb2)
  have HV2 := Lib.hid (HV.out.keep hb2)
  clear hb2 b0 b1 b2 b3
  have hP := EbN.new w2 174 pX
  have hb3 := below_alloc1 w2 (.cells #[.pointer none, .slice none 0 0, .bool false, .int .i64 0] 174)
  obtain ⟨b, hb⟩ : ∃ b, w2.heap.size = b := ⟨_, rfl⟩
  obtain ⟨W3, hW3⟩ : ∃ W, w2.alloc (.cells #[.pointer none, .slice none 0 0, .bool false, .int .i64 0] 174) = W := ⟨_, rfl⟩
  have hP : PN w2.heap.size w2.heap.size [] W3 := by rw [← hW3]; exact hP
  rw [hW3] at hb3
  rw [show PN w2.heap.size w2.heap.size [] W3 = PN w2.heap.size b [] W3 from by rw [hb]] at hP
  have hXB3 := HXB2.keep hb3
  have HP := Lib.hid hP
  have HB3 := Lib.hid hb3
  have HC2 := Lib.hid (pvalue_any w2 HV2.out m b t _ _ W3 [] 0 HVD2.out (right_every HY.out) hP hb3 (by simp only [List.length_nil]; omega) (by omega))
  unfold vv at HC2
  rw [List.nil_append] at HC2
  rw [HCe.out] at HC2
  obtain ⟨b0, b1, b2, b3⟩ := hXB3.cells
  clear hP hb3 hXB3 HXB2
  go_wp2_with fail
  refine HC2.out.mono ?_
  rintro e w4 ⟨rfl, h2, h3⟩
  have HC3 := Lib.hid (ebString_any _ b C w4 h2 HNE.out)
  have HB4 := Lib.hid (HB3.out.trans h3.1)
  clear h2 h3 b0 b1 b2 b3 hW3
  go_wp2_with fail
  refine HC3.out.mono ?_
  rintro e w5 ⟨rfl, hb5⟩
  have HB5 := Lib.hid (below_of_new HB1.out (below_of_new HB2.out (HB4.out.trans hb5)))
  clear hb5
  go_wp2_with fail
  go_ret2
  exact ⟨rfl, by first | exact HB5.out | (rw [← hX]; exact HB5.out)⟩
def writeY (t : VT) : Stp × Int :=
 if RightB t then
  if t.kind = 4 then (if bareB t.text && decide ((resP t.text).1 = 4) then (t.text, 0) else quotedY t.text)
  else (safeL (compactL t), 0)
 else ([], 1)
def keyY (s : Stp) : Stp × Int := if Lib.validD s then (if bareB s then (s, 0) else quotedY s) else ([], 2)
set_option maxRecDepth 100000 in
set_option maxHeartbeats 1000000 in
theorem ywrite_any (n : Nat) (t : VT) (kv iv : Value) (w : World) (h : VD w n t kv iv) (hbk : t.bulk ≤ 16777216) (hV : YVar w) :
  Calls Tryz.prog 58 #[vv t kv iv] w fun e w' => e = QuotedE (writeY t) ∧ Below w.heap.size w w' := by
 obtain ⟨pk, ck, p, c, rfl, rfl⟩ := h.form
 obtain ⟨X, hX⟩ : ∃ X, w.heap.size = X := ⟨_, rfl⟩
 obtain ⟨W1, hW1⟩ : ∃ W, w.alloc (.cells #[.int .i64 t.kind, .string (bs t.text), .slice pk t.keys.length ck, .slice p t.items.length c] 36) = W := ⟨_, rfl⟩
 have HB1 : Hid (Below w.heap.size w W1) := Lib.hid (by rw [← hW1]; exact below_alloc1 _ _)
 have HXB : Hid (VBox W1 X t (.slice pk t.keys.length ck) (.slice p t.items.length c)) := Lib.hid (by rw [← hW1, ← hX]; exact VBox.new w t _ _)
 have HVD := Lib.hid (h.keep HB1.out)
 have HV := Lib.hid (hV.keep HB1.out)
 have HC1 := Lib.hid (vright_any n t _ _ W1 HVD.out (by omega) HV.out.1)
 have hbt : t.text.length < t.bulk := by cases t; rw [VT.bulk]; simp only [VT.text]; omega
 have hcl := compact_len t
 have CP : Hid (∀ w', Below W1.heap.size W1 w' → Calls Tryz.prog 105 #[vv t (.slice pk t.keys.length ck) (.slice p t.items.length c)] w' fun e w2 => e = QuotedE (compP t) ∧ Below w'.heap.size w' w2) := Lib.hid (fun w' hb => compact_any n t _ _ w' (HVD.out.keep hb) (by omega) (HV.out.keep hb))
 have CB : Hid (∀ w', Below W1.heap.size W1 w' → Calls Tryz.prog 31 #[.string (bs t.text)] w' fun e w2 => e = .returned (.bool (bareB t.text)) ∧ Below w'.heap.size w' w2) := Lib.hid (fun w' hb => ybare_any t.text w' (by omega) (HV.out.keep hb))
 have CR : Hid (∀ w', Below W1.heap.size W1 w' → Calls Tryz.prog 33 #[.string (bs t.text)] w' fun e w2 => e = ResE t.text ∧ Below w'.heap.size w' w2) := Lib.hid (fun w' hb => yresolve_any t.text w' (by omega) (HV.out.keep hb))
 have CQ : Hid (∀ w', Below W1.heap.size W1 w' → Calls Tryz.prog 57 #[.string (bs t.text)] w' fun e w2 => e = QuotedE (quotedY t.text) ∧ Below w'.heap.size w' w2) := Lib.hid (fun w' hb => yquoted_any t.text w' (by omega) (HV.out.keep hb))
 have CS : Hid (∀ w', Below W1.heap.size W1 w' → Calls Tryz.prog 103 #[.string (bs (compactL t)), .int .i64 0] w' fun e w2 => e = SafeE (compactL t) 0 ∧ Below w'.heap.size w' w2) := Lib.hid (fun w' hb => ysafe_any _ 0 w' (by omega) (HV.out.keep hb))
 unfold vv at HC1 CP ⊢
 unfold writeY
 unfold compP at CP
 obtain ⟨y, hy⟩ : ∃ y, RightB t = y := ⟨_, rfl⟩
 rw [hy] at HC1 CP
 rw [hy]
 clear h hV hy
 cases y with
 | false =>
  rw [if_neg (by simp)]
  clear CP CB CR CQ CS
  go_enter Tryz.func58, Tryz.ntmps58
  go_upto_region 1 with fail
  clear hW1
  obtain ⟨b0, b1, b2, b3⟩ := HXB.out.cells
  go_wp2_with fail
  refine HC1.out.mono ?_
  rintro e w2 ⟨rfl, hb2⟩
  have HB2 := Lib.hid (below_of_new HB1.out hb2)
  clear hb2 b0 b1 b2 b3
  go_wp2_with fail
  go_ret2
  exact ⟨rfl, by first | exact HB2.out | (rw [← hX]; exact HB2.out)⟩
 | true =>
  rw [if_pos rfl]
  rw [if_pos rfl] at CP
  by_cases k4 : t.kind = 4
  ·rw [if_pos k4]
   have d4 : (t.kind != 4) = false := by simp [k4]
   have d4b : (t.kind == 4) = true := by simp [k4]
   obtain ⟨q1, hq1⟩ : ∃ q, bareB t.text = q := ⟨_, rfl⟩
   unfold ResE at CR
   obtain ⟨rk, hrk⟩ : ∃ r, (resP t.text).1 = r := ⟨_, rfl⟩
   obtain ⟨rt, hrt⟩ : ∃ r, (resP t.text).2 = r := ⟨_, rfl⟩
   obtain ⟨Q, hQ⟩ : ∃ Q, quotedY t.text = Q := ⟨_, rfl⟩
   rw [hq1] at CB
   rw [hrk, hrt] at CR
   rw [hQ] at CQ
   rw [hq1, hrk, hQ]
   obtain ⟨qt, qe⟩ := Q
   clear CP CS hq1 hrk hrt hQ k4
   unfold QuotedE at CQ
   simp only [] at CQ
   cases q1 with
   | false =>
    rw [Bool.false_and, if_neg (by simp)]
    go_enter Tryz.func58, Tryz.ntmps58
    go_upto_region 1 with fail
    clear hW1
    obtain ⟨b0, b1, b2, b3⟩ := HXB.out.cells
    go_wp2_with fail
    refine HC1.out.mono ?_
    rintro e w2 ⟨rfl, hb2⟩
    have HB2 := Lib.hid hb2
    clear hb2 b0 b1 b2 b3
    obtain ⟨b0, b1, b2, b3⟩ := (HXB.out.keep HB2.out).cells
    go_wp2_with fail
    refine (CB.out _ HB2.out).mono ?_
    rintro e w3 ⟨rfl, hb3⟩
    have HB3 := Lib.hid (below_of_new HB2.out hb3)
    clear hb3 b0 b1 b2 b3
    obtain ⟨b0, b1, b2, b3⟩ := (HXB.out.keep HB3.out).cells
    go_wp2_with fail
    refine (CQ.out _ HB3.out).mono ?_
    rintro e w4 ⟨rfl, hb4⟩
    have HB4 := Lib.hid (below_of_new HB3.out hb4)
    clear hb4 b0 b1 b2 b3
    go_wp2_with fail
    go_ret2
    exact ⟨rfl, by first | exact below_of_new HB1.out HB4.out | (rw [← hX]; exact below_of_new HB1.out HB4.out)⟩
   | true =>
    have hfld : ∀ w, (Instr.field 36 (.agg #[.int .i64 rk, .string (bs rt), .slice none 0 0, .slice none 0 0]) 0).run Tryz.prog w = .ok (.int .i64 rk) w := fun w => by kernel_rfl
    rw [Bool.true_and]
    by_cases r4 : rk = 4
    ·rw [if_pos (by simpa using r4)]
     have dr : (rk == 4) = true := by simp [r4]
     clear r4 CQ
     go_enter Tryz.func58, Tryz.ntmps58
     go_upto_region 1 with fail
     clear hW1
     obtain ⟨b0, b1, b2, b3⟩ := HXB.out.cells
     go_wp2_with fail
     refine HC1.out.mono ?_
     rintro e w2 ⟨rfl, hb2⟩
     have HB2 := Lib.hid hb2
     clear hb2 b0 b1 b2 b3
     obtain ⟨b0, b1, b2, b3⟩ := (HXB.out.keep HB2.out).cells
     go_wp2_with fail
     refine (CB.out _ HB2.out).mono ?_
     rintro e w3 ⟨rfl, hb3⟩
     have HB3 := Lib.hid (below_of_new HB2.out hb3)
     clear hb3 b0 b1 b2 b3
     obtain ⟨b0, b1, b2, b3⟩ := (HXB.out.keep HB3.out).cells
     go_wp2_with fail
     refine (CR.out _ HB3.out).mono ?_
     rintro e w4 ⟨rfl, hb4⟩
     have HB4 := Lib.hid (below_of_new HB3.out hb4)
     clear hb4 b0 b1 b2 b3
     obtain ⟨b0, b1, b2, b3⟩ := (HXB.out.keep HB4.out).cells
     go_wp2_with fail
     go_ret2
     exact ⟨rfl, by first | exact below_of_new HB1.out HB4.out | (rw [← hX]; exact below_of_new HB1.out HB4.out)⟩
    ·rw [if_neg (by simpa using r4)]
     have dr : (rk == 4) = false := by simp [r4]
     clear r4
     go_enter Tryz.func58, Tryz.ntmps58
     go_upto_region 1 with fail
     clear hW1
     obtain ⟨b0, b1, b2, b3⟩ := HXB.out.cells
     go_wp2_with fail
     refine HC1.out.mono ?_
     rintro e w2 ⟨rfl, hb2⟩
     have HB2 := Lib.hid hb2
     clear hb2 b0 b1 b2 b3
     obtain ⟨b0, b1, b2, b3⟩ := (HXB.out.keep HB2.out).cells
     go_wp2_with fail
     refine (CB.out _ HB2.out).mono ?_
     rintro e w3 ⟨rfl, hb3⟩
     have HB3 := Lib.hid (below_of_new HB2.out hb3)
     clear hb3 b0 b1 b2 b3
     obtain ⟨b0, b1, b2, b3⟩ := (HXB.out.keep HB3.out).cells
     go_wp2_with fail
     refine (CR.out _ HB3.out).mono ?_
     rintro e w4 ⟨rfl, hb4⟩
     have HB4 := Lib.hid (below_of_new HB3.out hb4)
     clear hb4 b0 b1 b2 b3
     obtain ⟨b0, b1, b2, b3⟩ := (HXB.out.keep HB4.out).cells
     go_wp2_with fail
     refine (CQ.out _ HB4.out).mono ?_
     rintro e w5 ⟨rfl, hb5⟩
     have HB5 := Lib.hid (below_of_new HB4.out hb5)
     clear hb5 b0 b1 b2 b3
     go_wp2_with fail
     go_ret2
     exact ⟨rfl, by first | exact below_of_new HB1.out HB5.out | (rw [← hX]; exact below_of_new HB1.out HB5.out)⟩
  ·rw [if_neg k4]
   have d4 : (t.kind != 4) = true := by simp [k4]
   unfold SafeE at CS
   unfold QuotedE at CP
   simp only [] at CP
   obtain ⟨C, hC⟩ : ∃ C, compactL t = C := ⟨_, rfl⟩
   obtain ⟨Z, hZ⟩ : ∃ Z, safeL C = Z := ⟨_, rfl⟩
   rw [hC, hZ] at CS
   rw [hC] at CP
   rw [hC, hZ]
   clear CB CR CQ k4 hC hZ
   go_enter Tryz.func58, Tryz.ntmps58
   go_upto_region 1 with fail
   clear hW1
   obtain ⟨b0, b1, b2, b3⟩ := HXB.out.cells
   go_wp2_with fail
   refine HC1.out.mono ?_
   rintro e w2 ⟨rfl, hb2⟩
   have HB2 := Lib.hid hb2
   clear hb2 b0 b1 b2 b3
   obtain ⟨b0, b1, b2, b3⟩ := (HXB.out.keep HB2.out).cells
   go_wp2_with fail
   refine (CP.out _ HB2.out).mono ?_
   rintro e w3 ⟨rfl, hb3⟩
   have HB3 := Lib.hid (below_of_new HB2.out hb3)
   clear hb3 b0 b1 b2 b3
   go_wp2_with fail
   refine (CS.out _ HB3.out).mono ?_
   rintro e w4 ⟨rfl, hb4⟩
   have HB4 := Lib.hid (below_of_new HB3.out hb4)
   clear hb4
   go_wp2_with fail
   go_ret2
   exact ⟨rfl, by first | exact below_of_new HB1.out HB4.out | (rw [← hX]; exact below_of_new HB1.out HB4.out)⟩
set_option maxRecDepth 100000 in
set_option maxHeartbeats 1000000 in
theorem ywritekey_any (s : Stp) (w : World) (hs : s.length ≤ 16777216) (hV : YVar w) :
  Calls Tryz.prog 24 #[.string (bs s)] w fun e w' => e = QuotedE (keyY s) ∧ Below w.heap.size w w' := by
 have C1 := valid_any (bs s) w (by rw [bs_size]; omega) hV.1.1
 rw [validRes_snd, bs_data] at C1
 obtain ⟨N, hN⟩ : ∃ N, (validRes (bs s)).1 = N := ⟨_, rfl⟩
 rw [hN] at C1
 have CB : Hid (∀ w', Below w.heap.size w w' → Calls Tryz.prog 31 #[.string (bs s)] w' fun e w2 => e = .returned (.bool (bareB s)) ∧ Below w'.heap.size w' w2) := Lib.hid (fun w' hb => ybare_any s w' (by omega) (hV.keep hb))
 have CQ : Hid (∀ w', Below w.heap.size w w' → Calls Tryz.prog 57 #[.string (bs s)] w' fun e w2 => e = QuotedE (quotedY s) ∧ Below w'.heap.size w' w2) := Lib.hid (fun w' hb => yquoted_any s w' (by omega) (hV.keep hb))
 unfold keyY
 obtain ⟨q0, hq0⟩ : ∃ q, Lib.validD s = q := ⟨_, rfl⟩
 obtain ⟨q1, hq1⟩ : ∃ q, bareB s = q := ⟨_, rfl⟩
 obtain ⟨Q, hQ⟩ : ∃ Q, quotedY s = Q := ⟨_, rfl⟩
 rw [hq0] at C1
 rw [hq1] at CB
 rw [hQ] at CQ
 rw [hq0, hq1, hQ]
 obtain ⟨qt, qe⟩ := Q
 have HC1 := Lib.hid C1
 unfold QuotedE at CQ
 simp only [] at CQ
 clear C1 hN hq0 hq1 hQ hV
 cases q0 with
 | false =>
  rw [if_neg (by simp)]
  go_enter Tryz.func24, Tryz.ntmps24
  go_wp2_with fail
  refine HC1.out.mono ?_
  rintro e w2 ⟨rfl, hb2⟩
  have HB2 := Lib.hid hb2
  clear hb2
  go_wp2_with fail
  go_ret2
  exact ⟨rfl, HB2.out⟩
 | true =>
  rw [if_pos rfl]
  go_enter Tryz.func24, Tryz.ntmps24
  go_wp2_with fail
  refine HC1.out.mono ?_
  rintro e w2 ⟨rfl, hb2⟩
  have HB2 := Lib.hid hb2
  clear hb2
  go_wp2_with fail
  refine (CB.out _ HB2.out).mono ?_
  rintro e w3 ⟨rfl, hb3⟩
  have HB3 := Lib.hid (below_of_new HB2.out hb3)
  clear hb3
  cases q1 with
  | true =>
   go_wp2_with fail
   go_ret2
   exact ⟨rfl, HB3.out⟩
  | false =>
   go_wp2_with fail
   refine (CQ.out _ HB3.out).mono ?_
   rintro e w4 ⟨rfl, hb4⟩
   have HB4 := Lib.hid (below_of_new HB3.out hb4)
   clear hb4
   go_wp2_with fail
   go_ret2
   exact ⟨rfl, HB4.out⟩
end Go.Proofs.YtbldfpkfinpciaaGreatDoor

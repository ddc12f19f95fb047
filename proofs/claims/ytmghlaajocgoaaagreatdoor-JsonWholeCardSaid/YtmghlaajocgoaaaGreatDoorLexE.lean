import Derived.Test.YtmghlaajocgoaaaGreatDoorLexD
import Derived.Test.YtmghlaajocgoaaaGreatDoorLexB
import Derived.RangeFuncNested
import Derived.RangeFuncBound
import Derived.RangeFuncCalls
import Derived.RangeFuncLeaves
import Derived.RangeFuncBox
import Derived.Shelf.Abstract
import Derived.Shelf.RegionOpen
import Derived.OwnWalkIn
import Derived.TacticsInMore
import Derived.LoopNIn
import Derived.LoopIn
import Derived.Maps.AppendAt
/-! lex.All: what it hands over (evL), and its walk, for whatever loop body. -/
namespace Go.Proofs.YtmghlaajocgoaaaGreatDoor
set_option linter.unusedSimpArgs false
set_option linter.unusedVariables false
open Go.RowKit Go.Shelf
open Go.Lib hiding intOf

/-- What All hands over: kind, from, to, error. -/
abbrev Ev := Int × Int × Int × Int
def evT (t : Tok) : Ev := ((t.kind : Int), (t.sf : Int), (t.st : Int), 0)
def errE (o : Option (Nat × Int)) : List Ev := match o with | none => [] | some x => [(0, (x.1 : Int), (x.1 : Int), x.2)]
def evFrom (f : Nat) (l : List UInt8) (i : Nat) : List Ev := (toksGo f l i).1.map evT ++ errE (toksGo f l i).2
def evL (l : List UInt8) : List Ev := if 65536 < l.length then [(0, 0, 0, 3)] else evFrom l.length l 0
theorem evFrom_nil (f i : Nat) : evFrom f [] i = [] := by unfold evFrom; rw [toksGo_nil]; rfl
theorem evFrom_step (f : Nat) (l : List UInt8) (a : Nat) (ha : a < l.length) : ∃ k : Nat, (nextR l a).2.2.1 = k ∧ k ≤ l.length ∧ ((nextR l a).2.2.2 = 0 → a < k) ∧
    evFrom (f + 1) (l.drop a) a = nextR l a :: (if (nextR l a).2.2.2 = 0 then evFrom f (l.drop k) k else []) := by
  obtain ⟨c, r, hu⟩ : ∃ c r, l.drop a = c :: r := by
    cases h : l.drop a with
    | nil => have := congrArg List.length h; simp at this; omega
    | cons c r => exact ⟨c, r, rfl⟩
  have hl := congrArg List.length hu
  rw [List.length_drop] at hl
  have hok := tokR_ok (c :: r) (List.cons_ne_nil _ _)
  have hr : nextR l a = nextQ (tokR (c :: r)) a := by unfold nextR; rw [hu]
  have hd : l.drop (a + (tokR (c :: r)).2.1) = (c :: r).drop (tokR (c :: r)).2.1 := by rw [← hu, List.drop_drop]
  rw [hr, hu]
  unfold evFrom
  rw [toksGo_cons]
  unfold nextQ
  by_cases h : (tokR (c :: r)).2.2 = 0
  · have h3 := hok.2 h
    refine ⟨a + (tokR (c :: r)).2.1, ?_, by have := hok.1; omega, fun _ => by omega, ?_⟩
    · simp only [if_pos h]; omega
    · simp only [if_pos h, if_true, hd]
      unfold evT
      simp only [List.map_cons, List.cons_append, List.cons.injEq, and_true, Prod.mk.injEq, true_and]
      omega
  · refine ⟨a + (tokR (c :: r)).2.1, ?_, by have := hok.1; omega, fun h0 => ?_, ?_⟩
    · simp only [if_neg h]; omega
    · simp only [if_neg h] at h0; exact absurd h0 h
    · simp only [if_neg h, List.map_nil, List.nil_append]
      unfold errE
      simp only [List.cons.injEq, and_true, Prod.mk.injEq, true_and]
      omega
def encE (x : Ev) : Array Value := #[.agg #[.int .i64 x.1, .int .i64 x.2.1, .int .i64 x.2.2.1], .int .i64 x.2.2.2]
/-- The block that the slice in block O lies in. -/
def OwnP (O : Nat) (A : World) (i : Nat) : Prop := ∃ v, A.heap[O]? = some (.cells #[v] 44 (0, 0)) ∧ v.ownBlock = some i
/-- What a round keeps: what lay below n, and all cells but those of block O and of the slice in it. -/
def KpO (n O : Nat) (A B : World) : Prop := Below n A B ∧ (∀ i, OwnP O B i → OwnP O A i ∨ (A.heap.size ≤ i ∧ i < B.heap.size)) ∧ (∀ i o, A.heap[i]? = some o → o.isCells = true → i ≠ O → ¬ OwnP O A i → B.heap[i]? = some o)
theorem KpO.refl (n O : Nat) (W : World) : KpO n O W W := ⟨Below.refl _ _, fun _ h => .inl h, fun _ _ h _ _ _ => h⟩
theorem KpO.trans {n O : Nat} {A B C : World} (h : KpO n O A B) (k : KpO n O B C) : KpO n O A C := by
  refine ⟨h.1.trans k.1, fun i hi => ?_, fun i o ho hc hne hno => ?_⟩
  · rcases k.2.1 i hi with h1 | ⟨h1, h2⟩
    · rcases h.2.1 i h1 with h3 | ⟨h3, h4⟩
      · exact .inl h3
      · exact .inr ⟨h3, Nat.lt_of_lt_of_le h4 k.1.size⟩
    · exact .inr ⟨Nat.le_trans h.1.size h1, h2⟩
  · refine k.2.2 i o (h.2.2 i o ho hc hne hno) hc hne (fun hw => ?_)
    rcases h.2.1 i hw with h3 | ⟨h3, _⟩
    · exact hno h3
    · have := (Array.getElem?_eq_some_iff.1 ho).1; omega
theorem KpO.putObj {n O S : Nat} (hn : n ≤ S) (hO : O < S) (W : World) (j : Nat) (o o' : Obj) (hj : S ≤ j) (h : W.heap[j]? = some o) (hc : o.isCells = false) : KpO n O W (W.putObj j o') := by
  have hoth : ∀ i, i ≠ j → (W.putObj j o').heap[i]? = W.heap[i]? := fun i hi => World.putObj_heap_other hi
  refine ⟨(Below.refl n W).grown (grownBy_putObj' W j o') (by have := (Array.getElem?_eq_some_iff.1 h).1; omega) (fun k e => by cases e; omega), fun i hi => ?_, fun i o2 ho hc2 _ _ => ?_⟩
  · obtain ⟨v, h1, h2⟩ := hi
    rw [hoth O (by omega)] at h1
    exact .inl ⟨v, h1, h2⟩
  · by_cases e : i = j
    · rw [e, h] at ho
      cases ho
      rw [hc] at hc2; cases hc2
    · rw [hoth i e]; exact ho
/-- The slice's block lies behind block X. -/
def Prp (O X : Nat) (W : World) : Prop := ∀ i, OwnP O W i → X < i ∧ i < W.heap.size
theorem OwnP.back {O : Nat} {A B : World} {i : Nat} (hb : Below A.heap.size A B) (hO : O < A.heap.size) (h : OwnP O B i) : OwnP O A i := by
  obtain ⟨v, h1, h2⟩ := h
  rw [hb.block O hO] at h1
  exact ⟨v, h1, h2⟩
theorem Prp.keep {O X : Nat} {A B : World} (h : Prp O X A) (hb : Below A.heap.size A B) (hO : O < A.heap.size) : Prp O X B := fun i hi => by
  have := h i (hi.back hb hO)
  exact ⟨this.1, Nat.lt_of_lt_of_le this.2 hb.size⟩
theorem Prp.kp {n O X : Nat} {A B : World} (h : Prp O X A) (hX : X < A.heap.size) (k : KpO n O A B) : Prp O X B := fun i hi => by
  rcases k.2.1 i hi with h1 | ⟨h1, h2⟩
  · have := h i h1
    exact ⟨this.1, Nat.lt_of_lt_of_le this.2 k.1.size⟩
  · exact ⟨by omega, h2⟩
theorem grown_of_below {A B : World} (h : Below A.heap.size A B) : A.grownBy B none := ⟨h.os, h.tape, h.output, h.size, fun i hi _ => h.block i hi⟩
theorem abides {β : Type} {S : Nat} {J : β → World → Prop} (hJ : AbidesFrom S J) {s : β} {A B : World} (h : J s A) (hb : Below A.heap.size A B) : J s B := hJ s A B none h (grown_of_below hb) (fun r e => by cases e)
set_option maxRecDepth 100000 in
set_option maxHeartbeats 4000000 in
theorem all1_in (n : Nat) (hn : 1 ≤ n) (q X O S : Nat) (w0 : World) (l : List UInt8) (hs : l.length ≤ 4611686018427387904) (hV : SVar w0) (hT : Tabs w0) (J Jx : List Ev → World → Prop) (hJ : AbidesFrom S J)
    (hY : ∀ pre x W, J pre W → pre.length < (evL l).length → YieldAt Fence.wide (n - 1) Tryz.prog q (encE x) W fun e W' =>
      (e = .returned (.bool true) ∧ J (pre ++ [x]) W' ∧ KpO w0.heap.size O W W') ∨ (e = .returned (.bool false) ∧ Jx (pre ++ [x]) W'))
    (W : World) (hX : W.heap[X]? = some (.cells #[.string (bs l)] 9 (0, 0))) (hO : O < W.heap.size) (hne : O ≠ X) (hP : Prp O X W) (hB : Below w0.heap.size w0 W) (h0 : J [] W) :
    CallsIn Fence.wide n Tryz.prog 44 #[.func (.yield q) #[] #[], .pointer (some ⟨X, 0, none⟩)] W fun e W' => (∃ v, e = .returned v) ∧
      ((∃ ys, ys = evL l ∧ J ys W') ∨ (∃ pre, pre <+: evL l ∧ Jx pre W')) := by
  have sl := bs_size l
  have hcX := cell_of_one hX
  refine callsIn_of_wp Tryz.func44 rfl trivial ?_ rfl
  simp only [Tryz.ntmps44, List.size_toArray, List.length_cons, List.length_nil, Nat.reduceAdd, Nat.reduceSub, Array.replicate_succ, Array.replicate_zero, List.push_toArray, List.append_toArray, List.nil_append, List.cons_append]
  obtain ⟨E, hE⟩ : ∃ E, evL l = E := ⟨_, rfl⟩
  rw [hE] at hY ⊢
  unfold evL at hE
  by_cases hlong : 65536 < l.length
  · rw [if_pos hlong] at hE
    subst hE
    obtain ⟨fn, tmps, assign, body, hy, hR⟩ := hY [] (0, 0, 0, 3) W h0 (by simp)
    unfold encE at hy
    gi_wp2
    refine hR.mono ?_
    rintro e W3 (⟨rfl, hJ3, hk3⟩ | ⟨rfl, hJx3⟩)
    · gi_wp2
      refine bodyPost_ret (results_none rfl _ _ _) rfl ?_
      exact ⟨⟨_, rfl⟩, .inl ⟨_, rfl, hJ3⟩⟩
    · gi_wp2
      refine bodyPost_ret (results_none rfl _ _ _) rfl ?_
      exact ⟨⟨_, rfl⟩, .inr ⟨_, List.prefix_refl _, hJx3⟩⟩
  · rw [if_neg hlong] at hE
    have CN := Lib.hid (fun a w ha hV hT => next_any l a w (by omega) ha hV hT)
    have HE := Lib.hid hE
    have HV := Lib.hid hV; have HT := Lib.hid hT
    have HJ := Lib.hid (fun (s : List Ev) (A B : World) (h : J s A) (hb : Below A.heap.size A B) => abides hJ h hb)
    have HY := Lib.hid hY
    have HS : Hid (∃ f, E = [] ++ evFrom f (l.drop 0) 0 ∧ l.length ≤ 0 + f) := Lib.hid ⟨l.length, by rw [← hE, List.drop_zero, List.nil_append], by omega⟩
    have hO' := hO
    have HI : Hid (J [] W ∧ Below w0.heap.size w0 W ∧ W.heap[X]? = some (.cells #[.string (bs l)] 9 (0, 0)) ∧ Prp O X W) := Lib.hid ⟨h0, hB, hX, hP⟩
    have hlong2 : (l.length : Int) ≤ 65536 := by omega
    have dlong : decide (65536 < (l.length : Int)) = false := decide_eq_false (by omega)
    clear hE hV hT hJ hY h0 hB hX hP
    gi_wp2
    gi_loopw [3] (fun s3 wr => ∃ (pre : List Ev) (a : Nat), s3 = .int .i64 a ∧ a ≤ l.length ∧ Hid (∃ f, E = pre ++ evFrom f (l.drop a) a ∧ l.length ≤ a + f) ∧ Hid (J pre wr ∧ Below w0.heap.size w0 wr ∧ wr.heap[X]? = some (.cells #[.string (bs l)] 9 (0, 0)) ∧ Prp O X wr) ∧ O < wr.heap.size) (fun s3 wr => l.length - (RowKit.intOf s3).toNat)
    case atStart => exact ⟨[], 0, rfl, by omega, HS.out, HI.out, hO⟩
    case round =>
      obtain ⟨pre, a, rfl, ha, HG, HI, hO⟩ := hrel
      have hcX := cell_of_one HI.out.2.2.1
      by_cases hlt : a < l.length
      · obtain ⟨x, hx⟩ : ∃ x, nextR l a = x := ⟨_, rfl⟩
        have hst : ∃ k : Nat, x.2.2.1 = k ∧ k ≤ l.length ∧ (x.2.2.2 = 0 → a < k) ∧ Hid (∃ f, E = pre ++ (x :: (if x.2.2.2 = 0 then evFrom f (l.drop k) k else [])) ∧ l.length ≤ a + f + 1) := by
          obtain ⟨f, h1, h2⟩ := HG.out
          obtain ⟨g, rfl⟩ : ∃ g, f = g + 1 := ⟨f - 1, by omega⟩
          obtain ⟨k, k1, k2, k3, k4⟩ := evFrom_step g l a hlt
          rw [hx] at k1 k3 k4
          rw [k4] at h1
          exact ⟨k, k1, k2, k3, Lib.hid ⟨g, h1, by omega⟩⟩
        obtain ⟨k, hk1, hk2, hk3', HG2⟩ := hst
        have CN2 := Lib.hid (CN.out a wr hlt (HV.out.keep HI.out.2.1) (HT.out.keep HI.out.2.1))
        rw [hx] at CN2
        obtain ⟨xk, xf, xt, xe⟩ := x
        simp only [] at hk1 hk3' HG2
        subst hk1
        unfold NextE at CN2
        simp only [] at CN2
        clear HG hx
        gi_wp2_with fail
        refine ⟨trivial, ?_⟩
        with_reducible refine (callsIn_wide.2 CN2.out).mono ?_
        rintro e w1 ⟨rfl, hb1⟩
        have hb2 : Below wr.heap.size wr (w1.alloc (.cells #[.int .i64 xk, .int .i64 xf, .int .i64 k] 51)) := below_of_new hb1 (below_alloc1 w1 _)
        have hT2 : TokBox (w1.alloc (.cells #[.int .i64 xk, .int .i64 xf, .int .i64 k] 51)) w1.heap.size xk xf k := heap_alloc_new w1 _
        obtain ⟨W2, hW2⟩ : ∃ W2, w1.alloc (.cells #[.int .i64 xk, .int .i64 xf, .int .i64 k] 51) = W2 := ⟨_, rfl⟩
        rw [hW2] at hb2 hT2
        obtain ⟨Z, hZ⟩ : ∃ Z, w1.heap.size = Z := ⟨_, rfl⟩
        have hOZ : O < Z := by rw [← hZ]; exact Nat.lt_of_lt_of_le hO hb1.size
        have hP1 : Prp O X w1 := HI.out.2.2.2.keep hb1 hO
        have hP2 : Prp O X W2 := HI.out.2.2.2.keep hb2 hO
        have hnZ : ¬ OwnP O W2 Z := fun hw => by
          have hb3 : Below w1.heap.size w1 W2 := by rw [← hW2]; exact below_alloc1 w1 _
          have := (hP1 Z (hw.back hb3 (Nat.lt_of_lt_of_le hO hb1.size))).2
          omega
        have hX2 : W2.heap[X]? = some (.cells #[.string (bs l)] 9 (0, 0)) := (hb2.block X (cell_it HI.out.2.2.1)).trans HI.out.2.2.1
        have hnX : ¬ OwnP O W2 X := fun hw => Nat.lt_irrefl _ (hP2 X hw).1
        rw [hZ] at hT2
        have hJ2 := HJ.out pre _ _ HI.out.1 hb2
        have hB2 : Below w0.heap.size w0 W2 := HI.out.2.1.trans (hb2.mono HI.out.2.1.size)
        have hO2 : O < W2.heap.size := Nat.lt_of_lt_of_le hO hb2.size
        have HQ := Lib.hid (And.intro hP2 (And.intro hnZ (And.intro hX2 (And.intro hnX (And.intro hB2 hT2)))))
        have hlen : pre.length < E.length := by
          obtain ⟨f, h1, _⟩ := HG2.out
          rw [h1, List.length_append, List.length_cons]; omega
        obtain ⟨fn, tmps, assign, body, hy, hR⟩ := HY.out pre (xk, xf, (k : Int), xe) W2 hJ2 hlen
        obtain ⟨t0, t1, t2, f0, f1, f2⟩ := hT2.cells
        unfold encE at hy
        simp only [] at hy
        clear hJ2 hb1 hb2 hP1 hP2 hnZ hX2 hnX hB2 hlen HI CN2 hcX hT2
        gi_wp2_with fail
        refine hR.mono ?_
        clear hy hR t0 t1 t2 f0 f1 f2
        rintro e W3 (⟨rfl, hJ3, hk3⟩ | ⟨rfl, hJx3⟩)
        · have hT3 : TokBox W3 Z xk xf k := hk3.2.2 Z _ HQ.out.2.2.2.2.2 rfl (by omega) HQ.out.2.1
          have hX3 : W3.heap[X]? = some (.cells #[.string (bs l)] 9 (0, 0)) := hk3.2.2 X _ HQ.out.2.2.1 rfl (fun e => hne e.symm) HQ.out.2.2.2.1
          have hO3 : O < W3.heap.size := Nat.lt_of_lt_of_le hO2 hk3.1.size
          have HI3 : Hid (J (pre ++ [(xk, xf, (k : Int), xe)]) W3 ∧ Below w0.heap.size w0 W3 ∧ W3.heap[X]? = some (.cells #[.string (bs l)] 9 (0, 0)) ∧ Prp O X W3) := Lib.hid ⟨hJ3, HQ.out.2.2.2.2.1.trans hk3.1, hX3, HQ.out.1.kp (cell_it HQ.out.2.2.1) hk3⟩
          clear hJ3 hk3 hX3 HQ
          by_cases hxe : xe = 0
          · have HS3 : Hid (∃ f, E = (pre ++ [(xk, xf, (k : Int), xe)]) ++ evFrom f (l.drop k) k ∧ l.length ≤ k + f) := Lib.hid (by
              obtain ⟨f, h1, h2⟩ := HG2.out
              rw [if_pos hxe] at h1
              have := hk3' hxe
              exact ⟨f, by rw [h1]; simp, by omega⟩)
            have hak := hk3' hxe
            subst hxe
            clear HG2 hk3'
            obtain ⟨t0, t1, t2, f0, f1, f2⟩ := hT3.cells
            gi_wp2_with fail
            go_roundw
            case rel => exact ⟨_, k, rfl, hk2, HS3.out, HI3.out, hO3⟩
            case measure => simp [RowKit.intOf]; omega
          · have hE3 : E = pre ++ [(xk, xf, (k : Int), xe)] := by
              obtain ⟨f, h1, h2⟩ := HG2.out
              rw [if_neg hxe] at h1
              exact h1
            have HE3 := Lib.hid hE3
            have te : (xe != 0) = true := bne_iff_ne.2 hxe
            clear hE3 hxe HG2 hk3' hT3
            gi_wp2_with fail
            refine bodyPost_ret (results_none rfl _ _ _) rfl ?_
            exact ⟨⟨_, rfl⟩, .inl ⟨_, HE3.out.symm, HI3.out.1⟩⟩
        · have hE3 : pre ++ [(xk, xf, (k : Int), xe)] <+: E := by
            obtain ⟨f, h1, h2⟩ := HG2.out
            exact ⟨_, by rw [h1]; simp; rfl⟩
          have HE3 := Lib.hid (And.intro hE3 hJx3)
          clear hE3 HG2 hk3' HQ hJx3
          gi_wp2_with fail
          refine bodyPost_ret (results_none rfl _ _ _) rfl ?_
          exact ⟨⟨_, rfl⟩, .inr ⟨_, HE3.out.1, HE3.out.2⟩⟩
      · have hE3 : E = pre := by
          obtain ⟨f, h1, h2⟩ := HG.out
          rw [List.drop_of_length_le (by omega), evFrom_nil, List.append_nil] at h1
          exact h1
        have HE3 := Lib.hid hE3
        clear hE3
        gi_wp2_with fail
        go_end0
        exact ⟨⟨_, rfl⟩, .inl ⟨_, HE3.out.symm, HI.out.1⟩⟩
end Go.Proofs.YtmghlaajocgoaaaGreatDoor

import Derived.Test.YtdegjfmjjabnnaaGreatDoorBase
import Derived.RangeFuncNested
import Derived.RangeFuncBound
import Derived.RangeFuncCalls
import Derived.RangeFuncLeaves
import Derived.RangeFuncBox
import Derived.Shelf.Abstract
import Derived.Shelf.RegionOpen
import Derived.OwnWalkIn
import Derived.TacticsInMore
import Derived.LoopNIn
import Derived.LoopIn
/-! A range over an iterator that keeps a state of its own in a cell (strings.SplitSeq): the loop's body never leaves. -/
namespace Go.Proofs.YtdegjfmjjabnnaaGreatDoor
set_option linter.unusedSimpArgs false
set_option linter.unusedVariables false
open Go.RowKit Go.Shelf

theorem range_cell {P : Program} {α : Type} {g : Operand} {ps : Array Tmp} {assign body : Code} {Q : Exit → Act → World → Prop} {a : Act} {w : World} {n : Nat}
    {gf : Nat} {lb : Array Value} (hg : a.eval g = .func (.func gf) #[] lb) (eg : ∀ args w, (callFunc gf args).run P w = .ok (.enter gf args) w)
    {encs : α → Array Value} (hps : ∀ x, (encs x).size = ps.size) {S : List α → Prop} {Px : α → Prop} {Ok Kp : World → World → Prop}
    (hOk : ∀ A B, Ok A B → ∀ i, w.heap.size ≤ i → i < A.heap.size → B.heap[i]? = A.heap[i]?)
    (hseq : ∀ (l : Nat) (J : List α → World → Prop) (W : World), Below w.heap.size w W → (∀ pre A B, J pre A → Ok A B → J pre B) →
      (∀ pre x W1, J pre W1 → Px x → YieldAt Fence.wide (n - 1 - 1) P l (encs x) W1 fun e W' => e = .returned (.bool true) ∧ J (pre ++ [x]) W' ∧ Kp W1 W') → J [] W →
      CallsIn Fence.wide (n - 1) P gf (#[.func (.yield l) #[] #[]] ++ lb) W fun e W' => (∃ v, e = .returned v) ∧ ∃ ys, S ys ∧ J ys W')
    (hKt : ∀ A B C, Kp A B → Kp B C → Kp A C) (hKb : ∀ (W : World) (l : Nat) (o o' : Obj), w.heap.size ≤ l → W.heap[l]? = some o → o.isCells = false → Kp W (W.putObj l o'))
    (I : List α → World → Prop) (hI : ∀ pre A B, I pre A → Ok A B → I pre B) (hIp : ∀ pre (A : World) (l : Nat) (o o' : Obj), I pre A → w.heap.size ≤ l → A.heap[l]? = some o → o.isCells = false → I pre (A.putObj l o'))
    (hIa : ∀ pre (A : World) (o : Obj), I pre A → I pre (A.alloc o)) (h0 : I [] w)
    (hbody : ∀ (l : Nat) (pre : List α) (x : α) (W : World), w.heap.size ≤ l → I pre W → Px x →
      assign.wpIn (Fence.wide.inRound l) (n - 1 - 1) P (Exit.then (fun a' W' => W' = W ∧ ∀ W2, I pre W2 → body.wpIn (Fence.wide.inRound l) (n - 1 - 1) P
        (fun e _ W3 => e = .normal ∧ KeepsFrom w.heap.size W2 W3 ∧ I (pre ++ [x]) W3 ∧ Kp W2 W3) a' W2) (fun _ _ _ => False))
        { tmps := (ps.zip (encs x)).foldl (fun t (p, v) => t.setIfInBounds p v) a.tmps, defers := [] } W)
    (hdone : ∀ (D : Nat) (ys : List α) (W : World), w.heap.size ≤ D → S ys → I ys W → W.heap[D]? = some (.deferred (some [])) → Q .normal { a with defers := { target := .collected D, args := #[] } :: a.defers } W) :
    (Code.rangeFunc g ps assign body).wpIn Fence.wide n P Q a w := by
  refine wpIn_rangeFunc ?_
  intro fn hfn
  obtain ⟨rec, hrec⟩ : ∃ rec : LoopState → Loop, rec = fun st => { state := st, pending := none, fn, tmps := a.tmps, params := ps, assign, body, defers := w.heap.size } := ⟨_, rfl⟩
  obtain ⟨W1, hW1⟩ : ∃ W1, (w.alloc (.deferred (some []))).alloc (.loop (rec .ready)) = W1 := ⟨_, rfl⟩
  obtain ⟨D, hD⟩ : ∃ D, w.heap.size = D := ⟨_, rfl⟩
  have sL : W1.heap[D + 1]? = some (.loop (rec .ready)) := by
    have := World.alloc_heap_new (w.alloc (.deferred (some []))) (.loop (rec .ready))
    rwa [World.size_alloc, hD, hW1] at this
  have sK : W1.heap[D]? = some (.deferred (some [])) := by
    rw [← hW1, ← hD]
    exact (Below.heap_alloc _ _ _ (by simp)).trans (World.alloc_heap_new w _)
  have sI : I [] W1 := by rw [← hW1]; exact hIa _ _ _ (hIa _ _ _ h0)
  have sB : Below w.heap.size w W1 := by rw [← hW1]; exact ((Below.refl _ w).alloc (Nat.le_refl _) _).alloc (by simp) _
  refine ⟨D + 1, [{ target := .collected D, args := #[] }], W1, { target := .fn (.func gf) lb, args := #[.func (.yield (D + 1)) #[] #[]] }, W1, gf, #[.func (.yield (D + 1)) #[] #[]] ++ lb, W1, ?_, ?_, ?_, ?_, ?_, ?_⟩
  · rw [← hW1, hrec, ← hD]
    exact run_enterLoop_outer _ _ _ _ _
  · simp only [resolve, hg]
    simp [go_sem]
  · intro _ _; trivial
  · simp [invoke, go_sem, eg]
  · intro h; cases h
  · refine (hseq (D + 1) (fun pre W => I pre W ∧ W.heap[D + 1]? = some (.loop (rec .ready)) ∧ W.heap[D]? = some (.deferred (some []))) W1 sB ?_ ?_ ⟨sI, sL, sK⟩).mono ?_
    · rintro pre A B ⟨hi, hl, hk⟩ ho
      have l1 := (Array.getElem?_eq_some_iff.1 hl).1
      exact ⟨hI _ _ _ hi ho, (hOk A B ho _ (by omega) l1).trans hl, (hOk A B ho _ (by omega) (by omega)).trans hk⟩
    · rintro pre x W ⟨hi, hl, hk⟩ hpx
      have l1 := (Array.getElem?_eq_some_iff.1 hl).1
      have hy := run_yield (P := P) (args := encs x) hl (by rw [hrec]; exact hps x)
      rw [hrec] at hy
      refine ⟨fn, _, assign, body, hy, roundIn_of_wpIn hfn (wpIn_mono (hbody (D + 1) pre x W (by omega) hi hpx) ?_)⟩
      clear hy
      rintro e a' W' h
      cases e with
      | normal =>
        obtain ⟨rfl, hb⟩ := h
        refine ⟨_, run_beginRound hl (by rw [hrec]), ?_⟩
        have l2 : (W'.putObj (D + 1) (.loop { rec .ready with state := .busy })).heap[D + 1]? = some (.loop { rec .ready with state := .busy }) := World.putObj_heap_same l1
        have k2 : (W'.putObj (D + 1) (.loop { rec .ready with state := .busy })).heap[D]? = some (.deferred (some [])) := (World.putObj_heap_other (by omega)).trans hk
        have p2 := hKb W' (D + 1) _ (.loop { rec .ready with state := .busy }) (by omega) hl rfl
        refine wpIn_mono (hb _ (hIp _ _ _ _ _ hi (by omega) hl rfl)) ?_
        rintro e a3 W3 ⟨rfl, hkf, hi3, hp3⟩
        have l3 := hkf.same _ _ (by omega) l2 rfl
        have k3 := hkf.same _ _ (by omega) k2 rfl
        have he := run_endRound (P := P) none l3
        have er : { rec .ready with state := (if (none : Option Code).isNone = true then LoopState.ready else LoopState.done), pending := none } = rec .ready := by rw [hrec]; rfl
        refine ⟨_, _, he, rfl, ⟨hIp _ _ _ _ _ hi3 (by omega) l3 rfl, ?_, ?_⟩, hKt _ _ _ (hKt _ _ _ p2 hp3) (hKb W3 (D + 1) _ _ (by omega) l3 rfl)⟩
        · rw [hrec] at er ⊢
          exact World.putObj_heap_same (Array.getElem?_eq_some_iff.1 l3).1
        · exact (World.putObj_heap_other (by omega)).trans k3
      | _ => exact h.elim
    · rintro e W2 ⟨⟨v, rfl⟩, ys, hS, hi, hl, hk⟩
      have he := run_endLoop (P := P) hl (by rw [hrec]; simp)
      exact ⟨_, _, he, by
        rw [hrec]
        exact hdone D ys _ (by omega) hS (hIp _ _ _ _ _ hi (by omega) hl rfl) ((World.putObj_heap_other (by omega)).trans hk)⟩
def noDefer (ops : Array Oper) : Bool := ops.all fun o => match o.op with
  | .defer _ => false
  | _ => true
theorem noDefer_spec {ops : Array Oper} (h : noDefer ops = true) (i : Nat) (o : Oper) (ho : ops[i]? = some o) (c : _) : o.op ≠ .defer c := by
  intro e
  unfold noDefer at h
  have := Array.all_eq_true'.1 h o (Array.mem_of_getElem? ho)
  rw [e] at this
  cases this
theorem uponIn_round {F : Fence} {n : Nat} {P : Program} (l : Nat) (o : Oper) (a : Act) (K : Act → World → Prop) (Q : Exit → Act → World → Prop) : ∀ r, o.uponIn F n P a K Q r → o.uponIn (F.inRound l) n P a K Q r
  | .ok x w' => fun h => by cases x <;> exact h
  | .halt x w' => fun h => by cases x <;> exact h
/-- A region without a 'defer', in a round: as outside of one. -/
theorem wpAnyIn_round {F : Fence} {n : Nat} {P : Program} {md : Region.Mode} {ops : Array Oper} {Q : Exit → Act → World → Prop} (l : Nat) (hro : F.round = none) (hnd : ∀ (i : Nat) (o : Oper), ops[i]? = some o → ∀ c, o.op ≠ .defer c) :
    ∀ (fuel : Nat) (listed : Array Bool) (a : Act) (w : World), wpAnyIn F n P md ops Q fuel listed a w → wpAnyIn (F.inRound l) n P md ops Q fuel listed a w
  | 0, _, _, _, h => h
  | fuel + 1, listed, a, w, h => by
    refine ⟨h.1, fun i hi => ?_⟩
    have h2 := wpOpIn_mono (fun a' w' hh => wpAnyIn_round l hro hnd fuel (listed.setIfInBounds i true) a' w' hh) (h.2 i hi)
    unfold wpOpIn at h2 ⊢
    cases ho : ops[i]? with
    | none => rw [ho] at h2; exact h2
    | some o =>
      rw [ho] at h2
      simp only [] at h2 ⊢
      by_cases hw : Region.wanted o (yielded ops a.tmps) = true
      · rw [if_pos hw] at h2 ⊢
        refine ⟨h2.1, ?_⟩
        have h3 := h2.2
        rw [hro] at h3
        show o.uponIn (F.inRound l) n P a _ Q ((o.semAt (some l) a.eval).run P w)
        rw [Oper.semAt_some l _ _ (hnd i o ho)]
        exact uponIn_round l o a _ Q _ h3
      · rw [if_neg hw] at h2 ⊢
        exact h2
end Go.Proofs.YtdegjfmjjabnnaaGreatDoor

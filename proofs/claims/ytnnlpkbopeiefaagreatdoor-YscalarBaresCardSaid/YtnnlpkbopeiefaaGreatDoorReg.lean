import Derived.Test.YtnnlpkbopeiefaaGreatDoorBase
import Derived.Orders
import Derived.RegionTactic
/-! A region that draws its order, walked ONCE: an invariant over what has come up so far. -/
namespace Go.Proofs.YtnnlpkbopeiefaaGreatDoor
set_option linter.unusedSimpArgs false
set_option linter.unusedVariables false
open Go.RowKit
section
variable {P : Program} {ops : Array Oper} {Q : Exit → Act → World → Prop} {md : Region.Mode}
theorem cnt_listed (L : Array Bool) (i : Nat) (h : L.getD i true = false) : (L.setIfInBounds i true).toList.countP (fun b => !b) + 1 = L.toList.countP (fun b => !b) := by
  have hi : i < L.toList.length := by
    rw [Array.length_toList]
    by_cases hi : i < L.size
    · exact hi
    · rw [Array.getD_eq_getD_getElem?, Array.getElem?_eq_none (by omega)] at h
      cases h
  have hv : L.toList[i] = false := by
    rw [Array.getD_eq_getD_getElem?, Array.getElem?_eq_getElem (by simpa using hi)] at h
    simpa using h
  rw [Array.toList_setIfInBounds, List.countP_set hi, hv]
  have : 0 < L.toList.countP (fun b => !b) := List.countP_pos_iff.2 ⟨false, by rw [← hv]; exact List.getElem_mem hi, rfl⟩
  simp only [Bool.not_false, Bool.not_true, if_true, Bool.false_eq_true, if_false]
  omega
theorem wpAny_inv (Inv : Array Bool → Act → World → Prop)
    (hs : ∀ (L : Array Bool) (a : Act) (w : World) (i : Nat) (o : Oper), L.size = ops.size → ops[i]? = some o → L.getD i true = false → (∀ e ∈ o.after, Region.binds md e = true → L.getD e.on false = true) → Inv L a w →
      ∀ K : Act → World → Prop, (∀ a' w', Inv (L.setIfInBounds i true) a' w' → K a' w') → if Region.wanted o (yielded ops a.tmps) = true then o.wp P a w K Q else K (a.put o.dst undef) w)
    (hd : ∀ (L : Array Bool) (a : Act) (w : World), L.size = ops.size → Inv L a w → Region.ready md ops L = [] → Q .normal a w) :
    ∀ (fuel : Nat) (L : Array Bool) (a : Act) (w : World), L.size = ops.size → L.toList.countP (fun b => !b) ≤ fuel → Inv L a w → wpAny P md ops Q fuel L a w := by
  intro fuel
  induction fuel with
  | zero =>
    intro L a w hL hc hI
    have hr : Region.ready md ops L = [] := by
      rw [List.eq_nil_iff_forall_not_mem]
      intro i hi
      have := cnt_listed L i (mem_ready.1 hi).1
      omega
    exact ⟨hr, hd L a w hL hI hr⟩
  | succ fuel ih =>
    intro L a w hL hc hI
    refine ⟨fun hr => hd L a w hL hI hr, fun i hi => ?_⟩
    obtain ⟨h0, o, ho, hall⟩ := mem_ready.1 hi
    refine wpOp_step ho fun K hK => hs L a w i o hL ho h0 hall hI K fun a' w' h => hK a' w' (ih _ _ _ (by simpa using hL) ?_ h)
    have := cnt_listed L i h0
    omega
theorem wp_region_inv {id : Nat} {a : Act} {w : World} (hm : P.follows .mixedOrders = true) (Inv : Array Bool → Act → World → Prop)
    (h0 : Inv (Array.replicate ops.size false) a w.drew)
    (hs : ∀ (L : Array Bool) (a : Act) (w : World) (i : Nat) (o : Oper), L.size = ops.size → ops[i]? = some o → L.getD i true = false → (∀ e ∈ o.after, Region.binds .any e = true → L.getD e.on false = true) → Inv L a w →
      ∀ K : Act → World → Prop, (∀ a' w', Inv (L.setIfInBounds i true) a' w' → K a' w') → if Region.wanted o (yielded ops a.tmps) = true then o.wp P a w K Q else K (a.put o.dst undef) w)
    (hd : ∀ (L : Array Bool) (a : Act) (w : World), L.size = ops.size → Inv L a w → Region.ready .any ops L = [] → Q .normal a w) : (Code.region id ops true).wp P Q a w := by
  refine wp_region_any hm (wpAny_inv Inv hs hd ops.size _ a _ (by simp) ?_ h0)
  rw [Array.toList_replicate, List.countP_replicate]
  split <;> omega
end
/-- What comes up behind what lies ahead of it in the text. -/
def backB (ops : Array Oper) : Bool := (List.range ops.size).all fun i => match ops[i]? with
  | some o => o.after.toList.all (fun e => !Region.binds .any e || decide (e.on < i)) && o.guard.isNone
  | none => true
theorem backB_at {ops : Array Oper} (h : backB ops = true) {i : Nat} {o : Oper} (ho : ops[i]? = some o) : (∀ e ∈ o.after, Region.binds .any e = true → e.on < i) ∧ o.guard = none := by
  have hi := (Array.getElem?_eq_some_iff.1 ho).1
  have := List.all_eq_true.1 h i (List.mem_range.2 hi)
  rw [ho] at this
  simp only [Bool.and_eq_true] at this
  refine ⟨fun e he hb => ?_, Option.isNone_iff_eq_none.1 this.2⟩
  have := List.all_eq_true.1 this.1 e (Array.mem_toList_iff.2 he)
  rw [hb, Bool.not_true, Bool.false_or] at this
  exact of_decide_eq_true this
theorem all_listed {ops : Array Oper} (h : backB ops = true) {L : Array Bool} (hL : L.size = ops.size) (hr : Region.ready .any ops L = []) : ∀ i, i < ops.size → L.getD i false = true := by
  intro i
  induction i using Nat.strongRecOn with
  | _ i ih =>
    intro hi
    obtain ⟨o, ho⟩ : ∃ o, ops[i]? = some o := ⟨_, Array.getElem?_eq_getElem hi⟩
    cases hc : L.getD i false with
    | true => rfl
    | false =>
      have hm : i ∈ Region.ready .any ops L := mem_ready.2 ⟨by
        rw [Array.getD_eq_getD_getElem?, Array.getElem?_eq_getElem (by omega)] at hc ⊢
        simpa using hc, o, ho, fun e he hb => ih _ ((backB_at h ho).1 e he hb) (by have := (backB_at h ho).1 e he hb; omega)⟩
      rw [hr] at hm
      cases hm
/-- The slots that a region writes, filled. -/
def fillT (t : Array Value) (v : Nat → Value) : List Nat → Array Value
  | [] => t
  | k :: ks => (fillT t v ks).setIfInBounds k (v k)
theorem size_fillT (t : Array Value) (v : Nat → Value) : ∀ ks, (fillT t v ks).size = t.size
  | [] => rfl
  | k :: ks => by rw [fillT, Array.size_setIfInBounds, size_fillT t v ks]
theorem get_fillT (t : Array Value) (v : Nat → Value) (j : Nat) (hj : j < t.size) : ∀ ks, (fillT t v ks)[j]? = if j ∈ ks then some (v j) else t[j]?
  | [] => by simp [fillT]
  | k :: ks => by
    rw [fillT, Array.getElem?_setIfInBounds]
    by_cases h : k = j
    · subst h
      rw [if_pos rfl, size_fillT, if_pos hj, if_pos List.mem_cons_self]
    · rw [if_neg h, get_fillT t v j hj ks]
      by_cases hm : j ∈ ks
      · rw [if_pos hm, if_pos (List.mem_cons_of_mem _ hm)]
      · rw [if_neg hm, if_neg (by
          rw [List.mem_cons]
          rintro (h2 | h2)
          · exact h h2.symm
          · exact hm h2)]
def setB (d : Nat → Bool) (i : Nat) : Nat → Bool := fun j => if j = i then true else d j
def setV (v : Nat → Value) (t : Option Tmp) (x : Value) : Nat → Value := match t with
  | some t => fun k => if k = t then x else v k
  | none => v
theorem getD_put (a : Act) (t : Option Tmp) (x : Value) (ht : ∀ k, t = some k → k < a.tmps.size) : (fun k => (a.put t x).tmps.getD k undef) = setV (fun k => a.tmps.getD k undef) t x := by
  funext k
  cases t with
  | none => rfl
  | some t =>
    show (a.tmps.setIfInBounds t x).getD k undef = if k = t then x else a.tmps.getD k undef
    rw [Array.getD_eq_getD_getElem?, Array.getElem?_setIfInBounds]
    by_cases h : t = k
    · subst h
      rw [if_pos rfl, if_pos (ht t rfl), if_pos rfl]
      rfl
    · rw [if_neg h, if_neg (Ne.symm h), Array.getD_eq_getD_getElem?]
theorem getD_set (L : Array Bool) (i : Nat) (hi : i < L.size) : (fun j => (L.setIfInBounds i true).getD j false) = setB (fun j => L.getD j false) i := by
  funext j
  unfold setB
  rw [Array.getD_eq_getD_getElem?, Array.getElem?_setIfInBounds]
  by_cases h : i = j
  · subst h
    rw [if_pos rfl, if_pos hi, if_pos rfl]
    rfl
  · rw [if_neg h, if_neg (Ne.symm h)]
    show _ = L.getD j false
    rw [Array.getD_eq_getD_getElem?]
def dstsB (ops : Array Oper) (K : List Nat) (n : Nat) : Bool := ops.toList.all fun o => match o.dst with
  | some t => K.contains t && decide (t < n)
  | none => true
theorem dsts_at {ops : Array Oper} {K : List Nat} {n : Nat} (h : dstsB ops K n = true) {i : Nat} {o : Oper} (ho : ops[i]? = some o) : ∀ t, o.dst = some t → t ∈ K ∧ t < n := by
  intro t ht
  have := List.all_eq_true.1 h o (Array.mem_toList_iff.2 (Array.mem_of_getElem? ho))
  rw [ht] at this
  simp only [Bool.and_eq_true, decide_eq_true_eq] at this
  exact ⟨by simpa using this.1, this.2⟩
/-- THE LAW: facts of what has come up (d), of what the slots hold (v), of the world. -/
theorem wp_region_facts {P : Program} {ops : Array Oper} {Q : Exit → Act → World → Prop} {id : Nat} {a0 : Act} {w0 : World} (hm : P.follows .mixedOrders = true) (K : List Nat) (n : Nat) (hn : a0.tmps.size = n) (hback : backB ops = true) (hdst : dstsB ops K n = true)
    (F : (Nat → Bool) → (Nat → Value) → World → Prop) (h0 : F (fun _ => false) (fun k => a0.tmps.getD k undef) w0.drew)
    (hs : ∀ (d : Nat → Bool) (a : Act) (w : World) (i : Nat) (o : Oper), ops[i]? = some o → d i = false → (∀ e ∈ o.after, Region.binds .any e = true → d e.on = true) → (∀ k, k ∉ K → a.tmps.getD k undef = a0.tmps.getD k undef) → F d (fun k => a.tmps.getD k undef) w →
      ∀ R : Act → World → Prop, (∀ x w', F (setB d i) (setV (fun k => a.tmps.getD k undef) o.dst x) w' → R (a.put o.dst x) w') → o.wp P a w R Q)
    (hd : ∀ (v : Nat → Value) (w : World), F (fun i => decide (i < ops.size)) v w → Q .normal { a0 with tmps := fillT a0.tmps v K } w) : (Code.region id ops true).wp P Q a0 w0 := by
  subst hn
  refine wp_region_inv hm (fun L a w => (a.defers = a0.defers ∧ a.tmps.size = a0.tmps.size ∧ ∀ k, k ∉ K → a.tmps.getD k undef = a0.tmps.getD k undef) ∧ F (fun i => L.getD i false) (fun k => a.tmps.getD k undef) w) ⟨⟨rfl, rfl, fun k _ => rfl⟩, ?_⟩ ?_ ?_
  · have : (fun i => (Array.replicate ops.size false).getD i false) = fun _ => false := by
      funext i
      rw [Array.getD_eq_getD_getElem?, Array.getElem?_replicate]
      split <;> rfl
    rw [this]
    exact h0
  · intro L a w i o hL ho hi hall hI R hR
    obtain ⟨⟨h1, h2, h3⟩, hF⟩ := hI
    have hlt : i < L.size := by rw [hL]; exact (Array.getElem?_eq_some_iff.1 ho).1
    have hw : Region.wanted o (yielded ops a.tmps) = true := by simp [Region.wanted, (backB_at hback ho).2]
    rw [if_pos hw]
    refine hs (fun i => L.getD i false) a w i o ho ?_ hall h3 hF R fun x w' hx => hR _ _ ⟨⟨?_, ?_, fun k hk => ?_⟩, ?_⟩
    · rw [Array.getD_eq_getD_getElem?, Array.getElem?_eq_getElem hlt] at hi ⊢
      simpa using hi
    · unfold Act.put; cases o.dst <;> exact h1
    · unfold Act.put; cases o.dst
      · exact h2
      · rw [Array.size_setIfInBounds]; exact h2
    · rw [← h3 k hk]
      have hg := congrFun (getD_put a o.dst x (fun t ht => by rw [h2]; exact (dsts_at hdst ho t ht).2)) k
      have e : ∀ t, o.dst = t → setV (fun k => a.tmps.getD k undef) t x k = a.tmps.getD k undef := fun t ht => by
        cases t with
        | none => rfl
        | some t => exact if_neg (fun h => hk (by rw [h]; exact (dsts_at hdst ho t ht).1))
      exact hg.trans (e _ rfl)
    · rw [getD_set L i hlt, getD_put a o.dst x (fun t ht => by rw [h2]; exact (dsts_at hdst ho t ht).2)]
      exact hx
  · intro L a w hL hI hr
    obtain ⟨⟨h1, h2, h3⟩, hF⟩ := hI
    have hall := all_listed hback hL hr
    have hfun : (fun i => L.getD i false) = fun i => decide (i < ops.size) := by
      funext i
      by_cases hi : i < ops.size
      · rw [hall i hi, decide_eq_true hi]
      · rw [decide_eq_false hi, Array.getD_eq_getD_getElem?, Array.getElem?_eq_none (by omega)]
        rfl
    rw [hfun] at hF
    have := hd _ w hF
    have ha : a = { a0 with tmps := fillT a0.tmps (fun k => a.tmps.getD k undef) K } := by
      cases a with
      | mk tmps defers =>
        simp only at h1 h2 h3 ⊢
        rw [h1]
        congr 1
        refine Array.ext_getElem? fun j => ?_
        by_cases hj : j < a0.tmps.size
        · rw [get_fillT _ _ j hj]
          have hget : tmps[j]? = some (tmps.getD j undef) := by rw [Array.getD_eq_getD_getElem?, Array.getElem?_eq_getElem (by omega)]; rfl
          split
          · exact hget
          · rename_i hk
            rw [hget, h3 j hk, Array.getD_eq_getD_getElem?, Array.getElem?_eq_getElem hj]; rfl
        · rw [Array.getElem?_eq_none (by omega), Array.getElem?_eq_none (by rw [size_fillT]; omega)]
    rw [ha]
    exact this
section
variable {dst dead : Nat → Nat} {own : Nat → Bool} {claim : Nat → Value → World → Prop} {B : Nat} {w0 w w' : World} {d : Nat → Bool} {v : Nat → Value}
theorem setB_ne {d : Nat → Bool} {i j : Nat} (h : j ≠ i) : setB d i j = d j := if_neg h
theorem setB_eq {d : Nat → Bool} {i : Nat} : setB d i i = true := if_pos rfl
end
end Go.Proofs.YtnnlpkbopeiefaaGreatDoor

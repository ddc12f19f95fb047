import Derived.Test.YtnnlpkbopeiefaaGreatDoorReg
/-! A drawn region with guards: what is known while it runs. Of no program. -/
namespace Go.Proofs.YtnnlpkbopeiefaaGreatDoor
set_option linter.unusedSimpArgs false
set_option linter.unusedVariables false
def backG (ops : Array Oper) : Bool := (List.range ops.size).all fun i => match ops[i]? with
  | some o => o.after.toList.all (fun e => !Region.binds .any e || decide (e.on < i))
  | none => true
theorem backG_at {ops : Array Oper} (h : backG ops = true) {i : Nat} {o : Oper} (ho : ops[i]? = some o) : ∀ e ∈ o.after, Region.binds .any e = true → e.on < i := by
  have hi := (Array.getElem?_eq_some_iff.1 ho).1
  have := List.all_eq_true.1 h i (List.mem_range.2 hi)
  rw [ho] at this
  intro e he hb
  have := List.all_eq_true.1 this e (Array.mem_toList_iff.2 he)
  rw [hb, Bool.not_true, Bool.false_or] at this
  exact of_decide_eq_true this
theorem all_listedG {ops : Array Oper} (h : backG ops = true) {L : Array Bool} (hL : L.size = ops.size) (hr : Region.ready .any ops L = []) : ∀ i, i < ops.size → L.getD i false = true := by
  intro i
  induction i using Nat.strongRecOn with
  | _ i ih =>
    intro hi
    obtain ⟨o, ho⟩ : ∃ o, ops[i]? = some o := ⟨_, Array.getElem?_eq_getElem hi⟩
    cases hc : L.getD i false with
    | true => rfl
    | false =>
      have hm : i ∈ Region.ready .any ops L := mem_ready.2 ⟨by
        rw [Array.getD_eq_getD_getElem?, Array.getElem?_eq_getElem (by omega)] at hc ⊢
        simpa using hc, o, ho, fun e he hb => ih _ (backG_at h ho e he hb) (by have := backG_at h ho e he hb; omega)⟩
      rw [hr] at hm
      cases hm
theorem wp_region_factsG {P : Program} {ops : Array Oper} {Q : Exit → Act → World → Prop} {id : Nat} {a0 : Act} {w0 : World} (hm : P.follows .mixedOrders = true) (K : List Nat) (n : Nat) (hn : a0.tmps.size = n) (hback : backG ops = true) (hdst : dstsB ops K n = true)
    (F : (Nat → Bool) → (Nat → Value) → World → Prop) (h0 : F (fun _ => false) (fun k => a0.tmps.getD k undef) w0.drew)
    (hs : ∀ (d : Nat → Bool) (a : Act) (w : World) (i : Nat) (o : Oper), ops[i]? = some o → d i = false → (∀ e ∈ o.after, Region.binds .any e = true → d e.on = true) → (∀ k, k ∉ K → a.tmps.getD k undef = a0.tmps.getD k undef) → F d (fun k => a.tmps.getD k undef) w →
      ∀ R : Act → World → Prop, (∀ x w', F (setB d i) (setV (fun k => a.tmps.getD k undef) o.dst x) w' → R (a.put o.dst x) w') → if Region.wanted o (yielded ops a.tmps) = true then o.wp P a w R Q else R (a.put o.dst undef) w)
    (hd : ∀ (v : Nat → Value) (w : World), F (fun i => decide (i < ops.size)) v w → Q .normal { a0 with tmps := fillT a0.tmps v K } w) : (Code.region id ops true).wp P Q a0 w0 := by
  subst hn
  refine wp_region_inv hm (fun L a w => (a.defers = a0.defers ∧ a.tmps.size = a0.tmps.size ∧ ∀ k, k ∉ K → a.tmps.getD k undef = a0.tmps.getD k undef) ∧ F (fun i => L.getD i false) (fun k => a.tmps.getD k undef) w) ⟨⟨rfl, rfl, fun k _ => rfl⟩, ?_⟩ ?_ ?_
  · have : (fun i => (Array.replicate ops.size false).getD i false) = fun _ => false := by
      funext i
      rw [Array.getD_eq_getD_getElem?, Array.getElem?_replicate]
      split <;> rfl
    rw [this]
    exact h0
  · intro L a w i o hL ho hi hall hI R hR
    obtain ⟨⟨h1, h2, h3⟩, hF⟩ := hI
    have hlt : i < L.size := by rw [hL]; exact (Array.getElem?_eq_some_iff.1 ho).1
    refine hs (fun i => L.getD i false) a w i o ho ?_ hall h3 hF R fun x w' hx => hR _ _ ⟨⟨?_, ?_, fun k hk => ?_⟩, ?_⟩
    · rw [Array.getD_eq_getD_getElem?, Array.getElem?_eq_getElem hlt] at hi ⊢
      simpa using hi
    · unfold Act.put; cases o.dst <;> exact h1
    · unfold Act.put; cases o.dst
      · exact h2
      · rw [Array.size_setIfInBounds]; exact h2
    · rw [← h3 k hk]
      have hg := congrFun (getD_put a o.dst x (fun t ht => by rw [h2]; exact (dsts_at hdst ho t ht).2)) k
      have e : ∀ t, o.dst = t → setV (fun k => a.tmps.getD k undef) t x k = a.tmps.getD k undef := fun t ht => by
        cases t with
        | none => rfl
        | some t => exact if_neg (fun h => hk (by rw [h]; exact (dsts_at hdst ho t ht).1))
      exact hg.trans (e _ rfl)
    · rw [getD_set L i hlt, getD_put a o.dst x (fun t ht => by rw [h2]; exact (dsts_at hdst ho t ht).2)]
      exact hx
  · intro L a w hL hI hr
    obtain ⟨⟨h1, h2, h3⟩, hF⟩ := hI
    have hall := all_listedG hback hL hr
    have hfun : (fun i => L.getD i false) = fun i => decide (i < ops.size) := by
      funext i
      by_cases hi : i < ops.size
      · rw [hall i hi, decide_eq_true hi]
      · rw [decide_eq_false hi, Array.getD_eq_getD_getElem?, Array.getElem?_eq_none (by omega)]
        rfl
    rw [hfun] at hF
    have := hd _ w hF
    have ha : a = { a0 with tmps := fillT a0.tmps (fun k => a.tmps.getD k undef) K } := by
      cases a with
      | mk tmps defers =>
        simp only at h1 h2 h3 ⊢
        rw [h1]
        congr 1
        refine Array.ext_getElem? fun j => ?_
        by_cases hj : j < a0.tmps.size
        · rw [get_fillT _ _ j hj]
          have hget : tmps[j]? = some (tmps.getD j undef) := by rw [Array.getD_eq_getD_getElem?, Array.getElem?_eq_getElem (by omega)]; rfl
          split
          · exact hget
          · rename_i hk
            rw [hget, h3 j hk, Array.getD_eq_getD_getElem?, Array.getElem?_eq_getElem hj]; rfl
        · rw [Array.getElem?_eq_none (by omega), Array.getElem?_eq_none (by rw [size_fillT]; omega)]
    rw [ha]
    exact this
end Go.Proofs.YtnnlpkbopeiefaaGreatDoor

import Derived.Test.YtnnlpkbopeiefaaGreatDoorJsT
import Derived.Test.YtnnlpkbopeiefaaGreatDoorVa
import Derived.Test.YtnnlpkbopeiefaaGreatDoorNumB
/-! PLAIN: the value of a node (P9.1), and why there is one: the nodes that a text gives are a tree. -/
namespace Go.Proofs.YtnnlpkbopeiefaaGreatDoor
set_option linter.unusedSimpArgs false
set_option linter.unusedVariables false
open Go.Lib
def slT (txt : List UInt8) (s : Sp) : Stp := if s.2 < s.1 ∨ txt.length < s.2 then [] else (txt.take s.2).drop s.1
def textV (k : Nat) (s : Stp) : Stp := if k = 2 then s else if k = 3 then textL (parseL s).1 else if k = 4 then (unqL s).1 else []
def keyV (txt : List UInt8) (ns : List NodeD) (k : Nat) : Stp := match ns[k]? with
  | some x => (unqL (slT txt x.key)).1
  | none => []
def nodeV (txt : List UInt8) (ns : List NodeD) : Nat → Nat → VT
  | 0, _ => .mk 0 [] [] []
  | f + 1, k => match ns[k]? with
    | none => .mk 0 [] [] []
    | some x => .mk (x.kind : Int) (textV x.kind (slT txt (x.sf, x.st))) (if x.kind = 6 then x.kids.map (keyV txt ns) else []) (x.kids.map (nodeV txt ns f))
/- A row of kids, one behind another, from a number up to one. -/
def KidsOk (P : Nat → Nat → Prop) : List Nat → Nat → Nat → Prop
  | [], a, hi => a = hi
  | kid :: l, a, hi => kid = a ∧ ∃ m, P kid m ∧ KidsOk P l m hi
theorem KidsOk.snoc {P : Nat → Nat → Prop} {hi : Nat} : ∀ {l : List Nat} {a k : Nat}, KidsOk P l a k → P k hi → KidsOk P (l ++ [k]) a hi
  | [], a, k, h, hp => by
    have e : a = k := h
    exact ⟨e.symm, hi, hp, rfl⟩
  | x :: l, a, k, h, hp => by
    obtain ⟨h1, m, h2, h3⟩ := h
    exact ⟨h1, m, h2, h3.snoc hp⟩
/-- The node k and all beneath it are the nodes from k up to hi, at most so many levels. -/
def TOk (ns : List NodeD) : Nat → Nat → Nat → Prop
  | 0, _, _ => False
  | lv + 1, k, hi => ∃ x, ns[k]? = some x ∧ KidsOk (TOk ns lv) x.kids (k + 1) hi
theorem KidsOk.imp {P Q : Nat → Nat → Prop} (hi : Nat) (hlt : ∀ k m, P k m → k < m) : ∀ {l : List Nat} {a : Nat}, KidsOk P l a hi → (∀ k m, a ≤ k → m ≤ hi → P k m → Q k m) → KidsOk Q l a hi
  | [], a, h, _ => h
  | x :: l, a, h, hq => by
    obtain ⟨rfl, m, h2, h3⟩ := h
    have hle : ∀ {l : List Nat} {a : Nat}, KidsOk P l a hi → a ≤ hi := by
      intro l
      induction l with
      | nil => intro a h; exact Nat.le_of_eq h
      | cons y l ih =>
        intro a h
        obtain ⟨rfl, m, h2, h3⟩ := h
        have := ih h3
        have := hlt _ _ h2
        omega
    have h4 := hlt _ _ h2
    exact ⟨rfl, m, hq _ _ (Nat.le_refl _) (hle h3) h2, h3.imp hi hlt (fun k m' h5 h6 h7 => hq k m' (by omega) h6 h7)⟩
theorem TOk.lt {ns : List NodeD} : ∀ {lv k hi : Nat}, TOk ns lv k hi → k < hi
  | lv + 1, k, hi, h => by
    obtain ⟨x, hx, h2⟩ := h
    have : ∀ (l : List Nat) (a : Nat), KidsOk (TOk ns lv) l a hi → a ≤ hi := by
      intro l
      induction l with
      | nil => intro a h; exact Nat.le_of_eq h
      | cons y l ih =>
        intro a h
        obtain ⟨rfl, m, h2, h3⟩ := h
        have := ih m h3
        have := TOk.lt h2
        omega
    have := this _ _ h2
    omega
theorem TOk.mono {ns ns' : List NodeD} : ∀ {lv k hi : Nat}, TOk ns lv k hi → (∀ j y, k ≤ j → j < hi → ns[j]? = some y → ∃ y', ns'[j]? = some y' ∧ y'.kids = y.kids) → TOk ns' lv k hi
  | lv + 1, k, hi, h, hs => by
    have hlt := h.lt
    obtain ⟨x, hx, h2⟩ := h
    obtain ⟨x', hx', hk⟩ := hs k x (Nat.le_refl _) hlt hx
    refine ⟨x', hx', ?_⟩
    rw [hk]
    exact h2.imp hi (fun _ _ => TOk.lt) (fun a m h3 h4 h5 => h5.mono (fun j y h6 h7 => hs j y (by omega) (by omega)))
def VT2 (lv : Nat) (V : VF) : Prop := ∀ rest last nodes key r l ns, V rest last nodes key = .ok r l ns → TOk ns lv nodes.length ns.length
theorem kid_tok {txt : List UInt8} {V : VF} {lv : Nat} (hV : VT2 lv V) {obj : Bool} {had had' : List (List UInt8)} {rest r : List Tok} {last l : Sp} {nodes ns : List NodeD} (h : kidM txt V obj had rest last nodes = (.ok r l ns, had')) : TOk ns lv nodes.length ns.length := by
  unfold kidM at h
  split at h
  · injection h with h _
    exact hV _ _ _ _ _ _ _ h
  · split at h
    · injection h with h _; cases h
    · split at h
      · injection h with h _; cases h
      · split at h
        · injection h with h _; cases h
        · split at h
          · injection h with h _; cases h
          · split at h
            · injection h with h _; cases h
            · injection h with h _
              exact hV _ _ _ _ _ _ _ h
theorem loop_tok {txt : List UInt8} {V : VF} {lv : Nat} (hV : VT2 lv V) (hE : Ext V) {closing : Nat} {obj : Bool} {pre : List NodeD} : ∀ (f : Nat) {had : List (List UInt8)} {rest : List Tok} {last : Sp} {nodes : List NodeD} {r : List Tok} {l : Sp} {ns : List NodeD} {x : NodeD} {post : List NodeD},
    Mid pre x post nodes → KidsOk (TOk nodes lv) x.kids (pre.length + 1) nodes.length → loopM txt V closing obj pre.length f had rest last nodes = .ok r l ns → ∃ x' post', Mid pre x' post' ns ∧ KidsOk (TOk ns lv) x'.kids (pre.length + 1) ns.length
  | 0, _, _, _, _, _, _, _, _, _, _, _, h => by cases h
  | f + 1, had, rest, last, nodes, r, l, ns, x, post, hm, hK, h => by
    unfold loopM at h
    split at h
    · cases h
    · rename_i r1 l1 ns1 had1 hk
      have ht := kid_tok hV hk
      obtain ⟨more, rfl, h2, h3, ⟨kk, h4⟩, h5⟩ := kid_ext hE hk
      split at h
      · cases h
      · rename_i t r'
        have hm2 := hm.add h5 h2 nodes.length (last.2, t.sf)
        have hst : ∀ j y, pre.length + 1 ≤ j → (nodes ++ more)[j]? = some y → ∃ y', (addKid pre.length nodes.length (last.2, t.sf) (nodes ++ more))[j]? = some y' ∧ y'.kids = y.kids := by
          intro j y hj hy
          unfold addKid
          rw [modN_at, if_neg (by omega)]
          exact ⟨y, hy, rfl⟩
        have hml := mid_len hm
        have hK2 : KidsOk (TOk (addKid pre.length nodes.length (last.2, t.sf) (nodes ++ more)) lv) (x.kids ++ [nodes.length]) (pre.length + 1) (addKid pre.length nodes.length (last.2, t.sf) (nodes ++ more)).length := by
          have hlen : (addKid pre.length nodes.length (last.2, t.sf) (nodes ++ more)).length = (nodes ++ more).length := modN_len _ _ _
          rw [hlen]
          refine KidsOk.snoc (hK.imp _ (fun _ _ => TOk.lt) (fun k m h6 h7 h8 => h8.mono (fun j y h9 h10 h11 => ?_))) (ht.mono (fun j y h9 h10 h11 => hst j y (by omega) h11))
          exact hst j y (by omega) (by rw [List.getElem?_append_left (by omega)]; exact h11)
        split at h
        · injection h with e1 e2 e3
          subst e3
          exact ⟨_, _, hm2, hK2⟩
        · split at h
          · exact loop_tok hV hE f hm2 hK2 h
          · cases h
theorem kids_tok {txt : List UInt8} {V : VF} {lv : Nat} (hV : VT2 lv V) (hE : Ext V) {closing : Nat} {obj : Bool} {pre : List NodeD} {rest : List Tok} {last : Sp} {nodes : List NodeD} {r : List Tok} {l : Sp} {ns : List NodeD} {x : NodeD} {post : List NodeD}
    (hm : Mid pre x post nodes) (hK : KidsOk (TOk nodes lv) x.kids (pre.length + 1) nodes.length) (h : kidsM txt V closing obj pre.length rest last nodes = .ok r l ns) : ∃ x' post', Mid pre x' post' ns ∧ KidsOk (TOk ns lv) x'.kids (pre.length + 1) ns.length := by
  unfold kidsM at h
  split at h
  · exact loop_tok hV hE _ hm hK h
  · split at h
    · injection h with h1 h2 h3
      subst h3
      exact ⟨x, post, hm, hK⟩
    · exact loop_tok hV hE _ hm hK h
theorem value_tok (txt : List UInt8) : ∀ lv, VT2 lv (valueM txt lv)
  | 0 => fun rest last nodes key r l ns h => by
    unfold valueM at h
    split at h <;> cases h
  | lv + 1 => fun rest last nodes key r l ns h => by
    have ih := value_tok txt lv
    have ie := value_ext txt lv
    cases rest with
    | nil =>
      unfold valueM at h
      rw [if_pos (show kindOfT (kindT []) = 0 from rfl)] at h
      cases h
    | cons t q =>
      unfold valueM at h
      split at h
      · cases h
      · split at h
        · cases h
        · simp only [] at h
          obtain ⟨ns', h1, rfl⟩ := endM_ok h
          have hm0 : Mid nodes ⟨kindOfT t.kind, t.sf, t.st, key, [], []⟩ [] (nodes ++ [⟨kindOfT t.kind, t.sf, t.st, key, [], []⟩]) := ⟨rfl, Nat.le_refl _, Nat.le_refl _, fun y hy => by cases hy⟩
          have hK0 : KidsOk (TOk (nodes ++ [(⟨kindOfT t.kind, t.sf, t.st, key, [], []⟩ : NodeD)]) lv) ([] : List Nat) (nodes.length + 1) (nodes ++ [(⟨kindOfT t.kind, t.sf, t.st, key, [], []⟩ : NodeD)]).length := by
            show nodes.length + 1 = _
            rw [List.length_append, List.length_singleton]
          have fin : ∀ {x' : NodeD} {post' : List NodeD}, Mid nodes x' post' ns' → KidsOk (TOk ns' lv) x'.kids (nodes.length + 1) ns'.length → TOk (setTo nodes.length l.2 ns') (lv + 1) nodes.length (setTo nodes.length l.2 ns').length := by
            intro x' post' hm hk
            have hlen : (setTo nodes.length l.2 ns').length = ns'.length := modN_len _ _ _
            have hxa := mid_at hm
            refine ⟨{ x' with st := l.2 }, ?_, ?_⟩
            · unfold setTo
              rw [modN_at, if_pos rfl, hxa]
              rfl
            · rw [hlen]
              refine hk.imp _ (fun _ _ => TOk.lt) (fun k m h6 h7 h8 => h8.mono (fun j y h9 h10 h11 => ?_))
              refine ⟨y, ?_, rfl⟩
              unfold setTo
              rw [modN_at, if_neg (by omega)]
              exact h11
          split at h1
          · obtain ⟨x', post', i1, i2⟩ := kids_tok ih ie hm0 hK0 h1
            exact fin i1 i2
          · split at h1
            · obtain ⟨x', post', i1, i2⟩ := kids_tok ih ie hm0 hK0 h1
              exact fin i1 i2
            · injection h1 with h2 h3 h4
              subst h4
              exact fin hm0 hK0
theorem parse_tree {s : List UInt8} {ns : List NodeD} {n : Int} (h : parseJ s = (ns, n, 0)) : TOk ns 32 0 ns.length := by
  obtain ⟨hs, T, l, ns', hT, hv, hp⟩ := parse_ok (s := s) (by rw [h])
  rw [h] at hp
  injection hp with e1 e2
  subst e1
  exact value_tok s 32 _ _ _ _ _ _ _ hv
theorem KidsOk.mem {P : Nat → Nat → Prop} {hi : Nat} : ∀ {l : List Nat} {a : Nat}, KidsOk P l a hi → ∀ k ∈ l, ∃ m, P k m
  | [], _, _, k, hk => by cases hk
  | x :: l, a, h, k, hk => by
    obtain ⟨rfl, m, h2, h3⟩ := h
    rcases List.mem_cons.1 hk with rfl | hk
    · exact ⟨m, h2⟩
    · exact h3.mem k hk
/-- A node's kids are nodes. -/
theorem TOk.kid {ns : List NodeD} {lv k hi : Nat} (h : TOk ns (lv + 1) k hi) {x : NodeD} (hx : ns[k]? = some x) {q : Nat} (hq : q ∈ x.kids) : (∃ m, TOk ns lv q m) ∧ q < ns.length := by
  obtain ⟨x', hx', h2⟩ := h
  rw [hx] at hx'
  injection hx' with e
  subst e
  obtain ⟨m, hm⟩ := h2.mem q hq
  refine ⟨⟨m, hm⟩, ?_⟩
  cases lv with
  | zero => exact hm.elim
  | succ lv =>
    obtain ⟨y, hy, _⟩ := hm
    exact (List.getElem?_eq_some_iff.1 hy).1
end Go.Proofs.YtnnlpkbopeiefaaGreatDoor

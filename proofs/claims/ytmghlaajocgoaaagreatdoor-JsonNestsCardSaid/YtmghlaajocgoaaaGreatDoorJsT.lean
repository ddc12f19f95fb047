import Derived.Test.YtmghlaajocgoaaaGreatDoorJsA
import Derived.Test.YtmghlaajocgoaaaGreatDoorLexB
/-! PLAIN: the same tokens elsewhere are read as the same tree, moved. -/
namespace Go.Proofs.YtmghlaajocgoaaaGreatDoor
set_option linter.unusedSimpArgs false
set_option linter.unusedVariables false
open Go.Lib

def All2 {α β : Type} (R : α → β → Prop) : List α → List β → Prop
  | [], [] => True
  | x :: l, y :: k => R x y ∧ All2 R l k
  | _, _ => False
section
variable {α β : Type} {R : α → β → Prop}
theorem All2.len : ∀ {l : List α} {k : List β}, All2 R l k → l.length = k.length
  | [], [], _ => rfl
  | _ :: l, _ :: k, h => by simp only [List.length_cons]; rw [All2.len h.2]
  | [], _ :: _, h => h.elim
  | _ :: _, [], h => h.elim
theorem All2.app : ∀ {l : List α} {k : List β} {l2 : List α} {k2 : List β}, All2 R l k → All2 R l2 k2 → All2 R (l ++ l2) (k ++ k2)
  | [], [], _, _, _, h2 => h2
  | _ :: _, _ :: _, _, _, h, h2 => ⟨h.1, All2.app h.2 h2⟩
  | [], _ :: _, _, _, h, _ => h.elim
  | _ :: _, [], _, _, h, _ => h.elim
theorem All2.split : ∀ {l l2 : List α} {k : List β}, All2 R (l ++ l2) k → ∃ k1 k2, k = k1 ++ k2 ∧ All2 R l k1 ∧ All2 R l2 k2
  | [], l2, k, h => ⟨[], k, rfl, trivial, h⟩
  | x :: l, l2, [], h => h.elim
  | x :: l, l2, y :: k, h => by
    obtain ⟨k1, k2, e, h1, h2⟩ := All2.split (l := l) h.2
    exact ⟨y :: k1, k2, by rw [e]; rfl, ⟨h.1, h1⟩, h2⟩
theorem All2.cons_l {x : α} {l : List α} {k : List β} (h : All2 R (x :: l) k) : ∃ y k', k = y :: k' ∧ R x y ∧ All2 R l k' := by
  cases k with
  | nil => exact h.elim
  | cons y k => exact ⟨y, k, rfl, h.1, h.2⟩
theorem All2.nil_l {k : List β} (h : All2 R [] k) : k = [] := by
  cases k with
  | nil => rfl
  | cons y k => exact h.elim
theorem All2.at : ∀ {l : List α} {k : List β}, All2 R l k → ∀ (i : Nat) (x : α), l[i]? = some x → ∃ y, k[i]? = some y ∧ R x y
  | [], [], _, i, x, hx => by simp at hx
  | u :: l, v :: k, h, 0, x, hx => by
    obtain rfl : u = x := by simpa using hx
    exact ⟨v, rfl, h.1⟩
  | u :: l, v :: k, h, i + 1, x, hx => by
    rw [List.getElem?_cons_succ] at hx
    rw [List.getElem?_cons_succ]
    exact All2.at h.2 i x hx
  | [], _ :: _, h, _, _, _ => h.elim
  | _ :: _, [], h, _, _, _ => h.elim
theorem split_tail (T r r1 : List α) (k j : Nat) (h1 : r1 = (T ++ r).drop k) (h2 : r = r1.drop j) : ∃ T1 T2, T = T1 ++ T2 ∧ r1 = T2 ++ r := by
  by_cases hk : k ≤ T.length
  · exact ⟨T.take k, T.drop k, (List.take_append_drop _ _).symm, by rw [h1, List.drop_append_of_le_length hk]⟩
  · refine ⟨T, [], by simp, ?_⟩
    have e : r1 = r.drop (k - T.length) := by rw [h1, List.drop_append, List.drop_of_length_le (by omega)]; rfl
    have hl1 : r1.length = r.length - (k - T.length) := by rw [e, List.length_drop]
    have hl2 : r.length = r1.length - j := by rw [← List.length_drop, ← h2]
    cases hr : r with
    | nil => rw [e, hr]; simp
    | cons u r' => rw [hr] at hl1 hl2; simp only [List.length_cons] at hl1 hl2; omega
theorem app_self {T r : List α} (h : T ++ r = r) : T = [] := by
  have := congrArg List.length h
  rw [List.length_append] at this
  exact List.length_eq_zero_iff.1 (by omega)
end
/-- A token, and the same one elsewhere. -/
structure TR (txt txt' : List UInt8) (a b : Nat) (t t' : Tok) : Prop where
  kind : t'.kind = t.kind
  sf : t.sf + a = t'.sf + b
  st : t.st + a = t'.st + b
  key : (txt'.drop t'.sf).take (t'.st - t'.sf) = (txt.drop t.sf).take (t.st - t.sf)
/-- A node, and the same one elsewhere. -/
structure NR (a b m n : Nat) (y y' : NodeD) : Prop where
  kind : y'.kind = y.kind
  sf : y.sf + a = y'.sf + b
  st : y.st + a = y'.st + b
  kids : y.kids.map (fun k => k + m) = y'.kids.map (fun k => k + n)
/-- What comes of a reading elsewhere: the same nodes, moved; or too deep. -/
def Mv (a b m n : Nat) (deep : Prop) (nodes nodes' : List NodeD) (r' : List Tok) (l : Sp) (ns : List NodeD) (X : JR) : Prop :=
  (∃ l' more more', ns = nodes ++ more ∧ X = .ok r' l' (nodes' ++ more') ∧ All2 (NR a b m n) more more' ∧ l.2 + a = l'.2 + b) ∨ (deep ∧ ∃ q, X = .bad q 5 ∧ a ≤ q + b)
def VM (txt txt' : List UInt8) (a b m n : Nat) (deep : Prop) (V V' : VF) : Prop :=
  ∀ (T r : List Tok) (last : Sp) (nodes : List NodeD) (key : Sp) (l : Sp) (ns : List NodeD), V (T ++ r) last nodes key = .ok r l ns →
  ∀ (T' r' : List Tok) (last' : Sp) (nodes' : List NodeD) (key' : Sp), All2 (TR txt txt' a b) T T' → nodes.length + m = nodes'.length + n → nodes'.length + ns.length ≤ nodes.length + 4096 →
  Mv a b m n deep nodes nodes' r' l ns (V' (T' ++ r') last' nodes' key')
section
variable {txt txt' : List UInt8} {a b m n : Nat} {deep : Prop} {V V' : VF}
theorem kid_move (hV : VM txt txt' a b m n deep V V') (hE : Ext V) {obj : Bool} {had had1 : List (List UInt8)} {T r : List Tok} {last : Sp} {nodes : List NodeD} {l : Sp} {ns : List NodeD} (h : kidM txt V obj had (T ++ r) last nodes = (.ok r l ns, had1))
    {T' : List Tok} (r' : List Tok) (last' : Sp) {nodes' : List NodeD} (hT : All2 (TR txt txt' a b) T T') (hn : nodes.length + m = nodes'.length + n) (hc : nodes'.length + ns.length ≤ nodes.length + 4096) :
    ∃ X, kidM txt' V' obj had (T' ++ r') last' nodes' = (X, had1) ∧ Mv a b m n deep nodes nodes' r' l ns X := by
  cases obj with
  | false =>
    unfold kidM at h ⊢
    rw [if_pos rfl] at h ⊢
    injection h with h1 h2
    subst h2
    exact ⟨_, rfl, hV T r last nodes (0, 0) l ns h1 T' r' last' nodes' (0, 0) hT hn hc⟩
  | true =>
    cases T with
    | nil =>
      exfalso
      obtain ⟨more, _, h2, h3, _⟩ := kid_ext hE h
      simp only [List.nil_append] at h3
      omega
    | cons t T1 =>
      obtain ⟨t', T1', rfl, ht, hT1⟩ := hT.cons_l
      unfold kidM at h ⊢
      rw [if_neg (by decide), List.cons_append] at h
      rw [if_neg (by decide), List.cons_append]
      simp only [] at h ⊢
      rw [ht.kind, ht.key]
      split at h
      · injection h with h1 _; cases h1
      · rename_i hk8
        rw [if_neg hk8]
        split at h
        · injection h with h1 _; cases h1
        · rename_i hin
          rw [if_neg hin]
          cases T1 with
          | nil =>
            exfalso
            simp only [List.nil_append] at h
            cases r with
            | nil => injection h with h1 _; cases h1
            | cons c r2 =>
              simp only [] at h
              split at h
              · injection h with h1 _; cases h1
              · injection h with h1 _
                obtain ⟨more, _, e2, e3, _⟩ := hE _ _ _ _ _ _ _ h1
                simp only [List.length_cons] at e3
                omega
          | cons c T2 =>
            obtain ⟨c', T2', rfl, hcc, hT2⟩ := hT1.cons_l
            rw [List.cons_append] at h
            rw [List.cons_append]
            simp only [] at h ⊢
            rw [hcc.kind]
            split at h
            · injection h with h1 _; cases h1
            · rename_i hk7
              rw [if_neg hk7]
              injection h with h1 h2
              subst h2
              exact ⟨_, rfl, hV T2 r _ nodes _ l ns h1 T2' r' _ nodes' _ hT2 hn hc⟩
/-- .. with the node that holds them. -/
def MvN (a b m n : Nat) (deep : Prop) (pre pre' : List NodeD) (r' : List Tok) (l : Sp) (ns : List NodeD) (X : JR) : Prop :=
  (∃ l' xf postf xf' postf', ns = pre ++ xf :: postf ∧ X = .ok r' l' (pre' ++ xf' :: postf') ∧ NR a b m n xf xf' ∧ All2 (NR a b m n) postf postf' ∧ l.2 + a = l'.2 + b) ∨ (deep ∧ ∃ q, X = .bad q 5 ∧ a ≤ q + b)
theorem loop_move (hV : VM txt txt' a b m n deep V V') (hE : Ext V) {closing : Nat} {obj : Bool} {pre pre' : List NodeD} (hpre : pre.length + m = pre'.length + n) : ∀ (f f' : Nat) {had : List (List UInt8)} {T r : List Tok} {last : Sp} {nodes : List NodeD} {l : Sp} {ns : List NodeD} {x : NodeD} {post : List NodeD},
    loopM txt V closing obj pre.length f had (T ++ r) last nodes = .ok r l ns → Mid pre x post nodes → ∀ {x' : NodeD} {post' : List NodeD} {T' : List Tok} (r' : List Tok) (last' : Sp), NR a b m n x x' → All2 (NR a b m n) post post' → All2 (TR txt txt' a b) T T' →
    (pre' ++ x' :: post').length + ns.length ≤ nodes.length + 4096 → (T' ++ r').length < f' → MvN a b m n deep pre pre' r' l ns (loopM txt' V' closing obj pre'.length f' had (T' ++ r') last' (pre' ++ x' :: post'))
  | 0, _, _, _, _, _, _, _, _, _, _, h, _, _, _, _, _, _, _, _, _, _, _ => by cases h
  | f + 1, 0, _, _, _, _, _, _, _, _, _, _, _, _, _, _, _, _, _, _, _, _, hf => by omega
  | f + 1, f' + 1, had, T, r, last, nodes, l, ns, x, post, h, hm, x', post', T', r', last', hx, hpost, hT, hc, hf => by
    have h0 := h
    unfold loopM at h ⊢
    split at h
    · cases h
    · rename_i r1 l1 ns1 had1 hk
      obtain ⟨more, rfl, g2, g3, ⟨k, g4⟩, g5⟩ := kid_ext hE hk
      split at h
      · cases h
      · rename_i t r2
        have hm2 := hm.add g5 g2 nodes.length (last.2, t.sf)
        have hpl := hpost.len
        -- what follows
        have hj : (∃ j, r = (t :: r2).drop j) ∧ (nodes ++ more).length ≤ ns.length ∧ r.length ≤ r2.length := by
          split at h
          · injection h with e1 e2 e3
            subst e1 e3
            exact ⟨⟨1, rfl⟩, by unfold addKid; rw [modN_len]; exact Nat.le_refl _, Nat.le_refl _⟩
          · split at h
            · obtain ⟨xq, pq, i1, _, _, _, i5, i6, k2, i7⟩ := loop_ext hE f hm2 h
              refine ⟨⟨k2 + 1, by rw [i7]; rfl⟩, ?_, ?_⟩
              · have e1 := congrArg List.length i1.1
                have e2 := congrArg List.length hm.1
                simp only [List.length_append, List.length_cons] at e1 e2 i5 ⊢
                omega
              · rw [i7, List.length_drop]; omega
            · cases h
        obtain ⟨⟨j, hj⟩, hns, hrl⟩ := hj
        obtain ⟨T1, T2, rfl, hT2⟩ := split_tail T r (t :: r2) k j g4 hj
        cases T2 with
        | nil =>
          exfalso
          rw [List.nil_append] at hT2
          rw [← hT2] at hrl
          simp only [List.length_cons] at hrl
          omega
        | cons t0 T3 =>
          rw [List.cons_append] at hT2
          injection hT2 with e1 e2
          subst e1
          obtain ⟨T1', T2', rfl, hT1, hT2'⟩ := hT.split
          obtain ⟨t', T3', rfl, htt, hT3⟩ := hT2'.cons_l
          have hk' : kidM txt V obj had (T1 ++ (t :: r2)) last nodes = (.ok (t :: r2) l1 (nodes ++ more), had1) := by
            rw [← hk, List.append_assoc, List.cons_append, ← e2]
          have hnl : nodes.length + m = (pre' ++ x' :: post').length + n := by
            have e1 := congrArg List.length hm.1
            simp only [List.length_append, List.length_cons] at e1 ⊢
            omega
          obtain ⟨X, hX, hMv⟩ := kid_move hV hE hk' (t' :: (T3' ++ r')) last' hT1 hnl (by omega)
          rw [List.append_assoc, List.cons_append, hX]
          rcases hMv with ⟨l1', mr, mr', e3, rfl, hmr, hl1⟩ | ⟨hdeep, q, rfl, hq⟩
          · have e3 := List.append_cancel_left e3
            subst e3
            simp only []
            rw [htt.kind]
            have hxk : NR a b m n { x with kids := x.kids ++ [nodes.length], pcs := x.pcs ++ [(last.2, t.sf)] } { x' with kids := x'.kids ++ [(pre' ++ x' :: post').length], pcs := x'.pcs ++ [(last'.2, t'.sf)] } :=
              ⟨hx.kind, hx.sf, hx.st, by simp only [List.map_append, List.map_cons, List.map_nil, hx.kids, hnl]⟩
            have hadd : addKid pre'.length (pre' ++ x' :: post').length (last'.2, t'.sf) ((pre' ++ x' :: post') ++ mr') = pre' ++ { x' with kids := x'.kids ++ [(pre' ++ x' :: post').length], pcs := x'.pcs ++ [(last'.2, t'.sf)] } :: (post' ++ mr') := by
              unfold addKid
              rw [List.append_assoc, List.cons_append, modN_mid]
            rw [hadd]
            split at h
            · rename_i hcl
              rw [if_pos hcl]
              injection h with e4 e5 e6
              have hT30 : T3 = [] := app_self (by rw [← e2]; exact e4)
              subst hT30
              obtain rfl := hT3.nil_l
              refine .inl ⟨_, _, _, _, _, ?_, rfl, hxk, hpost.app hmr, ?_⟩
              · rw [← e6]; exact hm2.1
              · rw [← e5]; exact htt.st
            · rename_i hcl
              rw [if_neg hcl]
              split at h
              · rename_i h6
                rw [if_pos h6]
                rw [e2] at h
                have hcnt : (pre' ++ { x' with kids := x'.kids ++ [(pre' ++ x' :: post').length], pcs := x'.pcs ++ [(last'.2, t'.sf)] } :: (post' ++ mr')).length + ns.length ≤ (addKid pre.length nodes.length (last.2, t.sf) (nodes ++ more)).length + 4096 := by
                  have e9 := hmr.len
                  unfold addKid
                  rw [modN_len]
                  simp only [List.length_append, List.length_cons] at hc ⊢
                  omega
                exact loop_move hV hE hpre f f' h hm2 r' _ hxk (hpost.app hmr) hT3 hcnt (by simp only [List.length_append, List.length_cons] at hf ⊢; omega)
              · cases h
          · exact .inr ⟨hdeep, q, rfl, hq⟩
theorem kids_move (hV : VM txt txt' a b m n deep V V') (hE : Ext V) {closing : Nat} {obj : Bool} {pre pre' : List NodeD} (hpre : pre.length + m = pre'.length + n) {T r : List Tok} {last : Sp} {nodes : List NodeD} {l : Sp} {ns : List NodeD} {x : NodeD} {post : List NodeD}
    (h : kidsM txt V closing obj pre.length (T ++ r) last nodes = .ok r l ns) (hm : Mid pre x post nodes) {x' : NodeD} {post' : List NodeD} {T' : List Tok} (r' : List Tok) (last' : Sp) (hx : NR a b m n x x') (hpost : All2 (NR a b m n) post post') (hT : All2 (TR txt txt' a b) T T')
    (hc : (pre' ++ x' :: post').length + ns.length ≤ nodes.length + 4096) : MvN a b m n deep pre pre' r' l ns (kidsM txt' V' closing obj pre'.length (T' ++ r') last' (pre' ++ x' :: post')) := by
  cases T with
  | nil =>
    exfalso
    rw [List.nil_append] at h
    unfold kidsM at h
    cases r with
    | nil =>
      obtain ⟨_, _, _, _, _, _, i5, i6, _⟩ := loop_ext hE _ hm h
      simp at i6; omega
    | cons u r =>
      simp only [] at h
      split at h
      · injection h with h1 _ _
        have := congrArg List.length h1
        simp at this
      · obtain ⟨_, _, _, _, _, _, i5, i6, _⟩ := loop_ext hE _ hm h
        omega
  | cons t T1 =>
    obtain ⟨t', T1', rfl, ht, hT1⟩ := hT.cons_l
    unfold kidsM at h ⊢
    rw [List.cons_append] at h
    rw [List.cons_append]
    simp only [] at h ⊢
    rw [ht.kind]
    split at h
    · rename_i hcl
      rw [if_pos hcl]
      injection h with e1 e2 e3
      have hT0 := app_self e1
      subst hT0
      obtain rfl := hT1.nil_l
      refine .inl ⟨_, _, _, _, _, ?_, rfl, hx, hpost, ?_⟩
      · rw [← e3]; exact hm.1
      · rw [← e2]; exact ht.st
    · rename_i hcl
      rw [if_neg hcl]
      exact loop_move hV hE hpre _ _ (T := t :: T1) (T' := t' :: T1') h hm r' last' hx hpost ⟨ht, hT1⟩ hc (by simp)
end
theorem endM_ok {k : Nat} {x : JR} {r : List Tok} {l : Sp} {ns : List NodeD} (hx : endM k x = .ok r l ns) : ∃ ns', x = .ok r l ns' ∧ ns = setTo k l.2 ns' := by
  cases x with
  | bad a e => cases hx
  | ok r' l' ns' =>
    injection hx with h1 h2 h3
    subst h1 h2
    exact ⟨ns', rfl, h3.symm⟩
theorem MvN.fin {a b m n : Nat} {deep : Prop} {nodes nodes' : List NodeD} {r' : List Tok} {l : Sp} {ns : List NodeD} {X : JR} (h : MvN a b m n deep nodes nodes' r' l ns X) : Mv a b m n deep nodes nodes' r' l (setTo nodes.length l.2 ns) (endM nodes'.length X) := by
  rcases h with ⟨l', xf, pf, xf', pf', rfl, rfl, h1, h2, h3⟩ | ⟨hd, q, rfl, hq⟩
  · refine .inl ⟨l', { xf with st := l.2 } :: pf, { xf' with st := l'.2 } :: pf', ?_, ?_, ⟨⟨h1.kind, h1.sf, h3, h1.kids⟩, h2⟩, h3⟩
    · unfold setTo; rw [modN_mid]
    · show JR.ok _ _ _ = _
      unfold setTo; rw [modN_mid]
  · exact .inr ⟨hd, q, rfl, hq⟩
theorem value_move (txt txt' : List UInt8) (a b m n : Nat) (deep : Prop) : ∀ (lv lv' : Nat), (lv' < lv → deep) → VM txt txt' a b m n deep (valueM txt lv) (valueM txt' lv')
  | 0, _, _ => fun T r last nodes key l ns h => by
    unfold valueM at h
    split at h <;> cases h
  | lv + 1, lv', hd => fun T r last nodes key l ns h T' r' last' nodes' key' hT hn hc => by
    have hE := value_ext txt lv
    obtain ⟨mr, hmr, hm1, hm2, _⟩ := value_ext txt (lv + 1) _ _ _ _ _ _ _ h
    cases T with
    | nil => exfalso; rw [List.nil_append] at hm2; omega
    | cons t T1 =>
      obtain ⟨t', T1', rfl, ht, hT1⟩ := hT.cons_l
      rw [List.cons_append] at h
      rw [List.cons_append]
      unfold valueM at h
      rw [show kindT (t :: (T1 ++ r)) = t.kind from rfl] at h
      split at h
      · cases h
      · rename_i hk0
        split at h
        · cases h
        · rename_i hmany
          simp only [] at h
          obtain ⟨ns0, h1, rfl⟩ := endM_ok h
          have hk0' : ¬ kindOfT (kindT (t' :: (T1' ++ r'))) = 0 := by rw [show kindT (t' :: (T1' ++ r')) = t'.kind from rfl, ht.kind]; exact hk0
          cases lv' with
          | zero =>
            refine .inr ⟨hd (by omega), t'.sf, ?_, by have := ht.sf; omega⟩
            unfold valueM
            rw [if_neg hk0']
            rfl
          | succ lv' =>
            have hlen : (setTo nodes.length l.2 ns0).length = ns0.length := by unfold setTo; rw [modN_len]
            have hmany' : ¬ nodes'.length = 4096 := by
              have := congrArg List.length hmr
              rw [hlen, List.length_append] at this
              rw [hlen] at hc
              omega
            have ih := value_move txt txt' a b m n deep lv lv' (fun h => hd (by omega))
            have hx : NR a b m n (⟨kindOfT t.kind, t.sf, t.st, key, [], []⟩ : NodeD) ⟨kindOfT t.kind, t'.sf, t'.st, key', [], []⟩ := ⟨rfl, ht.sf, ht.st, rfl⟩
            have hm0 : Mid nodes (⟨kindOfT t.kind, t.sf, t.st, key, [], []⟩ : NodeD) [] (nodes ++ [⟨kindOfT t.kind, t.sf, t.st, key, [], []⟩]) := ⟨rfl, Nat.le_refl _, Nat.le_refl _, fun y hy => by cases hy⟩
            have hcc : (nodes' ++ [(⟨kindOfT t.kind, t'.sf, t'.st, key', [], []⟩ : NodeD)]).length + ns0.length ≤ (nodes ++ [(⟨kindOfT t.kind, t.sf, t.st, key, [], []⟩ : NodeD)]).length + 4096 := by
              rw [hlen] at hc
              simp only [List.length_append, List.length_cons, List.length_nil]
              omega
            unfold valueM
            rw [if_neg hk0', if_neg hmany']
            simp only []
            rw [ht.kind]
            split at h1
            · rename_i h4
              rw [if_pos h4]
              exact (kids_move ih hE hn h1 hm0 (post' := []) r' (t'.sf, t'.st) hx trivial hT1 hcc).fin
            · rename_i h4
              rw [if_neg h4]
              split at h1
              · rename_i h2
                rw [if_pos h2]
                exact (kids_move ih hE hn h1 hm0 (post' := []) r' (t'.sf, t'.st) hx trivial hT1 hcc).fin
              · rename_i h2
                rw [if_neg h2]
                injection h1 with e1 e2 e3
                have hT0 := app_self e1
                subst hT0
                obtain rfl := hT1.nil_l
                have hN : MvN a b m n deep nodes nodes' r' l ns0 (.ok r' (t'.sf, t'.st) (nodes' ++ [⟨kindOfT t.kind, t'.sf, t'.st, key', [], []⟩])) :=
                  .inl ⟨_, _, [], _, [], by rw [← e3], rfl, hx, trivial, by rw [← e2]; exact ht.st⟩
                exact hN.fin
end Go.Proofs.YtmghlaajocgoaaaGreatDoor

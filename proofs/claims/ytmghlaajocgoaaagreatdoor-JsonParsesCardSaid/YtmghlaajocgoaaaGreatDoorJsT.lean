import Derived.Test.YtmghlaajocgoaaaGreatDoorJsA
import Derived.Test.YtmghlaajocgoaaaGreatDoorLexA
/-! PLAIN: the same tokens elsewhere are read as the same tree, moved. -/
namespace Go.Proofs.YtmghlaajocgoaaaGreatDoor
set_option linter.unusedSimpArgs false
set_option linter.unusedVariables false
open Go.Lib
def All2 {α β : Type} (R : α → β → Prop) : List α → List β → Prop
  | [], [] => True
  | x :: l, y :: k => R x y ∧ All2 R l k
  | _, _ => False
section
variable {α β : Type} {R : α → β → Prop}
theorem All2.len : ∀ {l : List α} {k : List β}, All2 R l k → l.length = k.length
  | [], [], _ => rfl
  | _ :: l, _ :: k, h => by simp only [List.length_cons]; rw [All2.len h.2]
  | [], _ :: _, h => h.elim
  | _ :: _, [], h => h.elim
theorem All2.app : ∀ {l : List α} {k : List β} {l2 : List α} {k2 : List β}, All2 R l k → All2 R l2 k2 → All2 R (l ++ l2) (k ++ k2)
  | [], [], _, _, _, h2 => h2
  | _ :: _, _ :: _, _, _, h, h2 => ⟨h.1, All2.app h.2 h2⟩
  | [], _ :: _, _, _, h, _ => h.elim
  | _ :: _, [], _, _, h, _ => h.elim
theorem All2.split : ∀ {l l2 : List α} {k : List β}, All2 R (l ++ l2) k → ∃ k1 k2, k = k1 ++ k2 ∧ All2 R l k1 ∧ All2 R l2 k2
  | [], l2, k, h => ⟨[], k, rfl, trivial, h⟩
  | x :: l, l2, [], h => h.elim
  | x :: l, l2, y :: k, h => by
    obtain ⟨k1, k2, e, h1, h2⟩ := All2.split (l := l) h.2
    exact ⟨y :: k1, k2, by rw [e]; rfl, ⟨h.1, h1⟩, h2⟩
theorem All2.cons_l {x : α} {l : List α} {k : List β} (h : All2 R (x :: l) k) : ∃ y k', k = y :: k' ∧ R x y ∧ All2 R l k' := by
  cases k with
  | nil => exact h.elim
  | cons y k => exact ⟨y, k, rfl, h.1, h.2⟩
theorem All2.nil_l {k : List β} (h : All2 R [] k) : k = [] := by
  cases k with
  | nil => rfl
  | cons y k => exact h.elim
theorem All2.at : ∀ {l : List α} {k : List β}, All2 R l k → ∀ (i : Nat) (x : α), l[i]? = some x → ∃ y, k[i]? = some y ∧ R x y
  | [], [], _, i, x, hx => by simp at hx
  | u :: l, v :: k, h, 0, x, hx => by
    obtain rfl : u = x := by simpa using hx
    exact ⟨v, rfl, h.1⟩
  | u :: l, v :: k, h, i + 1, x, hx => by
    rw [List.getElem?_cons_succ] at hx
    rw [List.getElem?_cons_succ]
    exact All2.at h.2 i x hx
  | [], _ :: _, h, _, _, _ => h.elim
  | _ :: _, [], h, _, _, _ => h.elim
theorem split_tail (T r r1 : List α) (k j : Nat) (h1 : r1 = (T ++ r).drop k) (h2 : r = r1.drop j) : ∃ T1 T2, T = T1 ++ T2 ∧ r1 = T2 ++ r := by
  by_cases hk : k ≤ T.length
  · exact ⟨T.take k, T.drop k, (List.take_append_drop _ _).symm, by rw [h1, List.drop_append_of_le_length hk]⟩
  · refine ⟨T, [], by simp, ?_⟩
    have e : r1 = r.drop (k - T.length) := by rw [h1, List.drop_append, List.drop_of_length_le (by omega)]; rfl
    have hl1 : r1.length = r.length - (k - T.length) := by rw [e, List.length_drop]
    have hl2 : r.length = r1.length - j := by rw [← List.length_drop, ← h2]
    cases hr : r with
    | nil => rw [e, hr]; simp
    | cons u r' => rw [hr] at hl1 hl2; simp only [List.length_cons] at hl1 hl2; omega
theorem app_self {T r : List α} (h : T ++ r = r) : T = [] := by
  have := congrArg List.length h
  rw [List.length_append] at this
  exact List.length_eq_zero_iff.1 (by omega)
end
/-- A token, and the same one elsewhere. -/
structure TR (txt txt' : List UInt8) (a b : Nat) (t t' : Tok) : Prop where
  kind : t'.kind = t.kind
  sf : t.sf + a = t'.sf + b
  st : t.st + a = t'.st + b
  key : (txt'.drop t'.sf).take (t'.st - t'.sf) = (txt.drop t.sf).take (t.st - t.sf)
/-- A node, and the same one elsewhere. -/
structure NR (a b m n : Nat) (y y' : NodeD) : Prop where
  kind : y'.kind = y.kind
  sf : y.sf + a = y'.sf + b
  st : y.st + a = y'.st + b
  kids : y.kids.map (fun k => k + m) = y'.kids.map (fun k => k + n)
/-- What comes of a reading elsewhere: the same nodes, moved; or too deep. -/
def Mv (a b m n : Nat) (deep : Prop) (nodes nodes' : List NodeD) (r' : List Tok) (l : Sp) (ns : List NodeD) (X : JR) : Prop :=
  (∃ l' more more', ns = nodes ++ more ∧ X = .ok r' l' (nodes' ++ more') ∧ All2 (NR a b m n) more more' ∧ l.2 + a = l'.2 + b) ∨ (deep ∧ ∃ q, X = .bad q 5 ∧ a ≤ q + b)
def VM (txt txt' : List UInt8) (a b m n : Nat) (deep : Prop) (V V' : VF) : Prop :=
  ∀ (T r : List Tok) (last : Sp) (nodes : List NodeD) (key : Sp) (l : Sp) (ns : List NodeD), V (T ++ r) last nodes key = .ok r l ns →
  ∀ (T' r' : List Tok) (last' : Sp) (nodes' : List NodeD) (key' : Sp), All2 (TR txt txt' a b) T T' → nodes.length + m = nodes'.length + n → nodes'.length + ns.length ≤ nodes.length + 4096 →
  Mv a b m n deep nodes nodes' r' l ns (V' (T' ++ r') last' nodes' key')
section
variable {txt txt' : List UInt8} {a b m n : Nat} {deep : Prop} {V V' : VF}
theorem kid_move (hV : VM txt txt' a b m n deep V V') (hE : Ext V) {obj : Bool} {had had1 : List (List UInt8)} {T r : List Tok} {last : Sp} {nodes : List NodeD} {l : Sp} {ns : List NodeD} (h : kidM txt V obj had (T ++ r) last nodes = (.ok r l ns, had1))
    {T' : List Tok} (r' : List Tok) (last' : Sp) {nodes' : List NodeD} (hT : All2 (TR txt txt' a b) T T') (hn : nodes.length + m = nodes'.length + n) (hc : nodes'.length + ns.length ≤ nodes.length + 4096) :
    ∃ X, kidM txt' V' obj had (T' ++ r') last' nodes' = (X, had1) ∧ Mv a b m n deep nodes nodes' r' l ns X := by
  cases obj with
  | false =>
    unfold kidM at h ⊢
    rw [if_pos rfl] at h ⊢
    injection h with h1 h2
    subst h2
    exact ⟨_, rfl, hV T r last nodes (0, 0) l ns h1 T' r' last' nodes' (0, 0) hT hn hc⟩
  | true =>
    cases T with
    | nil =>
      exfalso
      obtain ⟨more, _, h2, h3, _⟩ := kid_ext hE h
      simp only [List.nil_append] at h3
      omega
    | cons t T1 =>
      obtain ⟨t', T1', rfl, ht, hT1⟩ := hT.cons_l
      unfold kidM at h ⊢
      rw [if_neg (by decide), List.cons_append] at h
      rw [if_neg (by decide), List.cons_append]
      simp only [] at h ⊢
      rw [ht.kind, ht.key]
      split at h
      · injection h with h1 _; cases h1
      · rename_i hk8
        rw [if_neg hk8]
        split at h
        · injection h with h1 _; cases h1
        · rename_i hin
          rw [if_neg hin]
          cases T1 with
          | nil =>
            exfalso
            simp only [List.nil_append] at h
            cases r with
            | nil => injection h with h1 _; cases h1
            | cons c r2 =>
              simp only [] at h
              split at h
              · injection h with h1 _; cases h1
              · injection h with h1 _
                obtain ⟨more, _, e2, e3, _⟩ := hE _ _ _ _ _ _ _ h1
                simp only [List.length_cons] at e3
                omega
          | cons c T2 =>
            obtain ⟨c', T2', rfl, hcc, hT2⟩ := hT1.cons_l
            rw [List.cons_append] at h
            rw [List.cons_append]
            simp only [] at h ⊢
            rw [hcc.kind]
            split at h
            · injection h with h1 _; cases h1
            · rename_i hk7
              rw [if_neg hk7]
              injection h with h1 h2
              subst h2
              exact ⟨_, rfl, hV T2 r _ nodes _ l ns h1 T2' r' _ nodes' _ hT2 hn hc⟩
/-- .. with the node that holds them. -/
def MvN (a b m n : Nat) (deep : Prop) (pre pre' : List NodeD) (r' : List Tok) (l : Sp) (ns : List NodeD) (X : JR) : Prop :=
  (∃ l' xf postf xf' postf', ns = pre ++ xf :: postf ∧ X = .ok r' l' (pre' ++ xf' :: postf') ∧ NR a b m n xf xf' ∧ All2 (NR a b m n) postf postf' ∧ l.2 + a = l'.2 + b) ∨ (deep ∧ ∃ q, X = .bad q 5 ∧ a ≤ q + b)
theorem loop_move (hV : VM txt txt' a b m n deep V V') (hE : Ext V) {closing : Nat} {obj : Bool} {pre pre' : List NodeD} (hpre : pre.length + m = pre'.length + n) : ∀ (f f' : Nat) {had : List (List UInt8)} {T r : List Tok} {last : Sp} {nodes : List NodeD} {l : Sp} {ns : List NodeD} {x : NodeD} {post : List NodeD},
    loopM txt V closing obj pre.length f had (T ++ r) last nodes = .ok r l ns → Mid pre x post nodes → ∀ {x' : NodeD} {post' : List NodeD} {T' : List Tok} (r' : List Tok) (last' : Sp), NR a b m n x x' → All2 (NR a b m n) post post' → All2 (TR txt txt' a b) T T' →
    (pre' ++ x' :: post').length + ns.length ≤ nodes.length + 4096 → (T' ++ r').length < f' → MvN a b m n deep pre pre' r' l ns (loopM txt' V' closing obj pre'.length f' had (T' ++ r') last' (pre' ++ x' :: post'))
  | 0, _, _, _, _, _, _, _, _, _, _, h, _, _, _, _, _, _, _, _, _, _, _ => by cases h
  | f + 1, 0, _, _, _, _, _, _, _, _, _, _, _, _, _, _, _, _, _, _, _, _, hf => by omega
  | f + 1, f' + 1, had, T, r, last, nodes, l, ns, x, post, h, hm, x', post', T', r', last', hx, hpost, hT, hc, hf => by
    have h0 := h
    unfold loopM at h ⊢
    split at h
    · cases h
    · rename_i r1 l1 ns1 had1 hk
      obtain ⟨more, rfl, g2, g3, ⟨k, g4⟩, g5⟩ := kid_ext hE hk
      split at h
      · cases h
      · rename_i t r2
        have hm2 := hm.add g5 g2 nodes.length (last.2, t.sf)
        have hpl := hpost.len
        -- what follows
        have hj : (∃ j, r = (t :: r2).drop j) ∧ (nodes ++ more).length ≤ ns.length ∧ r.length ≤ r2.length := by
          split at h
          · injection h with e1 e2 e3
            subst e1 e3
            exact ⟨⟨1, rfl⟩, by unfold addKid; rw [modN_len]; exact Nat.le_refl _, Nat.le_refl _⟩
          · split at h
            · obtain ⟨xq, pq, i1, _, _, _, i5, i6, k2, i7⟩ := loop_ext hE f hm2 h
              refine ⟨⟨k2 + 1, by rw [i7]; rfl⟩, ?_, ?_⟩
              · have e1 := congrArg List.length i1.1
                have e2 := congrArg List.length hm.1
                simp only [List.length_append, List.length_cons] at e1 e2 i5 ⊢
                omega
              · rw [i7, List.length_drop]; omega
            · cases h
        obtain ⟨⟨j, hj⟩, hns, hrl⟩ := hj
        obtain ⟨T1, T2, rfl, hT2⟩ := split_tail T r (t :: r2) k j g4 hj
        cases T2 with
        | nil =>
          exfalso
          rw [List.nil_append] at hT2
          rw [← hT2] at hrl
          simp only [List.length_cons] at hrl
          omega
        | cons t0 T3 =>
          rw [List.cons_append] at hT2
          injection hT2 with e1 e2
          subst e1
          obtain ⟨T1', T2', rfl, hT1, hT2'⟩ := hT.split
          obtain ⟨t', T3', rfl, htt, hT3⟩ := hT2'.cons_l
          have hk' : kidM txt V obj had (T1 ++ (t :: r2)) last nodes = (.ok (t :: r2) l1 (nodes ++ more), had1) := by
            rw [← hk, List.append_assoc, List.cons_append, ← e2]
          have hnl : nodes.length + m = (pre' ++ x' :: post').length + n := by
            have e1 := congrArg List.length hm.1
            simp only [List.length_append, List.length_cons] at e1 ⊢
            omega
          obtain ⟨X, hX, hMv⟩ := kid_move hV hE hk' (t' :: (T3' ++ r')) last' hT1 hnl (by omega)
          rw [List.append_assoc, List.cons_append, hX]
          rcases hMv with ⟨l1', mr, mr', e3, rfl, hmr, hl1⟩ | ⟨hdeep, q, rfl, hq⟩
          · have e3 := List.append_cancel_left e3
            subst e3
            simp only []
            rw [htt.kind]
            have hxk : NR a b m n { x with kids := x.kids ++ [nodes.length], pcs := x.pcs ++ [(last.2, t.sf)] } { x' with kids := x'.kids ++ [(pre' ++ x' :: post').length], pcs := x'.pcs ++ [(last'.2, t'.sf)] } :=
              ⟨hx.kind, hx.sf, hx.st, by simp only [List.map_append, List.map_cons, List.map_nil, hx.kids, hnl]⟩
            have hadd : addKid pre'.length (pre' ++ x' :: post').length (last'.2, t'.sf) ((pre' ++ x' :: post') ++ mr') = pre' ++ { x' with kids := x'.kids ++ [(pre' ++ x' :: post').length], pcs := x'.pcs ++ [(last'.2, t'.sf)] } :: (post' ++ mr') := by
              unfold addKid
              rw [List.append_assoc, List.cons_append, modN_mid]
            rw [hadd]
            split at h
            · rename_i hcl
              rw [if_pos hcl]
              injection h with e4 e5 e6
              have hT30 : T3 = [] := app_self (by rw [← e2]; exact e4)
              subst hT30
              obtain rfl := hT3.nil_l
              refine .inl ⟨_, _, _, _, _, ?_, rfl, hxk, hpost.app hmr, ?_⟩
              · rw [← e6]; exact hm2.1
              · rw [← e5]; exact htt.st
            · rename_i hcl
              rw [if_neg hcl]
              split at h
              · rename_i h6
                rw [if_pos h6]
                rw [e2] at h
                have hcnt : (pre' ++ { x' with kids := x'.kids ++ [(pre' ++ x' :: post').length], pcs := x'.pcs ++ [(last'.2, t'.sf)] } :: (post' ++ mr')).length + ns.length ≤ (addKid pre.length nodes.length (last.2, t.sf) (nodes ++ more)).length + 4096 := by
                  have e9 := hmr.len
                  unfold addKid
                  rw [modN_len]
                  simp only [List.length_append, List.length_cons] at hc ⊢
                  omega
                exact loop_move hV hE hpre f f' h hm2 r' _ hxk (hpost.app hmr) hT3 hcnt (by simp only [List.length_append, List.length_cons] at hf ⊢; omega)
              · cases h
          · exact .inr ⟨hdeep, q, rfl, hq⟩
theorem kids_move (hV : VM txt txt' a b m n deep V V') (hE : Ext V) {closing : Nat} {obj : Bool} {pre pre' : List NodeD} (hpre : pre.length + m = pre'.length + n) {T r : List Tok} {last : Sp} {nodes : List NodeD} {l : Sp} {ns : List NodeD} {x : NodeD} {post : List NodeD}
    (h : kidsM txt V closing obj pre.length (T ++ r) last nodes = .ok r l ns) (hm : Mid pre x post nodes) {x' : NodeD} {post' : List NodeD} {T' : List Tok} (r' : List Tok) (last' : Sp) (hx : NR a b m n x x') (hpost : All2 (NR a b m n) post post') (hT : All2 (TR txt txt' a b) T T')
    (hc : (pre' ++ x' :: post').length + ns.length ≤ nodes.length + 4096) : MvN a b m n deep pre pre' r' l ns (kidsM txt' V' closing obj pre'.length (T' ++ r') last' (pre' ++ x' :: post')) := by
  cases T with
  | nil =>
    exfalso
    rw [List.nil_append] at h
    unfold kidsM at h
    cases r with
    | nil =>
      obtain ⟨_, _, _, _, _, _, i5, i6, _⟩ := loop_ext hE _ hm h
      simp at i6; omega
    | cons u r =>
      simp only [] at h
      split at h
      · injection h with h1 _ _
        have := congrArg List.length h1
        simp at this
      · obtain ⟨_, _, _, _, _, _, i5, i6, _⟩ := loop_ext hE _ hm h
        omega
  | cons t T1 =>
    obtain ⟨t', T1', rfl, ht, hT1⟩ := hT.cons_l
    unfold kidsM at h ⊢
    rw [List.cons_append] at h
    rw [List.cons_append]
    simp only [] at h ⊢
    rw [ht.kind]
    split at h
    · rename_i hcl
      rw [if_pos hcl]
      injection h with e1 e2 e3
      have hT0 := app_self e1
      subst hT0
      obtain rfl := hT1.nil_l
      refine .inl ⟨_, _, _, _, _, ?_, rfl, hx, hpost, ?_⟩
      · rw [← e3]; exact hm.1
      · rw [← e2]; exact ht.st
    · rename_i hcl
      rw [if_neg hcl]
      exact loop_move hV hE hpre _ _ (T := t :: T1) (T' := t' :: T1') h hm r' last' hx hpost ⟨ht, hT1⟩ hc (by simp)
end
theorem endM_ok {k : Nat} {x : JR} {r : List Tok} {l : Sp} {ns : List NodeD} (hx : endM k x = .ok r l ns) : ∃ ns', x = .ok r l ns' ∧ ns = setTo k l.2 ns' := by
  cases x with
  | bad a e => cases hx
  | ok r' l' ns' =>
    injection hx with h1 h2 h3
    subst h1 h2
    exact ⟨ns', rfl, h3.symm⟩
theorem MvN.fin {a b m n : Nat} {deep : Prop} {nodes nodes' : List NodeD} {r' : List Tok} {l : Sp} {ns : List NodeD} {X : JR} (h : MvN a b m n deep nodes nodes' r' l ns X) : Mv a b m n deep nodes nodes' r' l (setTo nodes.length l.2 ns) (endM nodes'.length X) := by
  rcases h with ⟨l', xf, pf, xf', pf', rfl, rfl, h1, h2, h3⟩ | ⟨hd, q, rfl, hq⟩
  · refine .inl ⟨l', { xf with st := l.2 } :: pf, { xf' with st := l'.2 } :: pf', ?_, ?_, ⟨⟨h1.kind, h1.sf, h3, h1.kids⟩, h2⟩, h3⟩
    · unfold setTo; rw [modN_mid]
    · show JR.ok _ _ _ = _
      unfold setTo; rw [modN_mid]
  · exact .inr ⟨hd, q, rfl, hq⟩
theorem value_move (txt txt' : List UInt8) (a b m n : Nat) (deep : Prop) : ∀ (lv lv' : Nat), (lv' < lv → deep) → VM txt txt' a b m n deep (valueM txt lv) (valueM txt' lv')
  | 0, _, _ => fun T r last nodes key l ns h => by
    unfold valueM at h
    split at h <;> cases h
  | lv + 1, lv', hd => fun T r last nodes key l ns h T' r' last' nodes' key' hT hn hc => by
    have hE := value_ext txt lv
    obtain ⟨mr, hmr, hm1, hm2, _⟩ := value_ext txt (lv + 1) _ _ _ _ _ _ _ h
    cases T with
    | nil => exfalso; rw [List.nil_append] at hm2; omega
    | cons t T1 =>
      obtain ⟨t', T1', rfl, ht, hT1⟩ := hT.cons_l
      rw [List.cons_append] at h
      rw [List.cons_append]
      unfold valueM at h
      rw [show kindT (t :: (T1 ++ r)) = t.kind from rfl] at h
      split at h
      · cases h
      · rename_i hk0
        split at h
        · cases h
        · rename_i hmany
          simp only [] at h
          obtain ⟨ns0, h1, rfl⟩ := endM_ok h
          have hk0' : ¬ kindOfT (kindT (t' :: (T1' ++ r'))) = 0 := by rw [show kindT (t' :: (T1' ++ r')) = t'.kind from rfl, ht.kind]; exact hk0
          cases lv' with
          | zero =>
            refine .inr ⟨hd (by omega), t'.sf, ?_, by have := ht.sf; omega⟩
            unfold valueM
            rw [if_neg hk0']
            rfl
          | succ lv' =>
            have hlen : (setTo nodes.length l.2 ns0).length = ns0.length := by unfold setTo; rw [modN_len]
            have hmany' : ¬ nodes'.length = 4096 := by
              have := congrArg List.length hmr
              rw [hlen, List.length_append] at this
              rw [hlen] at hc
              omega
            have ih := value_move txt txt' a b m n deep lv lv' (fun h => hd (by omega))
            have hx : NR a b m n (⟨kindOfT t.kind, t.sf, t.st, key, [], []⟩ : NodeD) ⟨kindOfT t.kind, t'.sf, t'.st, key', [], []⟩ := ⟨rfl, ht.sf, ht.st, rfl⟩
            have hm0 : Mid nodes (⟨kindOfT t.kind, t.sf, t.st, key, [], []⟩ : NodeD) [] (nodes ++ [⟨kindOfT t.kind, t.sf, t.st, key, [], []⟩]) := ⟨rfl, Nat.le_refl _, Nat.le_refl _, fun y hy => by cases hy⟩
            have hcc : (nodes' ++ [(⟨kindOfT t.kind, t'.sf, t'.st, key', [], []⟩ : NodeD)]).length + ns0.length ≤ (nodes ++ [(⟨kindOfT t.kind, t.sf, t.st, key, [], []⟩ : NodeD)]).length + 4096 := by
              rw [hlen] at hc
              simp only [List.length_append, List.length_cons, List.length_nil]
              omega
            unfold valueM
            rw [if_neg hk0', if_neg hmany']
            simp only []
            rw [ht.kind]
            split at h1
            · rename_i h4
              rw [if_pos h4]
              exact (kids_move ih hE hn h1 hm0 (post' := []) r' (t'.sf, t'.st) hx trivial hT1 hcc).fin
            · rename_i h4
              rw [if_neg h4]
              split at h1
              · rename_i h2
                rw [if_pos h2]
                exact (kids_move ih hE hn h1 hm0 (post' := []) r' (t'.sf, t'.st) hx trivial hT1 hcc).fin
              · rename_i h2
                rw [if_neg h2]
                injection h1 with e1 e2 e3
                have hT0 := app_self e1
                subst hT0
                obtain rfl := hT1.nil_l
                have hN : MvN a b m n deep nodes nodes' r' l ns0 (.ok r' (t'.sf, t'.st) (nodes' ++ [⟨kindOfT t.kind, t'.sf, t'.st, key', [], []⟩])) :=
                  .inl ⟨_, _, [], _, [], by rw [← e3], rfl, hx, trivial, by rw [← e2]; exact ht.st⟩
                exact hN.fin
end Go.Proofs.YtmghlaajocgoaaaGreatDoor
/-! PLAIN: the tokens of texts put together; a text in an array, and as a member. -/
namespace Go.Proofs.YtmghlaajocgoaaaGreatDoor
set_option linter.unusedSimpArgs false
set_option linter.unusedVariables false
open Go.Lib
/-- What is behind does not matter where each run ends as before. -/
theorem tokR_same (l b : List UInt8) (hne : l ≠ []) (r1 : ∀ c, l.head? = some c → isBlank c = true → runL isBlank (l ++ b) = runL isBlank l) (r2 : runL isNumB (l ++ b) = runL isNumB l) (r3 : runL isSmall (l ++ b) = runL isSmall l) (hq : l.head? = some 34 → readL (l ++ b) 0 = readL l 0) : tokR (l ++ b) = tokR l := by
  cases l with
  | nil => exact absurd rfl hne
  | cons c r =>
    have tk : ∀ n, n ≤ (c :: r).length → (c :: (r ++ b)).take n = (c :: r).take n := fun n hn => by
      rw [← List.cons_append, List.take_append_of_le_length hn]
    rw [List.cons_append] at r1 r2 r3 hq
    unfold tokR
    simp only [List.cons_append]
    cases hs : signI c with
    | some k => rfl
    | none =>
      simp only []
      by_cases hb : isBlank c = true
      · rw [if_pos hb, if_pos hb, r1 c rfl hb]
      rw [if_neg hb, if_neg hb]
      by_cases h34 : c = 34
      · subst h34
        rw [if_pos rfl, if_pos rfl, hq rfl]
      rw [if_neg h34, if_neg h34]
      by_cases hd : c = 45 ∨ isDig c = true
      · rw [if_pos hd, if_pos hd, r2, tk _ (runL_le _ _)]
      rw [if_neg hd, if_neg hd, r3, tk _ (runL_le _ _)]
theorem tokR_quote (r : List UInt8) (h : (tokR (34 :: r)).2.2 = 0) : (readL (34 :: r) 0).2.2 = 0 := by
  unfold tokR at h
  simp only [show signI 34 = none from rfl] at h
  rw [if_neg (by decide), if_pos trivial] at h
  by_cases h0 : (readL (34 :: r) 0).2.2 = 0
  · exact h0
  · rw [if_neg h0] at h; exact h
theorem quote_same (l b : List UInt8) (h : (tokR l).2.2 = 0) (hq : l.head? = some 34) : readL (l ++ b) 0 = readL l 0 := by
  cases l with
  | nil => cases hq
  | cons c r =>
    obtain rfl : c = 34 := by simpa using hq
    have h0 := tokR_quote r h
    have hk := readL_ok (34 :: r) h0
    refine readL_local _ _ h0 ?_
    rw [List.take_append_of_le_length (by omega)]
/-- A sign at which every token stops. -/
def StopB (d : UInt8) : Prop := isBlank d = false ∧ isNumB d = false ∧ isSmall d = false
theorem tokR_stop (d : UInt8) (hd : StopB d) (l b : List UInt8) (hne : l ≠ []) (h : (tokR l).2.2 = 0) : tokR (l ++ d :: b) = tokR l :=
  tokR_same l (d :: b) hne (fun _ _ _ => runL_stop isBlank d b hd.1 l) (runL_stop isNumB d b hd.2.1 l) (runL_stop isSmall d b hd.2.2 l) (fun hq => quote_same l _ h hq)
/-- Two texts with a sign between them. -/
theorem toks_sign (d : UInt8) (k : Nat) (hd : StopB d) (hk : ∀ b, tokR (d :: b) = (k, 1, 0)) : ∀ (f g : Nat) (a b : List UInt8) (i : Nat), a.length ≤ f → (toksGo f a i).2 = none → a.length + 1 + b.length ≤ g →
    toksGo g (a ++ d :: b) i = ((toksGo f a i).1 ++ ⟨k, i + a.length, i + a.length + 1⟩ :: (toksGo b.length b (i + a.length + 1)).1, (toksGo b.length b (i + a.length + 1)).2)
  | f, g, [], b, i, _, _, hg => by
    obtain ⟨g, rfl⟩ : ∃ k, g = k + 1 := ⟨g - 1, by simp at hg; omega⟩
    rw [toksGo_nil, List.nil_append, toksGo_cons, hk, if_pos rfl]
    simp only [List.drop_succ_cons, List.drop_zero, List.length_nil, Nat.add_zero, List.nil_append]
    rw [toksGo_fuel g b.length b _ (by simp at hg; omega) (Nat.le_refl _)]
  | 0, _, _ :: _, _, _, h, _, _ => by simp at h
  | f + 1, g, c :: r, b, i, hf, h, hg => by
    have hlc : (c :: r).length = r.length + 1 := rfl
    obtain ⟨g, rfl⟩ : ∃ k, g = k + 1 := ⟨g - 1, by omega⟩
    rw [toksGo_cons] at h
    rw [toksGo_cons, List.cons_append, toksGo_cons]
    by_cases h0 : (tokR (c :: r)).2.2 = 0
    · have hc := tokR_stop d hd (c :: r) b (List.cons_ne_nil _ _) h0
      rw [List.cons_append] at hc
      rw [if_pos h0] at h
      have hle := (tokR_ok (c :: r) (List.cons_ne_nil _ _)).1
      have hok := (tokR_ok (c :: r) (List.cons_ne_nil _ _)).2 h0
      have hd' : (c :: (r ++ d :: b)).drop (tokR (c :: r)).2.1 = (c :: r).drop (tokR (c :: r)).2.1 ++ d :: b := by
        rw [← List.cons_append, List.drop_append_of_le_length hle]
      have hdl : ((c :: r).drop (tokR (c :: r)).2.1).length = (c :: r).length - (tokR (c :: r)).2.1 := List.length_drop
      have ih := toks_sign d k hd hk f g ((c :: r).drop (tokR (c :: r)).2.1) b (i + (tokR (c :: r)).2.1) (by omega) h (by omega)
      rw [hc, if_pos h0, if_pos h0, hd', ih, hdl]
      rw [show i + (tokR (c :: r)).2.1 + ((c :: r).length - (tokR (c :: r)).2.1) = i + (c :: r).length by omega]
      rfl
    · rw [if_neg h0] at h; cases h
/-! The same text, elsewhere. -/
def nblk (ts : List Tok) : List Tok := ts.filter (fun t => t.kind != 1)
theorem nblk_move (n : Nat) (ts : List Tok) : nblk (ts.map (moveT n)) = (nblk ts).map (moveT n) := by
  unfold nblk
  rw [List.filter_map]
  rfl
theorem nblk_app (a b : List Tok) : nblk (a ++ b) = nblk a ++ nblk b := List.filter_append ..
theorem toks_in : ∀ (f : Nat) (l : List UInt8) (i : Nat), ∀ t ∈ (toksGo f l i).1, t.sf ≤ t.st ∧ t.st ≤ i + l.length
  | 0, l, i, t, ht => by simp [toksGo] at ht
  | f + 1, [], i, t, ht => by simp [toksGo] at ht
  | f + 1, c :: r, i, t, ht => by
    have hok := tokR_ok (c :: r) (List.cons_ne_nil _ _)
    rw [toksGo_cons] at ht
    by_cases h0 : (tokR (c :: r)).2.2 = 0
    · rw [if_pos h0] at ht
      rcases List.mem_cons.1 ht with rfl | ht
      · exact ⟨by simp, by simp only []; omega⟩
      · have := toks_in f _ _ t ht
        rw [List.length_drop] at this
        omega
    · rw [if_neg h0] at ht; simp at ht
theorem toks_cnt : ∀ (f : Nat) (l : List UInt8) (i : Nat), (toksGo f l i).1.length ≤ l.length
  | 0, l, i => by simp [toksGo]
  | f + 1, [], i => by simp [toksGo]
  | f + 1, c :: r, i => by
    have hok := tokR_ok (c :: r) (List.cons_ne_nil _ _)
    rw [toksGo_cons]
    by_cases h0 : (tokR (c :: r)).2.2 = 0
    · have h1 := toks_cnt f ((c :: r).drop (tokR (c :: r)).2.1) (i + (tokR (c :: r)).2.1)
      have h2 := hok.2 h0
      rw [List.length_drop] at h1
      have hlc : (c :: r).length = r.length + 1 := rfl
      rw [if_pos h0]
      simp only [List.length_cons] at h1 ⊢
      omega
    · rw [if_neg h0]; simp
theorem bytes_in (p s q : List UInt8) (a n : Nat) (h : a + n ≤ s.length) : ((p ++ (s ++ q)).drop (a + p.length)).take n = (s.drop a).take n := by
  rw [Nat.add_comm, ← List.drop_drop, List.drop_append_of_le_length (Nat.le_refl _), List.drop_of_length_le (Nat.le_refl _), List.nil_append, List.drop_append_of_le_length (by omega), List.take_append_of_le_length (by rw [List.length_drop]; omega)]
theorem all2_map {α β γ : Type} {R : β → γ → Prop} (f : α → β) (g : α → γ) : ∀ l : List α, (∀ x ∈ l, R (f x) (g x)) → All2 R (l.map f) (l.map g)
  | [], _ => trivial
  | x :: l, h => ⟨h x List.mem_cons_self, all2_map f g l fun y hy => h y (List.mem_cons_of_mem _ hy)⟩
/-- The tokens of a text, behind one text and behind another. -/
theorem tr_gen (p1 q1 p2 q2 s : List UInt8) (T : List Tok) (hT : ∀ t ∈ T, t.sf ≤ t.st ∧ t.st ≤ s.length) : All2 (TR (p1 ++ (s ++ q1)) (p2 ++ (s ++ q2)) p2.length p1.length) (T.map (moveT p1.length)) (T.map (moveT p2.length)) :=
  all2_map _ _ T fun t ht => by
    have := hT t ht
    refine ⟨rfl, by simp only [moveT]; omega, by simp only [moveT]; omega, ?_⟩
    simp only [moveT]
    rw [show t.st + p2.length - (t.sf + p2.length) = t.st - t.sf by omega, show t.st + p1.length - (t.sf + p1.length) = t.st - t.sf by omega, bytes_in p2 s q2 _ _ (by omega), bytes_in p1 s q1 _ _ (by omega)]
theorem move_zero (T : List Tok) : T.map (moveT 0) = T := by
  have : moveT 0 = id := by funext t; rfl
  rw [this, List.map_id]
theorem tr_of (p q s : List UInt8) (T : List Tok) (hT : ∀ t ∈ T, t.sf ≤ t.st ∧ t.st ≤ s.length) : All2 (TR s (p ++ (s ++ q)) p.length 0) T (T.map (moveT p.length)) := by
  have := tr_gen [] [] p q s T hT
  rw [List.nil_append, List.append_nil, List.length_nil, move_zero] at this
  exact this
theorem tr_to (p q s : List UInt8) (T : List Tok) (hT : ∀ t ∈ T, t.sf ≤ t.st ∧ t.st ≤ s.length) : All2 (TR (p ++ (s ++ q)) s 0 p.length) (T.map (moveT p.length)) T := by
  have := tr_gen p q [] [] s T hT
  rw [List.nil_append, List.append_nil, List.length_nil, move_zero] at this
  exact this
/-! What Parse hands back. -/
def finP (n : Nat) : JR → List NodeD × Int × Int
  | .bad a e => ([], (a : Int), e)
  | .ok [] _ ns => (ns, (n : Int), 0)
  | .ok (t :: _) _ _ => ([], (t.sf : Int), 2)
/-- What is wrong is told. -/
def Bd (V : VF) : Prop := ∀ rest last nodes key a e, V rest last nodes key = .bad a e → e ≠ 0
theorem kid_bad {txt : List UInt8} {V : VF} (hV : Bd V) {obj : Bool} {had had' : List (List UInt8)} {rest : List Tok} {last : Sp} {nodes : List NodeD} {a : Nat} {e : Int} (h : kidM txt V obj had rest last nodes = (.bad a e, had')) : e ≠ 0 := by
  unfold kidM at h
  split at h
  · injection h with h _; exact hV _ _ _ _ _ _ h
  · split at h
    · injection h with h _; injection h with _ h; rw [← h]; decide
    · split at h
      · injection h with h _; injection h with _ h; rw [← h]; decide
      · split at h
        · injection h with h _; injection h with _ h; rw [← h]; decide
        · split at h
          · injection h with h _; injection h with _ h; rw [← h]; decide
          · split at h
            · injection h with h _; injection h with _ h; rw [← h]; decide
            · injection h with h _; exact hV _ _ _ _ _ _ h
theorem loop_bad {txt : List UInt8} {V : VF} (hV : Bd V) (hE : Ext V) {closing : Nat} {obj : Bool} {n : Nat} : ∀ (f : Nat) {had : List (List UInt8)} {rest : List Tok} {last : Sp} {nodes : List NodeD} {a : Nat} {e : Int}, rest.length < f → loopM txt V closing obj n f had rest last nodes = .bad a e → e ≠ 0
  | 0, _, _, _, _, _, _, hf, _ => by omega
  | f + 1, had, rest, last, nodes, a, e, hf, h => by
    unfold loopM at h
    split at h
    · rename_i hk
      injection h with h1 h2
      subst h1 h2
      exact kid_bad hV hk
    · rename_i r1 l1 ns1 had1 hk
      obtain ⟨more, _, h2, h3, _⟩ := kid_ext hE hk
      split at h
      · injection h with _ h; rw [← h]; decide
      · simp only [List.length_cons] at h3
        split at h
        · cases h
        · split at h
          · exact loop_bad hV hE f (by omega) h
          · injection h with _ h; rw [← h]; decide
theorem kids_bad {txt : List UInt8} {V : VF} (hV : Bd V) (hE : Ext V) {closing : Nat} {obj : Bool} {n : Nat} {rest : List Tok} {last : Sp} {nodes : List NodeD} {a : Nat} {e : Int} (h : kidsM txt V closing obj n rest last nodes = .bad a e) : e ≠ 0 := by
  unfold kidsM at h
  split at h
  · exact loop_bad hV hE 1 (by simp) h
  · split at h
    · cases h
    · exact loop_bad hV hE _ (by simp) h
theorem endM_bad {k : Nat} {x : JR} {a : Nat} {e : Int} (hx : endM k x = .bad a e) : x = .bad a e := by
  cases x with
  | bad a' e' => exact hx
  | ok r' l' ns' => cases hx
theorem value_bad (txt : List UInt8) : ∀ lv, Bd (valueM txt lv)
  | 0 => fun rest last nodes key a e h => by
    unfold valueM at h
    split at h
    · injection h with _ h; rw [← h]; decide
    · injection h with _ h; rw [← h]; decide
  | lv + 1 => fun rest last nodes key a e h => by
    have ih := value_bad txt lv
    have hE := value_ext txt lv
    unfold valueM at h
    split at h
    · injection h with _ h; rw [← h]; decide
    · rename_i hk
      split at h
      · injection h with _ h; rw [← h]; decide
      · cases rest with
        | nil => exact absurd rfl hk
        | cons t r =>
          simp only [] at h
          have h1 := endM_bad h
          split at h1
          · exact kids_bad ih hE h1
          · split at h1
            · exact kids_bad ih hE h1
            · cases h1
theorem parse_eq (s : List UInt8) : parseJ s = if (toksL s).2.2 ≠ 0 then ([], (toksL s).2.1, (toksL s).2.2) else finP s.length (valueM s 32 (nblk (toksL s).1) (0, 0) [] (0, 0)) := by
  unfold parseJ nblk finP
  rfl
theorem parse_toks (s : List UInt8) (T : List Tok) (hs : s.length ≤ 65536) (hT : toksGo s.length s 0 = (T, none)) : parseJ s = finP s.length (valueM s 32 (nblk T) (0, 0) [] (0, 0)) := by
  have h : toksL s = (T, (s.length : Int), 0) := by
    unfold toksL
    rw [if_neg (by omega), hT]
  rw [parse_eq, h]
  rfl
theorem toksL_none {s : List UInt8} (h : (toksL s).2.2 = 0) : s.length ≤ 65536 ∧ toksGo s.length s 0 = ((toksL s).1, none) := by
  unfold toksL at h ⊢
  by_cases hb : 65536 < s.length
  · rw [if_pos hb] at h; exact absurd h (by simp)
  · rw [if_neg hb] at h ⊢
    cases hG : (toksGo s.length s 0).2 with
    | none => exact ⟨by omega, Prod.ext rfl hG⟩
    | some x =>
      obtain ⟨p, e⟩ := x
      rw [hG] at h
      exact absurd h (toks_err s.length s 0 p e (Nat.le_refl _) hG).2.2
/-- What a text that is one looks like. -/
theorem parse_ok {s : List UInt8} (h : (parseJ s).2.2 = 0) : s.length ≤ 65536 ∧ ∃ T l ns, toksGo s.length s 0 = (T, none) ∧ valueM s 32 (nblk T) (0, 0) [] (0, 0) = .ok [] l ns ∧ parseJ s = (ns, (s.length : Int), 0) := by
  rw [parse_eq] at h ⊢
  by_cases h0 : (toksL s).2.2 = 0
  · rw [if_neg (by simpa using h0)] at h ⊢
    obtain ⟨h1, h2⟩ := toksL_none h0
    refine ⟨h1, (toksL s).1, ?_⟩
    cases hv : valueM s 32 (nblk (toksL s).1) (0, 0) [] (0, 0) with
    | bad a e => rw [hv] at h; exact absurd h (value_bad s 32 _ _ _ _ _ _ hv)
    | ok r l ns =>
      cases r with
      | cons t r => rw [hv] at h; exact absurd h (by simp [finP])
      | nil => exact ⟨l, ns, h2, rfl, rfl⟩
  · rw [if_pos h0] at h; exact absurd h h0
/-! Where nodes begin. -/
def AllS (B : Nat) (ns : List NodeD) : Prop := ∀ y ∈ ns, y.sf ≤ B
theorem modN_mem {f : NodeD → NodeD} : ∀ (n : Nat) (l : List NodeD) (y : NodeD), y ∈ modN f n l → y ∈ l ∨ ∃ x ∈ l, y = f x
  | _, [], y, h => by simp [modN] at h
  | 0, x :: l, y, h => by
    rcases List.mem_cons.1 h with rfl | h
    · exact .inr ⟨x, List.mem_cons_self, rfl⟩
    · exact .inl (List.mem_cons_of_mem _ h)
  | n + 1, x :: l, y, h => by
    rcases List.mem_cons.1 h with rfl | h
    · exact .inl List.mem_cons_self
    · rcases modN_mem n l y h with h | ⟨z, h, e⟩
      · exact .inl (List.mem_cons_of_mem _ h)
      · exact .inr ⟨z, List.mem_cons_of_mem _ h, e⟩
theorem AllS.mod {B n : Nat} {f : NodeD → NodeD} {l : List NodeD} (h : AllS B l) (hf : ∀ x, (f x).sf = x.sf) : AllS B (modN f n l) := fun y hy => by
  rcases modN_mem n l y hy with hy | ⟨x, hx, rfl⟩
  · exact h y hy
  · rw [hf]; exact h x hx
def TBs (B : Nat) (ts : List Tok) : Prop := ∀ t ∈ ts, t.sf ≤ B
theorem TBs.drop {B k : Nat} {ts : List Tok} (h : TBs B ts) : TBs B (ts.drop k) := fun t ht => h t (List.mem_of_mem_drop ht)
def VB (B : Nat) (V : VF) : Prop := ∀ rest last nodes key r l ns, V rest last nodes key = .ok r l ns → TBs B rest → AllS B nodes → AllS B ns
theorem kid_begin {B : Nat} {txt : List UInt8} {V : VF} (hV : VB B V) {obj : Bool} {had had' : List (List UInt8)} {rest r : List Tok} {last l : Sp} {nodes ns : List NodeD} (h : kidM txt V obj had rest last nodes = (.ok r l ns, had')) (hT : TBs B rest) (hn : AllS B nodes) : AllS B ns := by
  unfold kidM at h
  split at h
  · injection h with h _; exact hV _ _ _ _ _ _ _ h hT hn
  · split at h
    · injection h with h _; cases h
    · split at h
      · injection h with h _; cases h
      · split at h
        · injection h with h _; cases h
        · split at h
          · injection h with h _; cases h
          · split at h
            · injection h with h _; cases h
            · injection h with h _
              exact hV _ _ _ _ _ _ _ h (fun t ht => hT t (List.mem_cons_of_mem _ (List.mem_cons_of_mem _ ht))) hn
theorem loop_begin {B : Nat} {txt : List UInt8} {V : VF} (hV : VB B V) (hE : Ext V) {closing : Nat} {obj : Bool} {n : Nat} : ∀ (f : Nat) {had : List (List UInt8)} {rest r : List Tok} {last l : Sp} {nodes ns : List NodeD}, loopM txt V closing obj n f had rest last nodes = .ok r l ns → TBs B rest → AllS B nodes → AllS B ns
  | 0, _, _, _, _, _, _, _, h, _, _ => by cases h
  | f + 1, had, rest, r, last, l, nodes, ns, h, hT, hn => by
    unfold loopM at h
    split at h
    · cases h
    · rename_i r1 l1 ns1 had1 hk
      have h1 := kid_begin hV hk hT hn
      obtain ⟨more, _, h2, h3, ⟨k, hd⟩, _⟩ := kid_ext hE hk
      have hT1 : TBs B r1 := by rw [hd]; exact hT.drop
      split at h
      · cases h
      · rename_i t r'
        have hadd : AllS B (addKid n nodes.length (last.2, t.sf) ns1) := h1.mod fun x => rfl
        split at h
        · injection h with _ _ h; rw [← h]; exact hadd
        · split at h
          · exact loop_begin hV hE f h (fun u hu => hT1 u (List.mem_cons_of_mem _ hu)) hadd
          · cases h
theorem kids_begin {B : Nat} {txt : List UInt8} {V : VF} (hV : VB B V) (hE : Ext V) {closing : Nat} {obj : Bool} {n : Nat} {rest r : List Tok} {last l : Sp} {nodes ns : List NodeD} (h : kidsM txt V closing obj n rest last nodes = .ok r l ns) (hT : TBs B rest) (hn : AllS B nodes) : AllS B ns := by
  unfold kidsM at h
  split at h
  · exact loop_begin hV hE 1 h hT hn
  · split at h
    · injection h with _ _ h; rw [← h]; exact hn
    · exact loop_begin hV hE _ h hT hn
theorem value_begin (B : Nat) (txt : List UInt8) : ∀ lv, VB B (valueM txt lv)
  | 0 => fun rest last nodes key r l ns h _ _ => by
    unfold valueM at h
    split at h <;> cases h
  | lv + 1 => fun rest last nodes key r l ns h hT hn => by
    have ih := value_begin B txt lv
    have hE := value_ext txt lv
    unfold valueM at h
    split at h
    · cases h
    · rename_i hk
      split at h
      · cases h
      · cases rest with
        | nil => exact absurd rfl hk
        | cons t q =>
          simp only [] at h
          obtain ⟨ns0, h1, rfl⟩ := endM_ok h
          have hT1 : TBs B q := fun u hu => hT u (List.mem_cons_of_mem _ hu)
          have h0 : AllS B (nodes ++ [⟨kindOfT t.kind, t.sf, t.st, key, [], []⟩]) := fun y hy => by
            rcases List.mem_append.1 hy with hy | hy
            · exact hn y hy
            · rcases List.mem_singleton.1 hy with rfl
              exact hT t List.mem_cons_self
          refine AllS.mod ?_ (fun x => rfl)
          split at h1
          · exact kids_begin ih hE h1 hT1 h0
          · split at h1
            · exact kids_begin ih hE h1 hT1 h0
            · injection h1 with _ _ h1; rw [← h1]; exact h0
/-! A text in an array, and as a member. -/
def arrT (s : List UInt8) : List UInt8 := [91] ++ (s ++ [93])
def objT (s : List UInt8) : List UInt8 := [123, 34, 97, 34, 58] ++ (s ++ [125])
theorem arr_toks (s : List UInt8) (T : List Tok) (h : toksGo s.length s 0 = (T, none)) : toksGo (arrT s).length (arrT s) 0 = (⟨4, 0, 1⟩ :: (T.map (moveT 1) ++ [⟨5, s.length + 1, s.length + 2⟩]), none) := by
  have ho := toks_off s.length s 0 1
  rw [h] at ho
  simp only [Option.map_none] at ho
  have h2 := toks_sign 93 5 ⟨by decide, by decide, by decide⟩ (fun b => rfl) s.length (s.length + 1) s [] (0 + 1) (Nat.le_refl _) (by rw [ho]) (by simp)
  rw [ho] at h2
  show toksGo (arrT s).length (91 :: (s ++ [93])) 0 = _
  rw [show (arrT s).length = (s.length + 1) + 1 by simp [arrT], toksGo_cons, show tokR (91 :: (s ++ [93])) = (4, 1, 0) from rfl, if_pos rfl, List.drop_succ_cons, List.drop_zero, h2]
  simp only [List.length_nil, toksGo, Prod.mk.injEq, List.cons.injEq, true_and, and_true]
  rw [show 0 + 1 + s.length = s.length + 1 by omega]
theorem obj_toks (s : List UInt8) (T : List Tok) (h : toksGo s.length s 0 = (T, none)) : toksGo (objT s).length (objT s) 0 = (⟨2, 0, 1⟩ :: ⟨8, 1, 4⟩ :: ⟨7, 4, 5⟩ :: (T.map (moveT 5) ++ [⟨3, s.length + 5, s.length + 6⟩]), none) := by
  have ho := toks_off s.length s 0 5
  rw [h] at ho
  simp only [Option.map_none] at ho
  have h2 := toks_sign 125 3 ⟨by decide, by decide, by decide⟩ (fun b => rfl) s.length (s.length + 3) s [] (0 + 5) (Nat.le_refl _) (by rw [ho]) (by simp)
  rw [ho] at h2
  have hq : tokR (34 :: 97 :: 34 :: 58 :: (s ++ [125])) = (8, 3, 0) := by
    have h0 : tokR [34, 97, 34] = (8, 3, 0) := by decide +kernel
    have := tokR_stop 58 ⟨by decide, by decide, by decide⟩ [34, 97, 34] (s ++ [125]) (by simp) (by rw [h0])
    rw [show (34 :: 97 :: 34 :: 58 :: (s ++ [125]) : List UInt8) = [34, 97, 34] ++ 58 :: (s ++ [125]) from rfl, this, h0]
  show toksGo (objT s).length (123 :: 34 :: 97 :: 34 :: 58 :: (s ++ [125])) 0 = _
  rw [show (objT s).length = (s.length + 3) + 1 + 1 + 1 by simp [objT], toksGo_cons, show tokR (123 :: 34 :: 97 :: 34 :: 58 :: (s ++ [125])) = (2, 1, 0) from rfl, if_pos rfl]
  simp only [List.drop_succ_cons, List.drop_zero]
  rw [toksGo_cons, hq, if_pos rfl]
  simp only [List.drop_succ_cons, List.drop_zero]
  rw [toksGo_cons, show tokR (58 :: (s ++ [125])) = (7, 1, 0) from rfl, if_pos rfl]
  simp only [List.drop_succ_cons, List.drop_zero]
  rw [show 0 + 1 + 3 + 1 = 0 + 5 from rfl, h2]
  simp only [List.length_nil, toksGo, Prod.mk.injEq, List.cons.injEq, true_and, and_true]
  rw [show 0 + 5 + s.length = s.length + 5 by omega]
theorem finP_ok {n : Nat} {l : Sp} {ns : List NodeD} : finP n (.ok [] l ns) = (ns, (n : Int), 0) := rfl
theorem value_arr (txt : List UInt8) (lv : Nat) (t : Tok) (r : List Tok) (last : Sp) (nodes : List NodeD) (key : Sp) (hk : t.kind = 4) (hm : nodes.length ≠ 4096) :
    valueM txt (lv + 1) (t :: r) last nodes key = endM nodes.length (kidsM txt (valueM txt lv) 5 false nodes.length r (t.sf, t.st) (nodes ++ [⟨5, t.sf, t.st, key, [], []⟩])) := by
  rw [valueM]
  have h0 : ¬ kindOfT (kindT (t :: r)) = 0 := by show ¬ kindOfT t.kind = 0; rw [hk]; decide
  rw [if_neg h0, if_neg hm]
  simp only [hk, if_true]
  rfl
theorem value_obj (txt : List UInt8) (lv : Nat) (t : Tok) (r : List Tok) (last : Sp) (nodes : List NodeD) (key : Sp) (hk : t.kind = 2) (hm : nodes.length ≠ 4096) :
    valueM txt (lv + 1) (t :: r) last nodes key = endM nodes.length (kidsM txt (valueM txt lv) 3 true nodes.length r (t.sf, t.st) (nodes ++ [⟨6, t.sf, t.st, key, [], []⟩])) := by
  rw [valueM]
  have h0 : ¬ kindOfT (kindT (t :: r)) = 0 := by show ¬ kindOfT t.kind = 0; rw [hk]; decide
  rw [if_neg h0, if_neg hm]
  simp only [hk, if_true, show ¬ (2 = 4) from by decide, if_false]
  rfl
theorem loop_one (txt : List UInt8) (V : VF) (closing : Nat) (obj : Bool) (n f : Nat) (had had1 : List (List UInt8)) (rest : List Tok) (last : Sp) (nodes : List NodeD) (X : JR) (hX : kidM txt V obj had rest last nodes = (X, had1)) :
    (∀ e l ns, e.kind = closing → X = .ok [e] l ns → loopM txt V closing obj n (f + 1) had rest last nodes = .ok [] (e.sf, e.st) (addKid n nodes.length (last.2, e.sf) ns)) ∧
    (∀ a q, X = .bad a q → loopM txt V closing obj n (f + 1) had rest last nodes = .bad a q) := by
  constructor
  · rintro e l ns he rfl
    rw [loopM, hX]
    simp only []
    rw [if_pos he]
  · rintro a q rfl
    rw [loopM, hX]
theorem kidsM_cons (txt : List UInt8) (V : VF) (closing : Nat) (obj : Bool) (n : Nat) (t : Tok) (r : List Tok) (last : Sp) (nodes : List NodeD) (h : t.kind ≠ closing) : kidsM txt V closing obj n (t :: r) last nodes = loopM txt V closing obj n ((t :: r).length + 1) [] (t :: r) last nodes := by
  rw [kidsM, if_neg h]
/-- The whole of an array of one, whose kid is read. -/
theorem arr_value (txt : List UInt8) (lv : Nat) (T : List Tok) (e : Tok) (he : e.kind = 5) (h5 : T.head?.map Tok.kind ≠ some 5) (hne : T ≠ []) (X : JR) (hX : valueM txt lv (T ++ [e]) (0, 1) [⟨5, 0, 1, (0, 0), [], []⟩] (0, 0) = X) :
    (∀ l ns, X = .ok [e] l ([⟨5, 0, 1, (0, 0), [], []⟩] ++ ns) → ∃ x, valueM txt (lv + 1) (⟨4, 0, 1⟩ :: (T ++ [e])) (0, 0) [] (0, 0) = .ok [] (e.sf, e.st) (x :: ns) ∧ x.kind = 5) ∧
    (∀ q, X = .bad q 5 → valueM txt (lv + 1) (⟨4, 0, 1⟩ :: (T ++ [e])) (0, 0) [] (0, 0) = .bad q 5) := by
  obtain ⟨t, T, rfl⟩ : ∃ t T', T = t :: T' := by cases T with | nil => exact absurd rfl hne | cons t T => exact ⟨t, T, rfl⟩
  have ht5 : t.kind ≠ 5 := fun h => h5 (by simp [h])
  rw [value_arr _ _ _ _ _ _ _ rfl (by simp)]
  rw [List.cons_append] at hX ⊢
  rw [kidsM_cons _ _ _ _ _ _ _ _ _ ht5]
  have hk : kidM txt (valueM txt lv) false [] (t :: (T ++ [e])) (0, 1) [⟨5, 0, 1, (0, 0), [], []⟩] = (X, []) := by unfold kidM; rw [if_pos rfl, hX]
  obtain ⟨L1, L2⟩ := loop_one txt (valueM txt lv) 5 false 0 (t :: (T ++ [e])).length [] [] (t :: (T ++ [e])) (0, 1) [⟨5, 0, 1, (0, 0), [], []⟩] X hk
  constructor
  · intro l ns h
    refine ⟨⟨5, 0, e.st, (0, 0), [1], [(1, e.sf)]⟩, ?_, rfl⟩
    show endM 0 (loopM txt (valueM txt lv) 5 false 0 _ [] _ (0, 1) [⟨5, 0, 1, (0, 0), [], []⟩]) = _
    rw [L1 e l _ he h]
    rfl
  · intro q h
    show endM 0 (loopM txt (valueM txt lv) 5 false 0 _ [] _ (0, 1) [⟨5, 0, 1, (0, 0), [], []⟩]) = _
    rw [L2 q 5 h]
    rfl
/-- The whole of an object of one. -/
theorem obj_value (txt : List UInt8) (lv : Nat) (T : List Tok) (e : Tok) (he : e.kind = 3) (X : JR) (hX : valueM txt lv (T ++ [e]) (4, 5) [⟨6, 0, 1, (0, 0), [], []⟩] (1, 4) = X) :
    (∀ l ns, X = .ok [e] l ([⟨6, 0, 1, (0, 0), [], []⟩] ++ ns) → ∃ x, valueM txt (lv + 1) (⟨2, 0, 1⟩ :: ⟨8, 1, 4⟩ :: ⟨7, 4, 5⟩ :: (T ++ [e])) (0, 0) [] (0, 0) = .ok [] (e.sf, e.st) (x :: ns) ∧ x.kind = 6) ∧
    (∀ q, X = .bad q 5 → valueM txt (lv + 1) (⟨2, 0, 1⟩ :: ⟨8, 1, 4⟩ :: ⟨7, 4, 5⟩ :: (T ++ [e])) (0, 0) [] (0, 0) = .bad q 5) := by
  rw [value_obj _ _ _ _ _ _ _ rfl (by simp), kidsM_cons _ _ _ _ _ _ _ _ _ (by decide)]
  have hk : ∃ h1, kidM txt (valueM txt lv) true [] (⟨8, 1, 4⟩ :: ⟨7, 4, 5⟩ :: (T ++ [e])) (0, 1) [⟨6, 0, 1, (0, 0), [], []⟩] = (X, h1) := by
    refine ⟨[(unqL ((txt.drop 1).take (4 - 1))).1], ?_⟩
    unfold kidM
    rw [if_neg (by decide)]
    simp only []
    rw [if_neg (by decide), if_neg (by simp), if_neg (by decide), hX]
  obtain ⟨h1, hk⟩ := hk
  obtain ⟨L1, L2⟩ := loop_one txt (valueM txt lv) 3 true 0 (⟨8, 1, 4⟩ :: ⟨7, 4, 5⟩ :: (T ++ [e])).length [] h1 (⟨8, 1, 4⟩ :: ⟨7, 4, 5⟩ :: (T ++ [e])) (0, 1) [⟨6, 0, 1, (0, 0), [], []⟩] X hk
  constructor
  · intro l ns h
    refine ⟨⟨6, 0, e.st, (0, 0), [1], [(1, e.sf)]⟩, ?_, rfl⟩
    show endM 0 (loopM txt (valueM txt lv) 3 true 0 _ [] _ (0, 1) [⟨6, 0, 1, (0, 0), [], []⟩]) = _
    rw [L1 e l _ he h]
    rfl
  · intro q h
    show endM 0 (loopM txt (valueM txt lv) 3 true 0 _ [] _ (0, 1) [⟨6, 0, 1, (0, 0), [], []⟩]) = _
    rw [L2 q 5 h]
    rfl
/-- A text in an array, and as a member: the same tree, moved; or both are too deep. -/
theorem nests (s : List UInt8) (hs : s.length ≤ 2048) (ns : List NodeD) (n : Int) (h : parseJ s = (ns, n, 0)) :
    (∃ x mc xb mb nc nb, parseJ (arrT s) = (x :: mc, nc, 0) ∧ x.kind = 5 ∧ parseJ (objT s) = (xb :: mb, nb, 0) ∧ xb.kind = 6 ∧ All2 (NR 1 0 1 0) ns mc ∧ All2 (NR 5 0 1 0) ns mb ∧ AllS s.length ns) ∨
    (∃ q q', parseJ (arrT s) = ([], (q : Int), 5) ∧ 1 ≤ q ∧ parseJ (objT s) = ([], (q' : Int), 5) ∧ 5 ≤ q') := by
  obtain ⟨_, T, l, ns', hT, hv, hp⟩ := parse_ok (s := s) (by rw [h])
  rw [h] at hp
  injection hp with e1 e2
  subst e1
  have hT1 : (toksGo s.length s 0).1 = T := by rw [hT]
  have hin : ∀ t ∈ nblk T, t.sf ≤ t.st ∧ t.st ≤ s.length := fun t ht => by
    have := toks_in s.length s 0 t (by rw [hT1]; exact (List.mem_filter.1 ht).1)
    omega
  have hcnt : (nblk T).length ≤ s.length := by
    have := toks_cnt s.length s 0
    rw [hT1] at this
    exact Nat.le_trans (List.length_filter_le _ _) this
  obtain ⟨more, hm, hm1, hm2, _⟩ := value_ext s 32 _ _ _ _ _ _ _ hv
  rw [List.nil_append] at hm
  subst hm
  simp only [List.length_nil] at hm2
  have hbg := value_begin s.length s 32 _ _ _ _ _ _ _ hv (fun t ht => by have := hin t ht; omega) (fun y hy => by cases hy)
  -- the two readings
  have pa := parse_toks (arrT s) _ (by simp [arrT]; omega) (arr_toks s T hT)
  have pb := parse_toks (objT s) _ (by simp [objT]; omega) (obj_toks s T hT)
  have na : nblk (⟨4, 0, 1⟩ :: (T.map (moveT 1) ++ [⟨5, s.length + 1, s.length + 2⟩])) = ⟨4, 0, 1⟩ :: ((nblk T).map (moveT 1) ++ [⟨5, s.length + 1, s.length + 2⟩]) := by
    rw [← nblk_move]; show _ :: nblk (_ ++ _) = _; rw [nblk_app]; rfl
  have nb : nblk (⟨2, 0, 1⟩ :: ⟨8, 1, 4⟩ :: ⟨7, 4, 5⟩ :: (T.map (moveT 5) ++ [⟨3, s.length + 5, s.length + 6⟩])) = ⟨2, 0, 1⟩ :: ⟨8, 1, 4⟩ :: ⟨7, 4, 5⟩ :: ((nblk T).map (moveT 5) ++ [⟨3, s.length + 5, s.length + 6⟩]) := by
    rw [← nblk_move]; show _ :: _ :: _ :: nblk (_ ++ _) = _; rw [nblk_app]; rfl
  rw [na] at pa
  rw [nb] at pb
  obtain ⟨U, hU⟩ : ∃ U, nblk T = U := ⟨_, rfl⟩
  rw [hU] at hv hin hcnt hm2 pa pb
  have tra := tr_of [91] [93] s U hin
  have trb := tr_of [123, 34, 97, 34, 58] [125] s U hin
  have tab := tr_gen [91] [93] [123, 34, 97, 34, 58] [125] s U hin
  have tba := tr_gen [123, 34, 97, 34, 58] [125] [91] [93] s U hin
  rw [← List.append_nil U] at hv
  have va := value_move s (arrT s) 1 0 1 0 True 32 31 (fun _ => trivial) U [] (0, 0) [] (0, 0) l ns hv (U.map (moveT 1)) [⟨5, s.length + 1, s.length + 2⟩] (0, 1) [⟨5, 0, 1, (0, 0), [], []⟩] (0, 0) tra rfl (by simp; omega)
  have vb := value_move s (objT s) 5 0 1 0 True 32 31 (fun _ => trivial) U [] (0, 0) [] (0, 0) l ns hv (U.map (moveT 5)) [⟨3, s.length + 5, s.length + 6⟩] (4, 5) [⟨6, 0, 1, (0, 0), [], []⟩] (1, 4) trb rfl (by simp; omega)
  have hUne : U.map (moveT 1) ≠ [] := by
    intro h0
    have := congrArg List.length h0
    simp only [List.length_map, List.length_nil] at this
    omega
  have h5 : (U.map (moveT 1)).head?.map Tok.kind ≠ some 5 := by
    cases U with
    | nil => simp
    | cons t U =>
      intro h0
      have h0 : t.kind = 5 := by simpa [moveT] using h0
      rw [List.append_nil] at hv
      unfold valueM at hv
      rw [if_pos (show kindOfT (kindT (t :: U)) = 0 by show kindOfT t.kind = 0; rw [h0]; rfl)] at hv
      cases hv
  obtain ⟨A1, A2⟩ := arr_value (arrT s) 31 (U.map (moveT 1)) ⟨5, s.length + 1, s.length + 2⟩ rfl h5 hUne _ rfl
  obtain ⟨B1, B2⟩ := obj_value (objT s) 31 (U.map (moveT 5)) ⟨3, s.length + 5, s.length + 6⟩ rfl _ rfl
  have hml : ∀ {a b m n : Nat} {l1 l2 : List NodeD}, All2 (NR a b m n) l1 l2 → l2.length = l1.length := fun h => h.len.symm
  rcases va with ⟨la, ma, ma', ea, fa, ra, _⟩ | ⟨_, q, fa, hq⟩
  · rw [List.nil_append] at ea
    subst ea
    obtain ⟨x, hx, hxk⟩ := A1 _ _ fa
    rcases vb with ⟨lb, mb, mb', eb, fb, rb, _⟩ | ⟨_, q, fb, hq⟩
    · rw [List.nil_append] at eb
      subst eb
      obtain ⟨y, hy, hyk⟩ := B1 _ _ fb
      exact .inl ⟨x, ma', y, mb', _, _, by rw [pa, hx]; rfl, hxk, by rw [pb, hy]; rfl, hyk, ra, rb, hbg⟩
    · exfalso
      have := value_move (arrT s) (objT s) 5 1 0 0 False 31 31 (fun h => by omega) (U.map (moveT 1)) [⟨5, s.length + 1, s.length + 2⟩] (0, 1) [⟨5, 0, 1, (0, 0), [], []⟩] (0, 0) _ _ fa (U.map (moveT 5)) [⟨3, s.length + 5, s.length + 6⟩] (4, 5) [⟨6, 0, 1, (0, 0), [], []⟩] (1, 4) tab rfl (by simp [hml ra]; omega)
      rw [fb] at this
      rcases this with ⟨_, _, _, _, h, _⟩ | ⟨h, _⟩
      · cases h
      · exact h
  · rcases vb with ⟨lb, mb, mb', eb, fb, rb, _⟩ | ⟨_, q', fb, hq'⟩
    · exfalso
      rw [List.nil_append] at eb
      subst eb
      have := value_move (objT s) (arrT s) 1 5 0 0 False 31 31 (fun h => by omega) (U.map (moveT 5)) [⟨3, s.length + 5, s.length + 6⟩] (4, 5) [⟨6, 0, 1, (0, 0), [], []⟩] (1, 4) _ _ fb (U.map (moveT 1)) [⟨5, s.length + 1, s.length + 2⟩] (0, 1) [⟨5, 0, 1, (0, 0), [], []⟩] (0, 0) tba rfl (by simp [hml rb]; omega)
      rw [fa] at this
      rcases this with ⟨_, _, _, _, h, _⟩ | ⟨h, _⟩
      · cases h
      · exact h
    · exact .inr ⟨q, q', by rw [pa, A2 q fa]; rfl, by omega, by rw [pb, B2 q' fb]; rfl, by omega⟩
end Go.Proofs.YtmghlaajocgoaaaGreatDoor
/-! PLAIN: blanks ahead of a text and behind it; a comma behind it. -/
namespace Go.Proofs.YtmghlaajocgoaaaGreatDoor
set_option linter.unusedSimpArgs false
set_option linter.unusedVariables false
open Go.Lib
def Bl (b : List UInt8) : Prop := ∀ c ∈ b, isBlank c = true
theorem blank_cases {c : UInt8} (h : isBlank c = true) : c = 32 ∨ c = 9 ∨ c = 10 ∨ c = 13 := by
  unfold isBlank at h
  simpa [or_assoc] using h
theorem tokR_bl (c : UInt8) (r : List UInt8) (h : isBlank c = true) : tokR (c :: r) = (1, runL isBlank (c :: r), 0) := by
  rcases blank_cases h with rfl | rfl | rfl | rfl <;> rfl
theorem runL_all (p : UInt8 → Bool) (b : List UInt8) : ∀ l : List UInt8, (∀ c ∈ l, p c = true) → runL p (l ++ b) = l.length + runL p b
  | [], _ => by simp
  | c :: l, h => by
    rw [List.cons_append, runL_cons, if_pos (h c List.mem_cons_self), runL_all p b l (fun x hx => h x (List.mem_cons_of_mem _ hx)), List.length_cons]
    omega
theorem runL_full (p : UInt8 → Bool) (l : List UInt8) (h : ∀ c ∈ l, p c = true) : runL p l = l.length := by
  have := runL_all p [] l h
  rwa [List.append_nil, show runL p [] = 0 from rfl, Nat.add_zero] at this
theorem runL_mem (p : UInt8 → Bool) : ∀ l : List UInt8, runL p l = l.length → ∀ c ∈ l, p c = true
  | [], _, c, hc => by cases hc
  | d :: l, h, c, hc => by
    rw [runL_cons] at h
    by_cases hd : p d = true
    · rw [if_pos hd, List.length_cons] at h
      rcases List.mem_cons.1 hc with rfl | hc
      · exact hd
      · exact runL_mem p l (by omega) c hc
    · rw [if_neg hd, List.length_cons] at h; omega
/-- A run that ends within the text ends there whatever follows. -/
theorem runL_in (p : UInt8 → Bool) (b : List UInt8) : ∀ l : List UInt8, runL p l < l.length → runL p (l ++ b) = runL p l
  | [], h => by simp [runL] at h
  | c :: l, h => by
    rw [runL_cons] at h
    rw [List.cons_append, runL_cons, runL_cons]
    by_cases hc : p c = true
    · rw [if_pos hc, List.length_cons] at h
      rw [if_pos hc, if_pos hc, runL_in p b l (by omega)]
    · rw [if_neg hc, if_neg hc]
/-- The blanks that a text begins with do not count. -/
theorem blank_skip (f : Nat) (s : List UInt8) (i : Nat) (hf : s.length ≤ f) : nblk (toksGo f s i).1 = nblk (toksGo f (s.drop (runL isBlank s)) (i + runL isBlank s)).1 ∧ (toksGo f s i).2 = (toksGo f (s.drop (runL isBlank s)) (i + runL isBlank s)).2 := by
  cases s with
  | nil => exact ⟨rfl, rfl⟩
  | cons c r =>
    by_cases hb : isBlank c = true
    · have hlc : (c :: r).length = r.length + 1 := rfl
      obtain ⟨g, rfl⟩ : ∃ g, f = g + 1 := ⟨f - 1, by omega⟩
      have hk := runL_le isBlank (c :: r)
      have hk1 : 0 < runL isBlank (c :: r) := by rw [runL_cons, if_pos hb]; omega
      rw [toksGo_fuel (g + 1) g ((c :: r).drop _) _ (by rw [List.length_drop]; omega) (by rw [List.length_drop]; omega), toksGo_cons, tokR_bl c r hb, if_pos rfl]
      exact ⟨rfl, rfl⟩
    · have : runL isBlank (c :: r) = 0 := by rw [runL_cons, if_neg hb]
      rw [this]
      exact ⟨rfl, rfl⟩
theorem toks_lead (b s : List UInt8) (hb : Bl b) : nblk (toksGo (b ++ s).length (b ++ s) 0).1 = (nblk (toksGo s.length s 0).1).map (moveT b.length) ∧ ((toksGo (b ++ s).length (b ++ s) 0).2 = none ↔ (toksGo s.length s 0).2 = none) := by
  obtain ⟨h1, h2⟩ := blank_skip (b ++ s).length (b ++ s) 0 (Nat.le_refl _)
  obtain ⟨g1, g2⟩ := blank_skip s.length s 0 (Nat.le_refl _)
  rw [runL_all isBlank s b hb] at h1 h2
  have hd : (b ++ s).drop (b.length + runL isBlank s) = s.drop (runL isBlank s) := by
    rw [← List.drop_drop, List.drop_left]
  rw [hd, show 0 + (b.length + runL isBlank s) = (0 + runL isBlank s) + b.length by omega, toks_off, toksGo_fuel (b ++ s).length s.length (s.drop (runL isBlank s)) _ (by rw [List.length_drop, List.length_append]; omega) (by rw [List.length_drop]; omega)] at h1 h2
  refine ⟨by rw [h1, g1, nblk_move], ?_⟩
  rw [h2, g2]
  simp only [Option.map_eq_none_iff]
/-- What is read well ends with a quote. -/
theorem readGo_last : ∀ (f : Nat) (l : List UInt8) (i : Nat) (acc : List UInt8), (readGo f l i acc).2.2 = 0 → l[((readGo f l i acc).2.1 - i).toNat - 1]? = some 34
  | 0, _, _, _, h => by simp [readGo] at h
  | _ + 1, [], _, _, h => by simp [readGo] at h
  | f + 1, c :: r, i, acc, h => by
    rw [readGo_cons] at h ⊢
    by_cases h34 : c = 34
    · rw [if_pos h34]
      rw [show (((i : Int) + 1 - i).toNat - 1) = 0 by omega, h34]
      rfl
    rw [if_neg h34] at h ⊢
    by_cases h0 : (partL (c :: r)).2 = 0
    · rw [if_pos h0] at h; exact absurd h (by simp)
    rw [if_neg h0] at h ⊢
    have hp := partL_bd (c :: r) (List.cons_ne_nil _ _)
    have hok := readGo_ok f _ _ _ h
    have ih := readGo_last f _ _ _ h
    rw [List.getElem?_drop] at ih
    rw [← ih]
    congr 1
    omega
theorem readL_last (l : List UInt8) (h : (readL l 0).2.2 = 0) : l[(readL l 0).2.1.toNat - 1]? = some 34 := by
  unfold readL at h ⊢
  simp only [Int.toNat_zero] at h ⊢
  by_cases h1 : 0 ≤ (0 : Int) ∧ l[0]? = some 34
  · rw [if_pos h1] at h ⊢
    have := readGo_last _ _ _ _ h
    have hok := readGo_ok _ _ _ _ h
    rw [List.getElem?_drop] at this
    rw [← this]
    congr 1
    omega
  · rw [if_neg h1] at h; exact absurd h (by simp)
theorem blank_num {c : UInt8} (h : isBlank c = true) : isNumB c = false ∧ isSmall c = false ∧ c ≠ 34 := by
  rcases blank_cases h with rfl | rfl | rfl | rfl <;> exact ⟨by decide, by decide, by decide⟩
/-- A token that is no blank, with blanks behind it. -/
theorem tokR_trail (c : UInt8) (r b : List UInt8) (hc : isBlank c = false) (hb : Bl b) : ((tokR (c :: r ++ b)).2.2 = 0 ↔ (tokR (c :: r)).2.2 = 0) ∧ ((tokR (c :: r)).2.2 = 0 → tokR (c :: r ++ b) = tokR (c :: r)) := by
  have key : ((tokR (c :: r ++ b)).2.2 = 0 ∨ (tokR (c :: r)).2.2 = 0) → tokR (c :: r ++ b) = tokR (c :: r) := by
    intro ho
    cases b with
    | nil => rw [List.append_nil]
    | cons d b =>
      have hd := blank_num (hb d List.mem_cons_self)
      refine tokR_same (c :: r) (d :: b) (List.cons_ne_nil _ _) (fun x hx hbx => ?_) (runL_stop isNumB d b hd.1 _) (runL_stop isSmall d b hd.2.1 _) (fun hq => ?_)
      · obtain rfl : c = x := by simpa using hx
        rw [hc] at hbx; cases hbx
      · rcases ho with ho | ho
        · obtain rfl : c = 34 := by simpa using hq
          have h0 := tokR_quote (r ++ d :: b) ho
          have hl := readL_last _ h0
          have hk := readL_ok _ h0
          have hlen : (readL (34 :: (r ++ d :: b)) 0).2.1.toNat ≤ (34 :: r).length := by
            apply Classical.byContradiction
            intro hgt
            rw [← List.cons_append, List.getElem?_append_right (by rw [← List.cons_append] at hgt; omega)] at hl
            have := hb _ (List.mem_of_getElem? hl)
            exact absurd this (by decide)
          refine (readL_local (34 :: (r ++ d :: b)) (34 :: r) h0 ?_).symm
          rw [← List.cons_append]
          rw [← List.cons_append] at hlen
          rw [List.take_append_of_le_length hlen]
        · exact quote_same _ _ ho hq
  refine ⟨⟨fun h => by rw [← key (.inl h)]; exact h, fun h => by rw [key (.inr h)]; exact h⟩, fun h => key (.inr h)⟩
theorem toks_trail (b : List UInt8) (hb : Bl b) : ∀ (f g : Nat) (s : List UInt8) (i : Nat), s.length ≤ f → s.length + b.length ≤ g → nblk (toksGo g (s ++ b) i).1 = nblk (toksGo f s i).1 ∧ ((toksGo g (s ++ b) i).2 = none ↔ (toksGo f s i).2 = none)
  | f, g, [], i, hf, hg => by
    obtain ⟨h1, h2⟩ := blank_skip g b i (by simpa using hg)
    rw [runL_full isBlank b hb, List.drop_length, toksGo_nil] at h1 h2
    rw [List.nil_append, h1, h2, toksGo_nil]
    exact ⟨rfl, Iff.rfl⟩
  | 0, _, _ :: _, _, h, _ => by simp at h
  | f + 1, g, c :: r, i, hf, hg => by
    have hlc : (c :: r).length = r.length + 1 := rfl
    obtain ⟨g, rfl⟩ : ∃ k, g = k + 1 := ⟨g - 1, by omega⟩
    by_cases hc : isBlank c = true
    · by_cases hfull : runL isBlank (c :: r) = (c :: r).length
      · have hall := runL_mem isBlank _ hfull
        obtain ⟨h1, h2⟩ := blank_skip (g + 1) (c :: r ++ b) i (by rw [List.length_append]; omega)
        obtain ⟨g1, g2⟩ := blank_skip (f + 1) (c :: r) i (by omega)
        have hall2 : ∀ x ∈ c :: r ++ b, isBlank x = true := fun x hx => by
          rcases List.mem_append.1 hx with hx | hx
          · exact hall x hx
          · exact hb x hx
        rw [runL_full isBlank _ hall2, List.drop_length, toksGo_nil] at h1 h2
        rw [hfull, List.drop_length, toksGo_nil] at g1 g2
        rw [h1, h2, g1, g2]
        exact ⟨rfl, Iff.rfl⟩
      · have hlt : runL isBlank (c :: r) < (c :: r).length := by have := runL_le isBlank (c :: r); omega
        have hr := runL_in isBlank b (c :: r) hlt
        have hk1 : 0 < runL isBlank (c :: r) := by rw [runL_cons, if_pos hc]; omega
        rw [List.cons_append] at hr
        have hd : (c :: (r ++ b)).drop (runL isBlank (c :: r)) = (c :: r).drop (runL isBlank (c :: r)) ++ b := by
          rw [← List.cons_append, List.drop_append_of_le_length (by omega)]
        have hdl : ((c :: r).drop (runL isBlank (c :: r))).length = (c :: r).length - runL isBlank (c :: r) := List.length_drop
        obtain ⟨i1, i2⟩ := toks_trail b hb f g ((c :: r).drop (runL isBlank (c :: r))) (i + runL isBlank (c :: r)) (by omega) (by omega)
        rw [List.cons_append, toksGo_cons, toksGo_cons, tokR_bl c _ hc, tokR_bl c _ hc, if_pos rfl, if_pos rfl, hr, hd]
        exact ⟨i1, i2⟩
    · have hcf : isBlank c = false := by cases h : isBlank c with
        | true => exact absurd h hc
        | false => rfl
      obtain ⟨t1, t2⟩ := tokR_trail c r b hcf hb
      by_cases h0 : (tokR (c :: r)).2.2 = 0
      · have ht := t2 h0
        have hle := (tokR_ok (c :: r) (List.cons_ne_nil _ _)).1
        have hok := (tokR_ok (c :: r) (List.cons_ne_nil _ _)).2 h0
        have hd : (c :: (r ++ b)).drop (tokR (c :: r)).2.1 = (c :: r).drop (tokR (c :: r)).2.1 ++ b := by
          rw [← List.cons_append, List.drop_append_of_le_length hle]
        have hdl : ((c :: r).drop (tokR (c :: r)).2.1).length = (c :: r).length - (tokR (c :: r)).2.1 := List.length_drop
        obtain ⟨i1, i2⟩ := toks_trail b hb f g ((c :: r).drop (tokR (c :: r)).2.1) (i + (tokR (c :: r)).2.1) (by omega) (by omega)
        rw [List.cons_append] at ht
        rw [List.cons_append, toksGo_cons, toksGo_cons, ht, if_pos h0, if_pos h0, hd]
        refine ⟨?_, i2⟩
        show nblk (_ :: _) = nblk (_ :: _)
        unfold nblk at i1 ⊢
        rw [List.filter_cons, List.filter_cons, i1]
      · have h0' : ¬ (tokR (c :: (r ++ b))).2.2 = 0 := fun h => h0 (t1.1 h)
        rw [List.cons_append, toksGo_cons, toksGo_cons, if_neg h0, if_neg h0']
        exact ⟨rfl, by simp⟩
theorem toks_both (p q s : List UInt8) (hp : Bl p) (hq : Bl q) : nblk (toksGo (p ++ (s ++ q)).length (p ++ (s ++ q)) 0).1 = (nblk (toksGo s.length s 0).1).map (moveT p.length) ∧ ((toksGo (p ++ (s ++ q)).length (p ++ (s ++ q)) 0).2 = none ↔ (toksGo s.length s 0).2 = none) := by
  obtain ⟨a1, a2⟩ := toks_lead p (s ++ q) hp
  obtain ⟨b1, b2⟩ := toks_trail q hq s.length (s ++ q).length s 0 (Nat.le_refl _) (by rw [List.length_append]; omega)
  exact ⟨by rw [a1, b1], a2.trans b2⟩
theorem pair_none {α β : Type} {x : α × Option β} (h : x.2 = none) : x = (x.1, none) := by rw [← h]
/-- The nodes of a short text are few. -/
theorem few_nodes {s : List UInt8} {T : List Tok} {l : Sp} {ns : List NodeD} (hT : toksGo s.length s 0 = (T, none)) (hv : valueM s 32 (nblk T) (0, 0) [] (0, 0) = .ok [] l ns) : 1 ≤ ns.length ∧ ns.length ≤ s.length ∧ (∀ t ∈ nblk T, t.sf ≤ t.st ∧ t.st ≤ s.length) := by
  have hT1 : (toksGo s.length s 0).1 = T := by rw [hT]
  have hcnt : (nblk T).length ≤ s.length := by
    have := toks_cnt s.length s 0
    rw [hT1] at this
    exact Nat.le_trans (List.length_filter_le _ _) this
  obtain ⟨more, hm, hm1, hm2, _⟩ := value_ext s 32 _ _ _ _ _ _ _ hv
  rw [List.nil_append] at hm
  subst hm
  simp only [List.length_nil] at hm2
  refine ⟨hm1, by omega, fun t ht => ?_⟩
  have := toks_in s.length s 0 t (by rw [hT1]; exact (List.mem_filter.1 ht).1)
  omega
theorem spaces_ok (p q s : List UInt8) (hp : Bl p) (hq : Bl q) (hs : s.length ≤ 4096) (hpq : (p ++ (s ++ q)).length ≤ 65536) (ns : List NodeD) (n : Int) (h : parseJ s = (ns, n, 0)) :
    ∃ ns', parseJ (p ++ (s ++ q)) = (ns', ((p ++ (s ++ q)).length : Int), 0) ∧ All2 (NR p.length 0 0 0) ns ns' ∧ 1 ≤ ns.length := by
  obtain ⟨_, T, l, ns', hT, hv, hr⟩ := parse_ok (s := s) (by rw [h])
  rw [h] at hr
  injection hr with e1 e2
  subst e1
  obtain ⟨f1, f2, f3⟩ := few_nodes hT hv
  obtain ⟨b1, b2⟩ := toks_both p q s hp hq
  rw [hT] at b1 b2
  have hP := parse_toks (p ++ (s ++ q)) _ hpq (pair_none (b2.2 rfl))
  rw [b1] at hP
  rw [← List.append_nil (nblk T)] at hv
  have := value_move s (p ++ (s ++ q)) p.length 0 0 0 False 32 32 (fun h => by omega) (nblk T) [] (0, 0) [] (0, 0) l ns hv ((nblk T).map (moveT p.length)) [] (0, 0) [] (0, 0) (tr_of p q s _ f3) rfl (by simp; omega)
  rw [List.append_nil] at this
  rcases this with ⟨l', m, m', e, g, r, _⟩ | ⟨h, _⟩
  · rw [List.nil_append] at e g
    subst e
    exact ⟨m', by rw [hP, g]; rfl, r, f1⟩
  · exact h.elim
theorem spaces_bad (p q s : List UInt8) (hp : Bl p) (hq : Bl q) (hl : s.length ≤ 4096) (hs : (parseJ s).2.2 ≠ 0) : (parseJ (p ++ (s ++ q))).2.2 ≠ 0 := by
  intro h
  obtain ⟨_, U, l, ns, hU, hv, hr⟩ := parse_ok h
  obtain ⟨b1, b2⟩ := toks_both p q s hp hq
  have hn := b2.1 (by rw [hU])
  have hT := pair_none hn
  obtain ⟨T, hTT⟩ : ∃ T, (toksGo s.length s 0).1 = T := ⟨_, rfl⟩
  rw [hTT] at hT b1
  rw [hU] at b1
  simp only [] at b1
  have f3 : ∀ t ∈ nblk T, t.sf ≤ t.st ∧ t.st ≤ s.length := fun t ht => by
    have := toks_in s.length s 0 t (by rw [hTT]; exact (List.mem_filter.1 ht).1)
    omega
  have hcnt : (nblk T).length ≤ s.length := by
    have := toks_cnt s.length s 0
    rw [hTT] at this
    exact Nat.le_trans (List.length_filter_le _ _) this
  obtain ⟨more, hm, hm1, hm2, _⟩ := value_ext (p ++ (s ++ q)) 32 _ _ _ _ _ _ _ hv
  rw [List.nil_append] at hm
  subst hm
  rw [b1, List.length_map, List.length_nil] at hm2
  rw [b1, ← List.append_nil ((nblk T).map (moveT p.length))] at hv
  have hmv := value_move (p ++ (s ++ q)) s 0 p.length 0 0 False 32 32 (fun h => by omega) ((nblk T).map (moveT p.length)) [] (0, 0) [] (0, 0) l ns hv (nblk T) [] (0, 0) [] (0, 0) (tr_to p q s _ f3) rfl (by simp; omega)
  rw [List.append_nil] at hmv
  rcases hmv with ⟨l', m, m', e, g, r, _⟩ | ⟨h, _⟩
  · rw [parse_toks s T (by omega) hT, g] at hs
    exact hs rfl
  · exact h.elim
/-- A comma behind a text. -/
theorem comma_bad (s : List UInt8) (hs : s.length ≤ 4096) (ns : List NodeD) (n : Int) (h : parseJ s = (ns, n, 0)) : ∃ q : Nat, parseJ (s ++ [44]) = ([], (q : Int), 2) := by
  obtain ⟨_, T, l, ns', hT, hv, hr⟩ := parse_ok (s := s) (by rw [h])
  rw [h] at hr
  injection hr with e1 e2
  subst e1
  obtain ⟨f1, f2, f3⟩ := few_nodes hT hv
  have h2 := toks_sign 44 6 ⟨by decide, by decide, by decide⟩ (fun b => rfl) s.length (s ++ [44]).length s [] 0 (Nat.le_refl _) (by rw [hT]) (by simp)
  rw [hT] at h2
  have hP := parse_toks (s ++ [44]) _ (by simp; omega) h2
  have hn : nblk (T ++ ⟨6, 0 + s.length, 0 + s.length + 1⟩ :: (toksGo ([] : List UInt8).length [] (0 + s.length + 1)).1) = nblk T ++ [⟨6, s.length, s.length + 1⟩] := by
    rw [nblk_app, Nat.zero_add]; rfl
  simp only [] at hP
  rw [hn] at hP
  rw [← List.append_nil (nblk T)] at hv
  have ht := tr_of [] [44] s _ f3
  rw [List.nil_append, List.length_nil, move_zero] at ht
  have := value_move s (s ++ [44]) 0 0 0 0 False 32 32 (fun h => by omega) (nblk T) [] (0, 0) [] (0, 0) l ns hv (nblk T) [⟨6, s.length, s.length + 1⟩] (0, 0) [] (0, 0) ht rfl (by simp; omega)
  rcases this with ⟨l', m, m', e, g, r, _⟩ | ⟨h, _⟩
  · exact ⟨s.length, by rw [hP, g]; rfl⟩
  · exact h.elim
end Go.Proofs.YtmghlaajocgoaaaGreatDoor
/-! PLAIN: what the nodes of a text are: each kid in its piece, the pieces one behind another. -/
namespace Go.Proofs.YtmghlaajocgoaaaGreatDoor
set_option linter.unusedSimpArgs false
set_option linter.unusedVariables false
open Go.Lib
/-- Tokens in order, in a text, from a byte on. -/
def TC (txt : List UInt8) : Nat → List Tok → Prop
  | _, [] => True
  | a, t :: ts => (a ≤ t.sf ∧ t.sf < t.st ∧ t.st ≤ txt.length ∧ (2 ≤ t.kind → t.kind ≤ 6 → t.st = t.sf + 1) ∧ (t.kind = 6 → txt[t.sf]? = some 44)) ∧ TC txt t.st ts
theorem TC.mono {txt : List UInt8} : ∀ {ts : List Tok} {a b : Nat}, TC txt a ts → b ≤ a → TC txt b ts
  | [], _, _, _, _ => trivial
  | _ :: _, _, _, ⟨⟨h1, h2⟩, h3⟩, h => ⟨⟨Nat.le_trans h h1, h2⟩, h3⟩
theorem TC.filter {txt : List UInt8} (p : Tok → Bool) : ∀ {ts : List Tok} {a : Nat}, TC txt a ts → TC txt a (ts.filter p)
  | [], _, h => h
  | t :: ts, a, ⟨h1, h2⟩ => by
    rw [List.filter_cons]
    split
    · exact ⟨h1, TC.filter p h2⟩
    · exact (TC.filter p h2).mono (by have := h1.1; have := h1.2.1; omega)
theorem TC.drop {txt : List UInt8} : ∀ (k : Nat) {ts : List Tok} {a : Nat}, TC txt a ts → TC txt a (ts.drop k)
  | 0, _, _, h => h
  | k + 1, [], _, _ => trivial
  | k + 1, t :: ts, a, ⟨h1, h2⟩ => by
    rw [List.drop_succ_cons]
    exact (TC.drop k h2).mono (by have := h1.1; have := h1.2.1; omega)
theorem tokR_sign (c : UInt8) (r : List UInt8) (h2 : 2 ≤ (tokR (c :: r)).1) (h6 : (tokR (c :: r)).1 ≤ 6) : (tokR (c :: r)).2.1 = 1 ∧ ((tokR (c :: r)).1 = 6 → c = 44) := by
  unfold tokR at h2 h6 ⊢
  simp only [] at h2 h6 ⊢
  cases hs : signI c with
  | some k =>
    rw [hs] at h2 h6
    simp only [] at h2 h6 ⊢
    refine ⟨trivial, fun hk => ?_⟩
    have hk4 : k = 4 := by omega
    subst hk4
    have : ∀ n : Fin 256, signI (UInt8.ofNat n.val) = some 4 → UInt8.ofNat n.val = 44 := by decide +kernel
    have := this ⟨c.toNat, c.toNat_lt⟩
    simp only [UInt8.ofNat_toNat] at this
    exact this hs
  | none =>
    exfalso
    rw [hs] at h2 h6
    simp only [] at h2 h6
    have hw := wordL_cases ((c :: r).take (runL isSmall (c :: r)))
    split at h2
    · simp at h2
    · rename_i hb
      rw [if_neg hb] at h6
      split at h2
      · rename_i h34
        rw [if_pos h34] at h6
        split at h2
        · rename_i h0; rw [if_pos h0] at h6; simp at h6
        · simp at h2
      · rename_i h34
        rw [if_neg h34] at h6
        split at h2
        · rename_i hd
          rw [if_pos hd] at h6
          split at h2
          · rename_i h0; rw [if_pos h0] at h6; simp at h6
          · simp at h2
        · rename_i hd
          rw [if_neg hd] at h6
          split at h2
          · simp at h2
          · rename_i h0
            rw [if_neg h0] at h6
            simp only [] at h2 h6
            rcases hw with hw | hw
            · exact h0 hw
            · omega
theorem toks_tc (txt : List UInt8) : ∀ (f : Nat) (l : List UInt8) (i : Nat), txt.drop i = l → TC txt i (toksGo f l i).1
  | f, [], i, _ => by rw [toksGo_nil]; trivial
  | 0, _ :: _, _, _ => trivial
  | f + 1, c :: r, i, h => by
    rw [toksGo_cons]
    by_cases h0 : (tokR (c :: r)).2.2 = 0
    · rw [if_pos h0]
      have hle := (tokR_ok (c :: r) (List.cons_ne_nil _ _)).1
      have hok := (tokR_ok (c :: r) (List.cons_ne_nil _ _)).2 h0
      have hl := congrArg List.length h
      rw [List.length_drop] at hl
      refine ⟨⟨Nat.le_refl _, by simp only []; omega, by simp only []; omega, fun h2 h6 => ?_, fun h6 => ?_⟩, ?_⟩
      · simp only [] at h2 h6 ⊢
        rw [(tokR_sign c r h2 h6).1]
      · simp only [] at h6 ⊢
        have := (tokR_sign c r (by omega) (by omega)).2 h6
        have hc : txt[i]? = (txt.drop i)[0]? := by rw [List.getElem?_drop, Nat.add_zero]
        rw [hc, h, this]; rfl
      · exact toks_tc txt f _ _ (by rw [← List.drop_drop, h])
    · rw [if_neg h0]; trivial
/-- Where the piece of a kid begins. -/
def atOf (x : NodeD) (j : Nat) : Nat := if j = 0 then x.sf + 1 else (x.pcs[j - 1]?.getD (0, 0)).2 + 1
structure KPc (txt : List UInt8) (ns : List NodeD) (i : Nat) (x : NodeD) (j kid : Nat) (p : Sp) : Prop where
  lt : i < kid
  from_ : p.1 = atOf x j
  kid_ : ∃ y, ns[kid]? = some y ∧ p.1 ≤ y.sf ∧ y.st ≤ p.2 ∧ (x.kind = 6 → p.1 ≤ y.key.1 ∧ y.key.2 < y.sf) ∧ (x.kind = 5 → y.key = (0, 0))
structure WFN (txt : List UInt8) (ns : List NodeD) (i : Nat) (x : NodeD) : Prop where
  len : x.kids.length = x.pcs.length
  flat : x.kind ≠ 5 → x.kind ≠ 6 → x.kids = []
  kid_ : ∀ j kid p, x.kids[j]? = some kid → x.pcs[j]? = some p → KPc txt ns i x j kid p ∧ p.2 < x.st ∧ (j + 1 < x.kids.length → txt[p.2]? = some 44)
  end_ : x.kids ≠ [] → atOf x x.kids.length = x.st
  pos : x.sf < x.st
  le : x.st ≤ txt.length
theorem KPc.mono {txt : List UInt8} {ns ns' : List NodeD} {i : Nat} {x : NodeD} {j kid : Nat} {p : Sp} (h : KPc txt ns i x j kid p) (hs : ∀ k y, i < k → ns[k]? = some y → ns'[k]? = some y) : KPc txt ns' i x j kid p := by
  obtain ⟨h1, h2, y, hy, h3⟩ := h
  exact ⟨h1, h2, y, hs _ _ h1 hy, h3⟩
theorem WFN.mono {txt : List UInt8} {ns ns' : List NodeD} {i : Nat} {x : NodeD} (h : WFN txt ns i x) (hs : ∀ k y, i < k → ns[k]? = some y → ns'[k]? = some y) : WFN txt ns' i x :=
  ⟨h.len, h.flat, fun j kid p h1 h2 => ⟨(h.kid_ j kid p h1 h2).1.mono hs, (h.kid_ j kid p h1 h2).2⟩, h.end_, h.pos, h.le⟩
def sumK (l : List NodeD) : Nat := (l.map fun x => x.kids.length).sum
theorem sumK_app (a b : List NodeD) : sumK (a ++ b) = sumK a + sumK b := by unfold sumK; simp
theorem sumK_cons (x : NodeD) (b : List NodeD) : sumK (x :: b) = x.kids.length + sumK b := by unfold sumK; simp
/-- What is behind a node, all of it. -/
structure Rear (txt : List UInt8) (n lo hi : Nat) (ns : List NodeD) : Prop where
  wf : ∀ i y, n ≤ i → ns[i]? = some y → WFN txt ns i y ∧ lo ≤ y.sf ∧ y.st ≤ hi
  sorted : ∀ i y z, n ≤ i + 1 → ns[i]? = some y → ns[i + 1]? = some z → y.sf < z.sf
/-- What comes of a value. -/
def VO (txt : List UInt8) (V : VF) : Prop := ∀ rest last nodes key r l ns, V rest last nodes key = .ok r l ns → TC txt last.2 rest → (∀ y ∈ nodes, y.sf < last.2) →
  TC txt l.2 r ∧ last.2 < l.2 ∧ Rear txt nodes.length last.2 l.2 ns ∧ sumK (ns.drop nodes.length) + 1 = ns.length - nodes.length ∧
  ∃ x, ns[nodes.length]? = some x ∧ x.key = key ∧ x.st = l.2 ∧ x.sf = hereT 0 rest
/-- The same of an item or member. -/
theorem kid_vo {txt : List UInt8} {V : VF} (hV : VO txt V) {obj : Bool} {had had' : List (List UInt8)} {rest r : List Tok} {last l : Sp} {nodes ns : List NodeD} (h : kidM txt V obj had rest last nodes = (.ok r l ns, had')) (hT : TC txt last.2 rest) (hn : ∀ y ∈ nodes, y.sf < last.2) :
    TC txt l.2 r ∧ last.2 < l.2 ∧ Rear txt nodes.length last.2 l.2 ns ∧ sumK (ns.drop nodes.length) + 1 = ns.length - nodes.length ∧
    ∃ x, ns[nodes.length]? = some x ∧ x.st = l.2 ∧ last.2 ≤ x.sf ∧ (obj = true → last.2 ≤ x.key.1 ∧ x.key.2 < x.sf) ∧ (obj = false → x.key = (0, 0)) := by
  unfold kidM at h
  have hsf : ∀ {a : Nat} {rest : List Tok} {x : NodeD}, TC txt a rest → rest ≠ [] → x.sf = hereT 0 rest → a ≤ x.sf := by
    intro a rest x hT hne hx
    cases rest with
    | nil => exact absurd rfl hne
    | cons t q => rw [hx]; exact hT.1.1
  split at h
  · rename_i ho
    injection h with h _
    obtain ⟨h1, h2, h3, h4, x, hx, hk, hst, hs⟩ := hV _ _ _ _ _ _ _ h hT hn
    refine ⟨h1, h2, h3, h4, x, hx, hst, ?_, fun h => (by rw [ho] at h; cases h), fun _ => hk⟩
    exact (h3.wf _ x (Nat.le_refl _) hx).2.1
  · rename_i ho
    split at h
    · injection h with h _; cases h
    · rename_i t q
      split at h
      · injection h with h _; cases h
      · split at h
        · injection h with h _; cases h
        · split at h
          · injection h with h _; cases h
          · rename_i c r2
            split at h
            · injection h with h _; cases h
            · injection h with h _
              obtain ⟨⟨t1, t2, t3, _⟩, ⟨c1, c2, c3, _⟩, hT2⟩ := hT
              have hlt : last.2 < c.st := by omega
              obtain ⟨h1, h2, h3, h4, x, hx, hk, hst, hs⟩ := hV _ _ _ _ _ _ _ h hT2 (fun y hy => by have := hn y hy; simp only []; omega)
              simp only [] at h2 h3
              have hx2 := (h3.wf _ x (Nat.le_refl _) hx).2.1
              refine ⟨h1, by omega, ⟨fun i y hi hy => ?_, h3.sorted⟩, h4, x, hx, hst, by omega, fun _ => ?_, fun h => absurd h ho⟩
              · obtain ⟨a, b, c⟩ := h3.wf i y hi hy
                exact ⟨a, by omega, c⟩
              · rw [hk]
                simp only []
                omega
theorem atOf_push (x : NodeD) (k : Nat) (pc : Sp) (j : Nat) (hj : j ≤ x.pcs.length) : atOf { x with kids := x.kids ++ [k], pcs := x.pcs ++ [pc] } j = atOf x j := by
  unfold atOf
  by_cases h0 : j = 0
  · rw [if_pos h0, if_pos h0]
  · rw [if_neg h0, if_neg h0]
    simp only []
    rw [List.getElem?_append_left (by omega)]
theorem atOf_last (x : NodeD) (k : Nat) (pc : Sp) : atOf { x with kids := x.kids ++ [k], pcs := x.pcs ++ [pc] } (x.pcs.length + 1) = pc.2 + 1 := by
  unfold atOf
  rw [if_neg (by omega)]
  simp only [Nat.add_sub_cancel]
  rw [List.getElem?_append_right (Nat.le_refl _)]
  simp
theorem at_snoc {α : Type} {l : List α} {a u : α} {j : Nat} (h : (l ++ [a])[j]? = some u) : (j < l.length ∧ l[j]? = some u) ∨ (j = l.length ∧ u = a) := by
  by_cases hj : j < l.length
  · rw [List.getElem?_append_left hj] at h
    exact .inl ⟨hj, h⟩
  · rw [List.getElem?_append_right (by omega)] at h
    have hl := (List.getElem?_eq_some_iff.1 h).1
    simp only [List.length_singleton] at hl
    rw [show j - l.length = 0 by omega] at h
    simp only [List.getElem?_cons_zero, Option.some.injEq] at h
    exact .inr ⟨by omega, h.symm⟩
/-- Where the loop over kids stands. -/
structure LI (txt : List UInt8) (n : Nat) (x : NodeD) (last : Nat) (nodes : List NodeD) : Prop where
  len : x.kids.length = x.pcs.length
  kid_ : ∀ j kid p, x.kids[j]? = some kid → x.pcs[j]? = some p → KPc txt nodes n x j kid p ∧ p.2 < last ∧ txt[p.2]? = some 44
  next : atOf x x.kids.length = last
  rear : Rear txt (n + 1) x.sf last nodes
  all_ : ∀ y ∈ nodes, y.sf < last
/-- What comes of it. -/
structure LO (txt : List UInt8) (n : Nat) (x : NodeD) (last : Nat) (ns : List NodeD) : Prop where
  len : x.kids.length = x.pcs.length
  kid_ : ∀ j kid p, x.kids[j]? = some kid → x.pcs[j]? = some p → KPc txt ns n x j kid p ∧ p.2 < last ∧ (j + 1 < x.kids.length → txt[p.2]? = some 44)
  next : x.kids ≠ [] → atOf x x.kids.length = last
  rear : Rear txt (n + 1) x.sf last ns
  le : last ≤ txt.length
  pos : x.sf < last
theorem mid_at {pre : List NodeD} {x : NodeD} {post nodes : List NodeD} (h : Mid pre x post nodes) : nodes[pre.length]? = some x := by
  rw [h.1, List.getElem?_append_right (Nat.le_refl _), Nat.sub_self]; rfl
theorem mid_len {pre : List NodeD} {x : NodeD} {post nodes : List NodeD} (h : Mid pre x post nodes) : nodes.length = pre.length + 1 + post.length := by
  rw [h.1, List.length_append, List.length_cons]; omega
theorem loop_vo {txt : List UInt8} {V : VF} (hV : VO txt V) (hE : Ext V) {closing : Nat} {obj : Bool} {pre : List NodeD} (hcl : closing = 5 ∨ closing = 3) : ∀ (f : Nat) {had : List (List UInt8)} {rest : List Tok} {last : Sp} {nodes : List NodeD} {r : List Tok} {l : Sp} {ns : List NodeD} {x : NodeD} {post : List NodeD},
    Mid pre x post nodes → loopM txt V closing obj pre.length f had rest last nodes = .ok r l ns → TC txt last.2 rest → LI txt pre.length x last.2 nodes → sumK (x :: post) = post.length → (x.kind = 6 → obj = true) → (x.kind = 5 → obj = false) →
    ∃ x' post', Mid pre x' post' ns ∧ x'.kind = x.kind ∧ x'.sf = x.sf ∧ x'.key = x.key ∧ sumK (x' :: post') = post'.length ∧ LO txt pre.length x' l.2 ns ∧ TC txt l.2 r
  | 0, _, _, _, _, _, _, _, _, _, _, h, _, _, _, _, _ => by cases h
  | f + 1, had, rest, last, nodes, r, l, ns, x, post, hm, h, hT, hI, hsum, hk6, hk5 => by
    unfold loopM at h
    split at h
    · cases h
    · rename_i r1 l1 ns1 had1 hk
      obtain ⟨more, rfl, g2, g3, ⟨k, g4⟩, g5⟩ := kid_ext hE hk
      obtain ⟨v1, v2, v3, v4, y0, w1, w2, w3, w4, w5⟩ := kid_vo hV hk hT hI.all_
      rw [List.drop_left, List.length_append, Nat.add_sub_cancel_left] at v4
      split at h
      · cases h
      · rename_i t r2
        obtain ⟨⟨t1, t2, t3, t4, t5⟩, hT2⟩ := v1
        have hm2 := hm.add g5 g2 nodes.length (last.2, t.sf)
        have hnl := mid_len hm
        have hlk : ∀ i y, i ≠ pre.length → ((addKid pre.length nodes.length (last.2, t.sf) (nodes ++ more))[i]? = some y ↔ (nodes ++ more)[i]? = some y) := fun i y hi => by
          unfold addKid; rw [modN_at, if_neg hi]
        have hn0 := mid_at hm
        have hn2 := mid_at hm2
        -- what holds whatever the sign is
        have key : 2 ≤ t.kind → t.kind ≤ 6 →
            (x.kids.length + 1 = x.pcs.length + 1) ∧
            (∀ j kid p, (x.kids ++ [nodes.length])[j]? = some kid → (x.pcs ++ [(last.2, t.sf)])[j]? = some p → KPc txt (addKid pre.length nodes.length (last.2, t.sf) (nodes ++ more)) pre.length { x with kids := x.kids ++ [nodes.length], pcs := x.pcs ++ [(last.2, t.sf)] } j kid p ∧ p.2 < t.st ∧ ((j < x.kids.length ∧ txt[p.2]? = some 44) ∨ (j = x.kids.length ∧ p.2 = t.sf))) ∧
            atOf { x with kids := x.kids ++ [nodes.length], pcs := x.pcs ++ [(last.2, t.sf)] } (x.kids.length + 1) = t.st ∧
            Rear txt (pre.length + 1) x.sf t.st (addKid pre.length nodes.length (last.2, t.sf) (nodes ++ more)) ∧
            (∀ y ∈ addKid pre.length nodes.length (last.2, t.sf) (nodes ++ more), y.sf < t.st) := by
          intro hk2 hk66
          have hst := t4 hk2 hk66
          have hxsf : x.sf < last.2 := hI.all_ x (List.mem_of_getElem? hn0)
          refine ⟨by rw [hI.len], ?_, ?_, ⟨?_, ?_⟩, ?_⟩
          · intro j kid p h1 h2
            rcases at_snoc h1 with ⟨j1, h1⟩ | ⟨j1, rfl⟩
            · rcases at_snoc h2 with ⟨j2, h2⟩ | ⟨j2, rfl⟩
              · obtain ⟨⟨q1, q2, y, qy, q3⟩, p2, p3⟩ := hI.kid_ j kid p h1 h2
                refine ⟨⟨q1, ?_, y, ?_, q3⟩, by omega, .inl ⟨j1, p3⟩⟩
                · rw [q2, atOf_push _ _ _ _ (by omega)]
                · rw [hlk _ _ (by omega), List.getElem?_append_left (List.getElem?_eq_some_iff.1 qy).1]; exact qy
              · exfalso; have := hI.len; omega
            · rcases at_snoc h2 with ⟨j2, h2⟩ | ⟨j2, rfl⟩
              · exfalso; have := hI.len; omega
              · refine ⟨⟨by omega, ?_, y0, ?_, w3, by simp only []; omega, fun h => w4 (hk6 h), fun h => w5 (hk5 h)⟩, by simp only []; omega, .inr ⟨j1, rfl⟩⟩
                · rw [j1, atOf_push _ _ _ _ (by rw [hI.len]; exact Nat.le_refl _), hI.next]
                · rw [hlk _ _ (by omega)]; exact w1
          · rw [hI.len, atOf_last, hst]
          · intro i y hi hy
            rw [hlk _ _ (by omega)] at hy
            have hmono : ∀ (ns0 : List NodeD), (∀ k y, ns0[k]? = some y → (nodes ++ more)[k]? = some y) → ∀ k y, i < k → ns0[k]? = some y → (addKid pre.length nodes.length (last.2, t.sf) (nodes ++ more))[k]? = some y := fun ns0 h0 k y hk h => by
              rw [hlk _ _ (by omega)]; exact h0 k y h
            by_cases hin : i < nodes.length
            · rw [List.getElem?_append_left hin] at hy
              obtain ⟨a, b, c⟩ := hI.rear.wf i y hi hy
              exact ⟨a.mono (hmono nodes fun k y h => by rw [List.getElem?_append_left (List.getElem?_eq_some_iff.1 h).1]; exact h), b, by omega⟩
            · obtain ⟨a, b, c⟩ := v3.wf i y (by omega) hy
              exact ⟨a.mono (hmono _ fun k y h => h), by omega, by omega⟩
          · intro i y z hi hy hz
            rw [hlk _ _ (by omega)] at hz
            have hy' : ∃ y', (nodes ++ more)[i]? = some y' ∧ y'.sf = y.sf := by
              by_cases hin : i = pre.length
              · subst hin
                rw [hn2] at hy
                refine ⟨x, ?_, ?_⟩
                · rw [List.getElem?_append_left (by omega)]; exact hn0
                · rw [← Option.some.inj hy]
              · rw [hlk _ _ hin] at hy
                exact ⟨y, hy, rfl⟩
            obtain ⟨y', hy', e⟩ := hy'
            rw [← e]
            by_cases hin : i + 1 < nodes.length
            · rw [List.getElem?_append_left hin] at hz
              rw [List.getElem?_append_left (by omega)] at hy'
              exact hI.rear.sorted i y' z hi hy' hz
            · exact v3.sorted i y' z (by omega) hy' hz
          · intro y hy
            have hold : ∀ y ∈ nodes ++ more, y.sf < t.st := fun y hy => by
              rcases List.mem_append.1 hy with hy | hy
              · have := hI.all_ y hy; omega
              · obtain ⟨i, hi, he⟩ := List.mem_iff_getElem.1 hy
                have hg : (nodes ++ more)[nodes.length + i]? = some y := by
                  rw [List.getElem?_append_right (by omega), Nat.add_sub_cancel_left, List.getElem?_eq_getElem hi, he]
                obtain ⟨a, b, c⟩ := v3.wf _ y (by omega) hg
                have := a.pos; omega
            rcases modN_mem _ _ _ hy with hy | ⟨y', hy', rfl⟩
            · exact hold y hy
            · exact hold y' hy'
        have hsum2 : sumK ({ x with kids := x.kids ++ [nodes.length], pcs := x.pcs ++ [(last.2, t.sf)] } :: (post ++ more)) = (post ++ more).length := by
          rw [sumK_cons] at hsum ⊢
          rw [sumK_app, List.length_append]
          simp only [List.length_append, List.length_singleton]
          omega
        split at h
        · rename_i hc
          injection h with e1 e2 e3
          subst e1 e2 e3
          obtain ⟨k1, k2, k3, k4, k5⟩ := key (by omega) (by omega)
          refine ⟨_, _, hm2, rfl, rfl, rfl, hsum2, ⟨?_, ?_, fun _ => ?_, k4, t3, ?_⟩, hT2⟩
          · simp only [List.length_append, List.length_singleton]; exact k1
          · intro j kid p h1 h2
            obtain ⟨a, b, c⟩ := k2 j kid p h1 h2
            refine ⟨a, b, fun hj => ?_⟩
            simp only [List.length_append, List.length_singleton] at hj
            rcases c with c | c
            · exact c.2
            · omega
          · simp only [List.length_append, List.length_singleton]; exact k3
          · exact k5 _ (List.mem_of_getElem? hn2)
        · split at h
          · rename_i h6
            obtain ⟨k1, k2, k3, k4, k5⟩ := key (by omega) (by omega)
            have hI2 : LI txt pre.length { x with kids := x.kids ++ [nodes.length], pcs := x.pcs ++ [(last.2, t.sf)] } t.st (addKid pre.length nodes.length (last.2, t.sf) (nodes ++ more)) := by
              refine ⟨?_, ?_, ?_, k4, k5⟩
              · simp only [List.length_append, List.length_singleton]; exact k1
              · intro j kid p h1 h2
                obtain ⟨a, b, c⟩ := k2 j kid p h1 h2
                refine ⟨a, b, ?_⟩
                rcases c with c | c
                · exact c.2
                · rw [c.2]; exact t5 h6
              · simp only [List.length_append, List.length_singleton]; exact k3
            obtain ⟨x', post', i1, i2, i3, i4, i5, i6, i7⟩ := loop_vo hV hE hcl f hm2 h hT2 hI2 hsum2 hk6 hk5
            exact ⟨x', post', i1, i2, i3, i4, i5, i6, i7⟩
          · cases h
theorem kids_vo {txt : List UInt8} {V : VF} (hV : VO txt V) (hE : Ext V) {closing : Nat} {obj : Bool} {pre : List NodeD} (hcl : closing = 5 ∨ closing = 3) {rest : List Tok} {last : Sp} {nodes : List NodeD} {r : List Tok} {l : Sp} {ns : List NodeD} {x : NodeD}
    (hm : Mid pre x [] nodes) (h : kidsM txt V closing obj pre.length rest last nodes = .ok r l ns) (hT : TC txt last.2 rest) (hI : LI txt pre.length x last.2 nodes) (hk0 : x.kids = []) (hk6 : x.kind = 6 → obj = true) (hk5 : x.kind = 5 → obj = false) :
    ∃ x' post', Mid pre x' post' ns ∧ x'.kind = x.kind ∧ x'.sf = x.sf ∧ x'.key = x.key ∧ sumK (x' :: post') = post'.length ∧ LO txt pre.length x' l.2 ns ∧ TC txt l.2 r := by
  have hsum : sumK [x] = 0 := by rw [sumK_cons, hk0]; rfl
  unfold kidsM at h
  split at h
  · exact loop_vo hV hE hcl _ hm h hT hI hsum hk6 hk5
  · rename_i t q
    split at h
    · injection h with e1 e2 e3
      subst e1 e2 e3
      obtain ⟨⟨t1, t2, t3, t4, t5⟩, hT2⟩ := hT
      refine ⟨x, [], hm, rfl, rfl, rfl, hsum, ⟨hI.len, fun j kid p h1 h2 => ?_, fun h => absurd hk0 h, ⟨fun i y hi hy => ?_, hI.rear.sorted⟩, t3, ?_⟩, hT2⟩
      · rw [hk0] at h1; simp at h1
      · obtain ⟨a, b, c⟩ := hI.rear.wf i y hi hy
        exact ⟨a, b, by simp only []; omega⟩
      · have := hI.all_ x (List.mem_of_getElem? (mid_at hm))
        simp only []; omega
    · exact loop_vo hV hE hcl _ hm h hT hI hsum hk6 hk5
theorem value_vo (txt : List UInt8) : ∀ lv, VO txt (valueM txt lv)
  | 0 => fun rest last nodes key r l ns h => by
    unfold valueM at h
    split at h <;> cases h
  | lv + 1 => fun rest last nodes key r l ns h hT hn => by
    have ih := value_vo txt lv
    have hE := value_ext txt lv
    unfold valueM at h
    split at h
    · cases h
    · rename_i hk
      split at h
      · cases h
      · cases rest with
        | nil => exact absurd rfl hk
        | cons t q =>
          simp only [] at h
          obtain ⟨ns0, h1, rfl⟩ := endM_ok h
          obtain ⟨⟨t1, t2, t3, t4, t5⟩, hT2⟩ := hT
          have hm0 : Mid nodes (⟨kindOfT t.kind, t.sf, t.st, key, [], []⟩ : NodeD) [] (nodes ++ [⟨kindOfT t.kind, t.sf, t.st, key, [], []⟩]) := ⟨rfl, Nat.le_refl _, Nat.le_refl _, fun y hy => by cases hy⟩
          -- the end
          have fin : ∀ {x' : NodeD} {post' : List NodeD}, Mid nodes x' post' ns0 → x'.sf = t.sf → x'.key = key → (x'.kind ≠ 5 → x'.kind ≠ 6 → x'.kids = []) → sumK (x' :: post') = post'.length → LO txt nodes.length x' l.2 ns0 → TC txt l.2 r →
              TC txt l.2 r ∧ last.2 < l.2 ∧ Rear txt nodes.length last.2 l.2 (setTo nodes.length l.2 ns0) ∧ sumK ((setTo nodes.length l.2 ns0).drop nodes.length) + 1 = (setTo nodes.length l.2 ns0).length - nodes.length ∧
              ∃ x, (setTo nodes.length l.2 ns0)[nodes.length]? = some x ∧ x.key = key ∧ x.st = l.2 ∧ x.sf = hereT 0 (t :: q) := by
            intro x' post' hm hsf hkey hflat hsum hO hTr
            have hm2 := setTo_mid hm l.2
            have hn2 := mid_at hm2
            have hpos := hO.pos
            have hlk : ∀ i y, i ≠ nodes.length → ((setTo nodes.length l.2 ns0)[i]? = some y ↔ ns0[i]? = some y) := fun i y hi => by
              unfold setTo; rw [modN_at, if_neg hi]
            refine ⟨hTr, by omega, ⟨?_, ?_⟩, ?_, _, hn2, hkey, rfl, hsf⟩
            · intro i y hi hy
              by_cases hin : i = nodes.length
              · subst hin
                rw [hn2] at hy
                obtain rfl := Option.some.inj hy
                refine ⟨⟨hO.len, hflat, fun j kid p h1 h2 => ?_, fun hne => ?_, hO.pos, hO.le⟩, by simp only []; omega, Nat.le_refl _⟩
                · obtain ⟨⟨q1, q2, y, qy, q3⟩, b, c⟩ := hO.kid_ j kid p h1 h2
                  exact ⟨⟨q1, q2, y, by rw [hlk _ _ (by omega)]; exact qy, q3⟩, b, c⟩
                · exact hO.next hne
              · rw [hlk _ _ hin] at hy
                obtain ⟨a, b, c⟩ := hO.rear.wf i y (by omega) hy
                exact ⟨a.mono fun k y hk h => by rw [hlk _ _ (by omega)]; exact h, by omega, c⟩
            · intro i y z hi hy hz
              by_cases hin : i + 1 = nodes.length
              · rw [hin, hn2] at hz
                obtain rfl := Option.some.inj hz
                rw [hlk _ _ (by omega), hm.1, List.getElem?_append_left (by omega)] at hy
                have := hn y (List.mem_of_getElem? hy)
                simp only []; omega
              · rw [hlk _ _ hin] at hz
                have hy' : ∃ y', ns0[i]? = some y' ∧ y'.sf = y.sf := by
                  by_cases hin2 : i = nodes.length
                  · subst hin2
                    rw [hn2] at hy
                    exact ⟨x', mid_at hm, by rw [← Option.some.inj hy]⟩
                  · rw [hlk _ _ hin2] at hy
                    exact ⟨y, hy, rfl⟩
                obtain ⟨y', hy', e⟩ := hy'
                rw [← e]
                exact hO.rear.sorted i y' z (by omega) hy' hz
            · rw [hm2.1, List.drop_left, List.length_append, Nat.add_sub_cancel_left, sumK_cons]
              rw [sumK_cons] at hsum
              simp only [List.length_cons]
              omega
          have rear0 : ∀ hi : Nat, Rear txt (nodes.length + 1) t.sf hi (nodes ++ [(⟨kindOfT t.kind, t.sf, t.st, key, [], []⟩ : NodeD)]) := fun hi => by
            refine ⟨fun i y h1 h2 => ?_, fun i y z h1 _ h2 => ?_⟩
            · have := (List.getElem?_eq_some_iff.1 h2).1
              rw [List.length_append, List.length_singleton] at this; omega
            · have := (List.getElem?_eq_some_iff.1 h2).1
              rw [List.length_append, List.length_singleton] at this; omega
          have hall : ∀ y ∈ nodes ++ [(⟨kindOfT t.kind, t.sf, t.st, key, [], []⟩ : NodeD)], y.sf < t.st := fun y hy => by
            rcases List.mem_append.1 hy with hy | hy
            · have := hn y hy; omega
            · rw [List.mem_singleton.1 hy]; exact t2
          have hI : 2 ≤ t.kind → t.kind ≤ 6 → LI txt nodes.length (⟨kindOfT t.kind, t.sf, t.st, key, [], []⟩ : NodeD) t.st (nodes ++ [⟨kindOfT t.kind, t.sf, t.st, key, [], []⟩]) := fun h2 h6 =>
            ⟨rfl, fun j kid p h1 _ => by simp at h1, by rw [t4 h2 h6]; rfl, rear0 _, hall⟩
          split at h1
          · rename_i h4
            obtain ⟨x', post', i1, i2, i3, i4, i5, i6, i7⟩ := kids_vo ih hE (.inl rfl) hm0 h1 hT2 (hI (by omega) (by omega)) rfl (fun h => by rw [h4] at h; cases h) (fun _ => rfl)
            exact fin i1 i3 i4 (fun h => absurd (by rw [i2, h4]; rfl) h) i5 i6 i7
          · split at h1
            · rename_i h2
              obtain ⟨x', post', i1, i2, i3, i4, i5, i6, i7⟩ := kids_vo ih hE (.inr rfl) hm0 h1 hT2 (hI (by omega) (by omega)) rfl (fun _ => rfl) (fun h => by rw [h2] at h; cases h)
              exact fin i1 i3 i4 (fun _ h => absurd (by rw [i2, h2]; rfl) h) i5 i6 i7
            · injection h1 with e1 e2 e3
              subst e1 e2 e3
              exact fin hm0 rfl rfl (fun _ _ => rfl) (by rw [sumK_cons]; rfl) ⟨rfl, fun j kid p h1 _ => by simp at h1, fun h => absurd rfl h, rear0 _, t3, t2⟩ hT2
theorem parse_none {s : List UInt8} (h : (parseJ s).2.2 ≠ 0) : (parseJ s).1 = [] := by
  rw [parse_eq] at h ⊢
  by_cases h0 : (toksL s).2.2 = 0
  · rw [if_neg (by simpa using h0)] at h ⊢
    cases hv : valueM s 32 (nblk (toksL s).1) (0, 0) [] (0, 0) with
    | bad a e => rfl
    | ok r l ns =>
      rw [hv] at h
      cases r with
      | cons t r => rfl
      | nil => exact absurd rfl h
  · rw [if_pos h0]
/-- What a text that is one is. -/
theorem whole_ok {s : List UInt8} {ns : List NodeD} {n : Int} (h : parseJ s = (ns, n, 0)) : s.length ≤ 65536 ∧ 1 ≤ ns.length ∧ Rear s 0 0 s.length ns ∧ sumK ns + 1 = ns.length := by
  obtain ⟨hs, T, l, ns', hT, hv, hp⟩ := parse_ok (s := s) (by rw [h])
  rw [h] at hp
  injection hp with e1 e2
  subst e1
  have hT1 : (toksGo s.length s 0).1 = T := by rw [hT]
  have hTC : TC s 0 (nblk T) := by
    rw [← hT1]
    exact (toks_tc s s.length s 0 (by rw [List.drop_zero])).filter _
  obtain ⟨_, _, h3, h4, x, hx, _, hst, _⟩ := value_vo s 32 _ _ _ _ _ _ _ hv hTC (fun y hy => by cases hy)
  simp only [List.length_nil, List.drop_zero, Nat.sub_zero] at h3 h4 hx
  have hx1 := (List.getElem?_eq_some_iff.1 hx).1
  refine ⟨hs, by omega, ⟨fun i y hi hy => ?_, h3.sorted⟩, h4⟩
  obtain ⟨a, b, c⟩ := h3.wf i y hi hy
  exact ⟨a, b, a.le⟩
theorem sumK_take {ns : List NodeD} {i : Nat} {x : NodeD} (h : ns[i]? = some x) : sumK (ns.take (i + 1)) = sumK (ns.take i) + x.kids.length := by
  rw [List.take_add_one, h, sumK_app]
  simp [sumK]
end Go.Proofs.YtmghlaajocgoaaaGreatDoor
/-! PLAIN: each node's bytes, alone, are the same tree. -/
namespace Go.Proofs.YtmghlaajocgoaaaGreatDoor
set_option linter.unusedSimpArgs false
set_option linter.unusedVariables false
set_option linter.unnecessarySimpa false
open Go.Lib
/-! Tokens of a part of a text. -/
theorem runL_takeN (p : UInt8 → Bool) : ∀ (l : List UInt8) (n : Nat), runL p l ≤ n → runL p (l.take n) = runL p l
  | [], n, _ => by simp
  | c :: l, 0, h => by
    have : runL p (c :: l) = 0 := by omega
    rw [List.take_zero, this]; rfl
  | c :: l, n + 1, h => by
    rw [List.take_succ_cons, runL_cons, runL_cons]
    by_cases hc : p c = true
    · rw [runL_cons, if_pos hc] at h
      rw [if_pos hc, if_pos hc, runL_takeN p l n (by omega)]
    · rw [if_neg hc, if_neg hc]
theorem tokR_take (l : List UInt8) (n : Nat) (hne : l ≠ []) (h : (tokR l).2.2 = 0) (hn : (tokR l).2.1 ≤ n) : tokR (l.take n) = tokR l := by
  have hok := tokR_ok l hne
  cases l with
  | nil => exact absurd rfl hne
  | cons c r =>
    obtain ⟨T, hT⟩ : ∃ T, tokR (c :: r) = T := ⟨_, rfl⟩
    rw [hT] at h hn hok ⊢
    have h3 := hok.2 h
    obtain ⟨m, rfl⟩ : ∃ m, n = m + 1 := ⟨n - 1, by omega⟩
    rw [List.take_succ_cons]
    have tk : ∀ k, k ≤ m + 1 → (c :: r.take m).take k = (c :: r).take k := fun k hk => by
      rw [← List.take_succ_cons, List.take_take, Nat.min_eq_left hk]
    have rn : ∀ p, runL p (c :: r) ≤ m + 1 → runL p (c :: r.take m) = runL p (c :: r) := fun p hp => by
      rw [← List.take_succ_cons]; exact runL_takeN p (c :: r) (m + 1) hp
    unfold tokR at hT ⊢
    simp only [] at hT ⊢
    cases hs : signI c with
    | some k => rw [hs] at hT; exact hT
    | none =>
      rw [hs] at hT
      simp only [] at hT ⊢
      by_cases hb : isBlank c = true
      · rw [if_pos hb] at hT ⊢
        subst hT
        rw [rn isBlank hn]
      rw [if_neg hb] at hT ⊢
      by_cases h34 : c = 34
      · rw [if_pos h34] at hT ⊢
        by_cases h0 : (readL (c :: r) 0).2.2 = 0
        · rw [if_pos h0] at hT
          subst hT
          have hr := readL_local (c :: r) (c :: r.take m) h0 (tk _ hn).symm
          rw [hr, if_pos h0]
        · rw [if_neg h0] at hT
          subst hT
          exact absurd h h0
      rw [if_neg h34] at hT ⊢
      by_cases hd : c = 45 ∨ isDig c = true
      · rw [if_pos hd] at hT ⊢
        by_cases h0 : (parseL ((c :: r).take (runL isNumB (c :: r)))).2 = 0
        · rw [if_pos h0] at hT
          subst hT
          rw [rn isNumB hn, tk _ hn, if_pos h0]
        · rw [if_neg h0] at hT
          subst hT
          exact absurd h h0
      rw [if_neg hd] at hT ⊢
      by_cases h0 : wordL ((c :: r).take (runL isSmall (c :: r))) = 0
      · rw [if_pos h0] at hT
        subst hT
        exact absurd h (by simp)
      rw [if_neg h0] at hT
      subst hT
      rw [rn isSmall hn, tk _ hn, if_neg h0]
theorem Chain.app : ∀ {A B : List Tok} {a b : Nat}, Chain (A ++ B) a b → ∃ m, Chain A a m ∧ Chain B m b
  | [], B, a, b, h => ⟨a, rfl, h⟩
  | t :: A, B, a, b, ⟨h1, h2, h3, h4, h5⟩ => by
    obtain ⟨m, g1, g2⟩ := Chain.app (A := A) h5
    exact ⟨m, ⟨h1, h2, h3, h4, g1⟩, g2⟩
/-- The tokens ahead of a byte at which one ends. -/
theorem toks_cut : ∀ (A B : List Tok) (f g : Nat) (l : List UInt8) (i e : Nat), (toksGo f l i).1 = A ++ B → Chain A i e → e - i ≤ g → toksGo g (l.take (e - i)) i = (A, none)
  | [], B, f, g, l, i, e, _, hc, _ => by
    obtain rfl : i = e := hc
    rw [Nat.sub_self, List.take_zero, toksGo_nil]
  | t :: A, B, f, g, l, i, e, h, hc, hg => by
    obtain ⟨c, r, rfl, h0, _⟩ := toks_first f l i t (A ++ B) h
    cases f with
    | zero => cases h
    | succ f =>
      rw [toksGo_cons, if_pos h0] at h
      injection h with h1 h2
      subst h1
      obtain ⟨_, k2, _, _, k5⟩ := hc
      simp only [] at k2 k5
      have hle := k5.le
      obtain ⟨m, hm⟩ : ∃ m, e - i = m + 1 := ⟨e - i - 1, by omega⟩
      obtain ⟨g, rfl⟩ : ∃ k, g = k + 1 := ⟨g - 1, by omega⟩
      have ht := tokR_take (c :: r) (e - i) (List.cons_ne_nil _ _) h0 (by omega)
      have hd : ((c :: r).take (e - i)).drop (tokR (c :: r)).2.1 = ((c :: r).drop (tokR (c :: r)).2.1).take (e - (i + (tokR (c :: r)).2.1)) := by
        rw [List.drop_take]
        congr 1
        omega
      have ih := toks_cut A B f g _ _ e h2 k5 (by omega)
      have hX : (c :: r).take (e - i) = c :: r.take m := by rw [hm, List.take_succ_cons]
      rw [hX] at ht hd ⊢
      rw [toksGo_cons, ht, if_pos h0, hd, ih]
/-- The tokens from a byte on at which one begins. -/
theorem toks_from : ∀ (A B : List Tok) (f : Nat) (l : List UInt8) (i e : Nat), (toksGo f l i).1 = A ++ B → Chain A i e → ∃ f', (toksGo f' (l.drop (e - i)) e).1 = B
  | [], B, f, l, i, e, h, hc => by
    obtain rfl : i = e := hc
    exact ⟨f, by rw [Nat.sub_self, List.drop_zero]; exact h⟩
  | t :: A, B, f, l, i, e, h, hc => by
    obtain ⟨c, r, rfl, h0, _⟩ := toks_first f l i t (A ++ B) h
    cases f with
    | zero => cases h
    | succ f =>
      rw [toksGo_cons, if_pos h0] at h
      injection h with h1 h2
      subst h1
      obtain ⟨_, k2, _, _, k5⟩ := hc
      simp only [] at k2 k5
      have hle := k5.le
      obtain ⟨f', ih⟩ := toks_from A B f _ _ e h2 k5
      refine ⟨f', ?_⟩
      rw [← ih, List.drop_drop]
      congr 3
      omega
/-- The tokens between two that are no blanks. -/
theorem nblk_between {raw P T0 R : List Tok} {e : Tok} (h : nblk raw = P ++ (T0 ++ e :: R)) : ∃ A M Z, raw = A ++ (M ++ e :: Z) ∧ nblk A = P ∧ nblk M = T0 ∧ (∀ t q, T0 ++ [e] = t :: q → ∃ q', M ++ [e] = t :: q') := by
  unfold nblk at h ⊢
  obtain ⟨A0, R0, rfl, hA, hR⟩ := List.filter_eq_append_iff.1 h
  obtain ⟨M0, R1, rfl, hM, hR1⟩ := List.filter_eq_append_iff.1 hR
  obtain ⟨N, Z, rfl, hN, he, hZ⟩ := List.filter_eq_cons_iff.1 hR1
  have hN0 : N.filter (fun t => t.kind != 1) = [] := List.filter_eq_nil_iff.2 hN
  cases T0 with
  | nil =>
    refine ⟨A0 ++ (M0 ++ N), [], Z, by simp, ?_, rfl, fun t q h => ⟨[], ?_⟩⟩
    · rw [List.filter_append, List.filter_append, hA, hM, hN0]; simp
    · injection h with h1 h2; subst h1; rfl
  | cons t q =>
    obtain ⟨N1, M1, rfl, hN1, ht, hM1⟩ := List.filter_eq_cons_iff.1 hM
    have hN10 : N1.filter (fun t => t.kind != 1) = [] := List.filter_eq_nil_iff.2 hN1
    refine ⟨A0 ++ N1, t :: (M1 ++ N), Z, by simp, ?_, ?_, fun t' q' h => ?_⟩
    · rw [List.filter_append, hA, hN10, List.append_nil]
    · rw [List.filter_cons, if_pos ht, List.filter_append, hM1, hN0, List.append_nil]
    · injection h with h1 h2; subst h1; exact ⟨_, rfl⟩
/-! A reading ends with the token that it tells. -/
def VL (V : VF) : Prop := ∀ rest last nodes key r l ns, V rest last nodes key = .ok r l ns → ∃ T0 e, rest = T0 ++ e :: r ∧ l = (e.sf, e.st)
theorem kid_vl {txt : List UInt8} {V : VF} (hV : VL V) {obj : Bool} {had had' : List (List UInt8)} {rest r : List Tok} {last l : Sp} {nodes ns : List NodeD} (h : kidM txt V obj had rest last nodes = (.ok r l ns, had')) : ∃ T0 e, rest = T0 ++ e :: r ∧ l = (e.sf, e.st) := by
  unfold kidM at h
  split at h
  · injection h with h _; exact hV _ _ _ _ _ _ _ h
  · split at h
    · injection h with h _; cases h
    · rename_i t q
      split at h
      · injection h with h _; cases h
      · split at h
        · injection h with h _; cases h
        · split at h
          · injection h with h _; cases h
          · rename_i c r2
            split at h
            · injection h with h _; cases h
            · injection h with h _
              obtain ⟨T0, e, rfl, he⟩ := hV _ _ _ _ _ _ _ h
              exact ⟨t :: c :: T0, e, rfl, he⟩
theorem loop_vl {txt : List UInt8} {V : VF} (hV : VL V) {closing : Nat} {obj : Bool} {n : Nat} : ∀ (f : Nat) {had : List (List UInt8)} {rest r : List Tok} {last l : Sp} {nodes ns : List NodeD}, loopM txt V closing obj n f had rest last nodes = .ok r l ns → ∃ T0 e, rest = T0 ++ e :: r ∧ l = (e.sf, e.st)
  | 0, _, _, _, _, _, _, _, h => by cases h
  | f + 1, had, rest, r, last, l, nodes, ns, h => by
    unfold loopM at h
    split at h
    · cases h
    · rename_i r1 l1 ns1 had1 hk
      obtain ⟨T1, e1, rfl, _⟩ := kid_vl hV hk
      split at h
      · cases h
      · rename_i t r'
        split at h
        · injection h with h1 h2 h3
          subst h1 h2
          exact ⟨T1 ++ [e1], t, by simp, rfl⟩
        · split at h
          · obtain ⟨T2, e2, rfl, h2⟩ := loop_vl hV f h
            exact ⟨T1 ++ e1 :: t :: T2, e2, by simp, h2⟩
          · cases h
theorem kids_vl {txt : List UInt8} {V : VF} (hV : VL V) {closing : Nat} {obj : Bool} {n : Nat} {rest r : List Tok} {last l : Sp} {nodes ns : List NodeD} (h : kidsM txt V closing obj n rest last nodes = .ok r l ns) : ∃ T0 e, rest = T0 ++ e :: r ∧ l = (e.sf, e.st) := by
  unfold kidsM at h
  split at h
  · exact loop_vl hV _ h
  · rename_i t q
    split at h
    · injection h with h1 h2 _
      subst h1 h2
      exact ⟨[], t, rfl, rfl⟩
    · exact loop_vl hV _ h
theorem value_vl (txt : List UInt8) : ∀ lv, VL (valueM txt lv)
  | 0 => fun rest last nodes key r l ns h => by
    unfold valueM at h
    split at h <;> cases h
  | lv + 1 => fun rest last nodes key r l ns h => by
    have ih := value_vl txt lv
    unfold valueM at h
    split at h
    · cases h
    · rename_i hk
      split at h
      · cases h
      · cases rest with
        | nil => exact absurd rfl hk
        | cons t q =>
          simp only [] at h
          obtain ⟨ns0, h1, rfl⟩ := endM_ok h
          split at h1
          · obtain ⟨T0, e, rfl, he⟩ := kids_vl ih h1
            exact ⟨t :: T0, e, rfl, he⟩
          · split at h1
            · obtain ⟨T0, e, rfl, he⟩ := kids_vl ih h1
              exact ⟨t :: T0, e, rfl, he⟩
            · injection h1 with h2 h3 _
              subst h2 h3
              exact ⟨[], t, rfl, rfl⟩
/-! Each node comes of a reading of its own. -/
def SubAt (s : List UInt8) (rest0 : List Tok) (ns : List NodeD) (i last : Nat) : Prop := ∃ lv' T0 e r' last' nodes' key' more', lv' ≤ 32 ∧ valueM s lv' (T0 ++ e :: r') last' nodes' key' = .ok r' (e.sf, e.st) (nodes' ++ more') ∧ nodes'.length = i ∧
  (∀ j y, more'[j]? = some y → ns[i + j]? = some y) ∧ i + more'.length ≤ ns.length ∧ (∃ k, T0 ++ e :: r' = rest0.drop k) ∧ (∀ k y, i + more'.length ≤ k → ns[k]? = some y → e.st ≤ y.sf) ∧ e.st ≤ last
theorem SubAt.ext {s : List UInt8} {rest0 : List Tok} {ns ns' : List NodeD} {i last last2 : Nat} (h : SubAt s rest0 ns i last) (hl : ns.length ≤ ns'.length) (hm : ∀ k y, i ≤ k → ns[k]? = some y → ns'[k]? = some y) (hn : ∀ k y, ns.length ≤ k → ns'[k]? = some y → last ≤ y.sf) (h2 : last ≤ last2) : SubAt s rest0 ns' i last2 := by
  obtain ⟨lv', T0, e, r', last', nodes', key', more', g1, g2, g3, g4, g5, g6, g7, g8⟩ := h
  refine ⟨lv', T0, e, r', last', nodes', key', more', g1, g2, g3, fun j y hj => hm _ _ (by omega) (g4 j y hj), by omega, g6, fun k y hk hy => ?_, by omega⟩
  by_cases hkn : k < ns.length
  · have h1 := List.getElem?_eq_getElem hkn
    have := hm k _ (by omega) h1
    rw [this] at hy
    obtain rfl := Option.some.inj hy
    exact g7 k _ hk h1
  · have := hn k y (by omega) hy
    omega
def VS (s : List UInt8) (rest0 : List Tok) (V : VF) : Prop := ∀ rest last nodes key r l ns, V rest last nodes key = .ok r l ns → TC s last.2 rest → (∀ y ∈ nodes, y.sf < last.2) → (∃ k, rest = rest0.drop k) → ∀ i, nodes.length ≤ i → i < ns.length → SubAt s rest0 ns i l.2
theorem kid_vs {s : List UInt8} {rest0 : List Tok} {V : VF} (hV : VS s rest0 V) {obj : Bool} {had had' : List (List UInt8)} {rest r : List Tok} {last l : Sp} {nodes ns : List NodeD} (h : kidM s V obj had rest last nodes = (.ok r l ns, had')) (hT : TC s last.2 rest) (hn : ∀ y ∈ nodes, y.sf < last.2) (hr : ∃ k, rest = rest0.drop k) : ∀ i, nodes.length ≤ i → i < ns.length → SubAt s rest0 ns i l.2 := by
  unfold kidM at h
  split at h
  · injection h with h _
    exact hV _ _ _ _ _ _ _ h hT hn hr
  · split at h
    · injection h with h _; cases h
    · rename_i t q
      split at h
      · injection h with h _; cases h
      · split at h
        · injection h with h _; cases h
        · split at h
          · injection h with h _; cases h
          · rename_i c r2
            split at h
            · injection h with h _; cases h
            · injection h with h _
              obtain ⟨⟨t1, t2, t3, _⟩, ⟨c1, c2, c3, _⟩, hT2⟩ := hT
              obtain ⟨k, hk⟩ := hr
              exact hV _ _ _ _ _ _ _ h hT2 (fun y hy => by have := hn y hy; simp only []; omega) ⟨k + 2, by rw [← List.drop_drop, ← hk]; rfl⟩
theorem loop_vs {s : List UInt8} {rest0 : List Tok} {V : VF} (hS : VS s rest0 V) (hV : VO s V) (hE : Ext V) {closing : Nat} {obj : Bool} {pre : List NodeD} (hcl : closing = 5 ∨ closing = 3) : ∀ (f : Nat) {had : List (List UInt8)} {rest : List Tok} {last : Sp} {nodes : List NodeD} {r : List Tok} {l : Sp} {ns : List NodeD} {x : NodeD} {post : List NodeD},
    Mid pre x post nodes → loopM s V closing obj pre.length f had rest last nodes = .ok r l ns → TC s last.2 rest → (∀ y ∈ nodes, y.sf < last.2) → (∃ k, rest = rest0.drop k) → (∀ i, pre.length < i → i < nodes.length → SubAt s rest0 nodes i last.2) → ∀ i, pre.length < i → i < ns.length → SubAt s rest0 ns i l.2
  | 0, _, _, _, _, _, _, _, _, _, _, h, _, _, _, _ => by cases h
  | f + 1, had, rest, last, nodes, r, l, ns, x, post, hm, h, hT, hall, hr, hold => by
    unfold loopM at h
    split at h
    · cases h
    · rename_i r1 l1 ns1 had1 hk
      obtain ⟨more, rfl, g2, g3, ⟨k, g4⟩, g5⟩ := kid_ext hE hk
      obtain ⟨v1, v2, v3, v4, y0, w1, w2, w3, w4, w5⟩ := kid_vo hV hk hT hall
      have hnew := kid_vs hS hk hT hall hr
      split at h
      · cases h
      · rename_i t r2
        obtain ⟨⟨t1, t2, t3, t4, t5⟩, hT2⟩ := v1
        have hm2 := hm.add g5 g2 nodes.length (last.2, t.sf)
        have hnl := mid_len hm
        have hlk : ∀ i y, i ≠ pre.length → ((addKid pre.length nodes.length (last.2, t.sf) (nodes ++ more))[i]? = some y ↔ (nodes ++ more)[i]? = some y) := fun i y hi => by
          unfold addKid; rw [modN_at, if_neg hi]
        have hlen2 : (addKid pre.length nodes.length (last.2, t.sf) (nodes ++ more)).length = (nodes ++ more).length := by unfold addKid; rw [modN_len]
        have hall2 : ∀ y ∈ addKid pre.length nodes.length (last.2, t.sf) (nodes ++ more), y.sf < t.st := by
          intro y hy
          have hold : ∀ y ∈ nodes ++ more, y.sf < t.st := fun y hy => by
            rcases List.mem_append.1 hy with hy | hy
            · have := hall y hy; omega
            · obtain ⟨i, hi, he⟩ := List.mem_iff_getElem.1 hy
              have hg : (nodes ++ more)[nodes.length + i]? = some y := by
                rw [List.getElem?_append_right (by omega), Nat.add_sub_cancel_left, List.getElem?_eq_getElem hi, he]
              obtain ⟨a, b, c⟩ := v3.wf _ y (by omega) hg
              have := a.pos; omega
          rcases modN_mem _ _ _ hy with hy | ⟨y', hy', rfl⟩
          · exact hold y hy
          · exact hold y' hy'
        have hr2 : ∃ k, r2 = rest0.drop k := by
          obtain ⟨k0, hk0⟩ := hr
          exact ⟨k0 + k + 1, by rw [← List.drop_drop, ← List.drop_drop, ← hk0, ← g4]; rfl⟩
        have hsub : ∀ i, pre.length < i → i < (addKid pre.length nodes.length (last.2, t.sf) (nodes ++ more)).length → SubAt s rest0 (addKid pre.length nodes.length (last.2, t.sf) (nodes ++ more)) i t.st := by
          intro i hi hil
          rw [hlen2] at hil
          have h1 : SubAt s rest0 (nodes ++ more) i l1.2 := by
            by_cases hin : i < nodes.length
            · refine (hold i hi hin).ext (by rw [List.length_append]; omega) (fun k y hk hy => ?_) (fun k y hk hy => (v3.wf k y hk hy).2.1) (by omega)
              rw [List.getElem?_append_left (List.getElem?_eq_some_iff.1 hy).1]; exact hy
            · exact hnew i (by omega) hil
          refine h1.ext (by rw [hlen2]; exact Nat.le_refl _) (fun k y hk hy => by rw [hlk _ _ (by omega)]; exact hy) (fun k y hk hy => ?_) (by omega)
          have := (List.getElem?_eq_some_iff.1 hy).1
          omega
        split at h
        · injection h with e1 e2 e3
          subst e1 e2 e3
          exact hsub
        · split at h
          · exact loop_vs hS hV hE hcl f hm2 h hT2 hall2 hr2 hsub
          · cases h
theorem kids_vs {s : List UInt8} {rest0 : List Tok} {V : VF} (hS : VS s rest0 V) (hV : VO s V) (hE : Ext V) {closing : Nat} {obj : Bool} {pre : List NodeD} (hcl : closing = 5 ∨ closing = 3) {rest : List Tok} {last : Sp} {nodes : List NodeD} {r : List Tok} {l : Sp} {ns : List NodeD} {x : NodeD}
    (hm : Mid pre x [] nodes) (h : kidsM s V closing obj pre.length rest last nodes = .ok r l ns) (hT : TC s last.2 rest) (hall : ∀ y ∈ nodes, y.sf < last.2) (hr : ∃ k, rest = rest0.drop k) : ∀ i, pre.length < i → i < ns.length → SubAt s rest0 ns i l.2 := by
  have h0 : ∀ i, pre.length < i → i < nodes.length → SubAt s rest0 nodes i last.2 := fun i h1 h2 => by
    have := mid_len hm; simp only [List.length_nil] at this; omega
  unfold kidsM at h
  split at h
  · exact loop_vs hS hV hE hcl _ hm h hT hall hr h0
  · split at h
    · injection h with e1 e2 e3
      subst e3
      intro i h1 h2
      have := mid_len hm; simp only [List.length_nil] at this; omega
    · exact loop_vs hS hV hE hcl _ hm h hT hall hr h0
theorem value_vs (s : List UInt8) (rest0 : List Tok) : ∀ lv, lv ≤ 32 → VS s rest0 (valueM s lv)
  | 0, _ => fun rest last nodes key r l ns h => by
    unfold valueM at h
    split at h <;> cases h
  | lv + 1, hlv => fun rest last nodes key r l ns h hT hall hr i hi hil => by
    have ih := value_vs s rest0 lv (by omega)
    have hE := value_ext s lv
    have hVO := value_vo s lv
    have h0 := h
    by_cases hin : i = nodes.length
    · subst hin
      obtain ⟨T0, e, rfl, rfl⟩ := value_vl s (lv + 1) _ _ _ _ _ _ _ h
      obtain ⟨more, rfl, m1, m2, _⟩ := value_ext s (lv + 1) _ _ _ _ _ _ _ h
      refine ⟨lv + 1, T0, e, r, last, nodes, key, more, hlv, h, rfl, fun j y hj => ?_, by rw [List.length_append]; exact Nat.le_refl _, hr, fun k y hk hy => ?_, Nat.le_refl _⟩
      · rw [List.getElem?_append_right (by omega), Nat.add_sub_cancel_left]; exact hj
      · have := (List.getElem?_eq_some_iff.1 hy).1
        rw [List.length_append] at this; omega
    · unfold valueM at h
      split at h
      · cases h
      · rename_i hk
        split at h
        · cases h
        · cases rest with
          | nil => exact absurd rfl hk
          | cons t q =>
            simp only [] at h
            obtain ⟨ns0, h1, rfl⟩ := endM_ok h
            obtain ⟨⟨t1, t2, t3, t4, t5⟩, hT2⟩ := hT
            have hm0 : Mid nodes (⟨kindOfT t.kind, t.sf, t.st, key, [], []⟩ : NodeD) [] (nodes ++ [⟨kindOfT t.kind, t.sf, t.st, key, [], []⟩]) := ⟨rfl, Nat.le_refl _, Nat.le_refl _, fun y hy => by cases hy⟩
            have hall2 : ∀ y ∈ nodes ++ [(⟨kindOfT t.kind, t.sf, t.st, key, [], []⟩ : NodeD)], y.sf < t.st := fun y hy => by
              rcases List.mem_append.1 hy with hy | hy
              · have := hall y hy; omega
              · rw [List.mem_singleton.1 hy]; exact t2
            have hr2 : ∃ k, q = rest0.drop k := by
              obtain ⟨k, hk⟩ := hr
              exact ⟨k + 1, by rw [← List.drop_drop, ← hk]; rfl⟩
            have hlen : (setTo nodes.length l.2 ns0).length = ns0.length := by unfold setTo; rw [modN_len]
            rw [hlen] at hil
            have fin : SubAt s rest0 ns0 i l.2 → SubAt s rest0 (setTo nodes.length l.2 ns0) i l.2 := fun hs => by
              refine hs.ext (by rw [hlen]; exact Nat.le_refl _) (fun k y hk hy => ?_) (fun k y hk hy => ?_) (Nat.le_refl _)
              · unfold setTo; rw [modN_at, if_neg (by omega)]; exact hy
              · have := (List.getElem?_eq_some_iff.1 hy).1
                omega
            split at h1
            · exact fin (kids_vs ih hVO hE (.inl rfl) hm0 h1 hT2 hall2 hr2 i (by omega) hil)
            · split at h1
              · exact fin (kids_vs ih hVO hE (.inr rfl) hm0 h1 hT2 hall2 hr2 i (by omega) hil)
              · injection h1 with e1 e2 e3
                subst e3
                rw [List.length_append, List.length_singleton] at hil
                omega
theorem value_head (txt : List UInt8) : ∀ (lv : Nat) {rest : List Tok} {last : Sp} {nodes : List NodeD} {key : Sp} {r : List Tok} {l : Sp} {ns : List NodeD}, valueM txt lv rest last nodes key = .ok r l ns → ∃ x, ns[nodes.length]? = some x ∧ x.sf = hereT 0 rest ∧ x.st = l.2 ∧ x.key = key
  | 0, rest, last, nodes, key, r, l, ns, h => by
    unfold valueM at h
    split at h <;> cases h
  | lv + 1, rest, last, nodes, key, r, l, ns, h => by
    have hE := value_ext txt lv
    unfold valueM at h
    split at h
    · cases h
    · rename_i hk
      split at h
      · cases h
      · cases rest with
        | nil => exact absurd rfl hk
        | cons t q =>
          simp only [] at h
          obtain ⟨ns0, h1, rfl⟩ := endM_ok h
          have hm0 : Mid nodes (⟨kindOfT t.kind, t.sf, t.st, key, [], []⟩ : NodeD) [] (nodes ++ [⟨kindOfT t.kind, t.sf, t.st, key, [], []⟩]) := ⟨rfl, Nat.le_refl _, Nat.le_refl _, fun y hy => by cases hy⟩
          have fin : ∀ {x' : NodeD} {post' : List NodeD}, Mid nodes x' post' ns0 → x'.sf = t.sf → x'.key = key → ∃ x, (setTo nodes.length l.2 ns0)[nodes.length]? = some x ∧ x.sf = t.sf ∧ x.st = l.2 ∧ x.key = key := fun hm h1 h2 =>
            ⟨_, mid_at (setTo_mid hm l.2), h1, rfl, h2⟩
          split at h1
          · obtain ⟨x', post', i1, i2, i3, i4, _⟩ := kids_ext hE hm0 h1
            exact fin i1 i3 i4
          · split at h1
            · obtain ⟨x', post', i1, i2, i3, i4, _⟩ := kids_ext hE hm0 h1
              exact fin i1 i3 i4
            · injection h1 with e1 e2 e3
              subst e3
              exact fin hm0 rfl rfl
theorem alone_ok {s : List UInt8} {ns : List NodeD} {n : Int} (h : parseJ s = (ns, n, 0)) (hs : s.length ≤ 4096) (i : Nat) (x : NodeD) (hx : ns[i]? = some x) :
    ∃ c, parseJ ((s.drop x.sf).take (x.st - x.sf)) = (c, ((x.st - x.sf : Nat) : Int), 0) ∧ ((s.drop x.sf).take (x.st - x.sf)).length = x.st - x.sf ∧ x.sf ≤ x.st ∧ x.st ≤ s.length ∧ i + c.length ≤ ns.length ∧
    (∀ j a, c[j]? = some a → ∃ b, ns[i + j]? = some b ∧ a.kind = b.kind ∧ a.sf + x.sf = b.sf ∧ a.st + x.sf = b.st ∧ a.kids.map (fun k => k + i) = b.kids) ∧ (∃ a, c[0]? = some a ∧ a.key = (0, 0)) ∧
    (i + c.length = ns.length ∨ ∃ b, ns[i + c.length]? = some b ∧ x.st ≤ b.sf) := by
  obtain ⟨_, raw, l, ns', hT, hv, hp⟩ := parse_ok (s := s) (by rw [h])
  rw [h] at hp
  injection hp with e1 e2
  subst e1
  have hT1 : (toksGo s.length s 0).1 = raw := by rw [hT]
  have hT2 : (toksGo s.length s 0).2 = none := by rw [hT]
  have hTC : TC s 0 (nblk raw) := by
    rw [← hT1]
    exact (toks_tc s s.length s 0 (by rw [List.drop_zero])).filter _
  obtain ⟨_, fw, _⟩ := few_nodes hT hv
  have hil := (List.getElem?_eq_some_iff.1 hx).1
  obtain ⟨lv', T0, e, r', last', nodes', key', more', g1, g2, g3, g4, g5, ⟨k, g6⟩, g7, g8⟩ := value_vs s (nblk raw) 32 (by omega) _ _ _ _ _ _ _ hv hTC (fun y hy => by cases hy) ⟨0, rfl⟩ i (Nat.zero_le _) hil
  obtain ⟨x0, hx0, hxs, hxe, _⟩ := value_head s lv' g2
  obtain ⟨more, hme, hm1, _⟩ := value_ext s lv' _ _ _ _ _ _ _ g2
  obtain rfl : more' = more := List.append_cancel_left hme
  rw [List.getElem?_append_right (Nat.le_refl _), Nat.sub_self] at hx0
  obtain rfl : x = x0 := by
    have := g4 0 x0 hx0
    rw [Nat.add_zero, hx] at this
    exact Option.some.inj this
  have hsplit : nblk raw = (nblk raw).take k ++ (T0 ++ e :: r') := by rw [g6, List.take_append_drop]
  obtain ⟨A, M, Z, hraw, hA, hM, hfirst⟩ := nblk_between hsplit
  obtain ⟨t, q, htq⟩ : ∃ t q, T0 ++ [e] = t :: q := by
    cases T0 with
    | nil => exact ⟨e, [], rfl⟩
    | cons t q => exact ⟨t, q ++ [e], rfl⟩
  obtain ⟨q', hq'⟩ := hfirst t q htq
  have hxt : x.sf = t.sf := by
    rw [hxs]
    have : T0 ++ e :: r' = t :: (q ++ r') := by rw [← List.cons_append, ← htq, List.append_assoc]; rfl
    rw [this]; rfl
  have hraw2 : raw = A ++ ((M ++ [e]) ++ Z) := by rw [hraw, List.append_assoc]; rfl
  have hch := toks_chain s.length s 0 (Nat.le_refl _) hT2
  rw [hT1, hraw2] at hch
  obtain ⟨a', ca, cb⟩ := hch.app
  obtain ⟨b', cm, cz⟩ := cb.app
  have hb' : b' = e.st := by
    obtain ⟨_, _, c1⟩ := cm.app
    exact c1.2.2.2.2.symm
  have ha' : a' = t.sf := by rw [hq'] at cm; exact cm.1.symm
  have hab := cm.le
  have hbl := cz.le
  rw [Nat.zero_add] at hbl
  obtain ⟨f', hf'⟩ := toks_from A ((M ++ [e]) ++ Z) s.length s 0 a' (by rw [hT1, hraw2]) ca
  rw [Nat.sub_zero] at hf'
  obtain ⟨u, hu⟩ : ∃ u, (s.drop a').take (b' - a') = u := ⟨_, rfl⟩
  have hul : u.length = b' - a' := by rw [← hu, List.length_take, List.length_drop]; omega
  have hcut := toks_cut (M ++ [e]) Z f' u.length (s.drop a') a' b' hf' cm (by omega)
  rw [hu] at hcut
  have hoff := toks_off u.length u 0 a'
  rw [Nat.zero_add, hcut] at hoff
  injection hoff with ho1 ho2
  have hU2 : (toksGo u.length u 0).2 = none := by
    cases hq : (toksGo u.length u 0).2 with
    | none => rfl
    | some z => rw [hq] at ho2; cases ho2
  obtain ⟨U, hU⟩ : ∃ U, (toksGo u.length u 0).1 = U := ⟨_, rfl⟩
  rw [hU] at ho1
  have hUU : toksGo u.length u 0 = (U, none) := Prod.ext hU hU2
  have heb : (e.kind != 1) = true := by
    have : e ∈ nblk raw := by rw [hsplit]; simp
    exact (List.mem_filter.1 this).2
  have hnb : T0 ++ [e] = (nblk U).map (moveT a') := by
    rw [← nblk_move, ← ho1, nblk_app, hM]
    congr 1
    unfold nblk
    rw [List.filter_cons, if_pos heb]; rfl
  have hin : ∀ v ∈ nblk U, v.sf ≤ v.st ∧ v.st ≤ u.length := fun v hv => by
    have := toks_in u.length u 0 v (by rw [hU]; exact (List.mem_filter.1 hv).1)
    omega
  have hsp : s = s.take a' ++ (u ++ s.drop b') := by
    rw [← hu]
    have h1 : (s.drop a').drop (b' - a') = s.drop b' := by rw [List.drop_drop]; congr 1; omega
    rw [← h1, List.take_append_drop, List.take_append_drop]
  have hpl : (s.take a').length = a' := by rw [List.length_take]; omega
  have hTR : All2 (TR s u 0 a') (T0 ++ [e]) (nblk U) := by
    have := tr_to (s.take a') (s.drop b') u (nblk U) hin
    rw [← hsp, hpl, ← hnb] at this
    exact this
  have hg2 : valueM s lv' ((T0 ++ [e]) ++ r') last' nodes' key' = .ok r' (e.sf, e.st) (nodes' ++ more') := by rw [← g2, List.append_assoc]; rfl
  have hmv := value_move s u 0 a' 0 i False lv' 32 (fun h => by omega) (T0 ++ [e]) r' last' nodes' key' _ _ hg2 (nblk U) [] (0, 0) [] (0, 0) hTR (by simp; omega) (by rw [List.length_append]; simp; omega)
  rw [List.append_nil] at hmv
  rcases hmv with ⟨l', m1, mc, e3, hX, hr, _⟩ | ⟨hf, _⟩
  · have e3 := List.append_cancel_left e3
    subst e3
    rw [List.nil_append] at hX
    have hP := parse_toks u U (by omega) hUU
    rw [hX] at hP
    have hlen := hr.len
    have hxe2 : x.st = b' := by rw [hxe, hb']
    have hxa2 : x.sf = a' := by rw [hxt, ha']
    rw [hxe2, hxa2, hu]
    refine ⟨mc, by rw [hP, finP_ok, hul], hul, hab, hbl, by omega, fun j a ha => ?_, ?_, ?_⟩
    · have hj := (List.getElem?_eq_some_iff.1 ha).1
      have hj2 : more'[j]? = some more'[j] := List.getElem?_eq_getElem (by omega)
      obtain ⟨y, hy, hR⟩ := hr.at j _ hj2
      rw [ha] at hy
      obtain rfl := Option.some.inj hy
      refine ⟨_, g4 j _ hj2, hR.kind, by have := hR.sf; omega, by have := hR.st; omega, ?_⟩
      have hk := hR.kids
      simp only [Nat.add_zero, List.map_id'] at hk
      exact hk.symm
    · obtain ⟨y, hy, _, _, hk⟩ := value_head u 32 hX
      exact ⟨y, hy, hk⟩
    · by_cases hlast : i + mc.length = ns.length
      · exact .inl hlast
      · have hl2 : ns[i + mc.length]? = some ns[i + mc.length] := List.getElem?_eq_getElem (by omega)
        exact .inr ⟨_, hl2, by rw [← hxe2, hxe]; exact g7 _ _ (by omega) hl2⟩
  · exact hf.elim
end Go.Proofs.YtmghlaajocgoaaaGreatDoor

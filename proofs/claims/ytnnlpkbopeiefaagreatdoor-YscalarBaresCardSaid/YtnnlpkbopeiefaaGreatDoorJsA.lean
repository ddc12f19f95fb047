import Derived.Test.YtnnlpkbopeiefaaGreatDoorLexA
import Derived.Test.YtnnlpkbopeiefaaGreatDoorQuoP
/-! PLAIN: a text as a tree (P5.1): what the parser computes. -/
namespace Go.Proofs.YtnnlpkbopeiefaaGreatDoor
set_option linter.unusedSimpArgs false
set_option linter.unusedVariables false
open Go.Lib
abbrev Sp := Nat × Nat
/-- A node of a document. -/
structure NodeD where
  kind : Nat
  sf : Nat
  st : Nat
  key : Sp
  kids : List Nat
  pcs : List Sp
deriving DecidableEq
inductive JR where
  | ok (rest : List Tok) (last : Sp) (nodes : List NodeD)
  | bad (at' : Nat) (er : Int)
def kindT : List Tok → Nat
  | [] => 0
  | t :: _ => t.kind
def hereT (n : Nat) : List Tok → Nat
  | [] => n
  | t :: _ => t.sf
def kindOfT (k : Nat) : Nat := if k = 12 then 1 else if k = 10 ∨ k = 11 then 2 else if k = 9 then 3 else if k = 8 then 4 else if k = 4 then 5 else if k = 2 then 6 else 0
def modN (f : NodeD → NodeD) : Nat → List NodeD → List NodeD
  | _, [] => []
  | 0, x :: l => f x :: l
  | n + 1, x :: l => x :: modN f n l
def addKid (n kid : Nat) (pc : Sp) (l : List NodeD) : List NodeD := modN (fun x => { x with kids := x.kids ++ [kid], pcs := x.pcs ++ [pc] }) n l
def setTo (n e : Nat) (l : List NodeD) : List NodeD := modN (fun x => { x with st := e }) n l
abbrev VF := List Tok → Sp → List NodeD → Sp → JR
/-- A key and its colon, or none: what comes of an item or member. -/
def kidM (txt : List UInt8) (V : VF) (obj : Bool) (had : List (List UInt8)) (rest : List Tok) (last : Sp) (nodes : List NodeD) : JR × List (List UInt8) :=
  if obj = false then (V rest last nodes (0, 0), had) else match rest with
    | [] => (.bad txt.length 2, had)
    | t :: r =>
      if t.kind ≠ 8 then (.bad t.sf 2, had) else
      if (unqL ((txt.drop t.sf).take (t.st - t.sf))).1 ∈ had then (.bad t.sf 7, had) else
      match r with
      | [] => (.bad txt.length 2, (unqL ((txt.drop t.sf).take (t.st - t.sf))).1 :: had)
      | c :: r2 => if c.kind ≠ 7 then (.bad c.sf 2, (unqL ((txt.drop t.sf).take (t.st - t.sf))).1 :: had) else
        (V r2 (c.sf, c.st) nodes (t.sf, t.st), (unqL ((txt.drop t.sf).take (t.st - t.sf))).1 :: had)
/-- Kids, up to the closing sign. -/
def loopM (txt : List UInt8) (V : VF) (closing : Nat) (obj : Bool) (n : Nat) : Nat → List (List UInt8) → List Tok → Sp → List NodeD → JR
  | 0, _, _, _, _ => .bad 0 0
  | f + 1, had, rest, last, nodes => match kidM txt V obj had rest last nodes with
    | (.bad a e, _) => .bad a e
    | (.ok r l ns, had') => match r with
      | [] => .bad txt.length 2
      | t :: r' => if t.kind = closing then .ok r' (t.sf, t.st) (addKid n nodes.length (last.2, t.sf) ns) else
        if t.kind = 6 then loopM txt V closing obj n f had' r' (t.sf, t.st) (addKid n nodes.length (last.2, t.sf) ns) else .bad t.sf 2
def kidsM (txt : List UInt8) (V : VF) (closing : Nat) (obj : Bool) (n : Nat) (rest : List Tok) (last : Sp) (nodes : List NodeD) : JR :=
  match rest with
  | [] => loopM txt V closing obj n 1 [] rest last nodes
  | t :: r => if t.kind = closing then .ok r (t.sf, t.st) nodes else loopM txt V closing obj n (rest.length + 1) [] rest last nodes
def endM (n : Nat) : JR → JR
  | .ok r l ns => .ok r l (setTo n l.2 ns)
  | .bad a e => .bad a e
/-- A value; 'lv': how many levels are left. -/
def valueM (txt : List UInt8) : Nat → VF
  | 0, rest, last, nodes, key => if kindOfT (kindT rest) = 0 then .bad (hereT txt.length rest) 2 else .bad (hereT txt.length rest) 5
  | lv + 1, rest, last, nodes, key => if kindOfT (kindT rest) = 0 then .bad (hereT txt.length rest) 2 else
    if nodes.length = 4096 then .bad (hereT txt.length rest) 6 else match rest with
    | [] => .bad 0 0
    | t :: r => endM nodes.length (
      if t.kind = 4 then kidsM txt (valueM txt lv) 5 false nodes.length r (t.sf, t.st) (nodes ++ [⟨kindOfT t.kind, t.sf, t.st, key, [], []⟩]) else
      if t.kind = 2 then kidsM txt (valueM txt lv) 3 true nodes.length r (t.sf, t.st) (nodes ++ [⟨kindOfT t.kind, t.sf, t.st, key, [], []⟩]) else
      .ok r (t.sf, t.st) (nodes ++ [⟨kindOfT t.kind, t.sf, t.st, key, [], []⟩]))
/-- json.Parse: the nodes; where it is wrong, and how. -/
def parseJ (s : List UInt8) : List NodeD × Int × Int :=
  if (toksL s).2.2 ≠ 0 then ([], (toksL s).2.1, (toksL s).2.2) else
    match valueM s 32 ((toksL s).1.filter (fun t => t.kind != 1)) (0, 0) [] (0, 0) with
    | .bad a e => ([], (a : Int), e)
    | .ok [] _ ns => (ns, (s.length : Int), 0)
    | .ok (t :: _) _ _ => ([], (t.sf : Int), 2)
/-! Sizes. -/
theorem modN_len (f : NodeD → NodeD) : ∀ (n : Nat) (l : List NodeD), (modN f n l).length = l.length
  | _, [] => by simp [modN]
  | 0, x :: l => rfl
  | n + 1, x :: l => by rw [modN, List.length_cons, modN_len f n l, List.length_cons]
theorem modN_at (f : NodeD → NodeD) : ∀ (n : Nat) (l : List NodeD) (j : Nat), (modN f n l)[j]? = if j = n then (l[j]?).map f else l[j]?
  | n, [], j => by cases n <;> simp [modN]
  | 0, x :: l, 0 => rfl
  | 0, x :: l, j + 1 => by simp [modN]
  | n + 1, x :: l, 0 => by simp [modN]
  | n + 1, x :: l, j + 1 => by
    rw [modN, List.getElem?_cons_succ, List.getElem?_cons_succ, modN_at f n l j]
    simp
theorem modN_mid (f : NodeD → NodeD) : ∀ (pre : List NodeD) (x : NodeD) (post : List NodeD), modN f pre.length (pre ++ x :: post) = pre ++ f x :: post
  | [], x, post => rfl
  | y :: pre, x, post => by
    show y :: modN f pre.length (pre ++ x :: post) = _
    rw [modN_mid f pre x post]; rfl
def Lim (n : Nat) (l : List NodeD) : Prop := ∀ y ∈ l, y.kids.length ≤ n ∧ y.pcs.length ≤ n
/-- What a reading of values leaves: the older nodes as they were, and more; fewer tokens, the tail of what was there. -/
def Ext (V : VF) : Prop := ∀ rest last nodes key r l ns, V rest last nodes key = .ok r l ns → ∃ more, ns = nodes ++ more ∧ 1 ≤ more.length ∧ more.length + r.length ≤ rest.length ∧ (∃ k, r = rest.drop k) ∧ Lim more.length more
theorem kid_ext {txt : List UInt8} {V : VF} (hV : Ext V) {obj : Bool} {had : List (List UInt8)} {rest : List Tok} {last : Sp} {nodes : List NodeD} {r : List Tok} {l : Sp} {ns : List NodeD} {had' : List (List UInt8)}
    (h : kidM txt V obj had rest last nodes = (.ok r l ns, had')) : ∃ more, ns = nodes ++ more ∧ 1 ≤ more.length ∧ more.length + r.length ≤ rest.length ∧ (∃ k, r = rest.drop k) ∧ Lim more.length more := by
  unfold kidM at h
  split at h
  · injection h with h _
    exact hV _ _ _ _ _ _ _ h
  · split at h
    · injection h with h _; cases h
    · rename_i t q
      split at h
      · injection h with h _; cases h
      · split at h
        · injection h with h _; cases h
        · split at h
          · injection h with h _; cases h
          · rename_i c r2
            split at h
            · injection h with h _; cases h
            · injection h with h _
              obtain ⟨more, h1, h2, h3, ⟨k, h4⟩, h5⟩ := hV _ _ _ _ _ _ _ h
              exact ⟨more, h1, h2, by simp only [List.length_cons]; omega, ⟨k + 2, by rw [h4]; rfl⟩, h5⟩
/-- The nodes ahead, the one whose kids are read, and what is behind it. -/
def Mid (pre : List NodeD) (x : NodeD) (post : List NodeD) (nodes : List NodeD) : Prop := nodes = pre ++ x :: post ∧ x.kids.length ≤ post.length ∧ x.pcs.length ≤ post.length ∧ Lim post.length post
theorem Mid.add {pre : List NodeD} {x : NodeD} {post nodes more : List NodeD} (h : Mid pre x post nodes) (hm : Lim more.length more) (h1 : 1 ≤ more.length) (k : Nat) (pc : Sp) :
    Mid pre { x with kids := x.kids ++ [k], pcs := x.pcs ++ [pc] } (post ++ more) (addKid pre.length k pc (nodes ++ more)) := by
  obtain ⟨rfl, h2, h3, h4⟩ := h
  refine ⟨?_, ?_, ?_, ?_⟩
  · unfold addKid
    rw [List.append_assoc, List.cons_append, modN_mid]
  · simp only [List.length_append, List.length_cons, List.length_nil]; omega
  · simp only [List.length_append, List.length_cons, List.length_nil]; omega
  · intro y hy
    rw [List.length_append]
    rcases List.mem_append.1 hy with hy | hy
    · have := h4 y hy; omega
    · have := hm y hy; omega
theorem loop_ext {txt : List UInt8} {V : VF} (hV : Ext V) {closing : Nat} {obj : Bool} {pre : List NodeD} : ∀ (f : Nat) {had : List (List UInt8)} {rest : List Tok} {last : Sp} {nodes : List NodeD} {r : List Tok} {l : Sp} {ns : List NodeD} {x : NodeD} {post : List NodeD},
    Mid pre x post nodes → loopM txt V closing obj pre.length f had rest last nodes = .ok r l ns → ∃ x' post', Mid pre x' post' ns ∧ x'.kind = x.kind ∧ x'.sf = x.sf ∧ x'.key = x.key ∧ post.length < post'.length ∧ post'.length + r.length < post.length + rest.length ∧ ∃ k, r = rest.drop k
  | 0, _, _, _, _, _, _, _, _, _, _, h => by cases h
  | f + 1, had, rest, last, nodes, r, l, ns, x, post, hm, h => by
    unfold loopM at h
    split at h
    · cases h
    · rename_i r1 l1 ns1 had1 hk
      obtain ⟨more, rfl, h2, h3, ⟨k, h4⟩, h5⟩ := kid_ext hV hk
      split at h
      · cases h
      · rename_i t r'
        simp only [List.length_cons] at h3
        have hr' : r' = rest.drop (k + 1) := by rw [← List.drop_drop, ← h4]; rfl
        have hm2 := hm.add h5 h2 nodes.length (last.2, t.sf)
        split at h
        · injection h with e1 e2 e3
          subst e1
          subst e3
          exact ⟨_, _, hm2, rfl, rfl, rfl, by rw [List.length_append]; omega, by rw [List.length_append]; omega, _, hr'⟩
        · split at h
          · obtain ⟨x', post', i1, i2, i3, i4, i5, i6, k2, i7⟩ := loop_ext hV f hm2 h
            rw [List.length_append] at i5 i6
            exact ⟨x', post', i1, i2, i3, i4, by omega, by omega, k + 1 + k2, by rw [i7, hr', List.drop_drop]⟩
          · cases h
theorem kids_ext {txt : List UInt8} {V : VF} (hV : Ext V) {closing : Nat} {obj : Bool} {pre : List NodeD} {rest : List Tok} {last : Sp} {nodes : List NodeD} {r : List Tok} {l : Sp} {ns : List NodeD} {x : NodeD} {post : List NodeD}
    (hm : Mid pre x post nodes) (h : kidsM txt V closing obj pre.length rest last nodes = .ok r l ns) : ∃ x' post', Mid pre x' post' ns ∧ x'.kind = x.kind ∧ x'.sf = x.sf ∧ x'.key = x.key ∧ post.length ≤ post'.length ∧ post'.length + r.length ≤ post.length + rest.length ∧ ∃ k, r = rest.drop k := by
  unfold kidsM at h
  split at h
  · obtain ⟨x', post', i1, i2, i3, i4, i5, i6, i7⟩ := loop_ext hV _ hm h
    exact ⟨x', post', i1, i2, i3, i4, by omega, by omega, i7⟩
  · rename_i t q
    split at h
    · injection h with h1 h2 h3
      subst h1 h3
      exact ⟨x, post, hm, rfl, rfl, rfl, Nat.le_refl _, by simp only [List.length_cons]; omega, 1, rfl⟩
    · obtain ⟨x', post', i1, i2, i3, i4, i5, i6, i7⟩ := loop_ext hV _ hm h
      exact ⟨x', post', i1, i2, i3, i4, by omega, by omega, i7⟩
theorem setTo_mid {pre : List NodeD} {x : NodeD} {post nodes : List NodeD} (h : Mid pre x post nodes) (e : Nat) : Mid pre { x with st := e } post (setTo pre.length e nodes) := by
  obtain ⟨rfl, h2, h3, h4⟩ := h
  exact ⟨by unfold setTo; rw [modN_mid], h2, h3, h4⟩
theorem value_ext (txt : List UInt8) : ∀ lv, Ext (valueM txt lv)
  | 0 => fun rest last nodes key r l ns h => by
    unfold valueM at h
    split at h <;> cases h
  | lv + 1 => fun rest last nodes key r l ns h => by
    have ih := value_ext txt lv
    cases rest with
    | nil =>
      unfold valueM at h
      rw [if_pos (show kindOfT (kindT []) = 0 from rfl)] at h
      cases h
    | cons t q =>
      unfold valueM at h
      split at h
      · cases h
      · split at h
        · cases h
        · simp only [] at h
          have key2 : ∀ x : JR, endM nodes.length x = .ok r l ns → ∃ ns', x = .ok r l ns' ∧ ns = setTo nodes.length l.2 ns' := by
            intro x hx
            cases x with
            | bad a e => cases hx
            | ok r' l' ns' =>
              injection hx with h1 h2 h3
              subst h1 h2
              exact ⟨ns', rfl, h3.symm⟩
          obtain ⟨ns', h1, rfl⟩ := key2 _ h
          have hm0 : Mid nodes ⟨kindOfT t.kind, t.sf, t.st, key, [], []⟩ [] (nodes ++ [⟨kindOfT t.kind, t.sf, t.st, key, [], []⟩]) := ⟨rfl, Nat.le_refl _, Nat.le_refl _, fun y hy => by cases hy⟩
          have fin : ∀ {x' : NodeD} {post' : List NodeD}, Mid nodes x' post' ns' → post'.length + r.length ≤ q.length → (∃ k, r = q.drop k) → ∃ more, setTo nodes.length l.2 ns' = nodes ++ more ∧ 1 ≤ more.length ∧ more.length + r.length ≤ (t :: q).length ∧ (∃ k, r = (t :: q).drop k) ∧ Lim more.length more := by
            intro x' post' hm hl ⟨k, hk⟩
            obtain ⟨e1, e2, e3, e4⟩ := setTo_mid hm l.2
            refine ⟨_, e1, by simp, by simp only [List.length_cons]; omega, ⟨k + 1, by rw [hk]; rfl⟩, fun y hy => ?_⟩
            simp only [List.length_cons]
            rcases List.mem_cons.1 hy with rfl | hy
            · exact ⟨by omega, by omega⟩
            · have := e4 y hy; omega
          split at h1
          · obtain ⟨x', post', i1, _, _, _, _, i6, i7⟩ := kids_ext ih hm0 h1
            exact fin i1 (by simpa using i6) i7
          · split at h1
            · obtain ⟨x', post', i1, _, _, _, _, i6, i7⟩ := kids_ext ih hm0 h1
              exact fin i1 (by simpa using i6) i7
            · injection h1 with h2 h3 h4
              subst h2 h4
              exact fin hm0 (by simp) ⟨0, rfl⟩
end Go.Proofs.YtnnlpkbopeiefaaGreatDoor

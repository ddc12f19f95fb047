import Derived.Test.YtnnlpkbopeiefaaGreatDoorJsA
import Derived.Test.YtnnlpkbopeiefaaGreatDoorLexA
/-! PLAIN: the same tokens elsewhere are read as the same tree, moved. -/
namespace Go.Proofs.YtnnlpkbopeiefaaGreatDoor
set_option linter.unusedSimpArgs false
set_option linter.unusedVariables false
open Go.Lib
section
variable {α β : Type} {R : α → β → Prop}
end
section
variable {txt txt' : List UInt8} {a b m n : Nat} {deep : Prop} {V V' : VF}
end
theorem endM_ok {k : Nat} {x : JR} {r : List Tok} {l : Sp} {ns : List NodeD} (hx : endM k x = .ok r l ns) : ∃ ns', x = .ok r l ns' ∧ ns = setTo k l.2 ns' := by
  cases x with
  | bad a e => cases hx
  | ok r' l' ns' =>
    injection hx with h1 h2 h3
    subst h1 h2
    exact ⟨ns', rfl, h3.symm⟩
end Go.Proofs.YtnnlpkbopeiefaaGreatDoor
/-! PLAIN: the tokens of texts put together; a text in an array, and as a member. -/
namespace Go.Proofs.YtnnlpkbopeiefaaGreatDoor
set_option linter.unusedSimpArgs false
set_option linter.unusedVariables false
open Go.Lib
/-- What is behind does not matter where each run ends as before. -/
theorem tokR_same (l b : List UInt8) (hne : l ≠ []) (r1 : ∀ c, l.head? = some c → isBlank c = true → runL isBlank (l ++ b) = runL isBlank l) (r2 : runL isNumB (l ++ b) = runL isNumB l) (r3 : runL isSmall (l ++ b) = runL isSmall l) (hq : l.head? = some 34 → readL (l ++ b) 0 = readL l 0) : tokR (l ++ b) = tokR l := by
  cases l with
  | nil => exact absurd rfl hne
  | cons c r =>
    have tk : ∀ n, n ≤ (c :: r).length → (c :: (r ++ b)).take n = (c :: r).take n := fun n hn => by
      rw [← List.cons_append, List.take_append_of_le_length hn]
    rw [List.cons_append] at r1 r2 r3 hq
    unfold tokR
    simp only [List.cons_append]
    cases hs : signI c with
    | some k => rfl
    | none =>
      simp only []
      by_cases hb : isBlank c = true
      · rw [if_pos hb, if_pos hb, r1 c rfl hb]
      rw [if_neg hb, if_neg hb]
      by_cases h34 : c = 34
      · subst h34
        rw [if_pos rfl, if_pos rfl, hq rfl]
      rw [if_neg h34, if_neg h34]
      by_cases hd : c = 45 ∨ isDig c = true
      · rw [if_pos hd, if_pos hd, r2, tk _ (runL_le _ _)]
      rw [if_neg hd, if_neg hd, r3, tk _ (runL_le _ _)]
theorem tokR_quote (r : List UInt8) (h : (tokR (34 :: r)).2.2 = 0) : (readL (34 :: r) 0).2.2 = 0 := by
  unfold tokR at h
  simp only [show signI 34 = none from rfl] at h
  rw [if_neg (by decide), if_pos trivial] at h
  by_cases h0 : (readL (34 :: r) 0).2.2 = 0
  · exact h0
  · rw [if_neg h0] at h; exact h
theorem quote_same (l b : List UInt8) (h : (tokR l).2.2 = 0) (hq : l.head? = some 34) : readL (l ++ b) 0 = readL l 0 := by
  cases l with
  | nil => cases hq
  | cons c r =>
    obtain rfl : c = 34 := by simpa using hq
    have h0 := tokR_quote r h
    have hk := readL_ok (34 :: r) h0
    refine readL_local _ _ h0 ?_
    rw [List.take_append_of_le_length (by omega)]
/-- A sign at which every token stops. -/
def StopB (d : UInt8) : Prop := isBlank d = false ∧ isNumB d = false ∧ isSmall d = false
theorem tokR_stop (d : UInt8) (hd : StopB d) (l b : List UInt8) (hne : l ≠ []) (h : (tokR l).2.2 = 0) : tokR (l ++ d :: b) = tokR l :=
  tokR_same l (d :: b) hne (fun _ _ _ => runL_stop isBlank d b hd.1 l) (runL_stop isNumB d b hd.2.1 l) (runL_stop isSmall d b hd.2.2 l) (fun hq => quote_same l _ h hq)
/-- Two texts with a sign between them. -/
theorem toks_sign (d : UInt8) (k : Nat) (hd : StopB d) (hk : ∀ b, tokR (d :: b) = (k, 1, 0)) : ∀ (f g : Nat) (a b : List UInt8) (i : Nat), a.length ≤ f → (toksGo f a i).2 = none → a.length + 1 + b.length ≤ g →
    toksGo g (a ++ d :: b) i = ((toksGo f a i).1 ++ ⟨k, i + a.length, i + a.length + 1⟩ :: (toksGo b.length b (i + a.length + 1)).1, (toksGo b.length b (i + a.length + 1)).2)
  | f, g, [], b, i, _, _, hg => by
    obtain ⟨g, rfl⟩ : ∃ k, g = k + 1 := ⟨g - 1, by simp at hg; omega⟩
    rw [toksGo_nil, List.nil_append, toksGo_cons, hk, if_pos rfl]
    simp only [List.drop_succ_cons, List.drop_zero, List.length_nil, Nat.add_zero, List.nil_append]
    rw [toksGo_fuel g b.length b _ (by simp at hg; omega) (Nat.le_refl _)]
  | 0, _, _ :: _, _, _, h, _, _ => by simp at h
  | f + 1, g, c :: r, b, i, hf, h, hg => by
    have hlc : (c :: r).length = r.length + 1 := rfl
    obtain ⟨g, rfl⟩ : ∃ k, g = k + 1 := ⟨g - 1, by omega⟩
    rw [toksGo_cons] at h
    rw [toksGo_cons, List.cons_append, toksGo_cons]
    by_cases h0 : (tokR (c :: r)).2.2 = 0
    · have hc := tokR_stop d hd (c :: r) b (List.cons_ne_nil _ _) h0
      rw [List.cons_append] at hc
      rw [if_pos h0] at h
      have hle := (tokR_ok (c :: r) (List.cons_ne_nil _ _)).1
      have hok := (tokR_ok (c :: r) (List.cons_ne_nil _ _)).2 h0
      have hd' : (c :: (r ++ d :: b)).drop (tokR (c :: r)).2.1 = (c :: r).drop (tokR (c :: r)).2.1 ++ d :: b := by
        rw [← List.cons_append, List.drop_append_of_le_length hle]
      have hdl : ((c :: r).drop (tokR (c :: r)).2.1).length = (c :: r).length - (tokR (c :: r)).2.1 := List.length_drop
      have ih := toks_sign d k hd hk f g ((c :: r).drop (tokR (c :: r)).2.1) b (i + (tokR (c :: r)).2.1) (by omega) h (by omega)
      rw [hc, if_pos h0, if_pos h0, hd', ih, hdl]
      rw [show i + (tokR (c :: r)).2.1 + ((c :: r).length - (tokR (c :: r)).2.1) = i + (c :: r).length by omega]
      rfl
    · rw [if_neg h0] at h; cases h
/-! The same text, elsewhere. -/
def nblk (ts : List Tok) : List Tok := ts.filter (fun t => t.kind != 1)
/-! What Parse hands back. -/
def finP (n : Nat) : JR → List NodeD × Int × Int
  | .bad a e => ([], (a : Int), e)
  | .ok [] _ ns => (ns, (n : Int), 0)
  | .ok (t :: _) _ _ => ([], (t.sf : Int), 2)
/-- What is wrong is told. -/
def Bd (V : VF) : Prop := ∀ rest last nodes key a e, V rest last nodes key = .bad a e → e ≠ 0
theorem kid_bad {txt : List UInt8} {V : VF} (hV : Bd V) {obj : Bool} {had had' : List (List UInt8)} {rest : List Tok} {last : Sp} {nodes : List NodeD} {a : Nat} {e : Int} (h : kidM txt V obj had rest last nodes = (.bad a e, had')) : e ≠ 0 := by
  unfold kidM at h
  split at h
  · injection h with h _; exact hV _ _ _ _ _ _ h
  · split at h
    · injection h with h _; injection h with _ h; rw [← h]; decide
    · split at h
      · injection h with h _; injection h with _ h; rw [← h]; decide
      · split at h
        · injection h with h _; injection h with _ h; rw [← h]; decide
        · split at h
          · injection h with h _; injection h with _ h; rw [← h]; decide
          · split at h
            · injection h with h _; injection h with _ h; rw [← h]; decide
            · injection h with h _; exact hV _ _ _ _ _ _ h
theorem loop_bad {txt : List UInt8} {V : VF} (hV : Bd V) (hE : Ext V) {closing : Nat} {obj : Bool} {n : Nat} : ∀ (f : Nat) {had : List (List UInt8)} {rest : List Tok} {last : Sp} {nodes : List NodeD} {a : Nat} {e : Int}, rest.length < f → loopM txt V closing obj n f had rest last nodes = .bad a e → e ≠ 0
  | 0, _, _, _, _, _, _, hf, _ => by omega
  | f + 1, had, rest, last, nodes, a, e, hf, h => by
    unfold loopM at h
    split at h
    · rename_i hk
      injection h with h1 h2
      subst h1 h2
      exact kid_bad hV hk
    · rename_i r1 l1 ns1 had1 hk
      obtain ⟨more, _, h2, h3, _⟩ := kid_ext hE hk
      split at h
      · injection h with _ h; rw [← h]; decide
      · simp only [List.length_cons] at h3
        split at h
        · cases h
        · split at h
          · exact loop_bad hV hE f (by omega) h
          · injection h with _ h; rw [← h]; decide
theorem kids_bad {txt : List UInt8} {V : VF} (hV : Bd V) (hE : Ext V) {closing : Nat} {obj : Bool} {n : Nat} {rest : List Tok} {last : Sp} {nodes : List NodeD} {a : Nat} {e : Int} (h : kidsM txt V closing obj n rest last nodes = .bad a e) : e ≠ 0 := by
  unfold kidsM at h
  split at h
  · exact loop_bad hV hE 1 (by simp) h
  · split at h
    · cases h
    · exact loop_bad hV hE _ (by simp) h
theorem endM_bad {k : Nat} {x : JR} {a : Nat} {e : Int} (hx : endM k x = .bad a e) : x = .bad a e := by
  cases x with
  | bad a' e' => exact hx
  | ok r' l' ns' => cases hx
theorem value_bad (txt : List UInt8) : ∀ lv, Bd (valueM txt lv)
  | 0 => fun rest last nodes key a e h => by
    unfold valueM at h
    split at h
    · injection h with _ h; rw [← h]; decide
    · injection h with _ h; rw [← h]; decide
  | lv + 1 => fun rest last nodes key a e h => by
    have ih := value_bad txt lv
    have hE := value_ext txt lv
    unfold valueM at h
    split at h
    · injection h with _ h; rw [← h]; decide
    · rename_i hk
      split at h
      · injection h with _ h; rw [← h]; decide
      · cases rest with
        | nil => exact absurd rfl hk
        | cons t r =>
          simp only [] at h
          have h1 := endM_bad h
          split at h1
          · exact kids_bad ih hE h1
          · split at h1
            · exact kids_bad ih hE h1
            · cases h1
theorem parse_eq (s : List UInt8) : parseJ s = if (toksL s).2.2 ≠ 0 then ([], (toksL s).2.1, (toksL s).2.2) else finP s.length (valueM s 32 (nblk (toksL s).1) (0, 0) [] (0, 0)) := by
  unfold parseJ nblk finP
  rfl
theorem parse_toks (s : List UInt8) (T : List Tok) (hs : s.length ≤ 65536) (hT : toksGo s.length s 0 = (T, none)) : parseJ s = finP s.length (valueM s 32 (nblk T) (0, 0) [] (0, 0)) := by
  have h : toksL s = (T, (s.length : Int), 0) := by
    unfold toksL
    rw [if_neg (by omega), hT]
  rw [parse_eq, h]
  rfl
theorem toksL_none {s : List UInt8} (h : (toksL s).2.2 = 0) : s.length ≤ 65536 ∧ toksGo s.length s 0 = ((toksL s).1, none) := by
  unfold toksL at h ⊢
  by_cases hb : 65536 < s.length
  · rw [if_pos hb] at h; exact absurd h (by simp)
  · rw [if_neg hb] at h ⊢
    cases hG : (toksGo s.length s 0).2 with
    | none => exact ⟨by omega, Prod.ext rfl hG⟩
    | some x =>
      obtain ⟨p, e⟩ := x
      rw [hG] at h
      exact absurd h (toks_err s.length s 0 p e (Nat.le_refl _) hG).2.2
/-- What a text that is one looks like. -/
theorem parse_ok {s : List UInt8} (h : (parseJ s).2.2 = 0) : s.length ≤ 65536 ∧ ∃ T l ns, toksGo s.length s 0 = (T, none) ∧ valueM s 32 (nblk T) (0, 0) [] (0, 0) = .ok [] l ns ∧ parseJ s = (ns, (s.length : Int), 0) := by
  rw [parse_eq] at h ⊢
  by_cases h0 : (toksL s).2.2 = 0
  · rw [if_neg (by simpa using h0)] at h ⊢
    obtain ⟨h1, h2⟩ := toksL_none h0
    refine ⟨h1, (toksL s).1, ?_⟩
    cases hv : valueM s 32 (nblk (toksL s).1) (0, 0) [] (0, 0) with
    | bad a e => rw [hv] at h; exact absurd h (value_bad s 32 _ _ _ _ _ _ hv)
    | ok r l ns =>
      cases r with
      | cons t r => rw [hv] at h; exact absurd h (by simp [finP])
      | nil => exact ⟨l, ns, h2, rfl, rfl⟩
  · rw [if_pos h0] at h; exact absurd h h0
theorem value_arr (txt : List UInt8) (lv : Nat) (t : Tok) (r : List Tok) (last : Sp) (nodes : List NodeD) (key : Sp) (hk : t.kind = 4) (hm : nodes.length ≠ 4096) :
    valueM txt (lv + 1) (t :: r) last nodes key = endM nodes.length (kidsM txt (valueM txt lv) 5 false nodes.length r (t.sf, t.st) (nodes ++ [⟨5, t.sf, t.st, key, [], []⟩])) := by
  rw [valueM]
  have h0 : ¬ kindOfT (kindT (t :: r)) = 0 := by show ¬ kindOfT t.kind = 0; rw [hk]; decide
  rw [if_neg h0, if_neg hm]
  simp only [hk, if_true]
  rfl
theorem value_obj (txt : List UInt8) (lv : Nat) (t : Tok) (r : List Tok) (last : Sp) (nodes : List NodeD) (key : Sp) (hk : t.kind = 2) (hm : nodes.length ≠ 4096) :
    valueM txt (lv + 1) (t :: r) last nodes key = endM nodes.length (kidsM txt (valueM txt lv) 3 true nodes.length r (t.sf, t.st) (nodes ++ [⟨6, t.sf, t.st, key, [], []⟩])) := by
  rw [valueM]
  have h0 : ¬ kindOfT (kindT (t :: r)) = 0 := by show ¬ kindOfT t.kind = 0; rw [hk]; decide
  rw [if_neg h0, if_neg hm]
  simp only [hk, if_true, show ¬ (2 = 4) from by decide, if_false]
  rfl
theorem kidsM_cons (txt : List UInt8) (V : VF) (closing : Nat) (obj : Bool) (n : Nat) (t : Tok) (r : List Tok) (last : Sp) (nodes : List NodeD) (h : t.kind ≠ closing) : kidsM txt V closing obj n (t :: r) last nodes = loopM txt V closing obj n ((t :: r).length + 1) [] (t :: r) last nodes := by
  rw [kidsM, if_neg h]
end Go.Proofs.YtnnlpkbopeiefaaGreatDoor
/-! PLAIN: blanks ahead of a text and behind it; a comma behind it. -/
namespace Go.Proofs.YtnnlpkbopeiefaaGreatDoor
set_option linter.unusedSimpArgs false
set_option linter.unusedVariables false
open Go.Lib
theorem runL_all (p : UInt8 → Bool) (b : List UInt8) : ∀ l : List UInt8, (∀ c ∈ l, p c = true) → runL p (l ++ b) = l.length + runL p b
  | [], _ => by simp
  | c :: l, h => by
    rw [List.cons_append, runL_cons, if_pos (h c List.mem_cons_self), runL_all p b l (fun x hx => h x (List.mem_cons_of_mem _ hx)), List.length_cons]
    omega
theorem runL_full (p : UInt8 → Bool) (l : List UInt8) (h : ∀ c ∈ l, p c = true) : runL p l = l.length := by
  have := runL_all p [] l h
  rwa [List.append_nil, show runL p [] = 0 from rfl, Nat.add_zero] at this
end Go.Proofs.YtnnlpkbopeiefaaGreatDoor
/-! PLAIN: what the nodes of a text are: each kid in its piece, the pieces one behind another. -/
namespace Go.Proofs.YtnnlpkbopeiefaaGreatDoor
set_option linter.unusedSimpArgs false
set_option linter.unusedVariables false
open Go.Lib
theorem mid_at {pre : List NodeD} {x : NodeD} {post nodes : List NodeD} (h : Mid pre x post nodes) : nodes[pre.length]? = some x := by
  rw [h.1, List.getElem?_append_right (Nat.le_refl _), Nat.sub_self]; rfl
theorem mid_len {pre : List NodeD} {x : NodeD} {post nodes : List NodeD} (h : Mid pre x post nodes) : nodes.length = pre.length + 1 + post.length := by
  rw [h.1, List.length_append, List.length_cons]; omega
end Go.Proofs.YtnnlpkbopeiefaaGreatDoor
/-! PLAIN: each node's bytes, alone, are the same tree. -/
namespace Go.Proofs.YtnnlpkbopeiefaaGreatDoor
set_option linter.unusedSimpArgs false
set_option linter.unusedVariables false
set_option linter.unnecessarySimpa false
open Go.Lib
end Go.Proofs.YtnnlpkbopeiefaaGreatDoor

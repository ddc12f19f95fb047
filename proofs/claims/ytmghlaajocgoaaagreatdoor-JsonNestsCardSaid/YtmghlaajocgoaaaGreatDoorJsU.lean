import Derived.Test.YtmghlaajocgoaaaGreatDoorJsT
/-! PLAIN: the tokens of texts put together; a text in an array, and as a member. -/
namespace Go.Proofs.YtmghlaajocgoaaaGreatDoor
set_option linter.unusedSimpArgs false
set_option linter.unusedVariables false
open Go.Lib

/-- What is behind does not matter where each run ends as before. -/
theorem tokR_same (l b : List UInt8) (hne : l ≠ []) (r1 : ∀ c, l.head? = some c → isBlank c = true → runL isBlank (l ++ b) = runL isBlank l) (r2 : runL isNumB (l ++ b) = runL isNumB l) (r3 : runL isSmall (l ++ b) = runL isSmall l) (hq : l.head? = some 34 → readL (l ++ b) 0 = readL l 0) : tokR (l ++ b) = tokR l := by
  cases l with
  | nil => exact absurd rfl hne
  | cons c r =>
    have tk : ∀ n, n ≤ (c :: r).length → (c :: (r ++ b)).take n = (c :: r).take n := fun n hn => by
      rw [← List.cons_append, List.take_append_of_le_length hn]
    rw [List.cons_append] at r1 r2 r3 hq
    unfold tokR
    simp only [List.cons_append]
    cases hs : signI c with
    | some k => rfl
    | none =>
      simp only []
      by_cases hb : isBlank c = true
      · rw [if_pos hb, if_pos hb, r1 c rfl hb]
      rw [if_neg hb, if_neg hb]
      by_cases h34 : c = 34
      · subst h34
        rw [if_pos rfl, if_pos rfl, hq rfl]
      rw [if_neg h34, if_neg h34]
      by_cases hd : c = 45 ∨ isDig c = true
      · rw [if_pos hd, if_pos hd, r2, tk _ (runL_le _ _)]
      rw [if_neg hd, if_neg hd, r3, tk _ (runL_le _ _)]
theorem tokR_quote (r : List UInt8) (h : (tokR (34 :: r)).2.2 = 0) : (readL (34 :: r) 0).2.2 = 0 := by
  unfold tokR at h
  simp only [show signI 34 = none from rfl] at h
  rw [if_neg (by decide), if_pos trivial] at h
  by_cases h0 : (readL (34 :: r) 0).2.2 = 0
  · exact h0
  · rw [if_neg h0] at h; exact h
theorem quote_same (l b : List UInt8) (h : (tokR l).2.2 = 0) (hq : l.head? = some 34) : readL (l ++ b) 0 = readL l 0 := by
  cases l with
  | nil => cases hq
  | cons c r =>
    obtain rfl : c = 34 := by simpa using hq
    have h0 := tokR_quote r h
    have hk := readL_ok (34 :: r) h0
    refine readL_local _ _ h0 ?_
    rw [List.take_append_of_le_length (by omega)]
/-- A sign at which every token stops. -/
def StopB (d : UInt8) : Prop := isBlank d = false ∧ isNumB d = false ∧ isSmall d = false
theorem tokR_stop (d : UInt8) (hd : StopB d) (l b : List UInt8) (hne : l ≠ []) (h : (tokR l).2.2 = 0) : tokR (l ++ d :: b) = tokR l :=
  tokR_same l (d :: b) hne (fun _ _ _ => runL_stop isBlank d b hd.1 l) (runL_stop isNumB d b hd.2.1 l) (runL_stop isSmall d b hd.2.2 l) (fun hq => quote_same l _ h hq)
/-- Two texts with a sign between them. -/
theorem toks_sign (d : UInt8) (k : Nat) (hd : StopB d) (hk : ∀ b, tokR (d :: b) = (k, 1, 0)) : ∀ (f g : Nat) (a b : List UInt8) (i : Nat), a.length ≤ f → (toksGo f a i).2 = none → a.length + 1 + b.length ≤ g →
    toksGo g (a ++ d :: b) i = ((toksGo f a i).1 ++ ⟨k, i + a.length, i + a.length + 1⟩ :: (toksGo b.length b (i + a.length + 1)).1, (toksGo b.length b (i + a.length + 1)).2)
  | f, g, [], b, i, _, _, hg => by
    obtain ⟨g, rfl⟩ : ∃ k, g = k + 1 := ⟨g - 1, by simp at hg; omega⟩
    rw [toksGo_nil, List.nil_append, toksGo_cons, hk, if_pos rfl]
    simp only [List.drop_succ_cons, List.drop_zero, List.length_nil, Nat.add_zero, List.nil_append]
    rw [toksGo_fuel g b.length b _ (by simp at hg; omega) (Nat.le_refl _)]
  | 0, _, _ :: _, _, _, h, _, _ => by simp at h
  | f + 1, g, c :: r, b, i, hf, h, hg => by
    have hlc : (c :: r).length = r.length + 1 := rfl
    obtain ⟨g, rfl⟩ : ∃ k, g = k + 1 := ⟨g - 1, by omega⟩
    rw [toksGo_cons] at h
    rw [toksGo_cons, List.cons_append, toksGo_cons]
    by_cases h0 : (tokR (c :: r)).2.2 = 0
    · have hc := tokR_stop d hd (c :: r) b (List.cons_ne_nil _ _) h0
      rw [List.cons_append] at hc
      rw [if_pos h0] at h
      have hle := (tokR_ok (c :: r) (List.cons_ne_nil _ _)).1
      have hok := (tokR_ok (c :: r) (List.cons_ne_nil _ _)).2 h0
      have hd' : (c :: (r ++ d :: b)).drop (tokR (c :: r)).2.1 = (c :: r).drop (tokR (c :: r)).2.1 ++ d :: b := by
        rw [← List.cons_append, List.drop_append_of_le_length hle]
      have hdl : ((c :: r).drop (tokR (c :: r)).2.1).length = (c :: r).length - (tokR (c :: r)).2.1 := List.length_drop
      have ih := toks_sign d k hd hk f g ((c :: r).drop (tokR (c :: r)).2.1) b (i + (tokR (c :: r)).2.1) (by omega) h (by omega)
      rw [hc, if_pos h0, if_pos h0, hd', ih, hdl]
      rw [show i + (tokR (c :: r)).2.1 + ((c :: r).length - (tokR (c :: r)).2.1) = i + (c :: r).length by omega]
      rfl
    · rw [if_neg h0] at h; cases h
/-! The same text, elsewhere. -/
def nblk (ts : List Tok) : List Tok := ts.filter (fun t => t.kind != 1)
theorem nblk_move (n : Nat) (ts : List Tok) : nblk (ts.map (moveT n)) = (nblk ts).map (moveT n) := by
  unfold nblk
  rw [List.filter_map]
  rfl
theorem nblk_app (a b : List Tok) : nblk (a ++ b) = nblk a ++ nblk b := List.filter_append ..
theorem toks_in : ∀ (f : Nat) (l : List UInt8) (i : Nat), ∀ t ∈ (toksGo f l i).1, t.sf ≤ t.st ∧ t.st ≤ i + l.length
  | 0, l, i, t, ht => by simp [toksGo] at ht
  | f + 1, [], i, t, ht => by simp [toksGo] at ht
  | f + 1, c :: r, i, t, ht => by
    have hok := tokR_ok (c :: r) (List.cons_ne_nil _ _)
    rw [toksGo_cons] at ht
    by_cases h0 : (tokR (c :: r)).2.2 = 0
    · rw [if_pos h0] at ht
      rcases List.mem_cons.1 ht with rfl | ht
      · exact ⟨by simp, by simp only []; omega⟩
      · have := toks_in f _ _ t ht
        rw [List.length_drop] at this
        omega
    · rw [if_neg h0] at ht; simp at ht
theorem toks_cnt : ∀ (f : Nat) (l : List UInt8) (i : Nat), (toksGo f l i).1.length ≤ l.length
  | 0, l, i => by simp [toksGo]
  | f + 1, [], i => by simp [toksGo]
  | f + 1, c :: r, i => by
    have hok := tokR_ok (c :: r) (List.cons_ne_nil _ _)
    rw [toksGo_cons]
    by_cases h0 : (tokR (c :: r)).2.2 = 0
    · have h1 := toks_cnt f ((c :: r).drop (tokR (c :: r)).2.1) (i + (tokR (c :: r)).2.1)
      have h2 := hok.2 h0
      rw [List.length_drop] at h1
      have hlc : (c :: r).length = r.length + 1 := rfl
      rw [if_pos h0]
      simp only [List.length_cons] at h1 ⊢
      omega
    · rw [if_neg h0]; simp
theorem bytes_in (p s q : List UInt8) (a n : Nat) (h : a + n ≤ s.length) : ((p ++ (s ++ q)).drop (a + p.length)).take n = (s.drop a).take n := by
  rw [Nat.add_comm, ← List.drop_drop, List.drop_append_of_le_length (Nat.le_refl _), List.drop_of_length_le (Nat.le_refl _), List.nil_append, List.drop_append_of_le_length (by omega), List.take_append_of_le_length (by rw [List.length_drop]; omega)]
theorem all2_map {α β γ : Type} {R : β → γ → Prop} (f : α → β) (g : α → γ) : ∀ l : List α, (∀ x ∈ l, R (f x) (g x)) → All2 R (l.map f) (l.map g)
  | [], _ => trivial
  | x :: l, h => ⟨h x List.mem_cons_self, all2_map f g l fun y hy => h y (List.mem_cons_of_mem _ hy)⟩
/-- The tokens of a text, behind one text and behind another. -/
theorem tr_gen (p1 q1 p2 q2 s : List UInt8) (T : List Tok) (hT : ∀ t ∈ T, t.sf ≤ t.st ∧ t.st ≤ s.length) : All2 (TR (p1 ++ (s ++ q1)) (p2 ++ (s ++ q2)) p2.length p1.length) (T.map (moveT p1.length)) (T.map (moveT p2.length)) :=
  all2_map _ _ T fun t ht => by
    have := hT t ht
    refine ⟨rfl, by simp only [moveT]; omega, by simp only [moveT]; omega, ?_⟩
    simp only [moveT]
    rw [show t.st + p2.length - (t.sf + p2.length) = t.st - t.sf by omega, show t.st + p1.length - (t.sf + p1.length) = t.st - t.sf by omega, bytes_in p2 s q2 _ _ (by omega), bytes_in p1 s q1 _ _ (by omega)]
theorem move_zero (T : List Tok) : T.map (moveT 0) = T := by
  have : moveT 0 = id := by funext t; rfl
  rw [this, List.map_id]
theorem tr_of (p q s : List UInt8) (T : List Tok) (hT : ∀ t ∈ T, t.sf ≤ t.st ∧ t.st ≤ s.length) : All2 (TR s (p ++ (s ++ q)) p.length 0) T (T.map (moveT p.length)) := by
  have := tr_gen [] [] p q s T hT
  rw [List.nil_append, List.append_nil, List.length_nil, move_zero] at this
  exact this
theorem tr_to (p q s : List UInt8) (T : List Tok) (hT : ∀ t ∈ T, t.sf ≤ t.st ∧ t.st ≤ s.length) : All2 (TR (p ++ (s ++ q)) s 0 p.length) (T.map (moveT p.length)) T := by
  have := tr_gen p q [] [] s T hT
  rw [List.nil_append, List.append_nil, List.length_nil, move_zero] at this
  exact this
/-! What Parse hands back. -/
def finP (n : Nat) : JR → List NodeD × Int × Int
  | .bad a e => ([], (a : Int), e)
  | .ok [] _ ns => (ns, (n : Int), 0)
  | .ok (t :: _) _ _ => ([], (t.sf : Int), 2)
/-- What is wrong is told. -/
def Bd (V : VF) : Prop := ∀ rest last nodes key a e, V rest last nodes key = .bad a e → e ≠ 0
theorem kid_bad {txt : List UInt8} {V : VF} (hV : Bd V) {obj : Bool} {had had' : List (List UInt8)} {rest : List Tok} {last : Sp} {nodes : List NodeD} {a : Nat} {e : Int} (h : kidM txt V obj had rest last nodes = (.bad a e, had')) : e ≠ 0 := by
  unfold kidM at h
  split at h
  · injection h with h _; exact hV _ _ _ _ _ _ h
  · split at h
    · injection h with h _; injection h with _ h; rw [← h]; decide
    · split at h
      · injection h with h _; injection h with _ h; rw [← h]; decide
      · split at h
        · injection h with h _; injection h with _ h; rw [← h]; decide
        · split at h
          · injection h with h _; injection h with _ h; rw [← h]; decide
          · split at h
            · injection h with h _; injection h with _ h; rw [← h]; decide
            · injection h with h _; exact hV _ _ _ _ _ _ h
theorem loop_bad {txt : List UInt8} {V : VF} (hV : Bd V) (hE : Ext V) {closing : Nat} {obj : Bool} {n : Nat} : ∀ (f : Nat) {had : List (List UInt8)} {rest : List Tok} {last : Sp} {nodes : List NodeD} {a : Nat} {e : Int}, rest.length < f → loopM txt V closing obj n f had rest last nodes = .bad a e → e ≠ 0
  | 0, _, _, _, _, _, _, hf, _ => by omega
  | f + 1, had, rest, last, nodes, a, e, hf, h => by
    unfold loopM at h
    split at h
    · rename_i hk
      injection h with h1 h2
      subst h1 h2
      exact kid_bad hV hk
    · rename_i r1 l1 ns1 had1 hk
      obtain ⟨more, _, h2, h3, _⟩ := kid_ext hE hk
      split at h
      · injection h with _ h; rw [← h]; decide
      · simp only [List.length_cons] at h3
        split at h
        · cases h
        · split at h
          · exact loop_bad hV hE f (by omega) h
          · injection h with _ h; rw [← h]; decide
theorem kids_bad {txt : List UInt8} {V : VF} (hV : Bd V) (hE : Ext V) {closing : Nat} {obj : Bool} {n : Nat} {rest : List Tok} {last : Sp} {nodes : List NodeD} {a : Nat} {e : Int} (h : kidsM txt V closing obj n rest last nodes = .bad a e) : e ≠ 0 := by
  unfold kidsM at h
  split at h
  · exact loop_bad hV hE 1 (by simp) h
  · split at h
    · cases h
    · exact loop_bad hV hE _ (by simp) h
theorem endM_bad {k : Nat} {x : JR} {a : Nat} {e : Int} (hx : endM k x = .bad a e) : x = .bad a e := by
  cases x with
  | bad a' e' => exact hx
  | ok r' l' ns' => cases hx
theorem value_bad (txt : List UInt8) : ∀ lv, Bd (valueM txt lv)
  | 0 => fun rest last nodes key a e h => by
    unfold valueM at h
    split at h
    · injection h with _ h; rw [← h]; decide
    · injection h with _ h; rw [← h]; decide
  | lv + 1 => fun rest last nodes key a e h => by
    have ih := value_bad txt lv
    have hE := value_ext txt lv
    unfold valueM at h
    split at h
    · injection h with _ h; rw [← h]; decide
    · rename_i hk
      split at h
      · injection h with _ h; rw [← h]; decide
      · cases rest with
        | nil => exact absurd rfl hk
        | cons t r =>
          simp only [] at h
          have h1 := endM_bad h
          split at h1
          · exact kids_bad ih hE h1
          · split at h1
            · exact kids_bad ih hE h1
            · cases h1
theorem parse_eq (s : List UInt8) : parseJ s = if (toksL s).2.2 ≠ 0 then ([], (toksL s).2.1, (toksL s).2.2) else finP s.length (valueM s 32 (nblk (toksL s).1) (0, 0) [] (0, 0)) := by
  unfold parseJ nblk finP
  rfl
theorem parse_toks (s : List UInt8) (T : List Tok) (hs : s.length ≤ 65536) (hT : toksGo s.length s 0 = (T, none)) : parseJ s = finP s.length (valueM s 32 (nblk T) (0, 0) [] (0, 0)) := by
  have h : toksL s = (T, (s.length : Int), 0) := by
    unfold toksL
    rw [if_neg (by omega), hT]
  rw [parse_eq, h]
  rfl
theorem toksL_none {s : List UInt8} (h : (toksL s).2.2 = 0) : s.length ≤ 65536 ∧ toksGo s.length s 0 = ((toksL s).1, none) := by
  unfold toksL at h ⊢
  by_cases hb : 65536 < s.length
  · rw [if_pos hb] at h; exact absurd h (by simp)
  · rw [if_neg hb] at h ⊢
    cases hG : (toksGo s.length s 0).2 with
    | none => exact ⟨by omega, Prod.ext rfl hG⟩
    | some x =>
      obtain ⟨p, e⟩ := x
      rw [hG] at h
      exact absurd h (toks_err s.length s 0 p e (Nat.le_refl _) hG).2.2
/-- What a text that is one looks like. -/
theorem parse_ok {s : List UInt8} (h : (parseJ s).2.2 = 0) : s.length ≤ 65536 ∧ ∃ T l ns, toksGo s.length s 0 = (T, none) ∧ valueM s 32 (nblk T) (0, 0) [] (0, 0) = .ok [] l ns ∧ parseJ s = (ns, (s.length : Int), 0) := by
  rw [parse_eq] at h ⊢
  by_cases h0 : (toksL s).2.2 = 0
  · rw [if_neg (by simpa using h0)] at h ⊢
    obtain ⟨h1, h2⟩ := toksL_none h0
    refine ⟨h1, (toksL s).1, ?_⟩
    cases hv : valueM s 32 (nblk (toksL s).1) (0, 0) [] (0, 0) with
    | bad a e => rw [hv] at h; exact absurd h (value_bad s 32 _ _ _ _ _ _ hv)
    | ok r l ns =>
      cases r with
      | cons t r => rw [hv] at h; exact absurd h (by simp [finP])
      | nil => exact ⟨l, ns, h2, rfl, rfl⟩
  · rw [if_pos h0] at h; exact absurd h h0
/-! Where nodes begin. -/
def AllS (B : Nat) (ns : List NodeD) : Prop := ∀ y ∈ ns, y.sf ≤ B
theorem modN_mem {f : NodeD → NodeD} : ∀ (n : Nat) (l : List NodeD) (y : NodeD), y ∈ modN f n l → y ∈ l ∨ ∃ x ∈ l, y = f x
  | _, [], y, h => by simp [modN] at h
  | 0, x :: l, y, h => by
    rcases List.mem_cons.1 h with rfl | h
    · exact .inr ⟨x, List.mem_cons_self, rfl⟩
    · exact .inl (List.mem_cons_of_mem _ h)
  | n + 1, x :: l, y, h => by
    rcases List.mem_cons.1 h with rfl | h
    · exact .inl List.mem_cons_self
    · rcases modN_mem n l y h with h | ⟨z, h, e⟩
      · exact .inl (List.mem_cons_of_mem _ h)
      · exact .inr ⟨z, List.mem_cons_of_mem _ h, e⟩
theorem AllS.mod {B n : Nat} {f : NodeD → NodeD} {l : List NodeD} (h : AllS B l) (hf : ∀ x, (f x).sf = x.sf) : AllS B (modN f n l) := fun y hy => by
  rcases modN_mem n l y hy with hy | ⟨x, hx, rfl⟩
  · exact h y hy
  · rw [hf]; exact h x hx
def TBs (B : Nat) (ts : List Tok) : Prop := ∀ t ∈ ts, t.sf ≤ B
theorem TBs.drop {B k : Nat} {ts : List Tok} (h : TBs B ts) : TBs B (ts.drop k) := fun t ht => h t (List.mem_of_mem_drop ht)
def VB (B : Nat) (V : VF) : Prop := ∀ rest last nodes key r l ns, V rest last nodes key = .ok r l ns → TBs B rest → AllS B nodes → AllS B ns
theorem kid_begin {B : Nat} {txt : List UInt8} {V : VF} (hV : VB B V) {obj : Bool} {had had' : List (List UInt8)} {rest r : List Tok} {last l : Sp} {nodes ns : List NodeD} (h : kidM txt V obj had rest last nodes = (.ok r l ns, had')) (hT : TBs B rest) (hn : AllS B nodes) : AllS B ns := by
  unfold kidM at h
  split at h
  · injection h with h _; exact hV _ _ _ _ _ _ _ h hT hn
  · split at h
    · injection h with h _; cases h
    · split at h
      · injection h with h _; cases h
      · split at h
        · injection h with h _; cases h
        · split at h
          · injection h with h _; cases h
          · split at h
            · injection h with h _; cases h
            · injection h with h _
              exact hV _ _ _ _ _ _ _ h (fun t ht => hT t (List.mem_cons_of_mem _ (List.mem_cons_of_mem _ ht))) hn
theorem loop_begin {B : Nat} {txt : List UInt8} {V : VF} (hV : VB B V) (hE : Ext V) {closing : Nat} {obj : Bool} {n : Nat} : ∀ (f : Nat) {had : List (List UInt8)} {rest r : List Tok} {last l : Sp} {nodes ns : List NodeD}, loopM txt V closing obj n f had rest last nodes = .ok r l ns → TBs B rest → AllS B nodes → AllS B ns
  | 0, _, _, _, _, _, _, _, h, _, _ => by cases h
  | f + 1, had, rest, r, last, l, nodes, ns, h, hT, hn => by
    unfold loopM at h
    split at h
    · cases h
    · rename_i r1 l1 ns1 had1 hk
      have h1 := kid_begin hV hk hT hn
      obtain ⟨more, _, h2, h3, ⟨k, hd⟩, _⟩ := kid_ext hE hk
      have hT1 : TBs B r1 := by rw [hd]; exact hT.drop
      split at h
      · cases h
      · rename_i t r'
        have hadd : AllS B (addKid n nodes.length (last.2, t.sf) ns1) := h1.mod fun x => rfl
        split at h
        · injection h with _ _ h; rw [← h]; exact hadd
        · split at h
          · exact loop_begin hV hE f h (fun u hu => hT1 u (List.mem_cons_of_mem _ hu)) hadd
          · cases h
theorem kids_begin {B : Nat} {txt : List UInt8} {V : VF} (hV : VB B V) (hE : Ext V) {closing : Nat} {obj : Bool} {n : Nat} {rest r : List Tok} {last l : Sp} {nodes ns : List NodeD} (h : kidsM txt V closing obj n rest last nodes = .ok r l ns) (hT : TBs B rest) (hn : AllS B nodes) : AllS B ns := by
  unfold kidsM at h
  split at h
  · exact loop_begin hV hE 1 h hT hn
  · split at h
    · injection h with _ _ h; rw [← h]; exact hn
    · exact loop_begin hV hE _ h hT hn
theorem value_begin (B : Nat) (txt : List UInt8) : ∀ lv, VB B (valueM txt lv)
  | 0 => fun rest last nodes key r l ns h _ _ => by
    unfold valueM at h
    split at h <;> cases h
  | lv + 1 => fun rest last nodes key r l ns h hT hn => by
    have ih := value_begin B txt lv
    have hE := value_ext txt lv
    unfold valueM at h
    split at h
    · cases h
    · rename_i hk
      split at h
      · cases h
      · cases rest with
        | nil => exact absurd rfl hk
        | cons t q =>
          simp only [] at h
          obtain ⟨ns0, h1, rfl⟩ := endM_ok h
          have hT1 : TBs B q := fun u hu => hT u (List.mem_cons_of_mem _ hu)
          have h0 : AllS B (nodes ++ [⟨kindOfT t.kind, t.sf, t.st, key, [], []⟩]) := fun y hy => by
            rcases List.mem_append.1 hy with hy | hy
            · exact hn y hy
            · rcases List.mem_singleton.1 hy with rfl
              exact hT t List.mem_cons_self
          refine AllS.mod ?_ (fun x => rfl)
          split at h1
          · exact kids_begin ih hE h1 hT1 h0
          · split at h1
            · exact kids_begin ih hE h1 hT1 h0
            · injection h1 with _ _ h1; rw [← h1]; exact h0
/-! A text in an array, and as a member. -/
def arrT (s : List UInt8) : List UInt8 := [91] ++ (s ++ [93])
def objT (s : List UInt8) : List UInt8 := [123, 34, 97, 34, 58] ++ (s ++ [125])
theorem arr_toks (s : List UInt8) (T : List Tok) (h : toksGo s.length s 0 = (T, none)) : toksGo (arrT s).length (arrT s) 0 = (⟨4, 0, 1⟩ :: (T.map (moveT 1) ++ [⟨5, s.length + 1, s.length + 2⟩]), none) := by
  have ho := toks_off s.length s 0 1
  rw [h] at ho
  simp only [Option.map_none] at ho
  have h2 := toks_sign 93 5 ⟨by decide, by decide, by decide⟩ (fun b => rfl) s.length (s.length + 1) s [] (0 + 1) (Nat.le_refl _) (by rw [ho]) (by simp)
  rw [ho] at h2
  show toksGo (arrT s).length (91 :: (s ++ [93])) 0 = _
  rw [show (arrT s).length = (s.length + 1) + 1 by simp [arrT], toksGo_cons, show tokR (91 :: (s ++ [93])) = (4, 1, 0) from rfl, if_pos rfl, List.drop_succ_cons, List.drop_zero, h2]
  simp only [List.length_nil, toksGo, Prod.mk.injEq, List.cons.injEq, true_and, and_true]
  rw [show 0 + 1 + s.length = s.length + 1 by omega]
theorem obj_toks (s : List UInt8) (T : List Tok) (h : toksGo s.length s 0 = (T, none)) : toksGo (objT s).length (objT s) 0 = (⟨2, 0, 1⟩ :: ⟨8, 1, 4⟩ :: ⟨7, 4, 5⟩ :: (T.map (moveT 5) ++ [⟨3, s.length + 5, s.length + 6⟩]), none) := by
  have ho := toks_off s.length s 0 5
  rw [h] at ho
  simp only [Option.map_none] at ho
  have h2 := toks_sign 125 3 ⟨by decide, by decide, by decide⟩ (fun b => rfl) s.length (s.length + 3) s [] (0 + 5) (Nat.le_refl _) (by rw [ho]) (by simp)
  rw [ho] at h2
  have hq : tokR (34 :: 97 :: 34 :: 58 :: (s ++ [125])) = (8, 3, 0) := by
    have h0 : tokR [34, 97, 34] = (8, 3, 0) := by decide +kernel
    have := tokR_stop 58 ⟨by decide, by decide, by decide⟩ [34, 97, 34] (s ++ [125]) (by simp) (by rw [h0])
    rw [show (34 :: 97 :: 34 :: 58 :: (s ++ [125]) : List UInt8) = [34, 97, 34] ++ 58 :: (s ++ [125]) from rfl, this, h0]
  show toksGo (objT s).length (123 :: 34 :: 97 :: 34 :: 58 :: (s ++ [125])) 0 = _
  rw [show (objT s).length = (s.length + 3) + 1 + 1 + 1 by simp [objT], toksGo_cons, show tokR (123 :: 34 :: 97 :: 34 :: 58 :: (s ++ [125])) = (2, 1, 0) from rfl, if_pos rfl]
  simp only [List.drop_succ_cons, List.drop_zero]
  rw [toksGo_cons, hq, if_pos rfl]
  simp only [List.drop_succ_cons, List.drop_zero]
  rw [toksGo_cons, show tokR (58 :: (s ++ [125])) = (7, 1, 0) from rfl, if_pos rfl]
  simp only [List.drop_succ_cons, List.drop_zero]
  rw [show 0 + 1 + 3 + 1 = 0 + 5 from rfl, h2]
  simp only [List.length_nil, toksGo, Prod.mk.injEq, List.cons.injEq, true_and, and_true]
  rw [show 0 + 5 + s.length = s.length + 5 by omega]
theorem finP_ok {n : Nat} {l : Sp} {ns : List NodeD} : finP n (.ok [] l ns) = (ns, (n : Int), 0) := rfl
theorem value_arr (txt : List UInt8) (lv : Nat) (t : Tok) (r : List Tok) (last : Sp) (nodes : List NodeD) (key : Sp) (hk : t.kind = 4) (hm : nodes.length ≠ 4096) :
    valueM txt (lv + 1) (t :: r) last nodes key = endM nodes.length (kidsM txt (valueM txt lv) 5 false nodes.length r (t.sf, t.st) (nodes ++ [⟨5, t.sf, t.st, key, [], []⟩])) := by
  rw [valueM]
  have h0 : ¬ kindOfT (kindT (t :: r)) = 0 := by show ¬ kindOfT t.kind = 0; rw [hk]; decide
  rw [if_neg h0, if_neg hm]
  simp only [hk, if_true]
  rfl
theorem value_obj (txt : List UInt8) (lv : Nat) (t : Tok) (r : List Tok) (last : Sp) (nodes : List NodeD) (key : Sp) (hk : t.kind = 2) (hm : nodes.length ≠ 4096) :
    valueM txt (lv + 1) (t :: r) last nodes key = endM nodes.length (kidsM txt (valueM txt lv) 3 true nodes.length r (t.sf, t.st) (nodes ++ [⟨6, t.sf, t.st, key, [], []⟩])) := by
  rw [valueM]
  have h0 : ¬ kindOfT (kindT (t :: r)) = 0 := by show ¬ kindOfT t.kind = 0; rw [hk]; decide
  rw [if_neg h0, if_neg hm]
  simp only [hk, if_true, show ¬ (2 = 4) from by decide, if_false]
  rfl
theorem loop_one (txt : List UInt8) (V : VF) (closing : Nat) (obj : Bool) (n f : Nat) (had had1 : List (List UInt8)) (rest : List Tok) (last : Sp) (nodes : List NodeD) (X : JR) (hX : kidM txt V obj had rest last nodes = (X, had1)) :
    (∀ e l ns, e.kind = closing → X = .ok [e] l ns → loopM txt V closing obj n (f + 1) had rest last nodes = .ok [] (e.sf, e.st) (addKid n nodes.length (last.2, e.sf) ns)) ∧
    (∀ a q, X = .bad a q → loopM txt V closing obj n (f + 1) had rest last nodes = .bad a q) := by
  constructor
  · rintro e l ns he rfl
    rw [loopM, hX]
    simp only []
    rw [if_pos he]
  · rintro a q rfl
    rw [loopM, hX]
theorem kidsM_cons (txt : List UInt8) (V : VF) (closing : Nat) (obj : Bool) (n : Nat) (t : Tok) (r : List Tok) (last : Sp) (nodes : List NodeD) (h : t.kind ≠ closing) : kidsM txt V closing obj n (t :: r) last nodes = loopM txt V closing obj n ((t :: r).length + 1) [] (t :: r) last nodes := by
  rw [kidsM, if_neg h]
/-- The whole of an array of one, whose kid is read. -/
theorem arr_value (txt : List UInt8) (lv : Nat) (T : List Tok) (e : Tok) (he : e.kind = 5) (h5 : T.head?.map Tok.kind ≠ some 5) (hne : T ≠ []) (X : JR) (hX : valueM txt lv (T ++ [e]) (0, 1) [⟨5, 0, 1, (0, 0), [], []⟩] (0, 0) = X) :
    (∀ l ns, X = .ok [e] l ([⟨5, 0, 1, (0, 0), [], []⟩] ++ ns) → ∃ x, valueM txt (lv + 1) (⟨4, 0, 1⟩ :: (T ++ [e])) (0, 0) [] (0, 0) = .ok [] (e.sf, e.st) (x :: ns) ∧ x.kind = 5) ∧
    (∀ q, X = .bad q 5 → valueM txt (lv + 1) (⟨4, 0, 1⟩ :: (T ++ [e])) (0, 0) [] (0, 0) = .bad q 5) := by
  obtain ⟨t, T, rfl⟩ : ∃ t T', T = t :: T' := by cases T with | nil => exact absurd rfl hne | cons t T => exact ⟨t, T, rfl⟩
  have ht5 : t.kind ≠ 5 := fun h => h5 (by simp [h])
  rw [value_arr _ _ _ _ _ _ _ rfl (by simp)]
  rw [List.cons_append] at hX ⊢
  rw [kidsM_cons _ _ _ _ _ _ _ _ _ ht5]
  have hk : kidM txt (valueM txt lv) false [] (t :: (T ++ [e])) (0, 1) [⟨5, 0, 1, (0, 0), [], []⟩] = (X, []) := by unfold kidM; rw [if_pos rfl, hX]
  obtain ⟨L1, L2⟩ := loop_one txt (valueM txt lv) 5 false 0 (t :: (T ++ [e])).length [] [] (t :: (T ++ [e])) (0, 1) [⟨5, 0, 1, (0, 0), [], []⟩] X hk
  constructor
  · intro l ns h
    refine ⟨⟨5, 0, e.st, (0, 0), [1], [(1, e.sf)]⟩, ?_, rfl⟩
    show endM 0 (loopM txt (valueM txt lv) 5 false 0 _ [] _ (0, 1) [⟨5, 0, 1, (0, 0), [], []⟩]) = _
    rw [L1 e l _ he h]
    rfl
  · intro q h
    show endM 0 (loopM txt (valueM txt lv) 5 false 0 _ [] _ (0, 1) [⟨5, 0, 1, (0, 0), [], []⟩]) = _
    rw [L2 q 5 h]
    rfl
/-- The whole of an object of one. -/
theorem obj_value (txt : List UInt8) (lv : Nat) (T : List Tok) (e : Tok) (he : e.kind = 3) (X : JR) (hX : valueM txt lv (T ++ [e]) (4, 5) [⟨6, 0, 1, (0, 0), [], []⟩] (1, 4) = X) :
    (∀ l ns, X = .ok [e] l ([⟨6, 0, 1, (0, 0), [], []⟩] ++ ns) → ∃ x, valueM txt (lv + 1) (⟨2, 0, 1⟩ :: ⟨8, 1, 4⟩ :: ⟨7, 4, 5⟩ :: (T ++ [e])) (0, 0) [] (0, 0) = .ok [] (e.sf, e.st) (x :: ns) ∧ x.kind = 6) ∧
    (∀ q, X = .bad q 5 → valueM txt (lv + 1) (⟨2, 0, 1⟩ :: ⟨8, 1, 4⟩ :: ⟨7, 4, 5⟩ :: (T ++ [e])) (0, 0) [] (0, 0) = .bad q 5) := by
  rw [value_obj _ _ _ _ _ _ _ rfl (by simp), kidsM_cons _ _ _ _ _ _ _ _ _ (by decide)]
  have hk : ∃ h1, kidM txt (valueM txt lv) true [] (⟨8, 1, 4⟩ :: ⟨7, 4, 5⟩ :: (T ++ [e])) (0, 1) [⟨6, 0, 1, (0, 0), [], []⟩] = (X, h1) := by
    refine ⟨[(unqL ((txt.drop 1).take (4 - 1))).1], ?_⟩
    unfold kidM
    rw [if_neg (by decide)]
    simp only []
    rw [if_neg (by decide), if_neg (by simp), if_neg (by decide), hX]
  obtain ⟨h1, hk⟩ := hk
  obtain ⟨L1, L2⟩ := loop_one txt (valueM txt lv) 3 true 0 (⟨8, 1, 4⟩ :: ⟨7, 4, 5⟩ :: (T ++ [e])).length [] h1 (⟨8, 1, 4⟩ :: ⟨7, 4, 5⟩ :: (T ++ [e])) (0, 1) [⟨6, 0, 1, (0, 0), [], []⟩] X hk
  constructor
  · intro l ns h
    refine ⟨⟨6, 0, e.st, (0, 0), [1], [(1, e.sf)]⟩, ?_, rfl⟩
    show endM 0 (loopM txt (valueM txt lv) 3 true 0 _ [] _ (0, 1) [⟨6, 0, 1, (0, 0), [], []⟩]) = _
    rw [L1 e l _ he h]
    rfl
  · intro q h
    show endM 0 (loopM txt (valueM txt lv) 3 true 0 _ [] _ (0, 1) [⟨6, 0, 1, (0, 0), [], []⟩]) = _
    rw [L2 q 5 h]
    rfl
/-- A text in an array, and as a member: the same tree, moved; or both are too deep. -/
theorem nests (s : List UInt8) (hs : s.length ≤ 2048) (ns : List NodeD) (n : Int) (h : parseJ s = (ns, n, 0)) :
    (∃ x mc xb mb nc nb, parseJ (arrT s) = (x :: mc, nc, 0) ∧ x.kind = 5 ∧ parseJ (objT s) = (xb :: mb, nb, 0) ∧ xb.kind = 6 ∧ All2 (NR 1 0 1 0) ns mc ∧ All2 (NR 5 0 1 0) ns mb ∧ AllS s.length ns) ∨
    (∃ q q', parseJ (arrT s) = ([], (q : Int), 5) ∧ 1 ≤ q ∧ parseJ (objT s) = ([], (q' : Int), 5) ∧ 5 ≤ q') := by
  obtain ⟨_, T, l, ns', hT, hv, hp⟩ := parse_ok (s := s) (by rw [h])
  rw [h] at hp
  injection hp with e1 e2
  subst e1
  have hT1 : (toksGo s.length s 0).1 = T := by rw [hT]
  have hin : ∀ t ∈ nblk T, t.sf ≤ t.st ∧ t.st ≤ s.length := fun t ht => by
    have := toks_in s.length s 0 t (by rw [hT1]; exact (List.mem_filter.1 ht).1)
    omega
  have hcnt : (nblk T).length ≤ s.length := by
    have := toks_cnt s.length s 0
    rw [hT1] at this
    exact Nat.le_trans (List.length_filter_le _ _) this
  obtain ⟨more, hm, hm1, hm2, _⟩ := value_ext s 32 _ _ _ _ _ _ _ hv
  rw [List.nil_append] at hm
  subst hm
  simp only [List.length_nil] at hm2
  have hbg := value_begin s.length s 32 _ _ _ _ _ _ _ hv (fun t ht => by have := hin t ht; omega) (fun y hy => by cases hy)
  -- the two readings
  have pa := parse_toks (arrT s) _ (by simp [arrT]; omega) (arr_toks s T hT)
  have pb := parse_toks (objT s) _ (by simp [objT]; omega) (obj_toks s T hT)
  have na : nblk (⟨4, 0, 1⟩ :: (T.map (moveT 1) ++ [⟨5, s.length + 1, s.length + 2⟩])) = ⟨4, 0, 1⟩ :: ((nblk T).map (moveT 1) ++ [⟨5, s.length + 1, s.length + 2⟩]) := by
    rw [← nblk_move]; show _ :: nblk (_ ++ _) = _; rw [nblk_app]; rfl
  have nb : nblk (⟨2, 0, 1⟩ :: ⟨8, 1, 4⟩ :: ⟨7, 4, 5⟩ :: (T.map (moveT 5) ++ [⟨3, s.length + 5, s.length + 6⟩])) = ⟨2, 0, 1⟩ :: ⟨8, 1, 4⟩ :: ⟨7, 4, 5⟩ :: ((nblk T).map (moveT 5) ++ [⟨3, s.length + 5, s.length + 6⟩]) := by
    rw [← nblk_move]; show _ :: _ :: _ :: nblk (_ ++ _) = _; rw [nblk_app]; rfl
  rw [na] at pa
  rw [nb] at pb
  obtain ⟨U, hU⟩ : ∃ U, nblk T = U := ⟨_, rfl⟩
  rw [hU] at hv hin hcnt hm2 pa pb
  have tra := tr_of [91] [93] s U hin
  have trb := tr_of [123, 34, 97, 34, 58] [125] s U hin
  have tab := tr_gen [91] [93] [123, 34, 97, 34, 58] [125] s U hin
  have tba := tr_gen [123, 34, 97, 34, 58] [125] [91] [93] s U hin
  rw [← List.append_nil U] at hv
  have va := value_move s (arrT s) 1 0 1 0 True 32 31 (fun _ => trivial) U [] (0, 0) [] (0, 0) l ns hv (U.map (moveT 1)) [⟨5, s.length + 1, s.length + 2⟩] (0, 1) [⟨5, 0, 1, (0, 0), [], []⟩] (0, 0) tra rfl (by simp; omega)
  have vb := value_move s (objT s) 5 0 1 0 True 32 31 (fun _ => trivial) U [] (0, 0) [] (0, 0) l ns hv (U.map (moveT 5)) [⟨3, s.length + 5, s.length + 6⟩] (4, 5) [⟨6, 0, 1, (0, 0), [], []⟩] (1, 4) trb rfl (by simp; omega)
  have hUne : U.map (moveT 1) ≠ [] := by
    intro h0
    have := congrArg List.length h0
    simp only [List.length_map, List.length_nil] at this
    omega
  have h5 : (U.map (moveT 1)).head?.map Tok.kind ≠ some 5 := by
    cases U with
    | nil => simp
    | cons t U =>
      intro h0
      have h0 : t.kind = 5 := by simpa [moveT] using h0
      rw [List.append_nil] at hv
      unfold valueM at hv
      rw [if_pos (show kindOfT (kindT (t :: U)) = 0 by show kindOfT t.kind = 0; rw [h0]; rfl)] at hv
      cases hv
  obtain ⟨A1, A2⟩ := arr_value (arrT s) 31 (U.map (moveT 1)) ⟨5, s.length + 1, s.length + 2⟩ rfl h5 hUne _ rfl
  obtain ⟨B1, B2⟩ := obj_value (objT s) 31 (U.map (moveT 5)) ⟨3, s.length + 5, s.length + 6⟩ rfl _ rfl
  have hml : ∀ {a b m n : Nat} {l1 l2 : List NodeD}, All2 (NR a b m n) l1 l2 → l2.length = l1.length := fun h => h.len.symm
  rcases va with ⟨la, ma, ma', ea, fa, ra, _⟩ | ⟨_, q, fa, hq⟩
  · rw [List.nil_append] at ea
    subst ea
    obtain ⟨x, hx, hxk⟩ := A1 _ _ fa
    rcases vb with ⟨lb, mb, mb', eb, fb, rb, _⟩ | ⟨_, q, fb, hq⟩
    · rw [List.nil_append] at eb
      subst eb
      obtain ⟨y, hy, hyk⟩ := B1 _ _ fb
      exact .inl ⟨x, ma', y, mb', _, _, by rw [pa, hx]; rfl, hxk, by rw [pb, hy]; rfl, hyk, ra, rb, hbg⟩
    · exfalso
      have := value_move (arrT s) (objT s) 5 1 0 0 False 31 31 (fun h => by omega) (U.map (moveT 1)) [⟨5, s.length + 1, s.length + 2⟩] (0, 1) [⟨5, 0, 1, (0, 0), [], []⟩] (0, 0) _ _ fa (U.map (moveT 5)) [⟨3, s.length + 5, s.length + 6⟩] (4, 5) [⟨6, 0, 1, (0, 0), [], []⟩] (1, 4) tab rfl (by simp [hml ra]; omega)
      rw [fb] at this
      rcases this with ⟨_, _, _, _, h, _⟩ | ⟨h, _⟩
      · cases h
      · exact h
  · rcases vb with ⟨lb, mb, mb', eb, fb, rb, _⟩ | ⟨_, q', fb, hq'⟩
    · exfalso
      rw [List.nil_append] at eb
      subst eb
      have := value_move (objT s) (arrT s) 1 5 0 0 False 31 31 (fun h => by omega) (U.map (moveT 5)) [⟨3, s.length + 5, s.length + 6⟩] (4, 5) [⟨6, 0, 1, (0, 0), [], []⟩] (1, 4) _ _ fb (U.map (moveT 1)) [⟨5, s.length + 1, s.length + 2⟩] (0, 1) [⟨5, 0, 1, (0, 0), [], []⟩] (0, 0) tba rfl (by simp [hml rb]; omega)
      rw [fa] at this
      rcases this with ⟨_, _, _, _, h, _⟩ | ⟨h, _⟩
      · cases h
      · exact h
    · exact .inr ⟨q, q', by rw [pa, A2 q fa]; rfl, by omega, by rw [pb, B2 q' fb]; rfl, by omega⟩
end Go.Proofs.YtmghlaajocgoaaaGreatDoor

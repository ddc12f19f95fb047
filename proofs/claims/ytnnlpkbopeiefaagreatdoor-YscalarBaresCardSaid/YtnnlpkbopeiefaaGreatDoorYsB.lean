import Derived.Test.YtnnlpkbopeiefaaGreatDoorYsA
import Derived.Test.YtnnlpkbopeiefaaGreatDoorRdA
import Derived.Test.YtnnlpkbopeiefaaGreatDoorVe
/-! PLAIN: what Compact writes, made safe, is read by the parser of json as the tree. -/
namespace Go.Proofs.YtnnlpkbopeiefaaGreatDoor
set_option linter.unusedSimpArgs false
set_option linter.unusedVariables false
open Go.Lib
/- The text: a string is qS of it. -/
mutual
def cmpS : VT → Stp
  | .mk k s ks l => if k = 1 then nullL else if k = 4 then qS s else if k = 5 then 91 :: (itS l ++ [93]) else if k = 6 then 123 :: (mbS l ks ++ [125]) else s
def itS : List VT → Stp
  | [] => []
  | x :: l => cmpS x ++ itT l
def itT : List VT → Stp
  | [] => []
  | x :: l => 44 :: (cmpS x ++ itT l)
def mbS : List VT → List Stp → Stp
  | [], _ => []
  | x :: l, ks => qS (ks.headD []) ++ 58 :: (cmpS x ++ mbT l ks.tail)
def mbT : List VT → List Stp → Stp
  | [], _ => []
  | x :: l, ks => 44 :: (qS (ks.headD []) ++ 58 :: (cmpS x ++ mbT l ks.tail))
end
/-! Numbers. -/
theorem digits_itoa (n : Int) : ∀ c ∈ itoa n, isDig c = true ∨ c = 45 := by
  intro c hc
  unfold itoa at hc
  split at hc
  · rcases List.mem_cons.1 hc with h | h
    · exact .inr h
    · exact .inl (List.all_eq_true.1 (decDigits_dig _).1 c h)
  · exact .inl (List.all_eq_true.1 (decDigits_dig _).1 c hc)
theorem textL_chars (n : Num) : ∀ c ∈ textL n, isDig c = true ∨ c = 45 ∨ c = 101 := by
  intro c hc
  unfold textL at hc
  split at hc
  · cases hc
  · rename_i hr
    split at hc
    · simp only [List.mem_singleton] at hc; subst hc; exact .inl (by decide)
    · rename_i hd
      have hp : rightP n := by
        have : rightB n = true := by simpa using hr
        unfold rightB at this
        rcases of_decide_eq_true this with h | h
        · rw [h] at hd; exact absurd rfl hd
        · exact h
      have hall := (allDig_ne hp.1).2
      rcases List.mem_append.1 hc with h | h
      · split at h
        · simp only [List.mem_singleton] at h; exact .inr (.inl h)
        · cases h
      · rcases List.mem_append.1 h with h | h
        · exact .inl (List.all_eq_true.1 hall c h)
        · split at h
          · rcases List.mem_cons.1 h with h | h
            · exact .inr (.inr h)
            · rcases digits_itoa _ c h with h | h
              · exact .inl h
              · exact .inr (.inl h)
          · cases h
theorem textL_head (n : Num) (hne : textL n ≠ []) : ∃ c r, textL n = c :: r ∧ (c = 45 ∨ isDig c = true) := by
  unfold textL at hne ⊢
  split
  · rename_i h; rw [if_pos h] at hne; exact absurd rfl hne
  · rename_i hr
    split
    · exact ⟨48, [], rfl, .inr (by decide)⟩
    · rename_i hd
      have hp : rightP n := by
        have : rightB n = true := by simpa using hr
        unfold rightB at this
        rcases of_decide_eq_true this with h | h
        · rw [h] at hd; exact absurd rfl hd
        · exact h
      have hall := (allDig_ne hp.1).2
      cases hn : n.neg with
      | true => exact ⟨45, _, by rw [if_pos rfl]; rfl, .inl rfl⟩
      | false =>
        cases hg : n.dig with
        | nil => exact absurd hg hd
        | cons d r => exact ⟨d, _, by rw [if_neg (by simp)]; rfl, .inr (List.all_eq_true.1 hall d (by rw [hg]; simp))⟩
theorem num_text {s : Stp} (h : decB s = true) : (parseL s).2 = 0 ∧ textL (parseL s).1 = s ∧ s ≠ [] := by
  unfold decB at h
  simp only [Bool.and_eq_true, decide_eq_true_eq] at h
  refine ⟨h.1, h.2, ?_⟩
  rintro rfl
  exact absurd h.1 (by decide +kernel)
theorem num_chars {s : Stp} (h : decB s = true) : (∀ c ∈ s, isDig c = true ∨ c = 45 ∨ c = 101) ∧ ∃ c r, s = c :: r ∧ (c = 45 ∨ isDig c = true) := by
  obtain ⟨_, h2, h3⟩ := num_text h
  rw [← h2] at h3 ⊢
  rw [h2] at h3 ⊢
  refine ⟨fun c hc => textL_chars _ c (by rw [h2]; exact hc), ?_⟩
  obtain ⟨c, r, e, hc⟩ := textL_head (parseL s).1 (by rw [h2]; exact h3)
  exact ⟨c, r, by rw [← e, h2], hc⟩
theorem sig_num : ∀ n : Fin 256, (UInt8.ofNat n.val = 45 ∨ isDig (UInt8.ofNat n.val) = true) → signI (UInt8.ofNat n.val) = none ∧ isBlank (UInt8.ofNat n.val) = false ∧ UInt8.ofNat n.val ≠ 34 := by decide +kernel
theorem sig_num8 {c : UInt8} (h : c = 45 ∨ isDig c = true) : signI c = none ∧ isBlank c = false ∧ c ≠ 34 := by
  have := sig_num ⟨c.toNat, c.toNat_lt⟩
  simp only [UInt8.ofNat_toNat] at this
  exact this h
theorem num_tok {s : Stp} (h : decB s = true) : tokR s = (9, s.length, 0) := by
  obtain ⟨h1, h2, h3⟩ := num_text h
  obtain ⟨hall, c, r, rfl, hc⟩ := num_chars h
  obtain ⟨s1, s2, s3⟩ := sig_num8 hc
  have hr : runL isNumB (c :: r) = (c :: r).length := runL_full _ _ (fun x hx => by
    unfold isNumB
    rcases hall x hx with h | h | h <;> simp [h])
  unfold tokR
  simp only [s1]
  rw [if_neg (by simp [s2]), if_neg s3, if_pos hc, hr, List.take_length, if_pos h1]
theorem tok_qS (s : Stp) (hv : validD s = true) : tokR (qS s) = (8, (qS s).length, 0) := by
  have h := qS_reads s [] [] hv
  simp only [List.nil_append, List.append_nil, List.length_nil, Nat.zero_add] at h
  rw [show ((0 : Nat) : Int) = 0 from rfl] at h
  have e : qS s = 34 :: (safeGo false (qBs s) ++ [34]) := rfl
  rw [e] at h ⊢
  unfold tokR
  simp only [show signI 34 = none from rfl]
  rw [if_neg (by decide), if_pos trivial, if_pos (by rw [h]), h, Int.toNat_natCast]
/-! Tokens of texts. -/
abbrev tkL (s : Stp) (i : Nat) : List Tok := (toksGo s.length s i).1
def TkOk (s : Stp) : Prop := (∀ i, (toksGo s.length s i).2 = none) ∧ ∀ i, ∀ t ∈ tkL s i, t.kind ≠ 1
theorem tk_one {s : Stp} {k : Nat} (hne : s ≠ []) (h : tokR s = (k, s.length, 0)) (hk : k ≠ 1) : TkOk s ∧ ∀ i, tkL s i = [⟨k, i, i + s.length⟩] := by
  have key : ∀ i, toksGo s.length s i = ([⟨k, i, i + s.length⟩], none) := by
    intro i
    cases s with
    | nil => exact absurd rfl hne
    | cons c r =>
      rw [show (c :: r).length = r.length + 1 from rfl, toksGo_cons, h, if_pos rfl]
      simp only []
      rw [List.drop_length, toksGo_nil]
      rfl
  refine ⟨⟨fun i => by rw [key], fun i t ht => ?_⟩, fun i => by unfold tkL; rw [key]⟩
  unfold tkL at ht
  rw [key] at ht
  simp only [List.mem_singleton] at ht
  subst ht
  exact hk
theorem tk_sign (d : UInt8) (k : Nat) (hd : StopB d) (hk : ∀ b, tokR (d :: b) = (k, 1, 0)) (h1 : k ≠ 1) {a b : Stp} (ha : TkOk a) (hb : TkOk b) : TkOk (a ++ d :: b) ∧ ∀ i, tkL (a ++ d :: b) i = tkL a i ++ ⟨k, i + a.length, i + a.length + 1⟩ :: tkL b (i + a.length + 1) := by
  have key : ∀ i, toksGo (a ++ d :: b).length (a ++ d :: b) i = _ := fun i => toks_sign d k hd hk a.length (a ++ d :: b).length a b i (Nat.le_refl _) (ha.1 i) (by simp; omega)
  refine ⟨⟨fun i => by rw [key]; exact hb.1 _, fun i t ht => ?_⟩, fun i => by unfold tkL; rw [key]⟩
  unfold tkL at ht
  rw [key] at ht
  simp only [List.mem_append, List.mem_cons] at ht
  rcases ht with ht | rfl | ht
  · exact ha.2 i t ht
  · exact h1
  · exact hb.2 _ t ht
theorem tk_nil : TkOk [] ∧ ∀ i, tkL [] i = [] := ⟨⟨fun i => rfl, fun i t ht => by cases ht⟩, fun i => rfl⟩
theorem stop44 : StopB 44 := ⟨by decide, by decide, by decide⟩
theorem stop58 : StopB 58 := ⟨by decide, by decide, by decide⟩
theorem stop93 : StopB 93 := ⟨by decide, by decide, by decide⟩
theorem stop125 : StopB 125 := ⟨by decide, by decide, by decide⟩
theorem stop91 : StopB 91 := ⟨by decide, by decide, by decide⟩
theorem stop123 : StopB 123 := ⟨by decide, by decide, by decide⟩
/-- A text lies in another, at a byte. -/
def SubT (txt : Stp) (i : Nat) (s : Stp) : Prop := (txt.drop i).take s.length = s
theorem SubT.app {txt : Stp} {i : Nat} {a b : Stp} (h : SubT txt i (a ++ b)) : SubT txt i a ∧ SubT txt (i + a.length) b := by
  unfold SubT at *
  constructor
  · have := congrArg (List.take a.length) h
    rw [List.take_take, List.length_append, Nat.min_eq_left (by omega), List.take_left] at this
    exact this
  · have := congrArg (List.drop a.length) h
    rw [List.drop_take, List.length_append, List.drop_drop, List.drop_left, show a.length + b.length - a.length = b.length by omega] at this
    exact this
theorem SubT.cons {txt : Stp} {i : Nat} {c : UInt8} {b : Stp} (h : SubT txt i (c :: b)) : SubT txt (i + 1) b := (SubT.app (a := [c]) (b := b) h).2
theorem SubT.slT {txt : Stp} {i : Nat} {s : Stp} (h : SubT txt i s) (hne : s ≠ []) : slT txt (i, i + s.length) = s := by
  unfold SubT at h
  have hl := congrArg List.length h
  rw [List.length_take, List.length_drop] at hl
  have hp := List.length_pos_iff.2 hne
  unfold Go.Proofs.YtnnlpkbopeiefaaGreatDoor.slT
  simp only []
  rw [if_neg (by omega), List.drop_take, show i + s.length - i = s.length by omega]
  exact h
/-- Agreement of two rows of nodes on a stretch. -/
def Agr (a b : Nat) (ns ns' : List NodeD) : Prop := ∀ j y, a ≤ j → j < b → ns[j]? = some y → ns'[j]? = some y
/-- A tree is parsed from its text, wherever it stands. -/
structure PsV (t : VT) : Prop where
  ok : TkOk (cmpS t)
  ne : cmpS t ≠ []
  hd : ∀ i, ∃ q r, tkL (cmpS t) i = q :: r ∧ q.kind ≠ 5 ∧ q.kind ≠ 3
  go : ∀ (txt : Stp) (lv : Nat) (i : Nat) (r : List Tok) (last : Sp) (nodes : List NodeD) (key : Sp), t.depth ≤ lv → nodes.length + t.size ≤ 4096 → SubT txt i (cmpS t) →
    ∃ more l1, valueM txt lv (tkL (cmpS t) i ++ r) last nodes key = .ok r (l1, i + (cmpS t).length) (nodes ++ more) ∧ more.length = t.size ∧ (∃ x, (nodes ++ more)[nodes.length]? = some x ∧ x.key = key) ∧
      ∀ ns', Agr nodes.length (nodes.length + t.size) (nodes ++ more) ns' → nodeV txt ns' lv nodes.length = t
/-- One node alone. -/
theorem ps_leaf {t : VT} {k : Nat} (hk : k ≠ 1 ∧ k ≠ 2 ∧ k ≠ 3 ∧ k ≠ 4 ∧ k ≠ 5) (hko : kindOfT k ≠ 0) (hne : cmpS t ≠ []) (htk : tokR (cmpS t) = (k, (cmpS t).length, 0))
    (hv : ∃ kd s, t = .mk kd s [] [] ∧ (kindOfT k : Int) = kd ∧ kindOfT k ≠ 6 ∧ textV (kindOfT k) (cmpS t) = s) : PsV t := by
  obtain ⟨h1, h2⟩ := tk_one hne htk hk.1
  refine ⟨h1, hne, fun i => ⟨_, _, h2 i, hk.2.2.2.2, hk.2.2.1⟩, ?_⟩
  intro txt lv i r last nodes key hd hsz hsub
  have hsize : t.size = 1 := by obtain ⟨kd, s, rfl, _⟩ := hv; rfl
  have hdp : t.depth = 1 := by obtain ⟨kd, s, rfl, _⟩ := hv; rfl
  obtain ⟨lv, rfl⟩ : ∃ m, lv = m + 1 := ⟨lv - 1, by omega⟩
  rw [h2 i, hsize]
  refine ⟨[⟨kindOfT k, i, i + (cmpS t).length, key, [], []⟩], i, ?_, rfl, ⟨_, by rw [List.getElem?_append_right (Nat.le_refl _), Nat.sub_self]; rfl, rfl⟩, ?_⟩
  · rw [List.singleton_append, valueM]
    rw [if_neg (show ¬ kindOfT (kindT (⟨k, i, i + (cmpS t).length⟩ :: r)) = 0 from hko), if_neg (by omega)]
    simp only []
    rw [if_neg hk.2.2.2.1, if_neg hk.2.1]
    unfold endM setTo
    simp only []
    have : modN (fun x => { x with st := i + (cmpS t).length }) nodes.length (nodes ++ [⟨kindOfT k, i, i + (cmpS t).length, key, [], []⟩]) = nodes ++ [⟨kindOfT k, i, i + (cmpS t).length, key, [], []⟩] := modN_mid _ nodes _ []
    rw [this]
  · intro ns' ha
    have hx := ha nodes.length _ (Nat.le_refl _) (by omega) (by rw [List.getElem?_append_right (Nat.le_refl _), Nat.sub_self]; rfl)
    rw [nodeV, hx]
    simp only []
    obtain ⟨kd, s, ht, e1, e2, e3⟩ := hv
    rw [hsub.slT hne, e1, e3, if_neg e2, ht]
    rfl
theorem ps_null (s : Stp) (hs : s = []) : PsV (.mk 1 s [] []) := by
  subst hs
  have e : cmpS (.mk 1 [] [] []) = nullL := by rw [cmpS, if_pos rfl]
  exact ps_leaf (k := 12) (by decide) (by decide) (by rw [e]; decide) (by rw [e]; decide +kernel) ⟨1, [], rfl, by decide, by decide, rfl⟩
theorem ps_bool (s : Stp) (hs : s = trueL ∨ s = falseL) : PsV (.mk 2 s [] []) := by
  have e : cmpS (.mk 2 s [] []) = s := by rw [cmpS]; simp
  rcases hs with rfl | rfl
  · exact ps_leaf (k := 10) (by decide) (by decide) (by rw [e]; decide) (by rw [e]; decide +kernel) ⟨2, _, rfl, by decide, by decide, by rw [e]; rfl⟩
  · exact ps_leaf (k := 11) (by decide) (by decide) (by rw [e]; decide) (by rw [e]; decide +kernel) ⟨2, _, rfl, by decide, by decide, by rw [e]; rfl⟩
theorem ps_num (s : Stp) (hs : decB s = true) : PsV (.mk 3 s [] []) := by
  have e : cmpS (.mk 3 s [] []) = s := by rw [cmpS]; simp
  obtain ⟨h1, h2, h3⟩ := num_text hs
  exact ps_leaf (k := 9) (by decide) (by decide) (by rw [e]; exact h3) (by rw [e]; exact num_tok hs) ⟨3, _, rfl, by decide, by decide, by rw [e]; exact h2⟩
theorem ps_str (s : Stp) (hs : validD s = true) : PsV (.mk 4 s [] []) := by
  have e : cmpS (.mk 4 s [] []) = qS s := by rw [cmpS]; simp
  exact ps_leaf (k := 8) (by decide) (by decide) (by rw [e]; unfold qS; simp) (by rw [e]; exact tok_qS s hs) ⟨4, _, rfl, by decide, by decide, by rw [e]; show (unqL (qS s)).1 = s; rw [unq_safe s hs]⟩
theorem agr_mod {f : NodeD → NodeD} {n a b : Nat} {ns ns' : List NodeD} (hn : n < a) (h : Agr a b (modN f n ns) ns') : Agr a b ns ns' := fun j y h1 h2 h3 => h j y h1 h2 (by rw [modN_at, if_neg (by omega)]; exact h3)
theorem Agr.sub {a b a' b' : Nat} {ns ns' : List NodeD} (h : Agr a b ns ns') (h1 : a ≤ a') (h2 : b' ≤ b) : Agr a' b' ns ns' := fun j y h3 h4 => h j y (by omega) (by omega)
theorem Agr.app {a b : Nat} {ns more ns' : List NodeD} (h : Agr a b (ns ++ more) ns') (hb : b ≤ ns.length) : Agr a b ns ns' := fun j y h3 h4 h5 => h j y h3 h4 (by rw [List.getElem?_append_left (by omega)]; exact h5)
/-- What V leaves is more of nodes, and not too much. -/
theorem more_ext {txt : Stp} {lv : Nat} {rest r : List Tok} {last l : Sp} {nodes more : List NodeD} {key : Sp} (h : valueM txt lv rest last nodes key = .ok r l (nodes ++ more)) : 1 ≤ more.length ∧ Lim more.length more := by
  obtain ⟨m2, e, h1, _, _, h2⟩ := value_ext txt lv _ _ _ _ _ _ _ h
  obtain rfl := List.append_cancel_left e
  exact ⟨h1, h2⟩
theorem addKid_len (n k : Nat) (pc : Sp) (l : List NodeD) : (addKid n k pc l).length = l.length := modN_len _ _ _
abbrev rowT (x : VT) (l : List VT) : Stp := cmpS x ++ (itT l ++ [93])
theorem it_go : ∀ (l : List VT) (x : VT), PsV x → (∀ y ∈ l, PsV y) → TkOk (rowT x l) ∧ (∀ i, (∃ q r, tkL (rowT x l) i = q :: r ∧ q.kind ≠ 5 ∧ q.kind ≠ 3) ∧ l.length < (tkL (rowT x l) i).length) ∧
    ∀ (txt : Stp) (lv i : Nat) (r : List Tok) (f : Nat) (had : List Stp) (last : Sp) (pre : List NodeD) (x0 : NodeD) (post nodes : List NodeD) (done : List VT),
      x.depth ≤ lv → depths l ≤ lv → nodes.length + (x.size + sizes l) ≤ 4096 → SubT txt i (rowT x l) → l.length < f → Mid pre x0 post nodes → (∀ ns', Agr (pre.length + 1) nodes.length nodes ns' → x0.kids.map (nodeV txt ns' lv) = done) →
      ∃ l1 ns x' post', loopM txt (valueM txt lv) 5 false pre.length f had (tkL (rowT x l) i ++ r) last nodes = .ok r (l1, i + (rowT x l).length) ns ∧ Mid pre x' post' ns ∧ x'.kind = x0.kind ∧ x'.sf = x0.sf ∧ x'.key = x0.key ∧ ns.length = nodes.length + (x.size + sizes l) ∧
        (∀ ns', Agr (pre.length + 1) ns.length ns ns' → x'.kids.map (nodeV txt ns' lv) = done ++ (x :: l)) := by
  intro l
  induction l with
  | nil =>
    intro x hx _
    obtain ⟨k1, k2⟩ := tk_sign 93 5 stop93 (fun b => rfl) (by decide) hx.ok tk_nil.1
    have e : rowT x [] = cmpS x ++ 93 :: [] := rfl
    rw [e]
    refine ⟨k1, fun i => ?_, ?_⟩
    · obtain ⟨q, r, h1, h2, h3⟩ := hx.hd i
      rw [k2, h1]
      exact ⟨⟨q, _, rfl, h2, h3⟩, by simp⟩
    · intro txt lv i r f had last pre x0 post nodes done hd _ hsz hsub hf hm hdone
      obtain ⟨s1, s2⟩ := hsub.app
      obtain ⟨f, rfl⟩ : ∃ g, f = g + 1 := ⟨f - 1, by omega⟩
      rw [sizes] at hsz
      obtain ⟨more, l1, h1, h2, ⟨y, h3, h4⟩, h5⟩ := hx.go txt lv i (⟨5, i + (cmpS x).length, i + (cmpS x).length + 1⟩ :: r) last nodes (0, 0) hd (by omega) s1
      obtain ⟨h6, h7⟩ := more_ext h1
      have hml := mid_len hm
      have ha := hm.add h7 h6 nodes.length (last.2, i + (cmpS x).length)
      refine ⟨i + (cmpS x).length, _, _, _, ?_, ha, rfl, rfl, rfl, ?_, ?_⟩
      · rw [k2, tk_nil.2, List.append_assoc, List.cons_append, List.nil_append, loopM]
        have hk : kidM txt (valueM txt lv) false had (tkL (cmpS x) i ++ ⟨5, i + (cmpS x).length, i + (cmpS x).length + 1⟩ :: r) last nodes = (.ok (⟨5, i + (cmpS x).length, i + (cmpS x).length + 1⟩ :: r) (l1, i + (cmpS x).length) (nodes ++ more), had) := by
          unfold kidM
          rw [if_pos rfl, h1]
        rw [hk]
        simp only [if_true]
        rw [List.length_append]
        rfl
      · rw [addKid_len, List.length_append, h2, sizes]; omega
      · intro ns' hag
        rw [addKid_len] at hag
        have hag2 := agr_mod (Nat.lt_succ_self _) hag
        simp only [List.map_append, List.map_cons, List.map_nil]
        rw [hdone ns' ((hag2.sub (Nat.le_refl _) (by rw [List.length_append]; omega)).app (Nat.le_refl _)), h5 ns' (hag2.sub (by omega) (by rw [List.length_append]; omega))]
  | cons y l ih =>
    intro x hx hl
    obtain ⟨i1, i2, i3⟩ := ih y (hl y List.mem_cons_self) (fun z hz => hl z (List.mem_cons_of_mem _ hz))
    obtain ⟨k1, k2⟩ := tk_sign 44 6 stop44 (fun b => rfl) (by decide) hx.ok i1
    have e : rowT x (y :: l) = cmpS x ++ 44 :: rowT y l := by
      show cmpS x ++ (itT (y :: l) ++ [93]) = _
      rw [itT]
      simp
    rw [e]
    refine ⟨k1, fun i => ?_, ?_⟩
    · obtain ⟨q, r, h1, h2, h3⟩ := hx.hd i
      have h4 := (i2 (i + (cmpS x).length + 1)).2
      rw [k2, h1]
      refine ⟨⟨q, _, rfl, h2, h3⟩, ?_⟩
      simp only [List.length_append, List.length_cons]
      omega
    · intro txt lv i r f had last pre x0 post nodes done hd hds hsz hsub hf hm hdone
      obtain ⟨s1, s2⟩ := hsub.app
      have s3 := s2.cons
      obtain ⟨f, rfl⟩ : ∃ g, f = g + 1 := ⟨f - 1, by omega⟩
      rw [sizes] at hsz
      rw [depths] at hds
      obtain ⟨more, l1, h1, h2, ⟨z, h3, h4⟩, h5⟩ := hx.go txt lv i (⟨6, i + (cmpS x).length, i + (cmpS x).length + 1⟩ :: (tkL (rowT y l) (i + (cmpS x).length + 1) ++ r)) last nodes (0, 0) hd (by omega) s1
      obtain ⟨h6, h7⟩ := more_ext h1
      have hml := mid_len hm
      have ha := hm.add h7 h6 nodes.length (last.2, i + (cmpS x).length)
      have hal := addKid_len pre.length nodes.length (last.2, i + (cmpS x).length) (nodes ++ more)
      rw [List.length_append] at hal
      obtain ⟨l2, ns, x', post', g1, g2, g3, g4, g5, g6, g7⟩ := i3 txt lv (i + (cmpS x).length + 1) r f had (i + (cmpS x).length, i + (cmpS x).length + 1) pre _ _ (addKid pre.length nodes.length (last.2, i + (cmpS x).length) (nodes ++ more)) (done ++ [x]) (by omega) (by omega) (by rw [hal]; omega) s3 (by simp at hf; omega) ha (fun ns' hag => by
        rw [hal] at hag
        have hag2 := agr_mod (Nat.lt_succ_self _) hag
        simp only [List.map_append, List.map_cons, List.map_nil]
        rw [hdone ns' ((hag2.sub (Nat.le_refl _) (by omega)).app (Nat.le_refl _)), h5 ns' (hag2.sub (by omega) (by omega))])
      refine ⟨l2, ns, x', post', ?_, g2, g3, g4, g5, by rw [g6, hal, sizes]; omega, fun ns' hag => by rw [g7 ns' hag]; simp⟩
      rw [k2, List.append_assoc, List.cons_append, loopM]
      have hk : kidM txt (valueM txt lv) false had (tkL (cmpS x) i ++ ⟨6, i + (cmpS x).length, i + (cmpS x).length + 1⟩ :: (tkL (rowT y l) (i + (cmpS x).length + 1) ++ r)) last nodes = (.ok (⟨6, i + (cmpS x).length, i + (cmpS x).length + 1⟩ :: (tkL (rowT y l) (i + (cmpS x).length + 1) ++ r)) (l1, i + (cmpS x).length) (nodes ++ more), had) := by
        unfold kidM
        rw [if_pos rfl, h1]
      rw [hk]
      simp only [show ¬ (6 : Nat) = 5 by decide, if_false, if_true]
      rw [g1]
      congr 2
      simp only [List.length_append, List.length_cons]
      omega
/-! Rows of members. -/
abbrev memT (x : VT) (l : List VT) (ks : List Stp) : Stp := qS (ks.headD []) ++ 58 :: (cmpS x ++ (mbT l ks.tail ++ [125]))
theorem qS_ok (s : Stp) (hv : validD s = true) : TkOk (qS s) ∧ ∀ i, tkL (qS s) i = [⟨8, i, i + (qS s).length⟩] := tk_one (by unfold qS; simp) (tok_qS s hv) (by decide)
/-- A key and its colon are gone over. -/
theorem kid_key (txt : Stp) (V : VF) (had : List Stp) (i : Nat) (k : Stp) (hv : validD k = true) (hk : k ∉ had) (hsub : SubT txt i (qS k)) (c : Tok) (hc : c.kind = 7) (r : List Tok) (last : Sp) (nodes : List NodeD) :
    kidM txt V true had (⟨8, i, i + (qS k).length⟩ :: c :: r) last nodes = (V r (c.sf, c.st) nodes (i, i + (qS k).length), k :: had) := by
  have e : (unqL ((txt.drop i).take (i + (qS k).length - i))).1 = k := by
    rw [show i + (qS k).length - i = (qS k).length by omega]
    unfold SubT at hsub
    rw [hsub, unq_safe k hv]
  unfold kidM
  rw [if_neg (by simp)]
  simp only [e]
  rw [if_neg (by decide), if_neg hk, if_neg (by simp [hc])]
theorem mb_go : ∀ (l : List VT) (x : VT) (ks : List Stp) (had0 : List Stp), PsV x → (∀ y ∈ l, PsV y) → ks.length = l.length + 1 → keysGo had0 ks = true → TkOk (memT x l ks) ∧ (∀ i, (∃ q r, tkL (memT x l ks) i = q :: r ∧ q.kind ≠ 5 ∧ q.kind ≠ 3) ∧ l.length < (tkL (memT x l ks) i).length) ∧
    ∀ (txt : Stp) (lv i : Nat) (r : List Tok) (f : Nat) (last : Sp) (pre : List NodeD) (x0 : NodeD) (post nodes : List NodeD) (done : List VT) (doneK : List Stp),
      x.depth ≤ lv → depths l ≤ lv → nodes.length + (x.size + sizes l) ≤ 4096 → SubT txt i (memT x l ks) → l.length < f → Mid pre x0 post nodes → (∀ ns', Agr (pre.length + 1) nodes.length nodes ns' → x0.kids.map (nodeV txt ns' lv) = done ∧ x0.kids.map (keyV txt ns') = doneK) →
      ∃ l1 ns x' post', loopM txt (valueM txt lv) 3 true pre.length f had0 (tkL (memT x l ks) i ++ r) last nodes = .ok r (l1, i + (memT x l ks).length) ns ∧ Mid pre x' post' ns ∧ x'.kind = x0.kind ∧ x'.sf = x0.sf ∧ x'.key = x0.key ∧ ns.length = nodes.length + (x.size + sizes l) ∧
        (∀ ns', Agr (pre.length + 1) ns.length ns ns' → x'.kids.map (nodeV txt ns' lv) = done ++ (x :: l) ∧ x'.kids.map (keyV txt ns') = doneK ++ ks) := by
  intro l
  induction l with
  | nil =>
    intro x ks had0 hx _ hkl hkg
    obtain ⟨k, rfl⟩ : ∃ k, ks = [k] := by
      match ks, hkl with
      | [k], _ => exact ⟨k, rfl⟩
    simp only [keysGo, Bool.and_eq_true, Bool.not_eq_true', decide_eq_false_iff_not, and_true] at hkg
    obtain ⟨hkn, hkv⟩ := hkg
    obtain ⟨q1, q2⟩ := qS_ok k hkv
    obtain ⟨k1, k2⟩ := tk_sign 125 3 stop125 (fun b => rfl) (by decide) hx.ok tk_nil.1
    obtain ⟨m1, m2⟩ := tk_sign 58 7 stop58 (fun b => rfl) (by decide) q1 k1
    have e : memT x [] [k] = qS k ++ 58 :: (cmpS x ++ 125 :: []) := rfl
    rw [e]
    refine ⟨m1, fun i => ?_, ?_⟩
    · rw [m2, q2]
      exact ⟨⟨_, _, rfl, (show (8 : Nat) ≠ 5 by decide), (show (8 : Nat) ≠ 3 by decide)⟩, by simp⟩
    · intro txt lv i r f last pre x0 post nodes done doneK hd _ hsz hsub hf hm hdone
      obtain ⟨s0, s1⟩ := hsub.app
      obtain ⟨s2, s3⟩ := s1.cons.app
      obtain ⟨f, rfl⟩ : ∃ g, f = g + 1 := ⟨f - 1, by omega⟩
      rw [sizes] at hsz
      obtain ⟨j, hj⟩ : ∃ j, i + (qS k).length + 1 = j := ⟨_, rfl⟩
      rw [hj] at s2 s3
      obtain ⟨more, l1, h1, h2, ⟨y, h3, h4⟩, h5⟩ := hx.go txt lv j (⟨3, j + (cmpS x).length, j + (cmpS x).length + 1⟩ :: r) (i + (qS k).length, i + (qS k).length + 1) nodes (i, i + (qS k).length) hd (by omega) s2
      obtain ⟨h6, h7⟩ := more_ext h1
      have hml := mid_len hm
      have ha := hm.add h7 h6 nodes.length (last.2, j + (cmpS x).length)
      refine ⟨j + (cmpS x).length, _, _, _, ?_, ha, rfl, rfl, rfl, ?_, ?_⟩
      · rw [m2, q2, k2, tk_nil.2, hj]
        simp only [List.append_assoc, List.cons_append, List.nil_append]
        rw [loopM, kid_key txt _ had0 i k hkv hkn s0 _ rfl]
        rw [hj] at h1
        dsimp only
        rw [h1]
        simp only [if_true]
        congr 2
        simp only [List.length_append, List.length_cons, List.length_nil]
        omega
      · rw [addKid_len, List.length_append, h2, sizes]; omega
      · intro ns' hag
        rw [addKid_len] at hag
        have hag2 := agr_mod (Nat.lt_succ_self _) hag
        obtain ⟨d1, d2⟩ := hdone ns' ((hag2.sub (Nat.le_refl _) (by rw [List.length_append]; omega)).app (Nat.le_refl _))
        have hyk : keyV txt ns' nodes.length = k := by
          unfold keyV
          rw [hag2 nodes.length y (by omega) (by rw [List.length_append]; omega) h3]
          simp only []
          rw [h4, s0.slT (by unfold qS; simp), unq_safe k hkv]
        simp only [List.map_append, List.map_cons, List.map_nil]
        rw [d1, d2, hyk, h5 ns' (hag2.sub (by omega) (by rw [List.length_append]; omega))]
        exact ⟨rfl, rfl⟩
  | cons y l ih =>
    intro x ks had0 hx hl hkl hkg
    obtain ⟨k, ks, rfl⟩ : ∃ k ks', ks = k :: ks' := by
      match ks, hkl with
      | k :: ks', _ => exact ⟨k, ks', rfl⟩
    simp only [keysGo, Bool.and_eq_true, Bool.not_eq_true', decide_eq_false_iff_not] at hkg
    obtain ⟨⟨hkn, hkv⟩, hkg2⟩ := hkg
    obtain ⟨i1, i2, i3⟩ := ih y ks (k :: had0) (hl y List.mem_cons_self) (fun z hz => hl z (List.mem_cons_of_mem _ hz)) (by simpa using hkl) hkg2
    obtain ⟨q1, q2⟩ := qS_ok k hkv
    obtain ⟨k1, k2⟩ := tk_sign 44 6 stop44 (fun b => rfl) (by decide) hx.ok i1
    obtain ⟨m1, m2⟩ := tk_sign 58 7 stop58 (fun b => rfl) (by decide) q1 k1
    have e : memT x (y :: l) (k :: ks) = qS k ++ 58 :: (cmpS x ++ 44 :: memT y l ks) := by
      show qS k ++ 58 :: (cmpS x ++ (mbT (y :: l) ks ++ [125])) = _
      rw [mbT]
      simp
    rw [e]
    refine ⟨m1, fun i => ?_, ?_⟩
    · have h4 := (i2 (i + (qS k).length + 1 + (cmpS x).length + 1)).2
      rw [m2, q2, k2]
      refine ⟨⟨_, _, rfl, (show (8 : Nat) ≠ 5 by decide), (show (8 : Nat) ≠ 3 by decide)⟩, ?_⟩
      simp only [List.length_append, List.length_cons]
      omega
    · intro txt lv i r f last pre x0 post nodes done doneK hd hds hsz hsub hf hm hdone
      obtain ⟨s0, s1⟩ := hsub.app
      obtain ⟨s2, s3⟩ := s1.cons.app
      have s4 := s3.cons
      obtain ⟨f, rfl⟩ : ∃ g, f = g + 1 := ⟨f - 1, by omega⟩
      rw [sizes] at hsz
      rw [depths] at hds
      obtain ⟨j, hj⟩ : ∃ j, i + (qS k).length + 1 = j := ⟨_, rfl⟩
      rw [hj] at s2 s4
      obtain ⟨more, l1, h1, h2, ⟨z, h3, h4⟩, h5⟩ := hx.go txt lv j (⟨6, j + (cmpS x).length, j + (cmpS x).length + 1⟩ :: (tkL (memT y l ks) (j + (cmpS x).length + 1) ++ r)) (i + (qS k).length, i + (qS k).length + 1) nodes (i, i + (qS k).length) hd (by omega) s2
      obtain ⟨h6, h7⟩ := more_ext h1
      have hml := mid_len hm
      have ha := hm.add h7 h6 nodes.length (last.2, j + (cmpS x).length)
      have hal := addKid_len pre.length nodes.length (last.2, j + (cmpS x).length) (nodes ++ more)
      rw [List.length_append] at hal
      obtain ⟨l2, ns, x', post', g1, g2, g3, g4, g5, g6, g7⟩ := i3 txt lv (j + (cmpS x).length + 1) r f (j + (cmpS x).length, j + (cmpS x).length + 1) pre _ _ (addKid pre.length nodes.length (last.2, j + (cmpS x).length) (nodes ++ more)) (done ++ [x]) (doneK ++ [k]) (by omega) (by omega) (by rw [hal]; omega) s4 (by simp at hf; omega) ha (fun ns' hag => by
        rw [hal] at hag
        have hag2 := agr_mod (Nat.lt_succ_self _) hag
        obtain ⟨d1, d2⟩ := hdone ns' ((hag2.sub (Nat.le_refl _) (by omega)).app (Nat.le_refl _))
        have hyk : keyV txt ns' nodes.length = k := by
          unfold keyV
          rw [hag2 nodes.length z (by omega) (by omega) h3]
          simp only []
          rw [h4, s0.slT (by unfold qS; simp), unq_safe k hkv]
        simp only [List.map_append, List.map_cons, List.map_nil]
        rw [d1, d2, hyk, h5 ns' (hag2.sub (by omega) (by omega))]
        exact ⟨rfl, rfl⟩)
      refine ⟨l2, ns, x', post', ?_, g2, g3, g4, g5, by rw [g6, hal, sizes]; omega, fun ns' hag => by
        obtain ⟨e1, e2⟩ := g7 ns' hag
        rw [e1, e2]; simp⟩
      rw [m2, q2, k2, hj]
      simp only [List.append_assoc, List.cons_append, List.nil_append]
      rw [loopM, kid_key txt _ had0 i k hkv hkn s0 _ rfl]
      rw [hj] at h1
      dsimp only
      rw [h1]
      simp only [show ¬ (6 : Nat) = 3 by decide, if_false, if_true]
      rw [g1]
      congr 2
      simp only [List.length_append, List.length_cons]
      omega
/-! The whole tree. -/
theorem tk_open (d : UInt8) (k : Nat) (hk : ∀ b, tokR (d :: b) = (k, 1, 0)) (hd : StopB d) (h1 : k ≠ 1) {b : Stp} (hb : TkOk b) : TkOk (d :: b) ∧ ∀ i, tkL (d :: b) i = ⟨k, i, i + 1⟩ :: tkL b (i + 1) := by
  obtain ⟨a1, a2⟩ := tk_sign d k hd hk h1 tk_nil.1 hb
  refine ⟨a1, fun i => ?_⟩
  have := a2 i
  rw [tk_nil.2] at this
  exact this
theorem endM_set {n : Nat} {r : List Tok} {l1 l2 : Nat} {ns : List NodeD} : endM n (.ok r (l1, l2) ns) = .ok r (l1, l2) (setTo n l2 ns) := rfl
theorem set_agr {n e a b : Nat} {ns ns' : List NodeD} (hn : n < a) (h : Agr a b (setTo n e ns) ns') : Agr a b ns ns' := agr_mod hn h
theorem empty_case (txt : Stp) (lv cl op kd : Nat) (obj : Bool) (i : Nat) (r : List Tok) (last : Sp) (nodes : List NodeD) (key : Sp)
    (hv : ∀ q, valueM txt (lv + 1) (⟨op, i, i + 1⟩ :: q) last nodes key = endM nodes.length (kidsM txt (valueM txt lv) cl obj nodes.length q (i, i + 1) (nodes ++ [⟨kd, i, i + 1, key, [], []⟩]))) :
    valueM txt (lv + 1) (⟨op, i, i + 1⟩ :: ⟨cl, i + 1, i + 1 + 1⟩ :: r) last nodes key = .ok r (i + 1, i + 2) (nodes ++ [⟨kd, i, i + 2, key, [], []⟩]) := by
  rw [hv, kidsM, if_pos rfl, endM_set]
  unfold setTo
  have : modN (fun x => { x with st := i + 1 + 1 }) nodes.length (nodes ++ [⟨kd, i, i + 1, key, [], []⟩]) = nodes ++ [⟨kd, i, i + 2, key, [], []⟩] := modN_mid _ nodes _ []
  rw [this]
theorem fin_case {txt : Stp} {lv cl op kd : Nat} {obj : Bool} {i e l1 : Nat} {T r : List Tok} {last : Sp} {nodes ns : List NodeD} {key : Sp} {x' : NodeD} {post' : List NodeD}
    (hv : ∀ q, valueM txt (lv + 1) (⟨op, i, i + 1⟩ :: q) last nodes key = endM nodes.length (kidsM txt (valueM txt lv) cl obj nodes.length q (i, i + 1) (nodes ++ [⟨kd, i, i + 1, key, [], []⟩])))
    (hne : ∃ q q', T = q :: q' ∧ q.kind ≠ cl) (hl : loopM txt (valueM txt lv) cl obj nodes.length ((T ++ r).length + 1) [] (T ++ r) (i, i + 1) (nodes ++ [⟨kd, i, i + 1, key, [], []⟩]) = .ok r (l1, e) ns)
    (hm : Mid nodes x' post' ns) (hk : x'.key = key) : ∃ more, valueM txt (lv + 1) (⟨op, i, i + 1⟩ :: (T ++ r)) last nodes key = .ok r (l1, e) (nodes ++ more) ∧ nodes ++ more = setTo nodes.length e ns ∧ (nodes ++ more)[nodes.length]? = some { x' with st := e } := by
  have hs := setTo_mid hm e
  obtain ⟨h1, _⟩ := hs
  refine ⟨{ x' with st := e } :: post', ?_, h1.symm, ?_⟩
  · rw [hv]
    obtain ⟨q, q', rfl, hq⟩ := hne
    rw [List.cons_append, kidsM_cons _ _ _ _ _ _ _ _ _ hq, ← List.cons_append, hl, endM_set, h1]
  · rw [List.getElem?_append_right (Nat.le_refl _), Nat.sub_self]; rfl
theorem ps_arr (s : Stp) (l : List VT) (hs : s = []) (hl : ∀ x ∈ l, PsV x) : PsV (.mk 5 s [] l) := by
  subst hs
  have e : cmpS (.mk 5 [] [] l) = 91 :: (itS l ++ [93]) := by rw [cmpS]; simp
  cases l with
  | nil =>
    have e2 : cmpS (.mk 5 [] [] []) = 91 :: (([] : Stp) ++ 93 :: []) := by rw [e]; rfl
    obtain ⟨a1, a2⟩ := tk_sign 93 5 stop93 (fun b => rfl) (by decide) tk_nil.1 tk_nil.1
    obtain ⟨b1, b2⟩ := tk_open 91 4 (fun b => rfl) stop91 (by decide) a1
    rw [← e2] at b1 b2
    refine ⟨b1, by rw [e2]; simp, fun i => ⟨_, _, b2 i, (show (4 : Nat) ≠ 5 by decide), (show (4 : Nat) ≠ 3 by decide)⟩, ?_⟩
    intro txt lv i r last nodes key hd hsz hsub
    have hsize : (VT.mk 5 [] [] []).size = 1 := rfl
    have hdep : (VT.mk 5 [] [] []).depth = 1 := rfl
    rw [hsize] at hsz ⊢
    rw [hdep] at hd
    obtain ⟨lv, rfl⟩ : ∃ m, lv = m + 1 := ⟨lv - 1, by omega⟩
    refine ⟨[⟨5, i, i + 2, key, [], []⟩], i + 1, ?_, rfl, ⟨_, by rw [List.getElem?_append_right (Nat.le_refl _), Nat.sub_self]; rfl, rfl⟩, ?_⟩
    · rw [b2, a2, tk_nil.2, tk_nil.2, e2]
      exact empty_case txt lv 5 4 5 false i r last nodes key (fun q => value_arr txt lv ⟨4, i, i + 1⟩ q last nodes key rfl (by omega))
    · intro ns' ha
      have hx := ha nodes.length _ (Nat.le_refl _) (by omega) (by rw [List.getElem?_append_right (Nat.le_refl _), Nat.sub_self]; rfl)
      rw [nodeV, hx]
      rfl
  | cons x l =>
    have e2 : cmpS (.mk 5 [] [] (x :: l)) = 91 :: rowT x l := by rw [e, itS]; simp
    obtain ⟨a1, a2, a3⟩ := it_go l x (hl x List.mem_cons_self) (fun y hy => hl y (List.mem_cons_of_mem _ hy))
    obtain ⟨b1, b2⟩ := tk_open 91 4 (fun b => rfl) stop91 (by decide) a1
    rw [← e2] at b1 b2
    refine ⟨b1, by rw [e2]; simp, fun i => ⟨_, _, b2 i, (show (4 : Nat) ≠ 5 by decide), (show (4 : Nat) ≠ 3 by decide)⟩, ?_⟩
    intro txt lv i r last nodes key hd hsz hsub
    have hsize : (VT.mk 5 [] [] (x :: l)).size = x.size + sizes l + 1 := by rw [VT.size, sizes]
    have hdep : (VT.mk 5 [] [] (x :: l)).depth = max x.depth (depths l) + 1 := by rw [VT.depth, depths]
    rw [hsize] at hsz ⊢
    rw [hdep] at hd
    obtain ⟨lv, rfl⟩ : ∃ m, lv = m + 1 := ⟨lv - 1, by omega⟩
    rw [e2] at hsub
    have hm0 : Mid nodes ⟨5, i, i + 1, key, [], []⟩ [] (nodes ++ [⟨5, i, i + 1, key, [], []⟩]) := ⟨rfl, Nat.le_refl _, Nat.le_refl _, fun y hy => by cases hy⟩
    obtain ⟨⟨q, q', hq, hq5, hq3⟩, hlen⟩ := a2 (i + 1)
    obtain ⟨l1, ns, x', post', g1, g2, g3, g4, g5, g6, g7⟩ := a3 txt lv (i + 1) r ((tkL (rowT x l) (i + 1) ++ r).length + 1) [] (i, i + 1) nodes _ _ _ [] (by omega) (by omega) (by rw [List.length_append, List.length_singleton]; omega) hsub.cons (by rw [List.length_append]; omega) hm0 (fun _ _ => rfl)
    obtain ⟨more, h1, h2, h3⟩ := fin_case (fun q => value_arr txt lv ⟨4, i, i + 1⟩ q last nodes key rfl (by omega)) ⟨q, q', hq, hq5⟩ g1 g2 g5
    have hml : more.length = x.size + sizes l + 1 := by
      have := congrArg List.length h2
      unfold setTo at this
      rw [List.length_append, modN_len, g6, List.length_append, List.length_singleton] at this
      omega
    refine ⟨more, l1, ?_, hml, ⟨_, h3, g5⟩, ?_⟩
    · rw [b2, List.cons_append, h1]
      congr 2
      rw [e2, List.length_cons]
      omega
    · intro ns' ha
      have hx := ha nodes.length _ (Nat.le_refl _) (by omega) h3
      have hag : Agr (nodes.length + 1) ns.length ns ns' := by
        refine set_agr (e := i + 1 + (rowT x l).length) (Nat.lt_succ_self _) ?_
        rw [← h2]
        refine ha.sub (by omega) ?_
        rw [g6, List.length_append, List.length_singleton]
        omega
      have h7 := g7 ns' hag
      rw [nodeV, hx]
      simp only []
      rw [g3, h7]
      rfl
theorem ps_obj (s : Stp) (ks : List Stp) (l : List VT) (hs : s = []) (hk : keyedB ks l.length = true) (hl : ∀ x ∈ l, PsV x) : PsV (.mk 6 s ks l) := by
  subst hs
  unfold keyedB at hk
  simp only [Bool.and_eq_true, decide_eq_true_eq] at hk
  obtain ⟨hk1, hk2⟩ := hk
  have e : cmpS (.mk 6 [] ks l) = 123 :: (mbS l ks ++ [125]) := by rw [cmpS]; simp
  cases l with
  | nil =>
    obtain rfl : ks = [] := List.length_eq_zero_iff.1 hk2
    have e2 : cmpS (.mk 6 [] [] []) = 123 :: (([] : Stp) ++ 125 :: []) := by rw [e]; rfl
    obtain ⟨a1, a2⟩ := tk_sign 125 3 stop125 (fun b => rfl) (by decide) tk_nil.1 tk_nil.1
    obtain ⟨b1, b2⟩ := tk_open 123 2 (fun b => rfl) stop123 (by decide) a1
    rw [← e2] at b1 b2
    refine ⟨b1, by rw [e2]; simp, fun i => ⟨_, _, b2 i, (show (2 : Nat) ≠ 5 by decide), (show (2 : Nat) ≠ 3 by decide)⟩, ?_⟩
    intro txt lv i r last nodes key hd hsz hsub
    have hsize : (VT.mk 6 [] [] []).size = 1 := rfl
    have hdep : (VT.mk 6 [] [] []).depth = 1 := rfl
    rw [hsize] at hsz ⊢
    rw [hdep] at hd
    obtain ⟨lv, rfl⟩ : ∃ m, lv = m + 1 := ⟨lv - 1, by omega⟩
    refine ⟨[⟨6, i, i + 2, key, [], []⟩], i + 1, ?_, rfl, ⟨_, by rw [List.getElem?_append_right (Nat.le_refl _), Nat.sub_self]; rfl, rfl⟩, ?_⟩
    · rw [b2, a2, tk_nil.2, tk_nil.2, e2]
      exact empty_case txt lv 3 2 6 true i r last nodes key (fun q => value_obj txt lv ⟨2, i, i + 1⟩ q last nodes key rfl (by omega))
    · intro ns' ha
      have hx := ha nodes.length _ (Nat.le_refl _) (by omega) (by rw [List.getElem?_append_right (Nat.le_refl _), Nat.sub_self]; rfl)
      rw [nodeV, hx]
      rfl
  | cons x l =>
    obtain ⟨k, ks, rfl⟩ : ∃ k ks', ks = k :: ks' := by
      match ks, hk2 with
      | k :: ks', _ => exact ⟨k, ks', rfl⟩
    have e2 : cmpS (.mk 6 [] (k :: ks) (x :: l)) = 123 :: memT x l (k :: ks) := by rw [e, mbS]; simp; rfl
    obtain ⟨a1, a2, a3⟩ := mb_go l x (k :: ks) [] (hl x List.mem_cons_self) (fun y hy => hl y (List.mem_cons_of_mem _ hy)) (by simpa using hk2) hk1
    obtain ⟨b1, b2⟩ := tk_open 123 2 (fun b => rfl) stop123 (by decide) a1
    rw [← e2] at b1 b2
    refine ⟨b1, by rw [e2]; simp, fun i => ⟨_, _, b2 i, (show (2 : Nat) ≠ 5 by decide), (show (2 : Nat) ≠ 3 by decide)⟩, ?_⟩
    intro txt lv i r last nodes key hd hsz hsub
    have hsize : (VT.mk 6 [] (k :: ks) (x :: l)).size = x.size + sizes l + 1 := by rw [VT.size, sizes]
    have hdep : (VT.mk 6 [] (k :: ks) (x :: l)).depth = max x.depth (depths l) + 1 := by rw [VT.depth, depths]
    rw [hsize] at hsz ⊢
    rw [hdep] at hd
    obtain ⟨lv, rfl⟩ : ∃ m, lv = m + 1 := ⟨lv - 1, by omega⟩
    rw [e2] at hsub
    have hm0 : Mid nodes ⟨6, i, i + 1, key, [], []⟩ [] (nodes ++ [⟨6, i, i + 1, key, [], []⟩]) := ⟨rfl, Nat.le_refl _, Nat.le_refl _, fun y hy => by cases hy⟩
    obtain ⟨⟨q, q', hq, hq5, hq3⟩, hlen⟩ := a2 (i + 1)
    obtain ⟨l1, ns, x', post', g1, g2, g3, g4, g5, g6, g7⟩ := a3 txt lv (i + 1) r ((tkL (memT x l (k :: ks)) (i + 1) ++ r).length + 1) (i, i + 1) nodes _ _ _ [] [] (by omega) (by omega) (by rw [List.length_append, List.length_singleton]; omega) hsub.cons (by rw [List.length_append]; omega) hm0 (fun _ _ => ⟨rfl, rfl⟩)
    obtain ⟨more, h1, h2, h3⟩ := fin_case (fun q => value_obj txt lv ⟨2, i, i + 1⟩ q last nodes key rfl (by omega)) ⟨q, q', hq, hq3⟩ g1 g2 g5
    have hml : more.length = x.size + sizes l + 1 := by
      have := congrArg List.length h2
      unfold setTo at this
      rw [List.length_append, modN_len, g6, List.length_append, List.length_singleton] at this
      omega
    refine ⟨more, l1, ?_, hml, ⟨_, h3, g5⟩, ?_⟩
    · rw [b2, List.cons_append, h1]
      congr 2
      rw [e2, List.length_cons]
      omega
    · intro ns' ha
      have hx := ha nodes.length _ (Nat.le_refl _) (by omega) h3
      have hag : Agr (nodes.length + 1) ns.length ns ns' := by
        refine set_agr (e := i + 1 + (memT x l (k :: ks)).length) (Nat.lt_succ_self _) ?_
        rw [← h2]
        refine ha.sub (by omega) ?_
        rw [g6, List.length_append, List.length_singleton]
        omega
      obtain ⟨h7, h8⟩ := g7 ns' hag
      rw [nodeV, hx]
      simp only []
      rw [g3, h7, if_pos rfl, h8]
      rfl
theorem every_kids {p : VT → Bool} {k : Int} {s : Stp} {ks : List Stp} {l : List VT} (h : everyB p (.mk k s ks l) = true) : p (.mk k s ks l) = true ∧ ∀ x ∈ l, everyB p x = true := by
  rw [everyB, Bool.and_eq_true, everyL_eq, List.all_eq_true] at h
  exact h
theorem ps_all (t : VT) (h : everyB rnodeB t = true) : PsV t := by
  induction t using VT.ind with
  | h k s ks l ih =>
    obtain ⟨h1, h2⟩ := every_kids h
    have hl : ∀ x ∈ l, PsV x := fun x hx => ih x hx (h2 x hx)
    unfold rnodeB nodeB nodeF at h1
    simp only [Bool.and_eq_true, decide_eq_true_eq] at h1
    obtain ⟨h7, h1⟩ := h1
    change (if k = 5 then !decide (0 < ks.length) && s.isEmpty else if k = 6 then keyedB ks l.length && s.isEmpty else if (decide (0 < ks.length) || decide (0 < l.length)) = true then false else if k = 1 then s.isEmpty else if k = 2 then decide (s = trueL) || decide (s = falseL) else if k = 3 then decB s else if k = 4 then validD s else false) = true at h1
    by_cases h5 : k = 5
    · subst h5
      rw [if_pos rfl, Bool.and_eq_true] at h1
      obtain ⟨a, b⟩ := h1
      obtain rfl : ks = [] := by cases ks with | nil => rfl | cons _ _ => simp at a
      exact ps_arr s l (by simpa using b) hl
    rw [if_neg h5] at h1
    by_cases h6 : k = 6
    · subst h6
      rw [if_pos rfl, Bool.and_eq_true] at h1
      exact ps_obj s ks l (by simpa using h1.2) h1.1 hl
    rw [if_neg h6] at h1
    by_cases he : (decide (0 < ks.length) || decide (0 < l.length)) = true
    · rw [if_pos he] at h1; cases h1
    rw [if_neg he] at h1
    simp only [Bool.or_eq_true, decide_eq_true_eq, not_or] at he
    obtain rfl : ks = [] := List.length_eq_zero_iff.1 (by omega)
    obtain rfl : l = [] := List.length_eq_zero_iff.1 (by omega)
    by_cases e1 : k = 1
    · subst e1; rw [if_pos rfl] at h1; exact ps_null s (by simpa using h1)
    rw [if_neg e1] at h1
    by_cases e2 : k = 2
    · subst e2; rw [if_pos rfl] at h1; exact ps_bool s (by simpa using h1)
    rw [if_neg e2] at h1
    by_cases e3 : k = 3
    · subst e3; rw [if_pos rfl] at h1; exact ps_num s h1
    rw [if_neg e3] at h1
    by_cases e4 : k = 4
    · subst e4; rw [if_pos rfl] at h1; exact ps_str s h1
    rw [if_neg e4] at h1
    cases h1
theorem nblk_none {T : List Tok} (h : ∀ t ∈ T, t.kind ≠ 1) : nblk T = T := List.filter_eq_self.2 (fun t ht => by simpa using h t ht)
/-- THE PARSER OF JSON reads a right tree's text as the tree. -/
theorem parse_comp (t : VT) (h : RightB t = true) (hlen : (cmpS t).length ≤ 65536) : ∃ ns, parseJ (cmpS t) = (ns, ((cmpS t).length : Int), 0) ∧ nodeV (cmpS t) ns 32 0 = t := by
  unfold RightB at h
  simp only [Bool.and_eq_true, decide_eq_true_eq] at h
  obtain ⟨⟨h1, h2⟩, h3⟩ := h
  have hp := ps_all t h3
  obtain ⟨more, l1, g1, g2, g3, g4⟩ := hp.go (cmpS t) 32 0 [] (0, 0) [] (0, 0) h2 (by simpa using h1) (by unfold SubT; rw [List.drop_zero, List.take_length])
  rw [List.append_nil] at g1
  have hT : toksGo (cmpS t).length (cmpS t) 0 = (tkL (cmpS t) 0, none) := by rw [← hp.ok.1 0]
  refine ⟨more, ?_, g4 more (fun j y _ _ hj => hj)⟩
  rw [parse_toks (cmpS t) (tkL (cmpS t) 0) hlen hT, nblk_none (hp.ok.2 0), g1]
  rfl
/-! What safe makes of Compact's text. -/
theorem safe_plain : ∀ (l : Stp) (p : Bool), (∀ c ∈ l, c ≠ 127 ∧ c ≠ 35) → safeGo p l = l
  | [], _, _ => rfl
  | c :: r, p, h => by
    obtain ⟨h1, h2⟩ := h c (by simp)
    rw [safeGo, if_neg h1, if_neg (fun e => h2 e.1), safe_plain r _ (fun d hd => h d (by simp [hd]))]
    rfl
theorem last_plain : ∀ (l : Stp) (p : Bool), l ≠ [] → l.getLast? ≠ some 32 → lastB p l = false
  | [c], p, _, h => by
    show (c == 32) = false
    simpa using h
  | c :: d :: r, p, _, h => by
    rw [lastB]
    exact last_plain (d :: r) _ (by simp) (by simpa using h)
/-- A text that safe leaves what it becomes, and which ends in no blank. -/
def SfT (a b : Stp) : Prop := ∀ p, safeGo p a = b ∧ (a ≠ [] → lastB p a = false)
theorem SfT.app {a b c d : Stp} (h : SfT a b) (h2 : SfT c d) : SfT (a ++ c) (b ++ d) := fun p => by
  refine ⟨by rw [safe_app, (h p).1, (h2 _).1], fun hne => ?_⟩
  rw [lastB_app]
  by_cases hc : c = []
  · subst hc
    rw [List.append_nil] at hne
    exact (h p).2 hne
  · exact (h2 _).2 hc
theorem SfT.lit {l : Stp} (h : ∀ c ∈ l, c ≠ 127 ∧ c ≠ 35 ∧ c ≠ 32) : SfT l l := fun p => ⟨safe_plain l p (fun c hc => ⟨(h c hc).1, (h c hc).2.1⟩), fun hne => last_plain l p hne (fun e => (h 32 (List.mem_of_getLast? e)).2.2 rfl)⟩
theorem SfT.quote {s : Stp} (hv : validD s = true) : SfT (quoteL s).1 (qS s) := fun p => ⟨safe_quote s hv p, fun hne => by
  have hq : (quoteL s).1 = 34 :: (qBs s ++ [34]) := by unfold quoteL; rw [if_pos hv]
  rw [hq]
  refine last_plain _ p (by simp) ?_
  rw [show (34 :: (qBs s ++ [34]) : Stp) = (34 :: qBs s) ++ [34] from rfl, List.getLast?_append]
  simp⟩
theorem itemsL_itT {l : List VT} (h : ∀ x ∈ l, SfT (compactL x) (cmpS x)) : SfT (itemsL false l) (itT l) := by
  induction l with
  | nil => exact SfT.lit (fun c hc => by cases hc)
  | cons x l ih =>
    rw [itemsL, itT, if_neg (by simp)]
    have := ((SfT.lit (l := [44]) (by decide)).app (h x List.mem_cons_self)).app (ih (fun y hy => h y (List.mem_cons_of_mem _ hy)))
    simpa using this
theorem membersL_mbT : ∀ {l : List VT} {ks : List Stp}, (∀ x ∈ l, SfT (compactL x) (cmpS x)) → ks.length = l.length → (∀ k ∈ ks, validD k = true) → SfT (membersL false l ks) (mbT l ks)
  | [], _, _, _, _ => by
    rw [membersL, mbT]
    exact SfT.lit (fun c hc => by cases hc)
  | x :: l, [], _, h, _ => by simp at h
  | x :: l, k :: ks, h, hl, hv => by
    rw [membersL, mbT, if_neg (by simp)]
    have ih := membersL_mbT (fun y hy => h y (List.mem_cons_of_mem _ hy)) (by simpa using hl) (fun q hq => hv q (List.mem_cons_of_mem _ hq))
    have := ((SfT.lit (l := [44]) (by decide)).app (((SfT.quote (hv k List.mem_cons_self)).app (SfT.lit (l := [58]) (by decide))).app (h x List.mem_cons_self))).app ih
    simpa using this
theorem keysGo_valid : ∀ (ks had : List Stp), keysGo had ks = true → ∀ k ∈ ks, validD k = true
  | [], _, _, k, hk => by cases hk
  | q :: ks, had, h, k, hk => by
    simp only [keysGo, Bool.and_eq_true] at h
    rcases List.mem_cons.1 hk with rfl | hk
    · exact h.1.2
    · exact keysGo_valid ks _ h.2 k hk
theorem num_plain : ∀ n : Fin 256, (isDig (UInt8.ofNat n.val) = true ∨ UInt8.ofNat n.val = 45 ∨ UInt8.ofNat n.val = 101) → UInt8.ofNat n.val ≠ 127 ∧ UInt8.ofNat n.val ≠ 35 ∧ UInt8.ofNat n.val ≠ 32 := by decide +kernel
theorem sf_comp (t : VT) (h : everyB rnodeB t = true) : SfT (compactL t) (cmpS t) := by
  induction t using VT.ind with
  | h k s ks l ih =>
    obtain ⟨h1, h2⟩ := every_kids h
    have hl : ∀ x ∈ l, SfT (compactL x) (cmpS x) := fun x hx => ih x hx (h2 x hx)
    unfold rnodeB nodeB nodeF at h1
    simp only [Bool.and_eq_true, decide_eq_true_eq] at h1
    obtain ⟨h7, h1⟩ := h1
    change (if k = 5 then !decide (0 < ks.length) && s.isEmpty else if k = 6 then keyedB ks l.length && s.isEmpty else if (decide (0 < ks.length) || decide (0 < l.length)) = true then false else if k = 1 then s.isEmpty else if k = 2 then decide (s = trueL) || decide (s = falseL) else if k = 3 then decB s else if k = 4 then validD s else false) = true at h1
    rw [compactL, cmpS]
    by_cases e1 : k = 1
    · rw [if_pos e1, if_pos e1]; exact SfT.lit (by decide)
    rw [if_neg e1, if_neg e1]
    by_cases e4 : k = 4
    · rw [if_pos e4, if_pos e4]
      subst e4
      refine SfT.quote ?_
      rw [if_neg (by decide), if_neg (by decide)] at h1
      split at h1
      · cases h1
      · simpa using h1
    rw [if_neg e4, if_neg e4]
    by_cases h5 : k = 5
    · rw [if_pos h5, if_pos h5]
      have e : (91 :: (itemsL true l ++ [93]) : Stp) = [91] ++ (itemsL true l ++ [93]) := rfl
      rw [e, show (91 :: (itS l ++ [93]) : Stp) = [91] ++ (itS l ++ [93]) from rfl]
      refine (SfT.lit (l := [91]) (by decide)).app (SfT.app ?_ (SfT.lit (l := [93]) (by decide)))
      cases l with
      | nil => exact SfT.lit (fun c hc => by cases hc)
      | cons x l =>
        rw [itemsL, itS, if_pos rfl, List.nil_append]
        exact (hl x List.mem_cons_self).app (itemsL_itT (fun y hy => hl y (List.mem_cons_of_mem _ hy)))
    rw [if_neg h5, if_neg h5]
    rw [if_neg h5] at h1
    by_cases h6 : k = 6
    · rw [if_pos h6, if_pos h6]
      rw [if_pos h6, Bool.and_eq_true] at h1
      have hk := h1.1
      unfold keyedB at hk
      simp only [Bool.and_eq_true, decide_eq_true_eq] at hk
      have hv := keysGo_valid ks [] hk.1
      have e : (123 :: (membersL true l ks ++ [125]) : Stp) = [123] ++ (membersL true l ks ++ [125]) := rfl
      rw [e, show (123 :: (mbS l ks ++ [125]) : Stp) = [123] ++ (mbS l ks ++ [125]) from rfl]
      refine (SfT.lit (l := [123]) (by decide)).app (SfT.app ?_ (SfT.lit (l := [125]) (by decide)))
      cases l with
      | nil => rw [membersL, mbS]; exact SfT.lit (fun c hc => by cases hc)
      | cons x l =>
        cases ks with
        | nil => simp at hk
        | cons q ks =>
          rw [membersL, mbS, if_pos rfl, List.nil_append]
          have := (((SfT.quote (hv q List.mem_cons_self)).app (SfT.lit (l := [58]) (by decide))).app (hl x List.mem_cons_self)).app (membersL_mbT (fun y hy => hl y (List.mem_cons_of_mem _ hy)) (by simpa using hk.2) (fun z hz => hv z (List.mem_cons_of_mem _ hz)))
          simpa using this
    rw [if_neg h6, if_neg h6]
    rw [if_neg h6] at h1
    by_cases he : (decide (0 < ks.length) || decide (0 < l.length)) = true
    · rw [if_pos he] at h1; cases h1
    rw [if_neg he, if_neg e1] at h1
    by_cases e2 : k = 2
    · rw [if_pos e2] at h1
      simp only [Bool.or_eq_true, decide_eq_true_eq] at h1
      rcases h1 with rfl | rfl
      · exact SfT.lit (by decide)
      · exact SfT.lit (by decide)
    rw [if_neg e2] at h1
    by_cases e3 : k = 3
    · rw [if_pos e3] at h1
      refine SfT.lit (fun c hc => ?_)
      have := num_plain ⟨c.toNat, c.toNat_lt⟩
      simp only [UInt8.ofNat_toNat] at this
      exact this ((num_chars h1).1 c hc)
    rw [if_neg e3, if_neg e4] at h1
    cases h1
theorem safe_comp (t : VT) (h : RightB t = true) : safeL (compactL t) = cmpS t := by
  unfold RightB at h
  rw [Bool.and_eq_true] at h
  rw [safe_eq]
  exact (sf_comp t h.2 false).1
end Go.Proofs.YtnnlpkbopeiefaaGreatDoor

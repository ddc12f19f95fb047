import Derived.Test.YtbbjgdnbekoaeaaGreatDoorQuoE
import Derived.Test.YtbbjgdnbekoaeaaGreatDoorEncD
/-! PLAIN: strings in single quotes: what is read (sqL), which texts may be (wrL), what is written (sqw). -/
namespace Go.Proofs.YtbbjgdnbekoaeaaGreatDoor
set_option linter.unusedSimpArgs false
set_option linter.unusedVariables false
open Go.Lib

/-- From the byte behind the first sign on. -/
def sqGo : Nat → List UInt8 → Nat → List UInt8 → List UInt8 × Int × Int
  | 0, _, i, _ => ([], (i : Int), 2)
  | _ + 1, [], i, _ => ([], (i : Int), 2)
  | f + 1, c :: r, i, acc => if c = 39 then (if r.head? = some 39 then sqGo f (r.drop 1) (i + 2) (acc ++ [39]) else (acc, (i : Int) + 1, 0)) else if plainB (decodeL (c :: r)) then ([], (i : Int), 2) else
    sqGo f ((c :: r).drop (decodeL (c :: r)).2) (i + (decodeL (c :: r)).2) (acc ++ (c :: r).take (decodeL (c :: r)).2)
theorem sqGo_cons (f : Nat) (c : UInt8) (r : List UInt8) (i : Nat) (acc : List UInt8) : sqGo (f + 1) (c :: r) i acc = if c = 39 then (if r.head? = some 39 then sqGo f (r.drop 1) (i + 2) (acc ++ [39]) else (acc, (i : Int) + 1, 0)) else if plainB (decodeL (c :: r)) then ([], (i : Int), 2) else
    sqGo f ((c :: r).drop (decodeL (c :: r)).2) (i + (decodeL (c :: r)).2) (acc ++ (c :: r).take (decodeL (c :: r)).2) := rfl
def sqL (l : List UInt8) (a : Int) : List UInt8 × Int × Int :=
  if a < 0 ∨ (l.length : Int) < a then ([], 0, 2) else if l[a.toNat]? = some 39 then sqGo (l.length + 1) (l.drop (a.toNat + 1)) (a.toNat + 1) [] else ([], a, 2)
/-- Where the first rune stands that may not be in a line; the end: there is none. -/
def wrGo (del : Bool) : Nat → List UInt8 → Nat → Nat
  | 0, _, i => i
  | _ + 1, [], i => i
  | f + 1, c :: r, i => if plainB (decodeL (c :: r)) || (del && c == 127) then i else wrGo del f ((c :: r).drop (decodeL (c :: r)).2) (i + (decodeL (c :: r)).2)
theorem wrGo_cons (del : Bool) (f : Nat) (c : UInt8) (r : List UInt8) (i : Nat) : wrGo del (f + 1) (c :: r) i = if plainB (decodeL (c :: r)) || (del && c == 127) then i else wrGo del f ((c :: r).drop (decodeL (c :: r)).2) (i + (decodeL (c :: r)).2) := rfl
def wrL (del : Bool) (l : List UInt8) : Nat := wrGo del l.length l 0
theorem wrGo_bd (del : Bool) : ∀ (f : Nat) (l : List UInt8) (i : Nat), i ≤ wrGo del f l i ∧ wrGo del f l i ≤ i + l.length
  | 0, l, i => ⟨Nat.le_refl _, Nat.le_add_right _ _⟩
  | _ + 1, [], i => ⟨Nat.le_refl _, Nat.le_refl _⟩
  | f + 1, c :: r, i => by
    unfold wrGo
    split
    · exact ⟨Nat.le_refl _, Nat.le_add_right _ _⟩
    · have h := wrGo_bd del f ((c :: r).drop (decodeL (c :: r)).2) (i + (decodeL (c :: r)).2)
      have hl := decodeL_le (c :: r) (List.cons_ne_nil _ _)
      rw [List.length_drop] at h
      omega
/-- A text that may stand in a line: rune by rune. -/
def okT (l : List UInt8) : Prop := wrGo false l.length l 0 = l.length
theorem wrGo_off (del : Bool) : ∀ (f : Nat) (l : List UInt8) (i k : Nat), wrGo del f l (i + k) = wrGo del f l i + k
  | 0, l, i, k => rfl
  | _ + 1, [], i, k => rfl
  | f + 1, c :: r, i, k => by
    unfold wrGo
    split
    · rfl
    · rw [show i + k + (decodeL (c :: r)).2 = (i + (decodeL (c :: r)).2) + k by omega]
      exact wrGo_off del f _ _ k
theorem wrGo_fuel (del : Bool) : ∀ (f g : Nat) (l : List UInt8) (i : Nat), l.length ≤ f → l.length ≤ g → wrGo del f l i = wrGo del g l i
  | 0, g, l, i, hf, hg => by
    obtain rfl : l = [] := List.eq_nil_of_length_eq_zero (by omega)
    cases g <;> rfl
  | f + 1, 0, l, i, hf, hg => by
    obtain rfl : l = [] := List.eq_nil_of_length_eq_zero (by omega)
    rfl
  | f + 1, g + 1, [], i, hf, hg => rfl
  | f + 1, g + 1, c :: r, i, hf, hg => by
    unfold wrGo
    split
    · rfl
    · have hw := decodeL_width (c :: r)
      exact wrGo_fuel del f g _ _ (by rw [List.length_drop]; omega) (by rw [List.length_drop]; omega)
theorem okT_nil : okT [] := rfl
theorem okT_cut (l : List UInt8) (hne : l ≠ []) (h : okT l) : ∃ r t, okRune r ∧ 32 ≤ r ∧ l = encodeRune r ++ t ∧ okT t ∧ decodeL l = (r.toNat, (encodeRune r).length) ∧ plainB (decodeL l) = false := by
  unfold okT at h
  cases l with
  | nil => exact absurd rfl hne
  | cons c u =>
    rw [List.length_cons] at h
    unfold wrGo at h
    rw [Bool.false_and, Bool.or_false] at h
    cases hp : plainB (decodeL (c :: u)) with
    | true => rw [hp, if_pos rfl] at h; omega
    | false =>
      rw [hp, if_neg (by simp)] at h
      have hp2 := hp
      unfold plainB at hp2
      simp only [Bool.or_eq_false_iff, decide_eq_false_iff_not, Bool.and_eq_false_iff, beq_eq_false_iff_ne] at hp2
      have hb : ¬ ((decodeL (c :: u)).1 = 65533 ∧ (decodeL (c :: u)).2 = 1) := by omega
      have he := encode_decode (c :: u) (List.cons_ne_nil _ _) hb
      have hle := decodeL_le (c :: u) (List.cons_ne_nil _ _)
      have hw := decodeL_width (c :: u)
      refine ⟨((decodeL (c :: u)).1 : Int), (c :: u).drop (decodeL (c :: u)).2, decode_okRune _, by omega, by rw [he, List.take_append_drop], ?_, ?_, rfl⟩
      · unfold okT
        have h1 := wrGo_off false u.length ((c :: u).drop (decodeL (c :: u)).2) 0 (decodeL (c :: u)).2
        rw [Nat.zero_add] at h1
        rw [Nat.zero_add, h1, wrGo_fuel false u.length ((c :: u).drop (decodeL (c :: u)).2).length _ 0 (by rw [List.length_drop, List.length_cons]; omega) (Nat.le_refl _)] at h
        rw [List.length_drop, List.length_cons] at h ⊢
        rw [List.length_cons] at hle
        omega
      · rw [he, List.length_take, Int.toNat_natCast, Nat.min_eq_left hle]
theorem okT_no (l : List UInt8) (h : ¬ okT l) : wrGo false l.length l 0 < l.length := by
  have := (wrGo_bd false l.length l 0).2
  unfold okT at h
  omega
def dbl (l : List UInt8) : List UInt8 := l.flatMap fun c => if c = 39 then [39, 39] else [c]
theorem dbl_append (a b : List UInt8) : dbl (a ++ b) = dbl a ++ dbl b := by unfold dbl; rw [List.flatMap_append]
theorem dbl_same : ∀ (l : List UInt8), (∀ c ∈ l, c ≠ 39) → dbl l = l
  | [], _ => rfl
  | c :: t, h => by
    show (if c = 39 then [39, 39] else [c]) ++ dbl t = c :: t
    rw [if_neg (h c (by simp)), dbl_same t (fun d hd => h d (by simp [hd]))]; rfl
theorem dbl_len : ∀ l : List UInt8, l.length ≤ (dbl l).length ∧ (dbl l).length ≤ 2 * l.length
  | [] => by simp [dbl]
  | c :: t => by
    have := dbl_len t
    change (c :: t).length ≤ ((if c = 39 then [39, 39] else [c]) ++ dbl t).length ∧ ((if c = 39 then [39, 39] else [c]) ++ dbl t).length ≤ 2 * (c :: t).length
    rw [List.length_append, List.length_cons]
    split <;> simp <;> omega
/-- What Quoted writes. -/
def sqw (l : List UInt8) : List UInt8 × Int := if wrL false l < l.length then ([], 2) else (39 :: (dbl l ++ [39]), 0)
theorem enc_no39 (r : Int) (h : okRune r) (h39 : r ≠ 39) : ∀ c ∈ encodeRune r, c ≠ 39 := by
  intro c hc e
  subst e
  by_cases h128 : r < 128
  · have h0 := h.1
    obtain ⟨d, hd⟩ : ∃ d : UInt8, r = (d.toNat : Int) := ⟨UInt8.ofNat r.toNat, by rw [UInt8.toNat_ofNat']; omega⟩
    subst hd
    rw [encode_one d (by omega), List.mem_singleton] at hc
    subst hc
    exact h39 rfl
  · exact absurd (encode_high r h (by omega) 39 hc) (by decide)
theorem plain_rune (r : Int) (h : okRune r) (h32 : 32 ≤ r) (t : List UInt8) : decodeL (encodeRune r ++ t) = (r.toNat, (encodeRune r).length) ∧ plainB (decodeL (encodeRune r ++ t)) = false := by
  have hd := decode_encode r h t
  refine ⟨hd, ?_⟩
  rw [hd]
  unfold plainB
  simp only [Bool.or_eq_false_iff, decide_eq_false_iff_not, Bool.and_eq_false_iff, beq_eq_false_iff_ne]
  refine ⟨by omega, ?_⟩
  by_cases h3 : r = 65533
  · right
    have := encode_len r h (by omega)
    omega
  · left; omega
theorem sqGo_rune (r : Int) (h : okRune r) (h32 : 32 ≤ r) (h39 : r ≠ 39) (t : List UInt8) (f i : Nat) (acc : List UInt8) :
    sqGo (f + 1) (encodeRune r ++ t) i acc = sqGo f t (i + (encodeRune r).length) (acc ++ encodeRune r) := by
  obtain ⟨h1, h2⟩ := plain_rune r h h32 t
  have hno := enc_no39 r h h39
  obtain ⟨E, hE⟩ : ∃ E, encodeRune r = E := ⟨_, rfl⟩
  have hEne := encode_ne r
  rw [hE] at h1 h2 hno hEne ⊢
  cases E with
  | nil => exact absurd rfl hEne
  | cons e E' =>
    show sqGo (f + 1) (e :: (E' ++ t)) i acc = _
    rw [sqGo_cons]
    rw [if_neg (hno e (by simp))]
    change plainB (decodeL (e :: (E' ++ t))) = false at h2
    change decodeL (e :: (E' ++ t)) = _ at h1
    rw [h2, if_neg (by simp), h1]
    have e1 : (e :: (E' ++ t)).drop (e :: E').length = t := by rw [show e :: (E' ++ t) = (e :: E') ++ t from rfl, List.drop_left]
    have e2 : (e :: (E' ++ t)).take (e :: E').length = e :: E' := by rw [show e :: (E' ++ t) = (e :: E') ++ t from rfl, List.take_left]
    simp only []
    rw [e1, e2]
theorem enc39 : encodeRune 39 = [39] := by decide
theorem sq_body (s rest : List UInt8) (i f : Nat) (acc : List UInt8) (hv : okT s) (hr : rest.head? ≠ some 39) (hf : (dbl s).length < f) :
    sqGo f (dbl s ++ 39 :: rest) i acc = (acc ++ s, ((i + (dbl s).length : Nat) : Int) + 1, 0) := by
  obtain ⟨n, hn⟩ : ∃ n, s.length ≤ n := ⟨_, Nat.le_refl _⟩
  have base : ∀ (i f : Nat) (acc : List UInt8), 0 < f → sqGo f (39 :: rest) i acc = (acc, (i : Int) + 1, 0) := by
    intro i f acc hf
    obtain ⟨g, rfl⟩ : ∃ g, f = g + 1 := ⟨f - 1, by omega⟩
    rw [sqGo_cons]
    rw [if_pos rfl, if_neg hr]
  induction n generalizing s i f acc with
  | zero =>
    obtain rfl : s = [] := List.eq_nil_of_length_eq_zero (by omega)
    show sqGo f (39 :: rest) i acc = _
    rw [base i f acc (by omega)]
    simp [dbl]
  | succ n ih =>
    by_cases hne : s = []
    · subst hne
      show sqGo f (39 :: rest) i acc = _
      rw [base i f acc (by omega)]
      simp [dbl]
    · obtain ⟨r, t, hr1, hr32, rfl, ht, _, _⟩ := okT_cut s hne hv
      have hlr := List.length_pos_iff.2 (encode_ne r)
      rw [dbl_append, List.length_append] at hf
      rw [dbl_append, List.append_assoc]
      obtain ⟨g, rfl⟩ : ∃ g, f = g + 1 := ⟨f - 1, by omega⟩
      by_cases h39 : r = 39
      · subst h39
        rw [enc39] at hf hn ⊢
        have e : dbl [39] = [39, 39] := by decide
        rw [e] at hf ⊢
        show sqGo (g + 1) (39 :: 39 :: (dbl t ++ 39 :: rest)) i acc = _
        rw [sqGo_cons]
        rw [if_pos rfl, List.head?_cons, if_pos rfl, List.drop_succ_cons, List.drop_zero, ih t (i + 2) g (acc ++ [39]) ht (by simp at hf; omega) (by simp at hn; omega)]
        simp only [List.append_assoc, List.length_append, List.length_cons, List.length_nil, Prod.mk.injEq, true_and]
        exact ⟨by omega, trivial⟩
      · have e := dbl_same _ (enc_no39 r hr1 h39)
        rw [e] at hf ⊢
        rw [sqGo_rune r hr1 hr32 h39, ih t _ g _ ht (by omega) (by rw [List.length_append] at hn; omega)]
        simp only [List.append_assoc, List.length_append, Prod.mk.injEq, true_and]
        exact ⟨by omega, trivial⟩
/-- A prefix without the sign, of what is written, is a prefix of the text. -/
theorem dbl_prefix : ∀ (E s rest t : List UInt8), (∀ c ∈ E, c ≠ 39) → dbl s ++ 39 :: rest = E ++ t → ∃ u, s = E ++ u
  | [], s, _, _, _, _ => ⟨s, rfl⟩
  | e :: E, [], rest, t, hE, h => by
    simp [dbl] at h
    exact absurd h.1.symm (hE e (by simp))
  | e :: E, c :: s, rest, t, hE, h => by
    have he : e ≠ 39 := hE e (by simp)
    change (if c = 39 then [39, 39] else [c]) ++ dbl s ++ 39 :: rest = e :: E ++ t at h
    by_cases hc : c = 39
    · rw [if_pos hc] at h
      simp at h
      exact absurd h.1.symm he
    · rw [if_neg hc] at h
      simp only [List.cons_append, List.nil_append, List.cons.injEq] at h
      obtain ⟨u, hu⟩ := dbl_prefix E s rest t (fun d hd => hE d (by simp [hd])) h.2
      exact ⟨u, by rw [hu, h.1]; rfl⟩
theorem bad_stays (s rest : List UInt8) (hne : s ≠ []) (h39 : s.head? ≠ some 39) (hb : plainB (decodeL s) = true) : plainB (decodeL (dbl s ++ 39 :: rest)) = true := by
  cases hp : plainB (decodeL (dbl s ++ 39 :: rest)) with
  | true => rfl
  | false =>
    exfalso
    have hp2 := hp
    unfold plainB at hp2
    simp only [Bool.or_eq_false_iff, decide_eq_false_iff_not, Bool.and_eq_false_iff, beq_eq_false_iff_ne] at hp2
    obtain ⟨X, hX⟩ : ∃ X, dbl s ++ 39 :: rest = X := ⟨_, rfl⟩
    have hXne : X ≠ [] := by rw [← hX]; simp
    rw [hX] at hp hp2
    have he := encode_decode X hXne (by omega)
    have hk := decode_okRune X
    have hsplit : X = encodeRune ((decodeL X).1 : Int) ++ X.drop (decodeL X).2 := by rw [he, List.take_append_drop]
    have hno : ∀ c ∈ encodeRune ((decodeL X).1 : Int), c ≠ 39 := by
      refine enc_no39 _ hk ?_
      intro e
      rw [e, enc39] at hsplit
      cases s with
      | nil => exact hne rfl
      | cons c u =>
        have hc : c ≠ 39 := by simpa using h39
        have : dbl (c :: u) = c :: dbl u := by show (if c = 39 then [39, 39] else [c]) ++ dbl u = _; rw [if_neg hc]; rfl
        rw [this] at hX
        rw [← hX] at hsplit
        simp at hsplit
        exact hc hsplit.1
    obtain ⟨u, hu⟩ := dbl_prefix _ s rest _ hno (by rw [hX]; exact hsplit)
    have := plain_rune ((decodeL X).1 : Int) hk (by omega) u
    rw [← hu, hb] at this
    exact absurd this.2 (by simp)
theorem sq_bad (s rest : List UInt8) (i f : Nat) (acc : List UInt8) (hv : ¬ okT s) : (sqGo f (dbl s ++ 39 :: rest) i acc).2.2 = 2 := by
  obtain ⟨n, hn⟩ : ∃ n, s.length ≤ n := ⟨_, Nat.le_refl _⟩
  induction n generalizing s i f acc with
  | zero =>
    obtain rfl : s = [] := List.eq_nil_of_length_eq_zero (by omega)
    exact absurd okT_nil hv
  | succ n ih =>
    cases f with
    | zero => rfl
    | succ g =>
    cases s with
    | nil => exact absurd okT_nil hv
    | cons c u =>
      by_cases hc : c = 39
      · subst hc
        show (sqGo (g + 1) (39 :: 39 :: (dbl u ++ 39 :: rest)) i acc).2.2 = 2
        rw [sqGo_cons]
        rw [if_pos rfl, List.head?_cons, if_pos rfl, List.drop_succ_cons, List.drop_zero]
        refine ih u _ _ _ ?_ (by simp at hn; omega)
        intro hu
        apply hv
        unfold okT at hu ⊢
        have hd : decodeL (39 :: u) = (39, 1) := decodeL_ascii 39 u (by decide)
        rw [List.length_cons]
        unfold wrGo
        rw [hd]
        have hpl : (plainB (39, 1) || (false && (39 : UInt8) == 127)) = false := by decide
        rw [hpl, if_neg (by simp)]
        have h1 := wrGo_off false u.length u 0 1
        show wrGo false u.length u (0 + 1) = _
        rw [h1, hu]
      · have hdd : dbl (c :: u) = c :: dbl u := by show (if c = 39 then [39, 39] else [c]) ++ dbl u = _; rw [if_neg hc]; rfl
        cases hb : plainB (decodeL (c :: u)) with
        | true =>
          have hs := bad_stays (c :: u) rest (List.cons_ne_nil _ _) (by simpa using hc) hb
          rw [hdd] at hs ⊢
          show (sqGo (g + 1) (c :: (dbl u ++ 39 :: rest)) i acc).2.2 = 2
          rw [sqGo_cons]
          change plainB (decodeL (c :: (dbl u ++ 39 :: rest))) = true at hs
          rw [if_neg hc, if_pos hs]
        | false =>
          have hp2 := hb
          unfold plainB at hp2
          simp only [Bool.or_eq_false_iff, decide_eq_false_iff_not, Bool.and_eq_false_iff, beq_eq_false_iff_ne] at hp2
          have he := encode_decode (c :: u) (List.cons_ne_nil _ _) (by omega)
          have hk := decode_okRune (c :: u)
          have hle := decodeL_le (c :: u) (List.cons_ne_nil _ _)
          have hw := decodeL_width (c :: u)
          obtain ⟨r, hr⟩ : ∃ r : Int, ((decodeL (c :: u)).1 : Int) = r := ⟨_, rfl⟩
          obtain ⟨t, ht⟩ : ∃ t, (c :: u).drop (decodeL (c :: u)).2 = t := ⟨_, rfl⟩
          have hsplit : c :: u = encodeRune r ++ t := by rw [← hr, he, ← ht, List.take_append_drop]
          have h39 : r ≠ 39 := by
            intro e
            rw [e, enc39] at hsplit
            simp at hsplit
            exact hc hsplit.1
          have h32 : 32 ≤ r := by omega
          rw [hr] at hk
          have hcu : ¬ okT t := by
            intro htk
            apply hv
            unfold okT at htk ⊢
            rw [List.length_cons]
            unfold wrGo
            rw [Bool.false_and, Bool.or_false, hb, if_neg (by simp), ht]
            have h1 := wrGo_off false u.length t 0 (decodeL (c :: u)).2
            have htl : t.length = (c :: u).length - (decodeL (c :: u)).2 := by rw [← ht, List.length_drop]
            rw [List.length_cons] at htl hle
            rw [h1, wrGo_fuel false u.length t.length t 0 (by omega) (Nat.le_refl _), htk]
            omega
          have htn : t.length ≤ n := by
            have htl : t.length = (c :: u).length - (decodeL (c :: u)).2 := by rw [← ht, List.length_drop]
            omega
          rw [hsplit, dbl_append, dbl_same _ (enc_no39 r hk h39), List.append_assoc, sqGo_rune r hk h32 h39]
          exact ih t _ _ _ hcu htn
theorem wrL_ok (s : List UInt8) : okT s ↔ ¬ wrL false s < s.length := by
  have := (wrGo_bd false s.length s 0).2
  unfold okT wrL
  omega
theorem sqL_at (front back q : List UInt8) : sqL (front ++ (39 :: q) ++ back) (front.length : Int) = sqGo ((front ++ (39 :: q) ++ back).length + 1) (q ++ back) (front.length + 1) [] := by
  unfold sqL
  rw [if_neg (by simp only [List.length_append]; omega), Int.toNat_natCast, List.append_assoc, if_pos (by rw [List.getElem?_append_right (Nat.le_refl _)]; simp)]
  congr 1
  rw [List.drop_append, List.drop_of_length_le (by omega)]
  simp
/-- THE LAW of YlineBack. -/
theorem sqL_back (front s back : List UInt8) (h : (sqw s).2 = 0) (hb : back.head? ≠ some 39) : sqL (front ++ (sqw s).1 ++ back) (front.length : Int) = (s, ((front.length + (sqw s).1.length : Nat) : Int), 0) := by
  by_cases hw : wrL false s < s.length
  · unfold sqw at h; rw [if_pos hw] at h; cases h
  · have hok := (wrL_ok s).2 hw
    have e : (sqw s).1 = 39 :: (dbl s ++ [39]) := by unfold sqw; rw [if_neg hw]
    rw [e, sqL_at, show dbl s ++ [39] ++ back = dbl s ++ 39 :: back by simp, sq_body s back _ _ [] hok hb (by simp; omega)]
    simp only [List.nil_append, List.length_cons, List.length_append, List.length_nil, Prod.mk.injEq, true_and, and_true]
    omega
/-- What Quoted asks of what it has written. -/
theorem sqw_check (s : List UInt8) : (okT s → sqL (39 :: (dbl s ++ [39])) 0 = (s, ((39 :: (dbl s ++ [39])).length : Int), 0)) ∧ (¬ okT s → (sqL (39 :: (dbl s ++ [39])) 0).2.2 = 2) := by
  have h0 := sqL_at [] [] (dbl s ++ [39])
  simp only [List.nil_append, List.append_nil, List.length_nil, Nat.zero_add] at h0
  rw [show ((0 : Nat) : Int) = 0 from rfl] at h0
  rw [h0]
  refine ⟨fun h => ?_, fun h => sq_bad s [] _ _ _ h⟩
  rw [sq_body s [] _ _ [] h (by simp) (by simp; omega)]
  simp only [List.nil_append, List.length_cons, List.length_append, List.length_nil, Prod.mk.injEq, true_and, and_true]
  omega
end Go.Proofs.YtbbjgdnbekoaeaaGreatDoor

import Derived.Test.YtbldfpkfinpciaaGreatDoorRa3
import Derived.Test.YtbldfpkfinpciaaGreatDoorRa1
import Derived.Test.YtbldfpkfinpciaaGreatDoorRa2
import Derived.Lib.ReplaceLaws
import Derived.Lib.SplitLaws
import Derived.Test.YtbldfpkfinpciaaGreatDoorProg
namespace Go.Proofs.YtbldfpkfinpciaaGreatDoor
set_option linter.unusedSimpArgs false
set_option linter.unusedVariables false
open Go.Lib
def sqGo : Nat → List UInt8 → Nat → List UInt8 → List UInt8 × Int × Int
 | 0, _, i, _ => ([], (i : Int), 2)
 | _ + 1, [], i, _ => ([], (i : Int), 2)
 | f + 1, c :: r, i, acc => if c = 39 then (if r.head? = some 39 then sqGo f (r.drop 1) (i + 2) (acc ++ [39]) else (acc, (i : Int) + 1, 0)) else if plainB (decodeL (c :: r)) then ([], (i : Int), 2) else
  sqGo f ((c :: r).drop (decodeL (c :: r)).2) (i + (decodeL (c :: r)).2) (acc ++ (c :: r).take (decodeL (c :: r)).2)
theorem sqGo_cons (f : Nat) (c : UInt8) (r : List UInt8) (i : Nat) (acc : List UInt8) : sqGo (f + 1) (c :: r) i acc = if c = 39 then (if r.head? = some 39 then sqGo f (r.drop 1) (i + 2) (acc ++ [39]) else (acc, (i : Int) + 1, 0)) else if plainB (decodeL (c :: r)) then ([], (i : Int), 2) else
  sqGo f ((c :: r).drop (decodeL (c :: r)).2) (i + (decodeL (c :: r)).2) (acc ++ (c :: r).take (decodeL (c :: r)).2) := rfl
def sqL (l : List UInt8) (a : Int) : List UInt8 × Int × Int :=
 if a < 0 ∨ (l.length : Int) < a then ([], 0, 2) else if l[a.toNat]? = some 39 then sqGo (l.length + 1) (l.drop (a.toNat + 1)) (a.toNat + 1) [] else ([], a, 2)
def wrGo (del : Bool) : Nat → List UInt8 → Nat → Nat
 | 0, _, i => i
 | _ + 1, [], i => i
 | f + 1, c :: r, i => if plainB (decodeL (c :: r)) || (del && c == 127) then i else wrGo del f ((c :: r).drop (decodeL (c :: r)).2) (i + (decodeL (c :: r)).2)
def wrL (del : Bool) (l : List UInt8) : Nat := wrGo del l.length l 0
theorem wrGo_bd (del : Bool) : ∀ (f : Nat) (l : List UInt8) (i : Nat), i ≤ wrGo del f l i ∧ wrGo del f l i ≤ i + l.length
 | 0, l, i => ⟨Nat.le_refl _, Nat.le_add_right _ _⟩
 | _ + 1, [], i => ⟨Nat.le_refl _, Nat.le_refl _⟩
 | f + 1, c :: r, i => by
  unfold wrGo
  split
  ·exact ⟨Nat.le_refl _, Nat.le_add_right _ _⟩
  ·have h := wrGo_bd del f ((c :: r).drop (decodeL (c :: r)).2) (i + (decodeL (c :: r)).2)
   have hl := decodeL_le (c :: r) (List.cons_ne_nil _ _)
   rw [List.length_drop] at h
   omega
def okT (l : List UInt8) : Prop := wrGo false l.length l 0 = l.length
theorem wrGo_off (del : Bool) : ∀ (f : Nat) (l : List UInt8) (i k : Nat), wrGo del f l (i + k) = wrGo del f l i + k
 | 0, l, i, k => rfl
 | _ + 1, [], i, k => rfl
 | f + 1, c :: r, i, k => by
  unfold wrGo
  split
  ·rfl
  ·rw [show i + k + (decodeL (c :: r)).2 = (i + (decodeL (c :: r)).2) + k by omega]
   exact wrGo_off del f _ _ k
theorem wrGo_fuel (del : Bool) : ∀ (f g : Nat) (l : List UInt8) (i : Nat), l.length ≤ f → l.length ≤ g → wrGo del f l i = wrGo del g l i
 | 0, g, l, i, hf, hg => by
  obtain rfl : l = [] := List.eq_nil_of_length_eq_zero (by omega)
  cases g <;> rfl
 | f + 1, 0, l, i, hf, hg => by
  obtain rfl : l = [] := List.eq_nil_of_length_eq_zero (by omega)
  rfl
 | f + 1, g + 1, [], i, hf, hg => rfl
 | f + 1, g + 1, c :: r, i, hf, hg => by
  unfold wrGo
  split
  ·rfl
  ·have hw := decodeL_width (c :: r)
   exact wrGo_fuel del f g _ _ (by rw [List.length_drop]; omega) (by rw [List.length_drop]; omega)
theorem okT_nil : okT [] := rfl
theorem okT_cut (l : List UInt8) (hne : l ≠ []) (h : okT l) : ∃ r t, okRune r ∧ 32 ≤ r ∧ l = encodeRune r ++ t ∧ okT t ∧ decodeL l = (r.toNat, (encodeRune r).length) ∧ plainB (decodeL l) = false := by
 unfold okT at h
 cases l with
 | nil => exact absurd rfl hne
 | cons c u =>
  rw [List.length_cons] at h
  unfold wrGo at h
  rw [Bool.false_and, Bool.or_false] at h
  cases hp : plainB (decodeL (c :: u)) with
  | true => rw [hp, if_pos rfl] at h; omega
  | false =>
   rw [hp, if_neg (by simp)] at h
   have hp2 := hp
   unfold plainB at hp2
   simp only [Bool.or_eq_false_iff, decide_eq_false_iff_not, Bool.and_eq_false_iff, beq_eq_false_iff_ne] at hp2
   have hb : ¬ ((decodeL (c :: u)).1 = 65533 ∧ (decodeL (c :: u)).2 = 1) := by omega
   have he := encode_decode (c :: u) (List.cons_ne_nil _ _) hb
   have hle := decodeL_le (c :: u) (List.cons_ne_nil _ _)
   have hw := decodeL_width (c :: u)
   refine ⟨((decodeL (c :: u)).1 : Int), (c :: u).drop (decodeL (c :: u)).2, decode_okRune _, by omega, by rw [he, List.take_append_drop], ?_, ?_, rfl⟩
   ·unfold okT
    have h1 := wrGo_off false u.length ((c :: u).drop (decodeL (c :: u)).2) 0 (decodeL (c :: u)).2
    rw [Nat.zero_add] at h1
    rw [Nat.zero_add, h1, wrGo_fuel false u.length ((c :: u).drop (decodeL (c :: u)).2).length _ 0 (by rw [List.length_drop, List.length_cons]; omega) (Nat.le_refl _)] at h
    rw [List.length_drop, List.length_cons] at h ⊢
    rw [List.length_cons] at hle
    omega
   ·rw [he, List.length_take, Int.toNat_natCast, Nat.min_eq_left hle]
def dbl (l : List UInt8) : List UInt8 := l.flatMap fun c => if c = 39 then [39, 39] else [c]
theorem dbl_append (a b : List UInt8) : dbl (a ++ b) = dbl a ++ dbl b := by unfold dbl; rw [List.flatMap_append]
theorem dbl_same : ∀ (l : List UInt8), (∀ c ∈ l, c ≠ 39) → dbl l = l
 | [], _ => rfl
 | c :: t, h => by
  show (if c = 39 then [39, 39] else [c]) ++ dbl t = c :: t
  rw [if_neg (h c (by simp)), dbl_same t (fun d hd => h d (by simp [hd]))]; rfl
theorem dbl_len : ∀ l : List UInt8, l.length ≤ (dbl l).length ∧ (dbl l).length ≤ 2 * l.length
 | [] => by simp [dbl]
 | c :: t => by
  have := dbl_len t
  change (c :: t).length ≤ ((if c = 39 then [39, 39] else [c]) ++ dbl t).length ∧ ((if c = 39 then [39, 39] else [c]) ++ dbl t).length ≤ 2 * (c :: t).length
  rw [List.length_append, List.length_cons]
  split <;> simp <;> omega
def sqw (l : List UInt8) : List UInt8 × Int := if wrL false l < l.length then ([], 2) else (39 :: (dbl l ++ [39]), 0)
theorem enc_no39 (r : Int) (h : okRune r) (h39 : r ≠ 39) : ∀ c ∈ encodeRune r, c ≠ 39 := by
 intro c hc e
 subst e
 by_cases h128 : r < 128
 ·have h0 := h.1
  obtain ⟨d, hd⟩ : ∃ d : UInt8, r = (d.toNat : Int) := ⟨UInt8.ofNat r.toNat, by rw [UInt8.toNat_ofNat']; omega⟩
  subst hd
  rw [encode_one d (by omega), List.mem_singleton] at hc
  subst hc
  exact h39 rfl
 ·exact absurd (encode_high r h (by omega) 39 hc) (by decide)
theorem plain_rune (r : Int) (h : okRune r) (h32 : 32 ≤ r) (t : List UInt8) : decodeL (encodeRune r ++ t) = (r.toNat, (encodeRune r).length) ∧ plainB (decodeL (encodeRune r ++ t)) = false := by
 have hd := decode_encode r h t
 refine ⟨hd, ?_⟩
 rw [hd]
 unfold plainB
 simp only [Bool.or_eq_false_iff, decide_eq_false_iff_not, Bool.and_eq_false_iff, beq_eq_false_iff_ne]
 refine ⟨by omega, ?_⟩
 by_cases h3 : r = 65533
 ·right
  have := encode_len r h (by omega)
  omega
 ·left; omega
theorem sqGo_rune (r : Int) (h : okRune r) (h32 : 32 ≤ r) (h39 : r ≠ 39) (t : List UInt8) (f i : Nat) (acc : List UInt8) :
  sqGo (f + 1) (encodeRune r ++ t) i acc = sqGo f t (i + (encodeRune r).length) (acc ++ encodeRune r) := by
 obtain ⟨h1, h2⟩ := plain_rune r h h32 t
 have hno := enc_no39 r h h39
 obtain ⟨E, hE⟩ : ∃ E, encodeRune r = E := ⟨_, rfl⟩
 have hEne := encode_ne r
 rw [hE] at h1 h2 hno hEne ⊢
 cases E with
 | nil => exact absurd rfl hEne
 | cons e E' =>
  show sqGo (f + 1) (e :: (E' ++ t)) i acc = _
  rw [sqGo_cons]
  rw [if_neg (hno e (by simp))]
  change plainB (decodeL (e :: (E' ++ t))) = false at h2
  change decodeL (e :: (E' ++ t)) = _ at h1
  rw [h2, if_neg (by simp), h1]
  have e1 : (e :: (E' ++ t)).drop (e :: E').length = t := by rw [show e :: (E' ++ t) = (e :: E') ++ t from rfl, List.drop_left]
  have e2 : (e :: (E' ++ t)).take (e :: E').length = e :: E' := by rw [show e :: (E' ++ t) = (e :: E') ++ t from rfl, List.take_left]
  simp only []
  rw [e1, e2]
theorem enc39 : encodeRune 39 = [39] := by decide
theorem sq_body (s rest : List UInt8) (i f : Nat) (acc : List UInt8) (hv : okT s) (hr : rest.head? ≠ some 39) (hf : (dbl s).length < f) :
  sqGo f (dbl s ++ 39 :: rest) i acc = (acc ++ s, ((i + (dbl s).length : Nat) : Int) + 1, 0) := by
 obtain ⟨n, hn⟩ : ∃ n, s.length ≤ n := ⟨_, Nat.le_refl _⟩
 have base : ∀ (i f : Nat) (acc : List UInt8), 0 < f → sqGo f (39 :: rest) i acc = (acc, (i : Int) + 1, 0) := by
  intro i f acc hf
  obtain ⟨g, rfl⟩ : ∃ g, f = g + 1 := ⟨f - 1, by omega⟩
  rw [sqGo_cons]
  rw [if_pos rfl, if_neg hr]
 induction n generalizing s i f acc with
 | zero =>
  obtain rfl : s = [] := List.eq_nil_of_length_eq_zero (by omega)
  show sqGo f (39 :: rest) i acc = _
  rw [base i f acc (by omega)]
  simp [dbl]
 | succ n ih =>
  by_cases hne : s = []
  ·subst hne
   show sqGo f (39 :: rest) i acc = _
   rw [base i f acc (by omega)]
   simp [dbl]
  ·obtain ⟨r, t, hr1, hr32, rfl, ht, _, _⟩ := okT_cut s hne hv
   have hlr := List.length_pos_iff.2 (encode_ne r)
   rw [dbl_append, List.length_append] at hf
   rw [dbl_append, List.append_assoc]
   obtain ⟨g, rfl⟩ : ∃ g, f = g + 1 := ⟨f - 1, by omega⟩
   by_cases h39 : r = 39
   ·subst h39
    rw [enc39] at hf hn ⊢
    have e : dbl [39] = [39, 39] := by decide
    rw [e] at hf ⊢
    show sqGo (g + 1) (39 :: 39 :: (dbl t ++ 39 :: rest)) i acc = _
    rw [sqGo_cons]
    rw [if_pos rfl, List.head?_cons, if_pos rfl, List.drop_succ_cons, List.drop_zero, ih t (i + 2) g (acc ++ [39]) ht (by simp at hf; omega) (by simp at hn; omega)]
    simp only [List.append_assoc, List.length_append, List.length_cons, List.length_nil, Prod.mk.injEq, true_and]
    exact ⟨by omega, trivial⟩
   ·have e := dbl_same _ (enc_no39 r hr1 h39)
    rw [e] at hf ⊢
    rw [sqGo_rune r hr1 hr32 h39, ih t _ g _ ht (by omega) (by rw [List.length_append] at hn; omega)]
    simp only [List.append_assoc, List.length_append, Prod.mk.injEq, true_and]
    exact ⟨by omega, trivial⟩
theorem dbl_prefix : ∀ (E s rest t : List UInt8), (∀ c ∈ E, c ≠ 39) → dbl s ++ 39 :: rest = E ++ t → ∃ u, s = E ++ u
 | [], s, _, _, _, _ => ⟨s, rfl⟩
 | e :: E, [], rest, t, hE, h => by
  simp [dbl] at h
  exact absurd h.1.symm (hE e (by simp))
 | e :: E, c :: s, rest, t, hE, h => by
  have he : e ≠ 39 := hE e (by simp)
  change (if c = 39 then [39, 39] else [c]) ++ dbl s ++ 39 :: rest = e :: E ++ t at h
  by_cases hc : c = 39
  ·rw [if_pos hc] at h
   simp at h
   exact absurd h.1.symm he
  ·rw [if_neg hc] at h
   simp only [List.cons_append, List.nil_append, List.cons.injEq] at h
   obtain ⟨u, hu⟩ := dbl_prefix E s rest t (fun d hd => hE d (by simp [hd])) h.2
   exact ⟨u, by rw [hu, h.1]; rfl⟩
theorem bad_stays (s rest : List UInt8) (hne : s ≠ []) (h39 : s.head? ≠ some 39) (hb : plainB (decodeL s) = true) : plainB (decodeL (dbl s ++ 39 :: rest)) = true := by
 cases hp : plainB (decodeL (dbl s ++ 39 :: rest)) with
 | true => rfl
 | false =>
  exfalso
  have hp2 := hp
  unfold plainB at hp2
  simp only [Bool.or_eq_false_iff, decide_eq_false_iff_not, Bool.and_eq_false_iff, beq_eq_false_iff_ne] at hp2
  obtain ⟨X, hX⟩ : ∃ X, dbl s ++ 39 :: rest = X := ⟨_, rfl⟩
  have hXne : X ≠ [] := by rw [← hX]; simp
  rw [hX] at hp hp2
  have he := encode_decode X hXne (by omega)
  have hk := decode_okRune X
  have hsplit : X = encodeRune ((decodeL X).1 : Int) ++ X.drop (decodeL X).2 := by rw [he, List.take_append_drop]
  have hno : ∀ c ∈ encodeRune ((decodeL X).1 : Int), c ≠ 39 := by
   refine enc_no39 _ hk ?_
   intro e
   rw [e, enc39] at hsplit
   cases s with
   | nil => exact hne rfl
   | cons c u =>
    have hc : c ≠ 39 := by simpa using h39
    have : dbl (c :: u) = c :: dbl u := by show (if c = 39 then [39, 39] else [c]) ++ dbl u = _; rw [if_neg hc]; rfl
    rw [this] at hX
    rw [← hX] at hsplit
    simp at hsplit
    exact hc hsplit.1
  obtain ⟨u, hu⟩ := dbl_prefix _ s rest _ hno (by rw [hX]; exact hsplit)
  have := plain_rune ((decodeL X).1 : Int) hk (by omega) u
  rw [← hu, hb] at this
  exact absurd this.2 (by simp)
theorem sq_bad (s rest : List UInt8) (i f : Nat) (acc : List UInt8) (hv : ¬ okT s) : (sqGo f (dbl s ++ 39 :: rest) i acc).2.2 = 2 := by
 obtain ⟨n, hn⟩ : ∃ n, s.length ≤ n := ⟨_, Nat.le_refl _⟩
 induction n generalizing s i f acc with
 | zero =>
  obtain rfl : s = [] := List.eq_nil_of_length_eq_zero (by omega)
  exact absurd okT_nil hv
 | succ n ih =>
  cases f with
  | zero => rfl
  | succ g =>
  cases s with
  | nil => exact absurd okT_nil hv
  | cons c u =>
   by_cases hc : c = 39
   ·subst hc
    show (sqGo (g + 1) (39 :: 39 :: (dbl u ++ 39 :: rest)) i acc).2.2 = 2
    rw [sqGo_cons]
    rw [if_pos rfl, List.head?_cons, if_pos rfl, List.drop_succ_cons, List.drop_zero]
    refine ih u _ _ _ ?_ (by simp at hn; omega)
    intro hu
    apply hv
    unfold okT at hu ⊢
    have hd : decodeL (39 :: u) = (39, 1) := decodeL_ascii 39 u (by decide)
    rw [List.length_cons]
    unfold wrGo
    rw [hd]
    have hpl : (plainB (39, 1) || (false && (39 : UInt8) == 127)) = false := by decide
    rw [hpl, if_neg (by simp)]
    have h1 := wrGo_off false u.length u 0 1
    show wrGo false u.length u (0 + 1) = _
    rw [h1, hu]
   ·have hdd : dbl (c :: u) = c :: dbl u := by show (if c = 39 then [39, 39] else [c]) ++ dbl u = _; rw [if_neg hc]; rfl
    cases hb : plainB (decodeL (c :: u)) with
    | true =>
     have hs := bad_stays (c :: u) rest (List.cons_ne_nil _ _) (by simpa using hc) hb
     rw [hdd] at hs ⊢
     show (sqGo (g + 1) (c :: (dbl u ++ 39 :: rest)) i acc).2.2 = 2
     rw [sqGo_cons]
     change plainB (decodeL (c :: (dbl u ++ 39 :: rest))) = true at hs
     rw [if_neg hc, if_pos hs]
    | false =>
     have hp2 := hb
     unfold plainB at hp2
     simp only [Bool.or_eq_false_iff, decide_eq_false_iff_not, Bool.and_eq_false_iff, beq_eq_false_iff_ne] at hp2
     have he := encode_decode (c :: u) (List.cons_ne_nil _ _) (by omega)
     have hk := decode_okRune (c :: u)
     have hle := decodeL_le (c :: u) (List.cons_ne_nil _ _)
     have hw := decodeL_width (c :: u)
     obtain ⟨r, hr⟩ : ∃ r : Int, ((decodeL (c :: u)).1 : Int) = r := ⟨_, rfl⟩
     obtain ⟨t, ht⟩ : ∃ t, (c :: u).drop (decodeL (c :: u)).2 = t := ⟨_, rfl⟩
     have hsplit : c :: u = encodeRune r ++ t := by rw [← hr, he, ← ht, List.take_append_drop]
     have h39 : r ≠ 39 := by
      intro e
      rw [e, enc39] at hsplit
      simp at hsplit
      exact hc hsplit.1
     have h32 : 32 ≤ r := by omega
     rw [hr] at hk
     have hcu : ¬ okT t := by
      intro htk
      apply hv
      unfold okT at htk ⊢
      rw [List.length_cons]
      unfold wrGo
      rw [Bool.false_and, Bool.or_false, hb, if_neg (by simp), ht]
      have h1 := wrGo_off false u.length t 0 (decodeL (c :: u)).2
      have htl : t.length = (c :: u).length - (decodeL (c :: u)).2 := by rw [← ht, List.length_drop]
      rw [List.length_cons] at htl hle
      rw [h1, wrGo_fuel false u.length t.length t 0 (by omega) (Nat.le_refl _), htk]
      omega
     have htn : t.length ≤ n := by
      have htl : t.length = (c :: u).length - (decodeL (c :: u)).2 := by rw [← ht, List.length_drop]
      omega
     rw [hsplit, dbl_append, dbl_same _ (enc_no39 r hk h39), List.append_assoc, sqGo_rune r hk h32 h39]
     exact ih t _ _ _ hcu htn
theorem wrL_ok (s : List UInt8) : okT s ↔ ¬ wrL false s < s.length := by
 have := (wrGo_bd false s.length s 0).2
 unfold okT wrL
 omega
theorem sqL_at (front back q : List UInt8) : sqL (front ++ (39 :: q) ++ back) (front.length : Int) = sqGo ((front ++ (39 :: q) ++ back).length + 1) (q ++ back) (front.length + 1) [] := by
 unfold sqL
 rw [if_neg (by simp only [List.length_append]; omega), Int.toNat_natCast, List.append_assoc, if_pos (by rw [List.getElem?_append_right (Nat.le_refl _)]; simp)]
 congr 1
 rw [List.drop_append, List.drop_of_length_le (by omega)]
 simp
theorem sqw_check (s : List UInt8) : (okT s → sqL (39 :: (dbl s ++ [39])) 0 = (s, ((39 :: (dbl s ++ [39])).length : Int), 0)) ∧ (¬ okT s → (sqL (39 :: (dbl s ++ [39])) 0).2.2 = 2) := by
 have h0 := sqL_at [] [] (dbl s ++ [39])
 simp only [List.nil_append, List.append_nil, List.length_nil, Nat.zero_add] at h0
 rw [show ((0 : Nat) : Int) = 0 from rfl] at h0
 rw [h0]
 refine ⟨fun h => ?_, fun h => sq_bad s [] _ _ _ h⟩
 rw [sq_body s [] _ _ [] h (by simp) (by simp; omega)]
 simp only [List.nil_append, List.length_cons, List.length_append, List.length_nil, Prod.mk.injEq, true_and, and_true]
 omega
end Go.Proofs.YtbldfpkfinpciaaGreatDoor
namespace Go.Proofs.YtbldfpkfinpciaaGreatDoor
set_option linter.unusedSimpArgs false
set_option linter.unusedVariables false
open Go.Lib
end Go.Proofs.YtbldfpkfinpciaaGreatDoor
namespace Go.Proofs.YtbldfpkfinpciaaGreatDoor
set_option linter.unusedSimpArgs false
set_option linter.unusedVariables false
open Go.RowKit
open Go.Lib hiding intOf
theorem dec_l (l : List UInt8) (i : Nat) (w : World) (hi : i < l.length) (hT : Tabs w) :
  Calls Tryz.prog 101 #[.string ((bs l).extract i l.length)] w fun e w' => e = .returned (.tuple #[.int .i32 (runeI (bs l) i), .int .i64 (widN (bs l) i)]) ∧ Below w.heap.size w w' := by
 have h := dec_at (bs l) i w (by rw [bs_size]; exact hi) hT
 rw [bs_size] at h
 exact h
end Go.Proofs.YtbldfpkfinpciaaGreatDoor
namespace Go.Proofs.YtbldfpkfinpciaaGreatDoor
set_option linter.unusedSimpArgs false
set_option linter.unusedVariables false
open Go.RowKit
open Go.Lib hiding intOf
theorem sqGo_len : ∀ (f : Nat) (l : List UInt8) (i : Nat) (acc : List UInt8), (sqGo f l i acc).1.length ≤ acc.length + l.length
 | 0, _, _, _ => by simp [sqGo]
 | _ + 1, [], _, _ => by simp [sqGo]
 | f + 1, c :: r, i, acc => by
  rw [sqGo_cons]
  split
  ·split
   ·have := sqGo_len f (r.drop 1) (i + 2) (acc ++ [39])
    rw [List.length_drop, List.length_append] at this
    simp only [List.length_cons, List.length_nil] at this ⊢
    rename_i h
    have : 0 < r.length := by cases r with | nil => simp at h | cons _ _ => simp
    omega
   ·simp only []; omega
  ·split
   ·simp
   ·have hle := decodeL_le (c :: r) (List.cons_ne_nil _ _)
    have := sqGo_len f ((c :: r).drop (decodeL (c :: r)).2) (i + (decodeL (c :: r)).2) (acc ++ (c :: r).take (decodeL (c :: r)).2)
    rw [List.length_drop, List.length_append, List.length_take, Nat.min_eq_left hle] at this
    omega
theorem plain_parts (l : List UInt8) (i : Nat) (hi : i < l.length) (h : plainB (decodeL (l.drop i)) = false) :
  okRune (runeI (bs l) i) ∧ 32 ≤ runeI (bs l) i ∧ encodeRune (runeI (bs l) i) = (l.drop i).take (widN (bs l) i) ∧ (runeI (bs l) i = 65533 → ¬ ((widN (bs l) i : Nat) : Int) = 1) := by
 have hne : l.drop i ≠ [] := by rw [List.drop_eq_getElem_cons hi]; exact List.cons_ne_nil _ _
 have hd := decodeL_drop (bs l) i
 rw [bs_data] at hd
 have hp2 := h
 unfold plainB at hp2
 simp only [Bool.or_eq_false_iff, decide_eq_false_iff_not, Bool.and_eq_false_iff, beq_eq_false_iff_ne] at hp2
 have he := encode_decode (l.drop i) hne (by omega)
 have hk := decode_okRune (l.drop i)
 rw [hd] at he hk hp2
 exact ⟨hk, by unfold runeI; omega, he, fun hr => by unfold runeI at hr; unfold widN; omega⟩
theorem plain_bad (l : List UInt8) (i : Nat) (hi : i < l.length) (h : plainB (decodeL (l.drop i)) = true) :
  runeI (bs l) i < 32 ∨ (runeI (bs l) i = 65533 ∧ widN (bs l) i = 1) := by
 have hd := decodeL_drop (bs l) i
 rw [bs_data] at hd
 rw [hd] at h
 unfold plainB at h
 simp only [Bool.or_eq_true, decide_eq_true_eq, Bool.and_eq_true, beq_iff_eq] at h
 unfold runeI widN
 omega
theorem pre39 (l : List UInt8) : Lib.hasPrefix l [39] = (l.head? == some 39) := by
 unfold Lib.hasPrefix
 cases l with
 | nil => rfl
 | cons c r =>
  rw [Bool.eq_iff_iff]
  simp [List.isPrefixOf]
  exact eq_comm
set_option maxRecDepth 100000 in
set_option maxHeartbeats 4000000 in
theorem single_any (l : List UInt8) (a : Int) (w : World) (hs : l.length ≤ 1073741824) (hT : Tabs w) :
  Calls Tryz.prog 154 #[.string (bs l), .int .i64 a] w fun e w' => e = ReadE (sqL l a) ∧ Below w.heap.size w w' := by
 have sl := bs_size l
 obtain ⟨R, hR⟩ : ∃ R, sqL l a = R := ⟨_, rfl⟩
 rw [hR]
 unfold sqL at hR
 have HT := Lib.hid hT; clear hT
 by_cases hout : a < 0 ∨ (l.length : Int) < a
 ·rw [if_pos hout] at hR
  subst hR
  rcases hout with h | h
  ·go_enter Tryz.func154, Tryz.ntmps154
   go_wp2_with fail
   go_ret3
   exact ⟨rfl, Below.refl _ _⟩
  ·have hn : ¬ a < 0 := by omega
   go_enter Tryz.func154, Tryz.ntmps154
   go_wp2_with fail
   go_ret3
   exact ⟨rfl, Below.refl _ _⟩
 rw [if_neg hout] at hR
 obtain ⟨k, rfl⟩ : ∃ k : Nat, a = k := ⟨a.toNat, by omega⟩
 rw [Int.toNat_natCast] at hR
 have hk0 : decide ((k : Int) < 0) = false := decide_eq_false (by omega)
 have hk1 : decide (l.length < k) = false := decide_eq_false (by omega)
 have hk2 : k ≤ l.length := by omega
 clear hout
 by_cases h39 : l[k]? = some 39
 ·rw [if_pos h39] at hR
  have hkl : k < l.length := (List.getElem?_eq_some_iff.1 h39).1
  have hkl' : k < (bs l).size := by omega
  have t1 : ((((bs l)[k]'hkl').toNat : Int) != 39) = false := by
   have := at_bs l k hkl'
   rw [h39] at this
   have h2 : (bs l)[k]'hkl' = 39 := by simpa using this.symm
   rw [h2]; rfl
  have t2 : ((k : Int) == (l.length : Int)) = false := beq_eq_false_iff_ne.2 (by omega)
  have HR := Lib.hid hR; clear hR h39
  go_enter Tryz.func154, Tryz.ntmps154
  go_wp2_with fail
  go_loopw [1, 8, 9] (fun s1 _ _ wr => ∃ (i f : Nat) (acc : List UInt8), s1 = .int .i64 i ∧ i ≤ l.length ∧ acc.length ≤ i ∧ l.length < i + f ∧ Hid (sqGo f (l.drop i) i acc = R) ∧ Hid (Bld w.heap.size w.heap.size acc wr) ∧ Hid (Below w.heap.size w wr)) (fun s1 _ _ _ => l.length - (RowKit.intOf s1).toNat)
  case atStart => exact ⟨k + 1, l.length + 1, [], by go_num, by omega, by simp, by omega, HR.out, Bld.new w, below_alloc1 w _⟩
  case round =>
   obtain ⟨i, f, acc, rfl, hi, hacc, hf, HG, HBd, HW⟩ := hrel
   obtain ⟨g, rfl⟩ : ∃ g, f = g + 1 := ⟨f - 1, by omega⟩
   by_cases hlt : i < l.length
   ·have hlt' : i < (bs l).size := by omega
    have hdr : l.drop i = l[i]'hlt :: l.drop (i + 1) := List.drop_eq_getElem_cons hlt
    have hdd := decodeL_drop (bs l) i
    rw [bs_data] at hdd
    have hg := HG.out
    rw [hdr, sqGo_cons, ← hdr] at hg
    have hwb := widN_bd (bs l) i hlt'
    have hrb := runeI_bd (bs l) i
    have CD := Lib.hid (fun w hT => dec_l l i w hlt hT)
    have hz : w.heap.size ≤ wr.heap.size := HW.out.size
    have hpl := plain_parts l i hlt
    have hpb := plain_bad l i hlt
    have hw2 : (decodeL (l.drop i)).2 = widN (bs l) i := by rw [hdd]; rfl
    have h39r : l[i]'hlt = 39 → runeI (bs l) i = 39 ∧ widN (bs l) i = 1 := fun h => by
     have h1 := decodeL_ascii 39 (l.drop (i + 1)) (by decide)
     rw [hdr, h] at hdd
     rw [h1] at hdd
     unfold runeI widN
     rw [← hdd]; exact ⟨rfl, rfl⟩
    have hr39 : l[i]'hlt ≠ 39 → plainB (decodeL (l.drop i)) = false → runeI (bs l) i ≠ 39 := fun h hp e => by
     obtain ⟨q1, q2, q3, _⟩ := hpl hp
     rw [e, enc39] at q3
     have hwp := hwb.1
     rw [hdr] at q3
     obtain ⟨z, hz⟩ : ∃ z, widN (bs l) i = z + 1 := ⟨widN (bs l) i - 1, by omega⟩
     rw [hz, List.take_succ_cons] at q3
     injection q3 with q3 _
     exact h q3.symm
    rw [hw2] at hg
    obtain ⟨rn, hrn⟩ : ∃ rn, runeI (bs l) i = rn := ⟨_, rfl⟩
    obtain ⟨wd, hwd⟩ : ∃ wd, widN (bs l) i = wd := ⟨_, rfl⟩
    rw [hrn] at CD hrb hpl hpb h39r hr39
    rw [hwd] at CD hwb hpl hpb h39r hg
    by_cases hc : l[i]'hlt = 39
    ·rw [if_pos hc] at hg
     obtain ⟨e1, e2⟩ := h39r hc
     subst e1 e2
     obtain ⟨P, hP⟩ : ∃ P, Lib.hasPrefix (l.drop (i + 1)) [39] = P := ⟨_, rfl⟩
     have CP : Hid (∀ w, Calls Tryz.prog 67 #[.string ((bs l).extract (i + 1) l.length), .string ⟨#[39]⟩] w fun e w' => e = .returned (.bool P) ∧ w = w') := Lib.hid (fun w => by
      have := Tryz.strings_HasPrefix ((bs l).extract (i + 1) l.length) ⟨#[39]⟩ w
      rw [bs_from _ _ _ rfl, bs_data, show (⟨#[39]⟩ : ByteArray).data.toList = [39] from rfl, hP] at this
      rw [bs_from _ _ _ rfl]
      exact this.mono fun _ _ ⟨a, b⟩ => ⟨a, b.symm⟩)
     rw [pre39] at hP
     clear hdr hdd hpl hpb hw2 h39r hr39 hrn hwd hc
     have hi1 : (i : Int) + 1 ≤ (l.length : Int) := by omega
     cases P with
     | false =>
      rw [if_neg (by simpa using hP)] at hg
      have HF := Lib.hid hg
      clear hg hP
      go_wp2_with fail
      with_reducible refine (CD.out _ (HT.out.keep HW.out)).mono ?_
      rintro e w1 ⟨rfl, hb1⟩
      have HBd1 := Lib.hid (HBd.out.keep hb1)
      have HW1 := Lib.hid (below_of_new HW.out hb1)
      clear hb1
      go_wp2_with (go_at_call 67; refine (CP.out _).mono ?_; rintro e w' ⟨rfl, rfl⟩)
      refine (Tryz.Builder_String_any_k w.heap.size w.heap.size acc _ HBd1.out HW1.out.size).mono ?_
      rintro e W1 ⟨rfl, _, b1, _⟩
      go_wp2_with fail
      go_ret3
      exact ⟨by rw [← HF.out]; rfl, HW1.out.trans b1⟩
     | true =>
      have hP' := beq_iff_eq.1 hP
      rw [if_pos hP', List.drop_drop] at hg
      have hi2 : i + 1 < l.length := by
       rw [List.head?_drop] at hP'
       exact (List.getElem?_eq_some_iff.1 hP').1
      have HG2 := Lib.hid hg
      clear hg hP hP'
      go_wp2_with fail
      with_reducible refine (CD.out _ (HT.out.keep HW.out)).mono ?_
      rintro e w1 ⟨rfl, hb1⟩
      have HBd1 := Lib.hid (HBd.out.keep hb1)
      have HW1 := Lib.hid (below_of_new HW.out hb1)
      clear hb1
      go_wp2_with (go_at_call 67; refine (CP.out _).mono ?_; rintro e w' ⟨rfl, rfl⟩)
      refine (writeRune_any w.heap.size w.heap.size acc 39 _ HBd1.out ⟨by omega, by omega⟩ (by omega) HW1.out.size).mono ?_
      rintro e w2 ⟨rfl, h2, b2, _⟩
      rw [enc39] at h2
      have HBd2 := Lib.hid h2
      have HW2 := Lib.hid (HW1.out.trans b2)
      clear h2 b2
      go_wp2_with fail
      go_roundw
      case rel => exact ⟨i + 2, g, acc ++ [39], by go_num, by omega, by simp; omega, by omega, HG2.out, HBd2.out, HW2.out⟩
      case measure => simp [RowKit.intOf]; omega
    ·rw [if_neg hc] at hg
     cases hp : plainB (decodeL (l.drop i)) with
     | true =>
      rw [hp, if_pos rfl] at hg
      have HF := Lib.hid hg
      have hb := hpb hp
      clear hg hp hpb hpl hdr hdd hw2 h39r hr39 hrn hwd hc
      by_cases h32 : rn < 32
      ·clear hb
       go_wp2_with fail
       with_reducible refine (CD.out _ (HT.out.keep HW.out)).mono ?_
       rintro e w1 ⟨rfl, hb1⟩
       go_wp2_with fail
       go_ret3
       exact ⟨by rw [← HF.out]; rfl, below_of_new HW.out hb1⟩
      ·obtain ⟨b1, b2⟩ := hb.resolve_left h32
       have d32 : decide (rn < 32) = false := decide_eq_false h32
       have t3 : (rn == 65533) = true := beq_iff_eq.2 b1
       have t4 : (((wd : Nat) : Int) == 1) = true := beq_iff_eq.2 (by omega)
       clear hb b1 b2
       go_wp2_with fail
       with_reducible refine (CD.out _ (HT.out.keep HW.out)).mono ?_
       rintro e w1 ⟨rfl, hb1⟩
       go_wp2_with fail
       go_ret3
       exact ⟨by rw [← HF.out]; rfl, below_of_new HW.out hb1⟩
     | false =>
      rw [hp, if_neg (by simp), List.drop_drop] at hg
      obtain ⟨q1, q2, q3, q4⟩ := hpl hp
      have hn39 := hr39 hc hp
      rw [← q3] at hg
      have hel : (encodeRune rn).length ≤ wd := by rw [q3, List.length_take]; omega
      have HG2 := Lib.hid hg
      have q10 := q1.1
      have q11 := q1.2.1
      have d32 : decide (rn < 32) = false := decide_eq_false (by omega)
      have t39 : (rn == 39) = false := beq_eq_false_iff_ne.2 hn39
      have t5 : (rn == 65533 && ((wd : Nat) : Int) == 1) = false := by
       by_cases hx : rn = 65533
       ·rw [beq_eq_false_iff_ne.2 (q4 hx), Bool.and_false]
       ·rw [beq_eq_false_iff_ne.2 hx]; rfl
      clear hg hp hpb hpl hdr hdd hw2 h39r hr39 hrn hwd hc q1 q3 hn39
      by_cases hx : rn = 65533
      ·have t3 : (rn == 65533) = true := beq_iff_eq.2 hx
       have t4 : (((wd : Nat) : Int) == 1) = false := beq_eq_false_iff_ne.2 (q4 hx)
       clear q4 hx t5
       go_wp2_with fail
       with_reducible refine (CD.out _ (HT.out.keep HW.out)).mono ?_
       rintro e w1 ⟨rfl, hb1⟩
       have HBd1 := Lib.hid (HBd.out.keep hb1)
       have HW1 := Lib.hid (below_of_new HW.out hb1)
       clear hb1
       go_wp2_with fail
       refine (writeRune_any w.heap.size w.heap.size acc rn _ HBd1.out ⟨q10, q11⟩ (by omega) HW1.out.size).mono ?_
       rintro e w2 ⟨rfl, h2, b2, _⟩
       have HBd2 := Lib.hid h2
       have HW2 := Lib.hid (HW1.out.trans b2)
       clear h2 b2
       go_wp2_with fail
       go_roundw
       case rel => exact ⟨i + wd, g, acc ++ encodeRune rn, by go_num, by omega, by rw [List.length_append]; omega, by omega, HG2.out, HBd2.out, HW2.out⟩
       case measure => simp [RowKit.intOf]; omega
      ·have t3 : (rn == 65533) = false := beq_eq_false_iff_ne.2 hx
       clear q4 hx t5
       go_wp2_with fail
       with_reducible refine (CD.out _ (HT.out.keep HW.out)).mono ?_
       rintro e w1 ⟨rfl, hb1⟩
       have HBd1 := Lib.hid (HBd.out.keep hb1)
       have HW1 := Lib.hid (below_of_new HW.out hb1)
       clear hb1
       go_wp2_with fail
       refine (writeRune_any w.heap.size w.heap.size acc rn _ HBd1.out ⟨q10, q11⟩ (by omega) HW1.out.size).mono ?_
       rintro e w2 ⟨rfl, h2, b2, _⟩
       have HBd2 := Lib.hid h2
       have HW2 := Lib.hid (HW1.out.trans b2)
       clear h2 b2
       go_wp2_with fail
       go_roundw
       case rel => exact ⟨i + wd, g, acc ++ encodeRune rn, by go_num, by omega, by rw [List.length_append]; omega, by omega, HG2.out, HBd2.out, HW2.out⟩
       case measure => simp [RowKit.intOf]; omega
   ·have hg := HG.out
    rw [List.drop_of_length_le (by omega)] at hg
    have HF := Lib.hid (show ([], (i : Int), 2) = R from hg)
    obtain rfl : i = l.length := by omega
    clear hg HG
    go_wp2_with fail
    go_ret3
    exact ⟨by rw [← HF.out]; rfl, HW.out⟩
 ·rw [if_neg h39] at hR
  subst hR
  by_cases hkl : k < l.length
  ·have hkl' : k < (bs l).size := by omega
   have t1 : ((((bs l)[k]'hkl').toNat : Int) != 39) = true := by
    rw [bne_iff_ne]
    intro h
    apply h39
    rw [at_bs l k hkl']
    have : ((bs l)[k]'hkl') = 39 := UInt8.toNat_inj.1 (by show _ = 39; omega)
    rw [this]
   have t2 : ((k : Int) == (l.length : Int)) = false := beq_eq_false_iff_ne.2 (by omega)
   clear h39
   go_enter Tryz.func154, Tryz.ntmps154
   go_wp2_with fail
   go_ret3
   exact ⟨rfl, Below.refl _ _⟩
  ·obtain rfl : k = l.length := by omega
   clear h39 hkl
   go_enter Tryz.func154, Tryz.ntmps154
   go_wp2_with fail
   go_ret3
   exact ⟨rfl, Below.refl _ _⟩
end Go.Proofs.YtbldfpkfinpciaaGreatDoor
namespace Go.Proofs.YtbldfpkfinpciaaGreatDoor
set_option linter.unusedSimpArgs false
set_option linter.unusedVariables false
open Go.RowKit
open Go.Lib hiding intOf
theorem dbl_none : ∀ (s : List UInt8), (∀ k : Nat, s[k]? ≠ some 39) → dbl s = s
 | [], _ => rfl
 | c :: t, h => by
  show (if c = 39 then [39, 39] else [c]) ++ dbl t = c :: t
  rw [if_neg (fun e => h 0 (by rw [e]; rfl)), dbl_none t (fun k => by have := h (k + 1); rw [List.getElem?_cons_succ] at this; exact this)]; rfl
theorem rep_dbl : ∀ (n : Nat) (s : List UInt8) (k : Nat), s.length ≤ n → s.count 39 ≤ k → Lib.replaceK [39] [39, 39] k s = dbl s
 | n, s, k, hn, hk => by
  rcases Int.lt_or_le (Lib.indexByte s 39) 0 with hi | hi
  ·have hm : Lib.indexByte s 39 = -1 := by have := Lib.indexByte_ge s 39; omega
   have hno := Lib.indexByte_none hm
   rw [dbl_none s hno]
   cases k with
   | zero => rfl
   | succ k =>
    unfold Lib.replaceK
    rw [Lib.index_one, hm]; rfl
  ·obtain ⟨i, hx⟩ : ∃ i : Nat, Lib.indexByte s 39 = i := ⟨_, (Int.toNat_of_nonneg hi).symm⟩
   obtain ⟨h1, h2⟩ := Lib.indexByte_some hx
   have hil := (List.getElem?_eq_some_iff.1 h1).1
   have hsp : s = s.take i ++ 39 :: s.drop (i + 1) := by
    have h3 := List.drop_eq_getElem_cons hil
    have h4 : s[i] = 39 := by rw [List.getElem?_eq_getElem hil] at h1; exact Option.some.inj h1
    rw [h4] at h3
    rw [← h3, List.take_append_drop]
   have hc : s.count 39 = (s.take i).count 39 + ((s.drop (i + 1)).count 39 + 1) := by
    conv => lhs; rw [hsp]
    rw [List.count_append, List.count_cons_self]
   obtain ⟨k, rfl⟩ : ∃ j, k = j + 1 := ⟨k - 1, by omega⟩
   cases n with
   | zero => omega
   | succ n =>
   rw [Lib.replaceK_hit [39] [39, 39] k s i (by rw [Lib.index_one]; exact hx)]
   rw [show i + ([39] : List UInt8).length = i + 1 from rfl, rep_dbl n (s.drop (i + 1)) k (by rw [List.length_drop]; omega) (by omega)]
   have hd : dbl (s.take i) = s.take i := dbl_none _ (fun j hj => by
    by_cases hji : j < i
    ·rw [List.getElem?_take, if_pos hji] at hj; exact h2 j hji hj
    ·rw [List.getElem?_take, if_neg hji] at hj; cases hj)
   conv => rhs; rw [hsp, dbl_append, hd]
   show _ = s.take i ++ ([39, 39] ++ dbl (s.drop (i + 1)))
   rw [List.append_assoc]
termination_by n => n
theorem replace_dbl (s : List UInt8) : Lib.replaceAll s [39] [39, 39] = dbl s := by
 unfold Lib.replaceAll Lib.replace
 rw [if_neg (by decide)]
 refine rep_dbl s.length s _ (Nat.le_refl _) ?_
 unfold Lib.replaceNum
 rw [if_pos (.inl (by decide)), Lib.count_one]
 exact Nat.le_refl _
def MVar (w : World) : Prop := ∃ m : Int, w.cell? ⟨2, 0, none⟩ = some (.int .i64 m)
theorem MVar.keep {w w' : World} (h : MVar w) (hb : Below w.heap.size w w') : MVar w' := let ⟨m, hm⟩ := h; ⟨m, by rw [hb.cell (p := ⟨_, _, none⟩) (cell_lt hm)]; exact hm⟩
theorem replace_any (l : List UInt8) (w : World) (hs : l.length ≤ 1073741824) (hM : MVar w) :
  Calls Tryz.prog 153 #[.string (bs l), .string ⟨#[39]⟩, .string ⟨#[39, 39]⟩] w fun e w' => e = .returned (.string (bs (dbl l))) ∧ Below w.heap.size w w' := by
 obtain ⟨m, hm⟩ := hM
 have sl := bs_size l
 have hcb : Lib.countB (bs l) ⟨#[39]⟩ ≤ (bs l).size := Lib.countB_le ⟨#[39]⟩ (by decide) _ _ (Nat.le_refl _)
 have h2 : (⟨#[39, 39]⟩ : ByteArray).size = 2 := rfl
 have := Tryz.strings_ReplaceAll (bs l) ⟨#[39]⟩ ⟨#[39, 39]⟩ m w (by omega) hm (by decide) (by rw [h2]; omega)
 rw [bs_data, show (⟨#[39]⟩ : ByteArray).data.toList = [39] from rfl, show (⟨#[39, 39]⟩ : ByteArray).data.toList = [39, 39] from rfl, replace_dbl] at this
 exact this
def QuotedE (r : List UInt8 × Int) : Ending := .returned (.tuple #[.string (bs r.1), .int .i64 r.2])
theorem cat39 (l : List UInt8) : (⟨#[39]⟩ : ByteArray) ++ bs l ++ ⟨#[39]⟩ = bs (39 :: (l ++ [39])) := by
 have h1 : (⟨#[39]⟩ : ByteArray) = bs [39] := rfl
 rw [h1, bs_append, bs_append]; rfl
set_option maxHeartbeats 1000000 in
theorem quoted_any (l : List UInt8) (w : World) (hs : l.length ≤ 268435456) (hT : Tabs w) (hM : MVar w) :
  Calls Tryz.prog 102 #[.string (bs l)] w fun e w' => e = QuotedE (sqw l) ∧ Below w.heap.size w w' := by
 have sl := bs_size l
 obtain ⟨R, hR⟩ : ∃ R, sqw l = R := ⟨_, rfl⟩
 rw [hR]
 have HT := Lib.hid hT; clear hT
 have hdl := dbl_len l
 have hch := sqw_check l
 obtain ⟨D, hD⟩ : ∃ D, dbl l = D := ⟨_, rfl⟩
 have CR := replace_any l w (by omega) hM
 unfold sqw at hR
 rw [hD] at hR hdl hch CR
 have HCR := Lib.hid CR
 clear CR hM hD
 have sD := bs_size D
 have hQ := Lib.hid (cat39 D)
 have sQ : ((⟨#[39]⟩ : ByteArray) ++ bs D ++ ⟨#[39]⟩).size = D.length + 2 := by rw [cat39, bs_size]; simp
 obtain ⟨Q, hQe⟩ : ∃ Q, (⟨#[39]⟩ : ByteArray) ++ bs D ++ ⟨#[39]⟩ = Q := ⟨_, rfl⟩
 have CS := Lib.hid (fun w hT => single_any (39 :: (D ++ [39])) 0 w (by simp; omega) hT)
 rw [← cat39 D] at CS
 by_cases hok : okT l
 ·have hw := (wrL_ok l).1 hok
  rw [if_neg hw] at hR
  have h1 := hch.1 hok
  rw [h1] at CS
  unfold ReadE at CS
  subst hR
  have hRb : QuotedE (39 :: (D ++ [39]), 0) = .returned (.tuple #[.string ((⟨#[39]⟩ : ByteArray) ++ bs D ++ ⟨#[39]⟩), .int .i64 0]) := by rw [cat39]; rfl
  rw [hRb]
  have hlQ : (((39 :: (D ++ [39])).length : Nat) : Int) = (D.length : Int) + 2 := by simp; omega
  rw [hlQ] at CS
  clear hch h1 hw hok hRb hlQ hQe
  go_enter Tryz.func102, Tryz.ntmps102
  go_wp2_with fail
  with_reducible refine HCR.out.mono ?_
  rintro e w1 ⟨rfl, hb1⟩
  have HB1 := Lib.hid hb1; clear hb1
  go_wp2_with fail
  with_reducible refine (CS.out _ (HT.out.keep HB1.out)).mono ?_
  rintro e w2 ⟨rfl, hb2⟩
  have HB2 := Lib.hid (below_of_new HB1.out hb2); clear hb2
  go_wp2_with fail
  go_ret2
  exact ⟨rfl, HB2.out⟩
 ·have hw : wrL false l < l.length := by
   have := (wrL_ok l)
   by_cases hx : wrL false l < l.length
   ·exact hx
   ·exact absurd (this.2 hx) hok
  rw [if_pos hw] at hR
  have h1 := hch.2 hok
  obtain ⟨r, hr⟩ : ∃ r, sqL (39 :: (D ++ [39])) 0 = r := ⟨_, rfl⟩
  obtain ⟨ra, rb, rc⟩ := r
  rw [hr] at CS h1
  simp only [] at h1
  subst h1
  unfold ReadE at CS
  subst hR
  clear hch hw hok hr hQe
  go_enter Tryz.func102, Tryz.ntmps102
  go_wp2_with fail
  with_reducible refine HCR.out.mono ?_
  rintro e w1 ⟨rfl, hb1⟩
  have HB1 := Lib.hid hb1; clear hb1
  go_wp2_with fail
  with_reducible refine (CS.out _ (HT.out.keep HB1.out)).mono ?_
  rintro e w2 ⟨rfl, hb2⟩
  have HB2 := Lib.hid (below_of_new HB1.out hb2); clear hb2
  go_wp2_with fail
  go_ret2
  exact ⟨rfl, HB2.out⟩
end Go.Proofs.YtbldfpkfinpciaaGreatDoor
namespace Go.Proofs.YtbldfpkfinpciaaGreatDoor
open Go.RowKit
open Go.Lib hiding intOf
set_option maxHeartbeats 400000 in
theorem wide_any (c : Int) (w : World) :
  Calls Tryz.prog 169 #[.int .i64 c] w fun e w' => e = .returned (.int .i64 (refWide c)) ∧ w = w' := by
 go_enter Tryz.func169, Tryz.ntmps169
 go_wp2
 all_goals go_ret
 all_goals (refine ⟨ret_eq (congrArg (Value.int .i64) ?_), rfl⟩; unfold refWide; (repeat split) <;> first | rfl | omega)
theorem wide_is (c n : Int) (w : World) (h : refWide c = n) :
  Calls Tryz.prog 169 #[.int .i64 c] w fun e w' => e = .returned (.int .i64 n) ∧ w = w' := by
 subst h; exact wide_any c w
set_option maxRecDepth 100000 in
set_option maxHeartbeats 4000000 in
theorem refNext_n (s : ByteArray) (i : Nat) (n : Int) (w : World) (hi : i < s.size) (hs : s.size ≤ 4611686018427387904)
    (h1 : 1 ≤ n) (h4 : n ≤ 4) (hn : Hid (refWide ((s[i]'hi).toNat : Int) = n)) (hfit : n ≤ (s.size : Int) - i) :
    Calls Tryz.prog 112 #[.string s, .int .i64 i] w fun e w' => e = .returned (.tuple #[.int .i32 (tailOf s i n).1, .int .i64 (tailOf s i n).2]) ∧ w = w' := by
  have hb : (s[i]'hi).toNat < 256 := (s[i]'hi).toNat_lt
  obtain ⟨R, hR⟩ : ∃ R, tailOf s i n = R := ⟨_, rfl⟩
  rw [hR]
  have HR := Lib.hid hR; clear hR
  have hbd := refHead_bd _ n hn.out (by omega) (by omega)
  have hH := refHead_is ((s[i]'hi).toNat : Int) n
  rcases (show n = 1 ∨ n = 2 ∨ n = 3 ∨ n = 4 by omega) with h | h | h | h
  all_goals
    first | have hV := hH.1 h | have hV := hH.2.1 h | have hV := hH.2.2.1 h | have hV := hH.2.2.2 h
    have hlo := Int.le_of_eq h; have hhi := Int.le_of_eq h.symm
    have n0 : (n == 0) = false := beq_eq_false_iff_ne.2 (by omega)
    first | have n2 : (n == 2) = false := beq_eq_false_iff_ne.2 (by omega) | have n2 : (n == 2) = true := beq_iff_eq.2 (by omega)
    first | have n3 : (n == 3) = false := beq_eq_false_iff_ne.2 (by omega) | have n3 : (n == 3) = true := beq_iff_eq.2 (by omega)
    first | have n4 : (n == 4) = false := beq_eq_false_iff_ne.2 (by omega) | have n4 : (n == 4) = true := beq_iff_eq.2 (by omega)
    rw [hV] at hbd; clear hH h
    have HV := Lib.hid hV; clear hV
    go_enter Tryz.func112, Tryz.ntmps112
    go_wp2_with (go_at_call 169; refine (wide_is _ _ _ hn.out).mono ?_; rintro e w' ⟨rfl, rfl⟩)
    go_loop [7, 8] (fun v k => ∃ (j : Nat) (V : Int), 1 ≤ j ∧ (j : Int) ≤ n ∧ k = .int .i64 j ∧ v = .int .i64 V ∧ 0 ≤ V ∧ Hid (V < bnd j) ∧ Hid (refTail s (n.toNat - 1) (i + 1) (refHead (byteAt s i) n) = refTail s (n.toNat - j) (i + j) V)) (fun _ k => (n - intOf k).toNat)
    case atStart => exact ⟨1, _, by omega, by omega, rfl, rfl, by omega, by unfold Hid bnd; simp; omega, by unfold Hid; rw [← byteAt_eq s i hi, HV.out]⟩
    case round =>
      obtain ⟨j, V, hj1, hj2, rfl, rfl, hV0, HB, HT⟩ := hrel
      by_cases hlt : (j : Int) < n
      · have hbV : V < 1048576 := Int.lt_of_lt_of_le HB.out (bnd_le j (by omega))
        have hij : i + j < s.size := by omega
        have hcb : (s[i + j]'hij).toNat < 256 := (s[i + j]'hij).toNat_lt
        go_wp2
        all_goals first
          | (go_round
             case rel => exact ⟨j + 1, _, by omega, by omega, by go_num, rfl, by omega, bnd_step j V _ HB.out hj1 (by omega) (by omega), tail_next HT hlt hij (by omega) (by omega)⟩
             case measure => simp [intOf]; omega)
          | (go_ret2; exact ⟨pair_ret (tail_bad HR HT hlt hij (by omega)), rfl⟩)
      · have hbV : V < 67108864 := by have h := HB.out; unfold bnd at h; revert h; (repeat' split) <;> omega
        go_wp2
        all_goals go_ret2
        all_goals
          refine ⟨pair_ret ((tail_end HR HT (by omega)).trans ?_), rfl⟩
          first
            | (rw [show refBad n V = true from decide_eq_true (by omega)]; rfl)
            | (rw [show refBad n V = false from decide_eq_false (by omega)]; rfl)
set_option maxRecDepth 100000 in
set_option maxHeartbeats 1000000 in
theorem refNext_no (s : ByteArray) (i : Nat) (n : Int) (w : World) (hi : i < s.size) (hs : s.size ≤ 4611686018427387904)
  (h1 : 0 ≤ n) (h4 : n ≤ 4) (hn : Hid (refWide ((s[i]'hi).toNat : Int) = n)) (hno : n = 0 ∨ (s.size : Int) - i < n) :
  Calls Tryz.prog 112 #[.string s, .int .i64 i] w fun e w' => e = .returned (.tuple #[.int .i32 65533, .int .i64 1]) ∧ w = w' := by
 have hb : (s[i]'hi).toNat < 256 := (s[i]'hi).toNat_lt
 by_cases h : n = 0
 all_goals
  first | have n0 : (n == 0) = false := beq_eq_false_iff_ne.2 (by omega) | have n0 : (n == 0) = true := beq_iff_eq.2 (by omega)
  have hno' : 1 ≤ n → (s.size : Int) - i < n := fun _ => by omega
  have hno'' : (s.size : Int) - i < n ∨ n ≤ 0 := by omega
  clear hno
  rcases hno'' with hno'' | hno''
  all_goals
   clear h hno'
   go_enter Tryz.func112, Tryz.ntmps112
   go_wp2_with (go_at_call 169; refine (wide_is _ _ _ hn.out).mono ?_; rintro e w' ⟨rfl, rfl⟩)
   all_goals go_ret2
   all_goals exact ⟨rfl, rfl⟩
theorem refNext_any (s : ByteArray) (i : Nat) (w : World) (hi : i < s.size) (hs : s.size ≤ 4611686018427387904) :
  Calls Tryz.prog 112 #[.string s, .int .i64 i] w fun e w' => e = .returned (.tuple #[.int .i32 (refNext s i).1, .int .i64 (refNext s i).2]) ∧ w = w' := by
 obtain ⟨n, hn⟩ : ∃ n, refWide ((s[i]'hi).toNat : Int) = n := ⟨_, rfl⟩
 have hc := refWide_cases ((s[i]'hi).toNat : Int)
 have hn' := hn; rw [byteAt_eq] at hn'
 by_cases h : n = 0 ∨ (s.size : Int) - i < n
 ·rw [show refNext s i = (65533, 1) by unfold refNext; simp only [hn']; rw [if_pos h]]
  exact refNext_no s i n w hi hs (by omega) (by omega) hn h
 ·rw [show refNext s i = tailOf s i n by unfold refNext tailOf; simp only [hn']; rw [if_neg h]]
  exact refNext_n s i n w hi hs (by omega) (by omega) hn (by omega)
theorem refNext_at (s : ByteArray) (i : Nat) (w : World) (hi : i < s.size) (hs : s.size ≤ 4611686018427387904) :
  Calls Tryz.prog 112 #[.string s, .int .i64 i] w fun e w' => e = .returned (.tuple #[.int .i32 (runeI s i), .int .i64 (widN s i)]) ∧ w = w' := by
 have h := refNext_any s i w hi hs
 rw [refNext_eq s i hi] at h
 exact h
set_option maxHeartbeats 400000 in
theorem good_at (s : ByteArray) (i : Nat) (w : World) (hi : i < s.size) (hs : s.size ≤ 4611686018427387904) :
  Calls Tryz.prog 111 #[.string s, .int .i64 i] w fun e w' => e = .returned (.bool (goodB s i)) ∧ w = w' := by
 have hw := widN_bd s i hi
 unfold goodB
 have hc := refNext_at s i w hi hs
 generalize runeI s i = c at *
 generalize widN s i = n at *
 have HC := Lib.hid hc; clear hc
 by_cases h1 : (c == 65533) = true
 all_goals
  first | have h1' : (c == 65533) = false := by simpa using h1 | skip
  go_enter Tryz.func111, Tryz.ntmps111
  go_wp2_with (go_at_call 112; refine HC.out.mono ?_; rintro e w' ⟨rfl, rfl⟩)
  all_goals go_ret
  all_goals (refine ⟨ret_bool ?_, rfl⟩; simp_all)
end Go.Proofs.YtbldfpkfinpciaaGreatDoor

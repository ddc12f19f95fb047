import Derived.Lib.IndexMore
import Derived.Lib.CutLaws
/-! PLAIN: marked texts: parts, their width, what is encoded, decoded, picked. No program in sight. -/
namespace Go.Proofs.YtdegjfmjjabnnaaGreatDoor
set_option linter.unusedSimpArgs false
set_option linter.unusedVariables false
open Go.Lib (index cut occAt index_spec index_first index_none NoOcc occAt_room)

structure Part where
  hunk : Bool
  text : List UInt8
  s0 : List UInt8
  s1 : List UInt8
  s2 : List UInt8
deriving DecidableEq

def isSign (c : UInt8) : Bool := c == 60 || c == 124 || c == 61 || c == 62
/-- Of how many of one sign a line begins. -/
def lineRun : List UInt8 → Nat
  | [] => 0
  | c :: l => if isSign c then 1 + (l.takeWhile (· == c)).length else 0
/-- The lines of a text. -/
def segs : List UInt8 → List (List UInt8)
  | [] => [[]]
  | c :: l => if c = 10 then [] :: segs l else match segs l with
    | [] => [[c]]
    | g :: r => (c :: g) :: r
def runM (s : List UInt8) : Nat := ((segs s).map lineRun).foldr max 0
theorem segs_ne (s : List UInt8) : segs s ≠ [] := by
  cases s with
  | nil => simp [segs]
  | cons c l =>
    unfold segs
    split
    · simp
    · split <;> simp
/-- One line's first piece. -/
theorem segs_head : ∀ (a b : List UInt8), (∀ c ∈ a, c ≠ 10) → ∃ g r, segs b = g :: r ∧ segs (a ++ b) = (a ++ g) :: r
  | [], b, _ => by
    cases h : segs b with
    | nil => exact absurd h (segs_ne b)
    | cons g r => exact ⟨g, r, rfl, by simpa using h⟩
  | c :: a, b, h => by
    obtain ⟨g, r, h1, h2⟩ := segs_head a b (fun d hd => h d (List.mem_cons_of_mem _ hd))
    refine ⟨g, r, h1, ?_⟩
    rw [List.cons_append, segs, if_neg (h c List.mem_cons_self), h2]
    rfl
theorem segs_append : ∀ (a b : List UInt8), segs (a ++ 10 :: b) = segs a ++ segs b
  | [], b => by simp [segs]
  | c :: a, b => by
    rw [List.cons_append, segs, segs_append a b]
    conv => rhs; rw [segs]
    by_cases hc : c = 10
    · rw [if_pos hc, if_pos hc]; rfl
    · rw [if_neg hc, if_neg hc]
      cases h : segs a with
      | nil => exact absurd h (segs_ne a)
      | cons g r => rfl
theorem segs_plain (a : List UInt8) (h : ∀ c ∈ a, c ≠ 10) : segs a = [a] := by
  obtain ⟨g, r, h1, h2⟩ := segs_head a [] h
  simp [segs] at h1
  obtain ⟨rfl, rfl⟩ := h1
  simpa using h2
theorem foldr_max_append (a b : List Nat) : (a ++ b).foldr max 0 = max (a.foldr max 0) (b.foldr max 0) := by
  induction a with
  | nil => simp
  | cons x a ih => simp only [List.cons_append, List.foldr_cons, ih]; omega
theorem runM_append (a b : List UInt8) : runM (a ++ 10 :: b) = max (runM a) (runM b) := by
  unfold runM
  rw [segs_append, List.map_append, foldr_max_append]
theorem lineRun_rep (c : UInt8) (n : Nat) (hc : isSign c = true) (r : List UInt8) : n ≤ lineRun (List.replicate n c ++ r) := by
  cases n with
  | zero => exact Nat.zero_le _
  | succ n =>
    rw [List.replicate_succ, List.cons_append, lineRun, if_pos hc]
    have : ∀ m, m ≤ ((List.replicate m c ++ r).takeWhile (· == c)).length := by
      intro m
      induction m with
      | zero => exact Nat.zero_le _
      | succ m ih =>
        rw [List.replicate_succ, List.cons_append, List.takeWhile_cons, if_pos (by simp), List.length_cons]
        omega
    have := this n
    omega
theorem mem_le_foldr (l : List Nat) (x : Nat) (h : x ∈ l) : x ≤ l.foldr max 0 := by
  induction l with
  | nil => cases h
  | cons y l ih =>
    rw [List.foldr_cons]
    rcases List.mem_cons.1 h with rfl | h
    · omega
    · have := ih h; omega
theorem sign_ne10 (c : UInt8) (hc : isSign c = true) : c ≠ 10 := by
  rintro rfl
  exact absurd hc (by decide)
/-- A text with a line that begins with n of one sign. -/
theorem runM_at (a r : List UInt8) (c : UInt8) (n : Nat) (hc : isSign c = true) (ha : a = [] ∨ ∃ a', a = a' ++ [10]) : n ≤ runM (a ++ (List.replicate n c ++ r)) := by
  have hb : n ≤ runM (List.replicate n c ++ r) := by
    obtain ⟨g, t, h1, h2⟩ := segs_head (List.replicate n c) r (fun d hd => by rw [(List.mem_replicate.1 hd).2]; exact sign_ne10 c hc)
    unfold runM
    rw [h2, List.map_cons, List.foldr_cons]
    have := lineRun_rep c n hc g
    omega
  rcases ha with rfl | ⟨a', rfl⟩
  · simpa using hb
  · rw [List.append_assoc, List.singleton_append, runM_append]
    omega
/-- A mark: so many of one sign, alone in a line. -/
def mark (c : UInt8) (n : Nat) : List UInt8 := 10 :: (List.replicate n c ++ [10])
theorem mark_len (c : UInt8) (n : Nat) : (mark c n).length = n + 2 := by simp [mark]
/-- A mark stands nowhere in a text whose run is smaller, nor across its end. -/
theorem mark_first (t : List UInt8) (c : UInt8) (n : Nat) (hc : isSign c = true) (h : runM t < n) (d : UInt8) (r : List UInt8) (hcd : c = d) : index (t ++ mark d n ++ r) (mark c n) = (t.length : Int) := by
  subst hcd
  refine index_first (by simp) ?_ (fun j hj => ?_)
  · unfold occAt
    rw [List.append_assoc, List.drop_left]
    exact List.isPrefixOf_iff_prefix.2 (List.prefix_append _ _)
  · unfold occAt
    rw [Bool.eq_false_iff]
    intro hp
    have hp := List.isPrefixOf_iff_prefix.1 hp
    obtain ⟨a, b, hab, hal⟩ : ∃ a b, t = a ++ b ∧ a.length = j := ⟨t.take j, t.drop j, (List.take_append_drop j t).symm, by rw [List.length_take]; omega⟩
    subst hal
    have hbl : 0 < b.length := by rw [hab, List.length_append] at hj; omega
    rw [hab, List.append_assoc, List.append_assoc, List.drop_left] at hp
    -- the mark begins b ++ mark ++ r
    obtain ⟨b0, b', rfl⟩ : ∃ b0 b', b = b0 :: b' := by
      cases b with
      | nil => simp at hbl
      | cons x y => exact ⟨x, y, rfl⟩
    unfold mark at hp
    rw [List.cons_append] at hp
    obtain ⟨e0, hq⟩ := List.cons_prefix_cons.1 hp
    clear hp
    subst e0
    have hp := hq
    by_cases hl : n ≤ b'.length
    · -- all signs lie in the text
      have hpre : List.replicate n c <+: b' := by
        have h1 : List.replicate n c <+: b' ++ (10 :: (List.replicate n c ++ [10]) ++ r) := (List.prefix_append _ _).trans hp
        have h2 : b' <+: b' ++ (10 :: (List.replicate n c ++ [10]) ++ r) := List.prefix_append _ _
        exact List.prefix_of_prefix_length_le h1 h2 (by simpa using hl)
      obtain ⟨q, rfl⟩ := hpre
      have := runM_at (a ++ [10]) q c n hc (.inr ⟨a, rfl⟩)
      rw [hab] at h
      simp only [List.append_assoc, List.singleton_append] at this h
      omega
    · -- the sign at b'.length would be a line feed
      have hlt : b'.length < n := by omega
      obtain ⟨q, hq⟩ := hp
      have hg : (List.replicate n c ++ [10] ++ q)[b'.length]? = some c := by
        rw [List.append_assoc, List.getElem?_append_left (by simpa using hlt), List.getElem?_replicate, if_pos hlt]
      rw [hq, List.getElem?_append_right (Nat.le_refl _), Nat.sub_self] at hg
      simp at hg
      exact sign_ne10 c hc hg.symm

theorem cut_mark (t : List UInt8) (c : UInt8) (n : Nat) (hc : isSign c = true) (h : runM t < n) (r : List UInt8) : cut (t ++ mark c n ++ r) (mark c n) = (t, r, true) := by
  unfold cut
  rw [mark_first t c n hc h c r rfl, if_pos (by omega), Int.toNat_natCast, List.append_assoc, List.take_left, ← List.drop_drop, List.drop_left, List.drop_left]
theorem index_mark_none (t : List UInt8) (c : UInt8) (n : Nat) (hc : isSign c = true) (h : runM t < n) : index t (mark c n) = -1 := by
  refine index_none (fun j hj => ?_)
  unfold occAt
  rw [Bool.eq_false_iff]
  intro hp
  obtain ⟨q, hq⟩ := List.isPrefixOf_iff_prefix.1 hp
  have e : t = t.take j ++ (mark c n ++ q) := by rw [hq, List.take_append_drop]
  have := runM_at (t.take j ++ [10]) ([10] ++ q) c n hc (.inr ⟨_, rfl⟩)
  rw [e] at h
  unfold mark at h
  simp only [List.append_assoc, List.cons_append, List.nil_append] at this h
  omega
theorem cut_none (t : List UInt8) (c : UInt8) (n : Nat) (hc : isSign c = true) (h : runM t < n) : cut t (mark c n) = (t, [], false) := by
  unfold cut
  rw [index_mark_none t c n hc h, if_neg (by decide)]

/-- A hunk, written. -/
def hunkL (n : Nat) (x : Part) : List UInt8 := mark 60 n ++ (x.s1 ++ (mark 124 n ++ (x.s0 ++ (mark 61 n ++ (x.s2 ++ mark 62 n)))))
def bodyM (n : Nat) (l : List Part) : List UInt8 := l.flatMap fun x => if x.hunk then hunkL n x else x.text
def runP (x : Part) : Nat := max (max (runM x.s0) (runM x.s1)) (max (runM x.s2) (runM x.text))
def widthM (l : List Part) : Nat := l.foldl (fun n x => max n (runP x + 1)) 7
def okPart (prev : Bool) (x : Part) : Bool := if x.hunk then x.text == [] else (x.text != [] && x.s0 == [] && x.s1 == [] && x.s2 == []) && prev
def rightGo : Bool → List Part → Bool
  | _, [] => true
  | p, x :: l => okPart p x && rightGo x.hunk l
def rightM (l : List Part) : Bool := rightGo true l && decide (l.length ≤ 4096)
def anyHunk (l : List Part) : Bool := l.any Part.hunk
def textP (t : List UInt8) : Part := ⟨false, t, [], [], []⟩
/-- What stands behind a marked text's first line, as parts. -/
def coreM (n : Nat) : Nat → List UInt8 → Option (List Part)
  | 0, _ => some []
  | f + 1, s => if s = [] then some [] else
    if (cut s (mark 60 n)).2.2 = false then some [textP (cut s (mark 60 n)).1] else
    if (cut (cut s (mark 60 n)).2.1 (mark 124 n)).2.2 = false then none else
    if (cut (cut (cut s (mark 60 n)).2.1 (mark 124 n)).2.1 (mark 61 n)).2.2 = false then none else
    if (cut (cut (cut (cut s (mark 60 n)).2.1 (mark 124 n)).2.1 (mark 61 n)).2.1 (mark 62 n)).2.2 = false then none else
    (coreM n f (cut (cut (cut (cut s (mark 60 n)).2.1 (mark 124 n)).2.1 (mark 61 n)).2.1 (mark 62 n)).2.1).map fun l =>
      (if (cut s (mark 60 n)).1 = [] then [] else [textP (cut s (mark 60 n)).1]) ++ ⟨true, [], (cut (cut (cut s (mark 60 n)).2.1 (mark 124 n)).2.1 (mark 61 n)).1, (cut (cut s (mark 60 n)).2.1 (mark 124 n)).1, (cut (cut (cut (cut s (mark 60 n)).2.1 (mark 124 n)).2.1 (mark 61 n)).2.1 (mark 62 n)).1⟩ :: l
theorem coreM_hunk (n f : Nat) (t : List UInt8) (x : Part) (r : List UInt8) (ht : runM t < n) (hx : runP x < n) :
    coreM n (f + 1) (t ++ (hunkL n x ++ r)) = (coreM n f r).map fun l => (if t = [] then [] else [textP t]) ++ ⟨true, [], x.s0, x.s1, x.s2⟩ :: l := by
  unfold runP at hx
  have e : t ++ (hunkL n x ++ r) = t ++ mark 60 n ++ (x.s1 ++ mark 124 n ++ (x.s0 ++ mark 61 n ++ (x.s2 ++ mark 62 n ++ r))) := by unfold hunkL; simp only [List.append_assoc]
  have hne : t ++ (hunkL n x ++ r) ≠ [] := by rw [e]; simp [mark]
  have c1 := cut_mark t 60 n (by decide) ht (x.s1 ++ mark 124 n ++ (x.s0 ++ mark 61 n ++ (x.s2 ++ mark 62 n ++ r)))
  have c2 := cut_mark x.s1 124 n (by decide) (by omega) (x.s0 ++ mark 61 n ++ (x.s2 ++ mark 62 n ++ r))
  have c3 := cut_mark x.s0 61 n (by decide) (by omega) (x.s2 ++ mark 62 n ++ r)
  have c4 := cut_mark x.s2 62 n (by decide) (by omega) r
  rw [coreM, if_neg hne, e]
  simp only [c1, c2, c3, c4]
  simp
theorem width_ge (l : List Part) : ∀ k, k ≤ l.foldl (fun n x => max n (runP x + 1)) k ∧ ∀ x ∈ l, runP x < l.foldl (fun n x => max n (runP x + 1)) k := by
  induction l with
  | nil => intro k; exact ⟨Nat.le_refl _, fun x hx => by cases hx⟩
  | cons y l ih =>
    intro k
    rw [List.foldl_cons]
    obtain ⟨h1, h2⟩ := ih (max k (runP y + 1))
    refine ⟨by omega, fun x hx => ?_⟩
    rcases List.mem_cons.1 hx with rfl | hx
    · omega
    · exact h2 x hx
theorem part_hunk (x : Part) (p : Bool) (h : okPart p x = true) (hx : x.hunk = true) : x = ⟨true, [], x.s0, x.s1, x.s2⟩ := by
  unfold okPart at h
  rw [if_pos hx] at h
  obtain ⟨a, b, c, d, e⟩ := x
  simp at h hx
  subst h hx
  rfl
theorem part_text (x : Part) (p : Bool) (h : okPart p x = true) (hx : x.hunk = false) : x = textP x.text ∧ x.text ≠ [] ∧ p = true := by
  unfold okPart at h
  rw [if_neg (by rw [hx]; decide)] at h
  obtain ⟨a, b, c, d, e⟩ := x
  simp at h hx
  obtain ⟨⟨⟨⟨h1, h2⟩, h3⟩, h4⟩, h5⟩ := h
  subst hx h2 h3 h4
  exact ⟨rfl, h1, h5⟩
theorem coreM_body (n : Nat) : ∀ (l : List Part) (f : Nat) (p : Bool), rightGo p l = true → (∀ x ∈ l, runP x < n) → l.length ≤ f → 0 < f → coreM n f (bodyM n l) = some l := by
  intro l
  induction hk : l.length using Nat.strongRecOn generalizing l with
  | _ k ih =>
    intro f p hr hx hf h0
    obtain ⟨f, rfl⟩ : ∃ g, f = g + 1 := ⟨f - 1, by omega⟩
    match l, hk with
    | [], _ => rw [coreM]; rfl
    | x :: l, hk =>
      rw [rightGo, Bool.and_eq_true] at hr
      have hb : bodyM n (x :: l) = (if x.hunk then hunkL n x else x.text) ++ bodyM n l := by unfold bodyM; rw [List.flatMap_cons]
      cases hh : x.hunk with
      | true =>
        have e := coreM_hunk n f [] x (bodyM n l) (by have := hx x List.mem_cons_self; show 0 < n; omega) (hx x List.mem_cons_self)
        rw [List.nil_append] at e
        rw [hb, hh, if_pos rfl, e]
        simp only [if_true, List.nil_append]
        rw [← part_hunk x p hr.1 hh]
        by_cases hl : l = []
        · subst hl
          cases f with
          | zero => rfl
          | succ f => rw [show bodyM n [] = [] from rfl, coreM]; rfl
        · have hlp : 0 < l.length := List.length_pos_iff.2 hl
          simp only [List.length_cons] at hk hf
          rw [ih l.length (by omega) l rfl f true (by have := hr.2; rwa [hh] at this) (fun y hy => hx y (List.mem_cons_of_mem _ hy)) (by omega) (by omega)]
          rfl
      | false =>
        obtain ⟨e1, e2, e3⟩ := part_text x p hr.1 hh
        have hxt : runM x.text < n := by have := hx x List.mem_cons_self; unfold runP at this; omega
        match l, hk with
        | [], _ =>
          rw [hb, hh]
          simp only [show bodyM n [] = [] from rfl, List.append_nil, Bool.false_eq_true, if_false]
          rw [coreM, if_neg e2, cut_none x.text 60 n (by decide) hxt]
          simp only [if_true]
          rw [← e1]
        | y :: l, hk =>
          have hr2 := hr.2
          rw [rightGo, Bool.and_eq_true] at hr2
          have hy : y.hunk = true := by
            cases hyy : y.hunk with
            | true => rfl
            | false => rw [hh] at hr2; exact absurd (part_text y false hr2.1 hyy).2.2 (by decide)
          have hb2 : bodyM n (y :: l) = hunkL n y ++ bodyM n l := by unfold bodyM; rw [List.flatMap_cons, if_pos hy]
          rw [hb, hh, hb2]
          simp only [Bool.false_eq_true, if_false]
          rw [coreM_hunk n f x.text y (bodyM n l) hxt (hx y (by simp)), if_neg e2, ← part_hunk y _ hr2.1 hy, ← e1]
          simp only [List.length_cons] at hk hf
          by_cases hl : l = []
          · subst hl
            cases f with
            | zero => rfl
            | succ f => rw [show bodyM n [] = [] from rfl, coreM]; rfl
          · have hlp : 0 < l.length := List.length_pos_iff.2 hl
            rw [ih l.length (by omega) l rfl f true (by have := hr2.2; rwa [hy] at this) (fun z hz => hx z (by simp [hz])) (by omega) (by omega)]
            rfl
end Go.Proofs.YtdegjfmjjabnnaaGreatDoor

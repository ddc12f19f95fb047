import Derived.Test.YtdegjfmjjabnnaaGreatDoorMkB
/-! PLAIN: the marks' lines of what is encoded; what is picked. -/
namespace Go.Proofs.YtdegjfmjjabnnaaGreatDoor
set_option linter.unusedSimpArgs false
set_option linter.unusedVariables false
open Go.Lib (index cut occAt index_spec index_first index_none NoOcc occAt_room)

/-- How many lines of a text are so many of one sign. -/
def cntM (c : UInt8) (n : Nat) (s : List UInt8) : Nat := (segs s).count (List.replicate n c)
theorem cnt_append (c : UInt8) (n : Nat) (a b : List UInt8) : cntM c n (a ++ 10 :: b) = cntM c n a + cntM c n b := by
  unfold cntM
  rw [segs_append, List.count_append]
theorem cnt_small (c : UInt8) (n : Nat) (hc : isSign c = true) (s : List UInt8) (h : runM s < n) : cntM c n s = 0 := by
  unfold cntM
  rw [List.count_eq_zero]
  intro hm
  have h1 := mem_le_foldr ((segs s).map lineRun) (lineRun (List.replicate n c)) (List.mem_map.2 ⟨_, hm, rfl⟩)
  have h2 := lineRun_rep c n hc []
  rw [List.append_nil] at h2
  unfold runM at h
  omega
theorem cnt_line (c d : UInt8) (n : Nat) (hd : isSign d = true) : cntM c n (List.replicate n d) = if List.replicate n d = List.replicate n c then 1 else 0 := by
  unfold cntM
  rw [segs_plain _ (fun e he => by rw [(List.mem_replicate.1 he).2]; exact sign_ne10 d hd)]
  by_cases h : List.replicate n d = List.replicate n c
  · rw [if_pos h, h]; simp
  · rw [if_neg h, List.count_eq_zero]
    intro hm
    exact h (List.mem_singleton.1 hm).symm
theorem rep_ne (c d : UInt8) (n : Nat) (hn : 0 < n) : List.replicate n d = List.replicate n c ↔ d = c := by
  constructor
  · intro h
    have := congrArg (fun l : List UInt8 => l[0]?) h
    simp only [List.getElem?_replicate, if_pos hn] at this
    exact Option.some.inj this
  · rintro rfl; rfl
def hunksM (l : List Part) : Nat := l.countP Part.hunk
theorem cnt_hunk (c : UInt8) (n : Nat) (hn : 0 < n) (hc : c = 60 ∨ c = 124 ∨ c = 61 ∨ c = 62) (x : Part) (hx : runP x < n) (t r : List UInt8) (ht : runM t < n) :
    cntM c n (t ++ (hunkL n x ++ r)) = 1 + cntM c n r := by
  unfold runP at hx
  have hs : isSign c = true := by rcases hc with rfl | rfl | rfl | rfl <;> decide
  have e : t ++ (hunkL n x ++ r) = t ++ 10 :: (List.replicate n 60 ++ 10 :: (x.s1 ++ 10 :: (List.replicate n 124 ++ 10 :: (x.s0 ++ 10 :: (List.replicate n 61 ++ 10 :: (x.s2 ++ 10 :: (List.replicate n 62 ++ 10 :: r))))))) := by
    unfold hunkL mark
    simp only [List.append_assoc, List.cons_append, List.nil_append, List.singleton_append]
  rw [e, cnt_append, cnt_append, cnt_append, cnt_append, cnt_append, cnt_append, cnt_append, cnt_append,
    cnt_line c 60 n (by decide), cnt_line c 124 n (by decide), cnt_line c 61 n (by decide), cnt_line c 62 n (by decide),
    cnt_small c n hs t ht, cnt_small c n hs x.s1 (by omega), cnt_small c n hs x.s0 (by omega), cnt_small c n hs x.s2 (by omega)]
  simp only [rep_ne _ _ n hn]
  rcases hc with rfl | rfl | rfl | rfl <;> simp <;> omega
theorem cnt_body (c : UInt8) (n : Nat) (hn : 0 < n) (hc : c = 60 ∨ c = 124 ∨ c = 61 ∨ c = 62) : ∀ (l : List Part) (p : Bool), rightGo p l = true → (∀ x ∈ l, runP x < n) → cntM c n (bodyM n l) = hunksM l := by
  have hs : isSign c = true := by rcases hc with rfl | rfl | rfl | rfl <;> decide
  have hnil : cntM c n [] = 0 := cnt_small c n hs [] (by show 0 < n; exact hn)
  intro l
  induction hk : l.length using Nat.strongRecOn generalizing l with
  | _ k ih =>
    intro p hr hx
    match l, hk with
    | [], _ => exact hnil
    | x :: l, hk =>
      rw [rightGo, Bool.and_eq_true] at hr
      have hb : bodyM n (x :: l) = (if x.hunk then hunkL n x else x.text) ++ bodyM n l := by unfold bodyM; rw [List.flatMap_cons]
      simp only [List.length_cons] at hk
      cases hh : x.hunk with
      | true =>
        have e := cnt_hunk c n hn hc x (hx x List.mem_cons_self) [] (bodyM n l) (by show 0 < n; exact hn)
        rw [List.nil_append] at e
        rw [hb, hh, if_pos rfl, e, ih l.length (by omega) l rfl x.hunk hr.2 (fun y hy => hx y (List.mem_cons_of_mem _ hy))]
        unfold hunksM
        rw [List.countP_cons, hh]
        simp; omega
      | false =>
        obtain ⟨e1, e2, e3⟩ := part_text x p hr.1 hh
        have hxt : runM x.text < n := by have := hx x List.mem_cons_self; unfold runP at this; omega
        match l, hk with
        | [], _ =>
          rw [hb, hh]
          simp only [show bodyM n [] = [] from rfl, List.append_nil, Bool.false_eq_true, if_false]
          rw [cnt_small c n hs _ hxt]
          unfold hunksM
          rw [List.countP_cons, hh]; rfl
        | y :: l, hk =>
          have hr2 := hr.2
          rw [rightGo, Bool.and_eq_true] at hr2
          have hy : y.hunk = true := by
            cases hyy : y.hunk with
            | true => rfl
            | false => rw [hh] at hr2; exact absurd (part_text y false hr2.1 hyy).2.2 (by decide)
          have hb2 : bodyM n (y :: l) = hunkL n y ++ bodyM n l := by unfold bodyM; rw [List.flatMap_cons, if_pos hy]
          simp only [List.length_cons] at hk
          rw [hb, hh, hb2]
          simp only [Bool.false_eq_true, if_false]
          rw [cnt_hunk c n hn hc y (hx y (by simp)) x.text (bodyM n l) hxt, ih l.length (by omega) l rfl y.hunk hr2.2 (fun z hz => hx z (by simp [hz]))]
          unfold hunksM
          rw [List.countP_cons, List.countP_cons, hh, hy]
          simp; omega
theorem any_hunks (l : List Part) : anyHunk l = decide (0 < hunksM l) := by
  unfold anyHunk hunksM
  induction l with
  | nil => rfl
  | cons x l ih =>
    rw [List.any_cons, List.countP_cons, ih]
    cases x.hunk <;> simp
/-- The marks' lines of what is encoded: just as many as there are hunks. -/
theorem cnt_enc {s : List UInt8} {l : List Part} (h : Good s l) (c : UInt8) (hc : c = 60 ∨ c = 124 ∨ c = 61 ∨ c = 62) : cntM c (widthM l) s = hunksM l := by
  obtain ⟨hr, he, hw, _⟩ := good_shape h
  have hs : isSign c = true := by rcases hc with rfl | rfl | rfl | rfl <;> decide
  have e : headM (widthM l) ++ bodyM (widthM l) l = ([35, 109, 97, 114, 107, 115, 32] ++ Go.Lib.itoa (widthM l)) ++ 10 :: bodyM (widthM l) l := by unfold headM; simp
  rw [he, e, cnt_append, cnt_body c (widthM l) (by omega) hc l true (right_go hr).1 (width_ge l 7).2]
  have h0 : cntM c (widthM l) ([35, 109, 97, 114, 107, 115, 32] ++ Go.Lib.itoa (widthM l)) = 0 := by
    refine cnt_small c _ hs _ ?_
    have hp : ∀ d ∈ ([35, 109, 97, 114, 107, 115, 32] ++ Go.Lib.itoa (widthM l) : List UInt8), d ≠ 10 := by
      intro d hd
      rcases List.mem_append.1 hd with hd | hd
      · simp only [List.mem_cons, List.not_mem_nil, or_false] at hd
        rcases hd with rfl | rfl | rfl | rfl | rfl | rfl | rfl <;> decide
      · exact itoa_no10 _ d hd
    unfold runM
    rw [segs_plain _ hp]
    have : lineRun ([35, 109, 97, 114, 107, 115, 32] ++ Go.Lib.itoa (widthM l)) = 0 := by
      rw [List.cons_append, lineRun, if_neg (by decide)]
    simp only [List.map_cons, List.map_nil, List.foldr_cons, List.foldr_nil, this]
    omega
  omega
/-- A marked text's run is its width at least. -/
theorem run_enc {s : List UInt8} {l : List Part} (h : Good s l) : widthM l ≤ runM s := by
  obtain ⟨hr, he, hw, _⟩ := good_shape h
  obtain ⟨a, b, hm⟩ := bodyM_mark (widthM l) l h.2
  rw [he, hm]
  have := runM_at (headM (widthM l) ++ a ++ [10]) b 60 (widthM l) (by decide) (.inr ⟨_, rfl⟩)
  simpa using this
/-- What is picked. -/
def pickGo : List Part → List Int → Option (List UInt8)
  | [], [] => some []
  | [], _ :: _ => none
  | x :: l, p => if x.hunk = false then (pickGo l p).map (x.text ++ ·) else match p with
    | [] => none
    | k :: p => if k = 0 then (pickGo l p).map (x.s0 ++ ·) else if k = 1 then (pickGo l p).map (x.s1 ++ ·) else if k = 2 then (pickGo l p).map (x.s2 ++ ·) else none
def pickM (l : List Part) (p : List Int) : List UInt8 × Int := if rightM l then (match pickGo l p with | none => ([], 1) | some s => (s, 0)) else ([], 1)
end Go.Proofs.YtdegjfmjjabnnaaGreatDoor

import Derived.Test.YtdegjfmjjabnnaaDoorMkPc1
import Derived.Test.YtdegjfmjjabnnaaDoorMkCp
import Derived.Test.YtdegjfmjjabnnaaDoorReg
/-! What MarkPicks's drawn regions hold: rows that are owned, and apart. -/
namespace Go.Proofs.YtdegjfmjjabnnaaDoor
set_option linter.unusedSimpArgs false
set_option linter.unusedVariables false
open Go.RowKit
open Go.Lib hiding intOf

theorem Tryd.infoInt : (Tryd.prog.info? 3).map (fun i => (i.zero, i.size, i.bytes)) = some (some (.int .i64 0), 1, 8) := by kernel_rfl
def intCells (l : List Int) : List Value := l.map (Value.int .i64)
def rowC (B : Nat) (e : TypeId) (size n : Nat) (xs : List Value) (v : Value) (w : World) : Prop := w.ownsRow B e size v n xs ∧ ∃ g, v.ownBlock = some g
def OwnsP (B : Nat) (l : List Part) (v : Value) (w : World) : Prop := rowC B 35 5 l.length (partCells l) v w
def OwnsI (B : Nat) (l : List Int) (v : Value) (w : World) : Prop := rowC B 3 1 l.length (intCells l) v w
theorem rowC.below {B : Nat} {e : TypeId} {size n : Nat} {xs : List Value} {v : Value} {w w' : World} (h : rowC B e size n xs v w) (hb : Below w.heap.size w w') : rowC B e size n xs v w' := ⟨owns_below h.1 hb, h.2⟩
theorem rowC.other {B : Nat} {e : TypeId} {size n : Nat} {xs : List Value} {v : Value} {w w' : World} {r : Option Nat} (h : rowC B e size n xs v w) (hr : v.ownBlock ≠ r) (hk : ∀ k, k < w.heap.size → some k ≠ r → w'.heap[k]? = w.heap[k]?) : rowC B e size n xs v w' := by
  refine ⟨?_, h.2⟩
  obtain ⟨h1, h2⟩ := h.1
  refine ⟨h1, ?_⟩
  rcases h2 with h2 | ⟨g, cap, cur, rfl, hb, hh, hrest⟩
  · exact .inl h2
  · refine .inr ⟨g, cap, cur, rfl, hb, ?_, hrest⟩
    rw [hk g (Array.getElem?_eq_some_iff.1 hh).1 hr]
    exact hh
theorem rowC.lies {B : Nat} {e : TypeId} {size n : Nat} {xs : List Value} {v : Value} {w : World} (h : rowC B e size n xs v w) : ∃ g, v.ownBlock = some g ∧ g < w.heap.size := by
  obtain ⟨g, hg⟩ := h.2
  refine ⟨g, hg, ?_⟩
  rcases h.1.2 with ⟨h1, _⟩ | ⟨g', cap, cur, rfl, _, hh, _⟩
  · rw [h1] at hg; cases hg
  · cases hg
    exact (Array.getElem?_eq_some_iff.1 hh).1
theorem rowC.new (B : Nat) (w : World) (e : TypeId) (size n : Nat) (cs : Array Value) (hB : B ≤ w.heap.size) (hn : n ≤ maxLen) (hs : cs.size = n * size) : rowC B e size n cs.toList (.slice (some ⟨w.heap.size, 0, none⟩) n n) (w.alloc (.cells cs e)) :=
  ⟨⟨by simpa using hs, .inr ⟨w.heap.size, n, cs, rfl, hB, heap_alloc_new w _, Nat.le_refl _, hn, hs, by rw [List.take_of_length_le]; simp [hs]⟩⟩, w.heap.size, rfl⟩
theorem intCells_one : ∀ (l : List Int), ∀ u ∈ intCells l, u.oneCell' = true := by
  intro l u hu
  unfold intCells at hu
  obtain ⟨x, _, rfl⟩ := List.mem_map.1 hu
  rfl
/-- 'append(s, x...)' of ints. -/
theorem wp_ints {o : Oper} {a : Act} {K : Act → World → Prop} {Q : Exit → Act → World → Prop} (s x : Operand)
    (ho : o.op = .call { callee := .builtin .append, args := #[s, x], argTypes := #[23, 23] })
    (B : Nat) (w : World) (v : Value) (acc l : List Int) (hs : a.eval s = v) (hown : OwnsI B acc v w) (xv : Value) (hx : a.eval x = xv) (hp : IV w xv l)
    (hl : acc.length + l.length ≤ 4294967296) (hB : B ≤ w.heap.size)
    (h : ∀ v' w', OwnsI B (acc ++ l) v' w' → Below B w w' → (∀ k, k < w.heap.size → some k ≠ v.ownBlock → w'.heap[k]? = w.heap[k]?) → (v'.ownBlock = v.ownBlock ∨ v'.ownBlock = some w.heap.size) → K (a.put o.dst v') w') : o.wp Tryd.prog a w K Q := by
  obtain ⟨i0, hi0, hz0, hz1, hz2⟩ := info_parts Tryd.infoInt
  obtain ⟨p, c, rfl, hc, hp⟩ := hp
  refine wp_copy s x 23 ho B 3 i0 _ 1 8 Tryd.underlying23 hi0 hz0 hz1 hz2 rfl (by decide) w v acc.length (intCells acc) hs hown.1 p l.length c (intCells l) hx ?_ (by unfold maxLen; omega) (by omega) hB (fun v' w' h2 h3 h4 h5 => h v' w' ⟨?_, ?_⟩ h3 h4 h5)
  · rcases hp with rfl | ⟨g, o, rfl, _, hat⟩
    · exact .inl ⟨rfl, rfl⟩
    · cases l with
      | nil => exact .inl ⟨rfl, rfl⟩
      | cons y l =>
        refine .inr ⟨_, rfl, by simp, by unfold intCells; simp, fun j u hj => ?_, intCells_one _⟩
        have ha : ((⟨g, o, none⟩ : Addr).add j) = ⟨g, o + j, none⟩ := by unfold Addr.add; split <;> simp_all
        unfold intCells at hj
        rw [List.getElem?_map] at hj
        obtain ⟨k, hk, rfl⟩ := Option.map_eq_some_iff.1 hj
        rw [ha, hat j k hk]
  · have e : intCells (acc ++ l) = intCells acc ++ intCells l := by unfold intCells; simp
    rw [e, List.length_append]
    exact h2
  · obtain ⟨g, hg⟩ := hown.2
    rcases h5 with h5 | h5
    · exact ⟨g, by rw [h5, hg]⟩
    · exact ⟨_, h5⟩
theorem wp_partsP {o : Oper} {a : Act} {K : Act → World → Prop} {Q : Exit → Act → World → Prop} (s x : Operand)
    (ho : o.op = .call { callee := .builtin .append, args := #[s, x], argTypes := #[22, 22] })
    (B : Nat) (w : World) (v : Value) (acc l : List Part) (hs : a.eval s = v) (hown : OwnsP B acc v w) (xv : Value) (hx : a.eval x = xv) (hp : PV w xv l)
    (hl : acc.length + l.length ≤ 4294967296) (hB : B ≤ w.heap.size)
    (h : ∀ v' w', OwnsP B (acc ++ l) v' w' → Below B w w' → (∀ k, k < w.heap.size → some k ≠ v.ownBlock → w'.heap[k]? = w.heap[k]?) → (v'.ownBlock = v.ownBlock ∨ v'.ownBlock = some w.heap.size) → K (a.put o.dst v') w') : o.wp Tryd.prog a w K Q := by
  obtain ⟨p, c, rfl, hp⟩ := hp
  refine wp_parts s x ho B w v acc l hs hown.1 p c hx hp hl hB (fun v' w' h2 h3 h4 h5 => h v' w' ⟨h2, ?_⟩ h3 h4 h5)
  obtain ⟨g, hg⟩ := hown.2
  rcases h5 with h5 | h5
  · exact ⟨g, by rw [h5, hg]⟩
  · exact ⟨_, h5⟩
theorem OwnsP.toPV {B : Nat} {l : List Part} {v : Value} {w : World} (h : OwnsP B l v w) : PV w v l := OwnsParts.toPV h.1
theorem OwnsI.toIV {B : Nat} {l : List Int} {v : Value} {w : World} (h : OwnsI B l v w) : IV w v l := by
  obtain ⟨g0, hg0⟩ := h.2
  have h0 := h.1
  rcases h.1.2 with ⟨h1, _⟩ | ⟨g, cap, cur, rfl, hb, hg, hn, _⟩
  · rw [h1] at hg0; cases hg0
  · refine ⟨_, cap, rfl, hn, .inr ⟨g, 0, rfl, (Array.getElem?_eq_some_iff.1 hg).1, fun j k hk => ?_⟩⟩
    have hc := World.ownsRow.cells h0 (g := g) rfl j (.int .i64 k) (by unfold intCells; rw [List.getElem?_map, hk]; rfl)
    have ha : ((⟨g, 0, none⟩ : Addr).add j) = ⟨g, j, none⟩ := by unfold Addr.add; split <;> simp_all
    rw [ha] at hc
    rw [Nat.zero_add]
    exact hc
/-- Slots by a list. -/
def dstOf (l : List Nat) (i : Nat) : Nat := if i < l.length then l.getD i 0 else 1000 + i
def distB (l : List Nat) : Bool := l.all (· < 1000) && (List.range l.length).all fun i => (List.range l.length).all fun j => i == j || l.getD i 0 != l.getD j 0
theorem dstOf_inj {l : List Nat} (h : distB l = true) : ∀ i j, dstOf l i = dstOf l j → i = j := by
  intro i j
  unfold distB at h
  rw [Bool.and_eq_true] at h
  obtain ⟨h1, h2⟩ := h
  have hb : ∀ i, i < l.length → l.getD i 0 < 1000 := fun i hi => by
    have := List.all_eq_true.1 h1 l[i] (List.getElem_mem hi)
    rw [List.getD_eq_getElem?_getD, List.getElem?_eq_getElem hi]
    simpa using this
  unfold dstOf
  by_cases hi : i < l.length
  · by_cases hj : j < l.length
    · rw [if_pos hi, if_pos hj]
      intro e
      have := List.all_eq_true.1 (List.all_eq_true.1 h2 i (List.mem_range.2 hi)) j (List.mem_range.2 hj)
      rw [e] at this
      simpa using this
    · rw [if_pos hi, if_neg hj]
      have := hb i hi
      omega
  · by_cases hj : j < l.length
    · rw [if_neg hi, if_pos hj]
      have := hb j hj
      omega
    · rw [if_neg hi, if_neg hj]
      omega
/-- The owners, what uses up what, and what each claims: MarkPicks, the region of the first pick. -/
def own9 (i : Nat) : Bool := [0, 2, 4, 5, 6, 8, 10, 11].contains i
def dead9 : Nat → Nat
  | 0 => 2
  | 2 => 5
  | 4 => 5
  | 6 => 8
  | 8 => 11
  | 10 => 11
  | _ => 99
def claim9 (B : Nat) (vl vp : Value) (x : Part) (l : List Part) (ps : List Int) (iv : Int) (T : ByteArray) : Nat → Value → World → Prop
  | 0 => OwnsP B []
  | 1 => fun v _ => v = vl
  | 2 => OwnsP B l
  | 3 => fun v _ => v = partV x
  | 4 => OwnsP B [x]
  | 5 => OwnsP B (l ++ [x])
  | 6 => OwnsI B []
  | 7 => fun v _ => v = vp
  | 8 => OwnsI B ps
  | 9 => fun v _ => v = .int .i64 iv
  | 10 => OwnsI B [iv]
  | 11 => OwnsI B (ps ++ [iv])
  | 12 => fun v _ => v = .tuple #[.string T, .int .i64 0]
  | 13 => fun v _ => v = .tuple #[.string T, .int .i64 0]
  | 14 => fun v _ => v = .string T
  | 15 => fun v _ => v = .int .i64 0
  | 16 => fun v _ => v = .string T
  | 17 => fun v _ => v = .int .i64 0
  | _ => fun _ _ => True
theorem lt18 {i : Nat} (h : i < 18) : i = 0 ∨ i = 1 ∨ i = 2 ∨ i = 3 ∨ i = 4 ∨ i = 5 ∨ i = 6 ∨ i = 7 ∨ i = 8 ∨ i = 9 ∨ i = 10 ∨ i = 11 ∨ i = 12 ∨ i = 13 ∨ i = 14 ∨ i = 15 ∨ i = 16 ∨ i = 17 := by omega
theorem steady9 (B : Nat) (vl vp : Value) (x : Part) (l : List Part) (ps : List Int) (iv : Int) (T : ByteArray) : Steady own9 (claim9 B vl vp x l ps iv T) := by
  refine ⟨fun i v w w' h hb => ?_, fun i v w w' r h hr hk hz => ?_, fun i v w ho h => ?_⟩
  · by_cases hi : i < 18
    · rcases lt18 hi with rfl | rfl | rfl | rfl | rfl | rfl | rfl | rfl | rfl | rfl | rfl | rfl | rfl | rfl | rfl | rfl | rfl | rfl <;> first | exact rowC.below h hb | exact h
    · have e : i = (i - 18) + 18 := by omega
      rw [e]
      exact trivial
  · by_cases hi : i < 18
    · rcases lt18 hi with rfl | rfl | rfl | rfl | rfl | rfl | rfl | rfl | rfl | rfl | rfl | rfl | rfl | rfl | rfl | rfl | rfl | rfl <;> first | exact rowC.other h (hr rfl) hk | exact h
    · have e : i = (i - 18) + 18 := by omega
      rw [e]
      exact trivial
  · have hi : i < 18 := by
      unfold own9 at ho
      simp only [List.contains_eq_mem, List.mem_cons, List.not_mem_nil, or_false, decide_eq_true_eq] at ho
      omega
    rcases lt18 hi with rfl | rfl | rfl | rfl | rfl | rfl | rfl | rfl | rfl | rfl | rfl | rfl | rfl | rfl | rfl | rfl | rfl | rfl <;> first | exact rowC.lies h | (exact absurd ho (by decide))
/-- The second pick's region. -/
def own10 (i : Nat) : Bool := [0, 2, 4, 5].contains i
def dead10 : Nat → Nat
  | 0 => 2
  | 2 => 5
  | 4 => 5
  | _ => 99
def claim10 (B : Nat) (vl vp : Value) (x : Part) (l : List Part) (E1 : ByteArray) (E2 : Int) : Nat → Value → World → Prop
  | 0 => OwnsP B []
  | 1 => fun v _ => v = vl
  | 2 => OwnsP B l
  | 3 => fun v _ => v = partV x
  | 4 => OwnsP B [x]
  | 5 => OwnsP B (l ++ [x])
  | 6 => fun v _ => v = vp
  | 7 => fun v _ => v = .tuple #[.string E1, .int .i64 E2]
  | 8 => fun v _ => v = .tuple #[.string E1, .int .i64 E2]
  | 9 => fun v _ => v = .string E1
  | 10 => fun v _ => v = .int .i64 E2
  | 11 => fun v _ => v = .string E1
  | 12 => fun v _ => v = .int .i64 E2
  | _ => fun _ _ => True
theorem steady10 (B : Nat) (vl vp : Value) (x : Part) (l : List Part) (E1 : ByteArray) (E2 : Int) : Steady own10 (claim10 B vl vp x l E1 E2) := by
  refine ⟨fun i v w w' h hb => ?_, fun i v w w' r h hr hk hz => ?_, fun i v w ho h => ?_⟩
  · by_cases hi : i < 18
    · rcases lt18 hi with rfl | rfl | rfl | rfl | rfl | rfl | rfl | rfl | rfl | rfl | rfl | rfl | rfl | rfl | rfl | rfl | rfl | rfl <;> first | exact rowC.below h hb | exact h
    · have e : i = (i - 18) + 18 := by omega
      rw [e]
      exact trivial
  · by_cases hi : i < 18
    · rcases lt18 hi with rfl | rfl | rfl | rfl | rfl | rfl | rfl | rfl | rfl | rfl | rfl | rfl | rfl | rfl | rfl | rfl | rfl | rfl <;> first | exact rowC.other h (hr rfl) hk | exact h
    · have e : i = (i - 18) + 18 := by omega
      rw [e]
      exact trivial
  · have hi : i < 18 := by
      unfold own10 at ho
      simp only [List.contains_eq_mem, List.mem_cons, List.not_mem_nil, or_false, decide_eq_true_eq] at ho
      omega
    rcases lt18 hi with rfl | rfl | rfl | rfl | rfl | rfl | rfl | rfl | rfl | rfl | rfl | rfl | rfl | rfl | rfl | rfl | rfl | rfl <;> first | exact rowC.lies h | (exact absurd ho (by decide))
section
variable {dst dead : Nat → Nat} {own : Nat → Bool} {claim : Nat → Value → World → Prop} {B : Nat} {w0 w w' : World} {d : Nat → Bool} {v : Nat → Value}
theorem RF.step' (h : RF dst dead own claim B w0 d v w) (hst : Steady own claim) (hdst : ∀ i j, dst i = dst j → i = j) {i t : Nat} (ht : dst i = t) (hi : d i = false) {x : Value} (hb : Below w.heap.size w w') (hc : claim i x w') (hf : own i = true → ∃ g, x.ownBlock = some g ∧ w.heap.size ≤ g) :
    RF dst dead own claim B w0 (setB d i) (setV v (some t) x) w' := by subst ht; exact h.step hst hdst hi hb hc hf
theorem RF.app' (h : RF dst dead own claim B w0 d v w) (hst : Steady own claim) (hdst : ∀ i j, dst i = dst j → i = j) {i i0 t t0 : Nat} (ht : dst i = t) (ht0 : dst i0 = t0) (hi : d i = false) (h0 : d i0 = true) (hd0 : dead i0 = i) (o0 : own i0 = true) {x : Value} (hb : Below B w w')
    (hk : ∀ k, k < w.heap.size → some k ≠ (v t0).ownBlock → w'.heap[k]? = w.heap[k]?) (hc : claim i x w') (hx : x.ownBlock = (v t0).ownBlock ∨ x.ownBlock = some w.heap.size) :
    RF dst dead own claim B w0 (setB d i) (setV v (some t) x) w' := by subst ht; subst ht0; exact h.app hst hdst hi h0 hd0 o0 hb hk hc hx
theorem RF.start (h : Below B w0 w) (hB : B ≤ w.heap.size) : RF dst dead own claim B w0 (fun _ => false) v w := ⟨h, hB, fun i h => by (try cases h), fun i j _ _ _ h => by (try cases h)⟩
theorem RF.at_ (h : RF dst dead own claim B w0 d v w) {i t : Nat} (ht : dst i = t) (hi : d i = true) (hd : d (dead i) = false) : claim i (v t) w := by subst ht; exact h.cl i hi hd
end
end Go.Proofs.YtdegjfmjjabnnaaDoor

import Derived.Test.YtdegjfmjjabnnaaDoorMkRP
import Derived.Deep.AppendLies
import Derived.Deep.Upon
/-! append of a whole row of parts, of ints. -/
namespace Go.Proofs.YtdegjfmjjabnnaaDoor
set_option linter.unusedSimpArgs false
set_option linter.unusedVariables false
open Go.RowKit
open Go.Lib hiding intOf

/-- 'append(s, x...)': a row that the call owns, and a row that lies anywhere. -/
theorem wp_copy {P : Program} {o : Oper} {a : Act} {K : Act → World → Prop} {Q : Exit → Act → World → Prop} (s x : Operand) (t : TypeId)
    (ho : o.op = .call { callee := .builtin .append, args := #[s, x], argTypes := #[t, t] })
    (B : Nat) (e : TypeId) (i : TypeInfo) (z : Value) (size bytes : Nat) (ht : P.underlying t = some (.slice e)) (hi : P.info? e = some i) (hz : i.zero = some z)
    (hsize : i.size = size) (hby : i.bytes = bytes) (hzs : z.cells.size = size) (hsz : 0 < size)
    (w : World) (v : Value) (n : Nat) (xs : List Value) (hs : a.eval s = v) (hown : w.ownsRow B e size v n xs)
    (p : Option Addr) (m c : Nat) (news : List Value) (hx : a.eval x = .slice p m c)
    (hl : (m = 0 ∧ news = []) ∨ ∃ ad, p = some ad ∧ 0 < m ∧ news.length = m * size ∧ (∀ j u, news[j]? = some u → w.cell? (ad.add j) = some u) ∧ ∀ u ∈ news, u.oneCell' = true)
    (h63 : n + m ≤ maxLen) (hbytes : (n + m) * bytes ≤ 140737488355328) (hB : B ≤ w.heap.size)
    (h : ∀ v' w', w'.ownsRow B e size v' (n + m) (xs ++ news) → Below B w w' → (∀ k, k < w.heap.size → some k ≠ v.ownBlock → w'.heap[k]? = w.heap[k]?) → (v'.ownBlock = v.ownBlock ∨ v'.ownBlock = some w.heap.size) → K (a.put o.dst v') w') : o.wp P a w K Q := by
  rcases hl with ⟨rfl, rfl⟩ | ⟨ad, rfl, hm, hln, hc, h1⟩
  · have hv : ∃ base cap, v = .slice base n cap ∧ n ≤ cap := by
      rcases hown.2 with ⟨h1, h2⟩ | ⟨g, cap, cur, h1, _, _, h2, _⟩
      · exact ⟨none, 0, by rw [h1, h2], by omega⟩
      · exact ⟨_, _, h1, h2⟩
    obtain ⟨base, cap, rfl, hle⟩ := hv
    have hsrc : Src P i.size t (.slice p 0 c) 0 [] w := by
      cases p with
      | none => exact Src.ofNil w ht c
      | some ad => exact Src.ofSlice w ht ad 0 c [] (by simp) (fun j u hj => by simp at hj) (fun u hu => by cases hu)
    have hrun := run_append_nothing (P := P) w t t o.type e i ht hi base n cap hle (.slice p 0 c) hsrc
    unfold Oper.wp
    simp [execOp, ho, resolve, invoke, builtin, hs, hx, hrun, Result.andThen]
    refine h _ w (by simpa using hown) (Below.refl _ _) (fun k _ _ => rfl) (.inl rfl)
  · refine wp_append_lies w s x t ho B e i z size bytes ht hi hz hsize hby hzs hsz v n xs hs hown ad m c news hx hln hc h1 hm h63 hbytes hB w.heap.size rfl ?_
    intro g cap w' h2 h3 h4 h5
    refine h _ w' h2 ((Below.refl B w).grown h3 hB (fun k hk => (World.ownsRow.lt hown k hk).1)) (fun k hk hne => h3.block k hk hne) ?_
    rcases h4 with h4 | h4
    · exact .inl h4.symm
    · exact .inr (by rw [h4]; rfl)
theorem partCells_one : ∀ (l : List Part), ∀ u ∈ partCells l, u.oneCell' = true := by
  intro l u hu
  unfold partCells partVs at hu
  obtain ⟨x, _, hx⟩ := List.mem_flatMap.1 hu
  simp only [List.mem_cons, List.not_mem_nil, or_false] at hx
  rcases hx with rfl | rfl | rfl | rfl | rfl <;> rfl
theorem partCells_len (l : List Part) : (partCells l).length = l.length * 5 := by
  induction l with
  | nil => rfl
  | cons x l ih => rw [partCells_cons]; simp only [List.length_cons, ih]; omega
theorem parts_news {w : World} {g o : Nat} {l : List Part} (h : PartsAt w g o l) : ∀ j u, (partCells l)[j]? = some u → w.cell? ((⟨g, o, none⟩ : Addr).add j) = some u := by
  intro j u hj
  have ha : ((⟨g, o, none⟩ : Addr).add j) = ⟨g, o + j, none⟩ := by unfold Addr.add; split <;> simp_all
  rw [ha]
  have hjl := (List.getElem?_eq_some_iff.1 hj).1
  rw [partCells_len] at hjl
  obtain ⟨x, hx⟩ : ∃ x, l[j / 5]? = some x := ⟨_, List.getElem?_eq_getElem (by omega)⟩
  obtain ⟨a0, a1, a2, a3, a4⟩ := partCells_at l (j / 5) x hx
  obtain ⟨b0, b1, b2, b3, b4⟩ := h (j / 5) x hx
  have hm : j = j / 5 * 5 ∨ j = j / 5 * 5 + 1 ∨ j = j / 5 * 5 + 2 ∨ j = j / 5 * 5 + 3 ∨ j = j / 5 * 5 + 4 := by omega
  rcases hm with e | e | e | e | e
  · rw [e] at hj ⊢; rw [a0] at hj; rw [b0]; exact hj
  · rw [e] at hj ⊢; rw [a1] at hj; rw [← Nat.add_assoc, b1]; exact hj
  · rw [e] at hj ⊢; rw [a2] at hj; rw [← Nat.add_assoc, b2]; exact hj
  · rw [e] at hj ⊢; rw [a3] at hj; rw [← Nat.add_assoc, b3]; exact hj
  · rw [e] at hj ⊢; rw [a4] at hj; rw [← Nat.add_assoc, b4]; exact hj
theorem OwnsParts.app {B : Nat} {w : World} {v : Value} {l m : List Part} (h : w.ownsRow B 35 5 v (l.length + m.length) (partCells l ++ partCells m)) : OwnsParts B w v (l ++ m) := by
  unfold OwnsParts
  have e : partCells (l ++ m) = partCells l ++ partCells m := by unfold partCells; simp
  rw [e, List.length_append]
  exact h
/-- The same of parts. -/
theorem wp_parts {o : Oper} {a : Act} {K : Act → World → Prop} {Q : Exit → Act → World → Prop} (s x : Operand)
    (ho : o.op = .call { callee := .builtin .append, args := #[s, x], argTypes := #[22, 22] })
    (B : Nat) (w : World) (v : Value) (acc l : List Part) (hs : a.eval s = v) (hown : OwnsParts B w v acc) (p : Option Addr) (c : Nat) (hx : a.eval x = .slice p l.length c) (hp : PLies w p l)
    (hl : acc.length + l.length ≤ 4294967296) (hB : B ≤ w.heap.size)
    (h : ∀ v' w', OwnsParts B w' v' (acc ++ l) → Below B w w' → (∀ k, k < w.heap.size → some k ≠ v.ownBlock → w'.heap[k]? = w.heap[k]?) → (v'.ownBlock = v.ownBlock ∨ v'.ownBlock = some w.heap.size) → K (a.put o.dst v') w') : o.wp Tryd.prog a w K Q := by
  obtain ⟨i0, hi0, hz0, hz1, hz2⟩ := info_parts Tryd.infoPart
  refine wp_copy s x 22 ho B 35 i0 _ 5 72 Tryd.underlying22 hi0 hz0 hz1 hz2 rfl (by decide) w v acc.length (partCells acc) hs hown p l.length c (partCells l) hx ?_ (by unfold maxLen; omega) (by omega) hB (fun v' w' h2 h3 h4 h5 => h v' w' (OwnsParts.app h2) h3 h4 h5)
  rcases hp with rfl | ⟨g, o, rfl, _, hat⟩
  · exact .inl ⟨rfl, rfl⟩
  · cases l with
    | nil => exact .inl ⟨rfl, rfl⟩
    | cons y l => exact .inr ⟨_, rfl, by simp, partCells_len _, parts_news hat, partCells_one _⟩
theorem wpList_parts {ops : Array Oper} {rest : List Oper} {o : Oper} {a : Act} {Q : Exit → Act → World → Prop} (hgd : o.guard = none) (s x : Operand)
    (ho : o.op = .call { callee := .builtin .append, args := #[s, x], argTypes := #[22, 22] })
    (B : Nat) (w : World) (v : Value) (acc l : List Part) (hs : a.eval s = v) (hown : OwnsParts B w v acc) (p : Option Addr) (c : Nat) (hx : a.eval x = .slice p l.length c) (hp : PLies w p l)
    (hl : acc.length + l.length ≤ 4294967296) (hB : B ≤ w.heap.size)
    (h : ∀ v' w', OwnsParts B w' v' (acc ++ l) → Below B w w' → wpList Tryd.prog ops Q rest (a.put o.dst v') w') : wpList Tryd.prog ops Q (o :: rest) a w :=
  wpList_plain hgd fun _ hK => wp_parts s x ho B w v acc l hs hown p c hx hp hl hB (fun v' w' h1 h2 _ _ => hK _ _ (h v' w' h1 h2))
theorem OwnsParts.new0 (w : World) : OwnsParts w.heap.size (w.alloc (.cells #[] 35)) (.slice (some ⟨w.heap.size, 0, none⟩) 0 0) [] := by
  refine ⟨rfl, .inr ⟨w.heap.size, 0, #[], rfl, Nat.le_refl _, heap_alloc_new w _, Nat.le_refl _, by unfold maxLen; omega, rfl, rfl⟩⟩
end Go.Proofs.YtdegjfmjjabnnaaDoor

import Derived.Test.YtfklmopnifkieaaGreatDoorRuQ
import Derived.Test.YtfklmopnifkieaaGreatDoorQuoP
import Derived.Deep.AppendLies
import Derived.Test.YtfklmopnifkieaaGreatDoorQuoK
/-! PLAIN: rules, their texts, and back (P18.2, P18.4). -/
namespace Go.Proofs.YtfklmopnifkieaaGreatDoor
set_option linter.unusedSimpArgs false
set_option linter.unusedVariables false
open Go.Lib
abbrev Rul := List Stp × Stp
def lineR (x : Rul) : List UInt8 := (quoteL (textR x.1).1).1 ++ [32] ++ (quoteL x.2).1
def rightX (x : Rul) : Bool := validD x.2 && pathOk x.1
def rightR (l : List Rul) : Bool := decide (l.length ≤ 32) && l.all rightX
def prR (l : List Rul) : List UInt8 := l.flatMap fun x => lineR x ++ [10]
def printR (l : List Rul) : List UInt8 × Int := if rightR l = true then (prR l, 0) else ([], 1)
/-- The rule of a line: where the first string ends; the two; are they one? -/
def ruleR (s : List UInt8) : Rul × Bool :=
  if (endL s 0).2 ≠ 0 ∨ (endL s 0).1 = (s.length : Int) then (([], []), false) else
    (((parseP (unqL (s.take (endL s 0).1.toNat)).1).1, (unqL (s.drop ((endL s 0).1.toNat + 1))).1),
      ((unqL (s.drop ((endL s 0).1.toNat + 1))).2.2 == 0) && ((parseP (unqL (s.take (endL s 0).1.toNat)).1).2 == 0) &&
      (lineR ((parseP (unqL (s.take (endL s 0).1.toNat)).1).1, (unqL (s.drop ((endL s 0).1.toNat + 1))).1) == s))
def parseGo : Nat → List Rul → List UInt8 → List Rul × Int × Int
  | 0, acc, _ => (acc, acc.length, 0)
  | f + 1, acc, s => if s = [] then (acc, acc.length, 0) else if acc.length = 32 then ([], 32, 3) else
      if ((ruleR (cut s [10]).1).2 && (cut s [10]).2.2) = false then ([], acc.length, 2) else parseGo f (acc ++ [(ruleR (cut s [10]).1).1]) (cut s [10]).2.1
def parseR (s : List UInt8) : List Rul × Int × Int := parseGo (s.length + 1) [] s
theorem quoteL_len6 (l : List UInt8) : (quoteL l).1.length ≤ 6 * l.length + 2 := by
  unfold quoteL
  split
  · have := (qBs_len l).2
    simp only [List.length_cons, List.length_append, List.length_nil]; omega
  · simp
theorem quoteL_no10 (l : List UInt8) : ∀ c ∈ (quoteL l).1, c ≠ 10 := by
  intro c hc e
  obtain ⟨k, hk, rfl⟩ := List.getElem_of_mem hc
  have := (quote_at l k _ (List.getElem?_eq_getElem hk)).1
  rw [e] at this
  exact absurd this (by decide)
theorem lineR_no10 (x : Rul) : ∀ c ∈ lineR x, c ≠ 10 := by
  intro c hc
  unfold lineR at hc
  rcases List.mem_append.1 hc with hc | hc
  · rcases List.mem_append.1 hc with hc | hc
    · exact quoteL_no10 _ c hc
    · rw [List.mem_singleton.1 hc]; decide
  · exact quoteL_no10 _ c hc
theorem ixb_front : ∀ (a r : List UInt8) (c : UInt8), (∀ x ∈ a, x ≠ c) → Lib.indexByte (a ++ c :: r) c = (a.length : Int)
  | [], r, c, _ => by simp [Lib.indexByte]
  | b :: a, r, c, h => by
    have ih := ixb_front a r c (fun x hx => h x (List.mem_cons_of_mem _ hx))
    have hb : (b == c) = false := beq_eq_false_iff_ne.2 (h b List.mem_cons_self)
    rw [List.cons_append, Lib.indexByte, ih, hb]
    have : ((a.length : Int) == -1) = false := by rw [beq_eq_false_iff_ne]; omega
    rw [this]; simp
theorem cut_hit (a r : List UInt8) (c : UInt8) (h : ∀ x ∈ a, x ≠ c) : cut (a ++ c :: r) [c] = (a, r, true) := by
  unfold cut
  rw [Lib.index_one, ixb_front a r c h, if_pos (by omega), Int.toNat_natCast, List.take_left]
  simp
theorem endL_zero (s : List UInt8) : (endL s 0).2 = 0 ∨ (endL s 0).2 = 2 := by
  unfold endL
  split
  · exact .inr rfl
  · unfold readL
    split
    · rcases (read_bd (s.length + 1) (s.drop ((0 : Int).toNat + 1)) ((0 : Int).toNat + 1) []).2 with h | h
      · exact .inl h
      · exact .inr h.1
    · exact .inr rfl
theorem endL_bd (s : List UInt8) : 0 ≤ (endL s 0).1 ∧ (endL s 0).1 ≤ s.length := by
  unfold endL
  split
  · simp
  · unfold readL
    split
    · rename_i h
      have hl := (List.getElem?_eq_some_iff.1 h.2).1
      have := (read_bd (s.length + 1) (s.drop ((0 : Int).toNat + 1)) ((0 : Int).toNat + 1) []).1
      rw [List.length_drop] at this
      simp only [Int.toNat_zero] at *
      omega
    · simp
theorem text_ok {p : List Stp} (h : pathOk p = true) : textR p = (textP p, 0) := by unfold textR; rw [if_pos h]
/-- A rule's line is read. -/
theorem rule_line (x : Rul) (h : rightX x = true) : ruleR (lineR x) = (x, true) := by
  obtain ⟨p, k⟩ := x
  unfold rightX at h
  rw [Bool.and_eq_true] at h
  obtain ⟨hk, hp⟩ := h
  have hpv : p.all validD = true := by unfold pathOk at hp; rw [Bool.and_eq_true] at hp; exact hp.2
  have hv := textP_valid p hpv
  have hl : lineR (p, k) = (quoteL (textP p)).1 ++ 32 :: (quoteL k).1 := by unfold lineR; rw [text_ok hp]; simp
  obtain ⟨Q1, hQ1⟩ : ∃ Q, (quoteL (textP p)).1 = Q := ⟨_, rfl⟩
  obtain ⟨Q2, hQ2⟩ : ∃ Q, (quoteL k).1 = Q := ⟨_, rfl⟩
  have he := end_quote [] (textP p) (32 :: Q2) hv
  have hu1 := unq_quote (textP p) hv
  have hu2 := unq_quote k hk
  rw [hQ1] at he hu1 hl
  rw [hQ2] at hl hu2
  simp only [List.nil_append, List.length_nil, Nat.zero_add] at he
  have he' : endL (Q1 ++ 32 :: Q2) 0 = ((Q1.length : Int), 0) := he
  unfold ruleR
  rw [hl, he']
  simp only [Int.toNat_natCast]
  rw [if_neg (by simp; omega), List.take_left, hu1]
  have hd : (Q1 ++ 32 :: Q2).drop (Q1.length + 1) = Q2 := by rw [← List.drop_drop, List.drop_left]; rfl
  rw [hd, hu2]
  simp only []
  rw [parse_text p hp]
  simp only []
  rw [hl]
  simp
theorem rule_is (s : List UInt8) (h : (ruleR s).2 = true) : lineR (ruleR s).1 = s ∧ rightX (ruleR s).1 = true := by
  unfold ruleR at h ⊢
  split
  · rename_i hc; rw [if_pos hc] at h; cases h
  · rename_i hc
    rw [if_neg hc] at h
    simp only [Bool.and_eq_true, decide_eq_true_iff, beq_iff_eq] at h ⊢
    obtain ⟨⟨h1, h2⟩, h3⟩ := h
    refine ⟨h3, ?_⟩
    unfold rightX
    rw [Bool.and_eq_true]
    exact ⟨((unq_facts _).2 h1).2, (parse_right _).1⟩
theorem prR_cons (x : Rul) (l : List Rul) : prR (x :: l) = lineR x ++ 10 :: prR l := by unfold prR; simp
theorem parse_print : ∀ (l acc : List Rul) (f : Nat), l.all rightX = true → acc.length + l.length ≤ 32 → l.length < f → parseGo f acc (prR l) = (acc ++ l, ((acc ++ l).length : Int), 0)
  | [], acc, f, _, _, hf => by
    obtain ⟨g, rfl⟩ : ∃ g, f = g + 1 := ⟨f - 1, by simp at hf; omega⟩
    rw [parseGo, if_pos (show prR [] = [] from rfl)]; simp
  | x :: l, acc, f, h, hl, hf => by
    obtain ⟨g, rfl⟩ : ∃ g, f = g + 1 := ⟨f - 1, by omega⟩
    rw [List.all_cons, Bool.and_eq_true] at h
    simp only [List.length_cons] at hl hf
    rw [prR_cons, parseGo, if_neg (by simp), if_neg (by omega), cut_hit _ _ _ (lineR_no10 x), rule_line x h.1]
    simp only [Bool.and_self, Bool.true_eq_false, if_false]
    have := parse_print l (acc ++ [x]) g h.2 (by rw [List.length_append]; simp; omega) (by omega)
    rw [this]
    simp
theorem prR_len : ∀ l : List Rul, l.length ≤ (prR l).length
  | [] => Nat.le_refl _
  | x :: l => by have := prR_len l; rw [prR_cons, List.length_append, List.length_cons, List.length_cons]; omega
/-- What is printed is read. -/
theorem parse_of_print (l : List Rul) (h : rightR l = true) : parseR (printR l).1 = (l, (l.length : Int), 0) := by
  unfold printR
  rw [if_pos h]
  unfold rightR at h
  rw [Bool.and_eq_true, decide_eq_true_iff] at h
  have hl := prR_len l
  have := parse_print l [] ((prR l).length + 1) h.2 (by simpa using h.1) (by omega)
  simpa [parseR] using this
theorem parse_go (f : Nat) : ∀ (acc : List Rul) (s : List UInt8), s.length < f → acc.length ≤ 32 →
    ((parseGo f acc s).2.2 = 0 → ∃ m, (parseGo f acc s).1 = acc ++ m ∧ m.all rightX = true ∧ s = prR m ∧ (parseGo f acc s).1.length ≤ 32 ∧ (parseGo f acc s).2.1 = ((parseGo f acc s).1.length : Int)) ∧
    ((parseGo f acc s).2.2 ≠ 0 → (parseGo f acc s).1 = [] ∧ 0 ≤ (parseGo f acc s).2.1 ∧ (parseGo f acc s).2.1 ≤ 32) := by
  induction f with
  | zero => intro acc s h; omega
  | succ f ih =>
    intro acc s hs ha
    unfold parseGo
    split
    · rename_i h0
      exact ⟨fun _ => ⟨[], by simp, rfl, by rw [h0]; rfl, ha, rfl⟩, fun h => absurd rfl h⟩
    · rename_i h0
      split
      · exact ⟨fun h => absurd h (by decide), fun _ => ⟨rfl, by simp, by simp⟩⟩
      · rename_i h32
        split
        · exact ⟨fun h => absurd h (by simp), fun _ => ⟨rfl, by simp, by simp only []; omega⟩⟩
        · rename_i hr
          rw [Bool.not_eq_false, Bool.and_eq_true] at hr
          rcases cut_byte s 10 with ⟨_, hc⟩ | ⟨a, r, hsr, hno, hc⟩
          · rw [hc] at hr; exact absurd hr.2 (fun h => by cases h)
          · rw [hc] at hr ⊢
            simp only [] at hr ⊢
            have hl : s.length = a.length + (r.length + 1) := by rw [hsr, List.length_append, List.length_cons]
            obtain ⟨h1, h2⟩ := rule_is a hr.1
            obtain ⟨i1, i2⟩ := ih (acc ++ [(ruleR a).1]) r (by omega) (by rw [List.length_append]; simp; omega)
            refine ⟨fun h => ?_, i2⟩
            obtain ⟨m, m1, m2, m3, m4, m5⟩ := i1 h
            refine ⟨(ruleR a).1 :: m, by rw [m1]; simp, by rw [List.all_cons, h2, m2]; rfl, ?_, m4, m5⟩
            rw [prR_cons, h1, ← m3, hsr]
/-- What is read is right, and its text is what was read. -/
theorem print_of_parse (s : List UInt8) : ((parseR s).2.2 = 0 → rightR (parseR s).1 = true ∧ printR (parseR s).1 = (s, 0) ∧ (parseR s).2.1 = ((parseR s).1.length : Int)) ∧
    ((parseR s).2.2 ≠ 0 → (parseR s).1 = [] ∧ 0 ≤ (parseR s).2.1 ∧ (parseR s).2.1 ≤ 32) := by
  obtain ⟨h1, h2⟩ := parse_go (s.length + 1) [] s (by omega) (by simp)
  refine ⟨fun h => ?_, h2⟩
  obtain ⟨m, m1, m2, m3, m4, m5⟩ := h1 h
  rw [List.nil_append] at m1
  have hr : rightR (parseR s).1 = true := by
    unfold rightR parseR
    rw [Bool.and_eq_true, decide_eq_true_iff]
    exact ⟨m4, by rw [m1]; exact m2⟩
  refine ⟨hr, ?_, m5⟩
  unfold printR
  rw [if_pos hr]
  unfold parseR
  rw [m1, ← m3]
end Go.Proofs.YtfklmopnifkieaaGreatDoor
/-! Rows of rules in memory: read and owned. -/
namespace Go.Proofs.YtfklmopnifkieaaGreatDoor
set_option linter.unusedSimpArgs false
set_option linter.unusedVariables false
open Go.RowKit
open Go.Lib hiding intOf
theorem Tryz.infoRule : (Tryz.prog.info? 38).map (fun i => (i.zero, i.size, i.bytes)) = some (some (.agg #[.slice none 0 0, .string ⟨#[]⟩]), 2, 40) := by kernel_rfl
def RAt (w : World) (g o : Nat) (x : Rul) : Prop := ∃ pv, w.cell? ⟨g, o, none⟩ = some pv ∧ w.cell? ⟨g, o + 1, none⟩ = some (.string (bs x.2)) ∧ SV w pv x.1
/-- Where a row of rules lies. -/
def RLies (w : World) (p : Option Addr) (l : List Rul) : Prop := l = [] ∨ ∃ g o, p = some ⟨g, o, none⟩ ∧ g < w.heap.size ∧ ∀ (j : Nat) (x : Rul), l[j]? = some x → RAt w g (o + j * 2) x
theorem RLies.keep {w w' : World} {p : Option Addr} {l : List Rul} (h : RLies w p l) (hb : Below w.heap.size w w') : RLies w' p l := by
  rcases h with h | ⟨g, o, h2, h3, h4⟩
  · exact .inl h
  · refine .inr ⟨g, o, h2, Nat.lt_of_lt_of_le h3 hb.size, fun j x hx => ?_⟩
    obtain ⟨pv, c0, c1, c2⟩ := h4 j x hx
    exact ⟨pv, by rw [hb.cell (p := ⟨g, o + j * 2, none⟩) h3]; exact c0, by rw [hb.cell (p := ⟨g, o + j * 2 + 1, none⟩) h3]; exact c1, c2.keep hb⟩
theorem RLies.at_ {w : World} {p : Option Addr} {l : List Rul} (h : RLies w p l) {j : Nat} {x : Rul} (hx : l[j]? = some x) : ∃ g o pv, p = some ⟨g, o, none⟩ ∧ g < w.heap.size ∧ w.cell? ⟨g, o + j * 2, none⟩ = some pv ∧ w.cell? ⟨g, o + j * 2 + 1, none⟩ = some (.string (bs x.2)) ∧ SV w pv x.1 := by
  rcases h with h | ⟨g, o, h2, h3, h4⟩
  · rw [h] at hx; simp at hx
  · obtain ⟨pv, c0, c1, c2⟩ := h4 j x hx
    exact ⟨g, o, pv, h2, h3, c0, c1, c2⟩
/-- A value that reads as a row of rules. -/
def RV (w : World) (v : Value) (l : List Rul) : Prop := ∃ p c, v = .slice p l.length c ∧ l.length ≤ c ∧ RLies w p l
theorem RV.keep {w w' : World} {v : Value} {l : List Rul} (h : RV w v l) (hb : Below w.heap.size w w') : RV w' v l := by
  obtain ⟨p, c, h1, h2, h3⟩ := h
  exact ⟨p, c, h1, h2, h3.keep hb⟩
theorem RV.nil (w : World) : RV w (.slice none 0 0) [] := ⟨none, 0, rfl, Nat.le_refl _, .inl rfl⟩
def rulCells (z : List (Value × Rul)) : List Value := z.flatMap fun y => [y.1, .string (bs y.2.2)]
theorem rulCells_cons (y : Value × Rul) (z : List (Value × Rul)) : rulCells (y :: z) = y.1 :: .string (bs y.2.2) :: rulCells z := rfl
theorem rulCells_at : ∀ (z : List (Value × Rul)) (j : Nat) (y : Value × Rul), z[j]? = some y → (rulCells z)[j * 2]? = some y.1 ∧ (rulCells z)[j * 2 + 1]? = some (.string (bs y.2.2))
  | [], j, y, h => by simp at h
  | x :: z, 0, y, h => by
    obtain rfl : x = y := by simpa using h
    rw [rulCells_cons]
    exact ⟨rfl, rfl⟩
  | x :: z, j + 1, y, h => by
    rw [List.getElem?_cons_succ] at h
    have := rulCells_at z j y h
    rw [rulCells_cons, show (j + 1) * 2 = j * 2 + 2 by omega]
    exact this
/-- A row of rules that a call has made, and their patterns. -/
def OwnsR (B : Nat) (l : List Rul) (v : Value) (w : World) : Prop := ∃ z : List (Value × Rul), z.map (·.2) = l ∧ w.ownsRow B 38 2 v l.length (rulCells z) ∧ ∀ y ∈ z, OwnsS 0 y.2.1 y.1 w
theorem OwnsR.nil (B : Nat) (w : World) : OwnsR B [] (.slice none 0 0) w := ⟨[], rfl, ⟨rfl, .inl ⟨rfl, rfl⟩⟩, fun y hy => by cases hy⟩
theorem OwnsR.mono {B B' : Nat} {l : List Rul} {v : Value} {w : World} (h : OwnsR B l v w) (hb : B' ≤ B) : OwnsR B' l v w := by
  obtain ⟨z, h1, h2, h3⟩ := h
  exact ⟨z, h1, h2.mono hb, h3⟩
theorem OwnsR.keep {B : Nat} {l : List Rul} {v : Value} {w w' : World} (h : OwnsR B l v w) (hb : Below w.heap.size w w') : OwnsR B l v w' := by
  obtain ⟨z, h1, h2, h3⟩ := h
  exact ⟨z, h1, owns_below h2 hb, fun y hy => (h3 y hy).keep hb⟩
theorem OwnsR.toRV {B : Nat} {l : List Rul} {v : Value} {w : World} (h : OwnsR B l v w) : RV w v l := by
  obtain ⟨z, rfl, h2, h3⟩ := h
  have h0 := h2
  rcases h2.2 with ⟨h1, h2⟩ | ⟨g, cap, cur, rfl, hb, hg, hn, _⟩
  · exact ⟨none, 0, by rw [h1, h2], by omega, .inl (List.length_eq_zero_iff.1 h2)⟩
  · refine ⟨_, cap, rfl, hn, .inr ⟨g, 0, rfl, (Array.getElem?_eq_some_iff.1 hg).1, fun j x hx => ?_⟩⟩
    rw [List.getElem?_map] at hx
    obtain ⟨y, hy, rfl⟩ := Option.map_eq_some_iff.1 hx
    obtain ⟨a, b⟩ := rulCells_at z j y hy
    have hc := World.ownsRow.cells h0 (g := g) rfl
    have ha : ∀ n, ((⟨g, 0, none⟩ : Addr).add n) = ⟨g, n, none⟩ := fun n => by unfold Addr.add; split <;> simp_all
    rw [Nat.zero_add]
    exact ⟨y.1, by rw [← ha]; exact hc _ _ a, by rw [← ha]; exact hc _ _ b, (h3 y (List.mem_of_getElem? hy)).toSV⟩
theorem own_ne {w : World} {B1 B2 : Nat} {e1 e2 : TypeId} {s1 s2 : Nat} {v1 v2 : Value} {n1 n2 : Nat} {x1 x2 : List Value} (h1 : w.ownsRow B1 e1 s1 v1 n1 x1) (h2 : w.ownsRow B2 e2 s2 v2 n2 x2) (he : e1 ≠ e2) : v1.ownBlock = none ∨ v1.ownBlock ≠ v2.ownBlock := by
  rcases h1.2 with ⟨rfl, _⟩ | ⟨g, cap, cur, rfl, _, hg, _⟩
  · exact .inl rfl
  · right
    rcases h2.2 with ⟨rfl, _⟩ | ⟨g2, cap2, cur2, rfl, _, hg2, _⟩
    · intro h; cases h
    · intro h
      have hgg : g = g2 := Option.some.inj h
      subst hgg
      rw [hg] at hg2
      injection hg2 with hg2
      injection hg2 with _ hg2
      exact he hg2
theorem ownsS_one {B : Nat} {l : List Stp} {v : Value} {w : World} (h : OwnsS B l v w) : v.oneCell' = true := by
  rcases h.2 with ⟨rfl, _⟩ | ⟨g, cap, cur, rfl, _⟩ <;> rfl
set_option maxRecDepth 100000 in
/-- 'append(out, x)' of a rule that the statement has just laid. -/
theorem wpList_rule {ops : Array Oper} {rest : List Oper} {o : Oper} {a : Act} {Q : Exit → Act → World → Prop} (hgd : o.guard = none) (s x : Operand)
    (ho : o.op = .call { callee := .builtin .append, args := #[s, x], argTypes := #[22, 22] })
    (B : Nat) (w : World) (v : Value) (acc : List Rul) (y : Rul) (pv : Value) (hs : a.eval s = v) (hown : OwnsR B acc v w) (hp : OwnsS 0 y.1 pv w)
    (hx : a.eval x = .slice (some ⟨w.heap.size, 0, none⟩) 1 1) (hl : acc.length ≤ 4294967295) (hB : B ≤ w.heap.size)
    (h : ∀ v' w', OwnsR B (acc ++ [y]) v' w' → Below B w w' → wpList Tryz.prog ops Q rest (a.put o.dst v') w') :
    wpList Tryz.prog ops Q (o :: rest) a (w.alloc (.cells #[pv, .string (bs y.2)] 38)) := by
  obtain ⟨i0, hi0, hz0, hz1, hz2⟩ := info_parts Tryz.infoRule
  obtain ⟨z, rfl, h2, h3⟩ := hown
  have ba := below_alloc1 w (.cells #[pv, .string (bs y.2)] 38)
  have hnews : ∀ j u, (#[pv, .string (bs y.2)] : Array Value).toList[j]? = some u → (w.alloc (.cells #[pv, .string (bs y.2)] 38)).cell? ((⟨w.heap.size, 0, none⟩ : Addr).add j) = some u :=
    fun j u hj => World.news_of_block (w := w.alloc (.cells #[pv, .string (bs y.2)] 38)) (heap_alloc_new w _) j u hj
  refine wpList_append_lies _ hgd s x 22 ho B 38 i0 _ 2 40 Tryz.underlying22 hi0 hz0 hz1 hz2 rfl (by decide) v _ (rulCells z) hs (World.ownsRow.alloc h2 _) ⟨w.heap.size, 0, none⟩ 1 1 _ hx (by rfl) hnews
    (fun u hu => ?_) (by decide) (by unfold maxLen; omega) (by omega) (by simp; omega) _ rfl ?_
  · rcases List.mem_cons.1 hu with rfl | hu
    · exact ownsS_one hp
    · rcases List.mem_cons.1 hu with rfl | hu
      · rfl
      · cases hu
  · intro g cap w' h5 h6 _ _
    have hbel : Below B w w' := ((Below.refl B w).alloc hB _).grown h6 (by simp; omega) (fun k hk => (World.ownsRow.lt h2 k hk).1)
    refine h _ w' ⟨z ++ [(pv, y)], by simp, ?_, fun u hu => ?_⟩ hbel
    · have e : rulCells (z ++ [(pv, y)]) = rulCells z ++ [pv, .string (bs y.2)] := by unfold rulCells; simp
      rw [e, List.length_append]
      exact h5
    · have key : ∀ (l : List Stp) (v2 : Value), OwnsS 0 l v2 w → OwnsS 0 l v2 w' := fun l v2 h => World.ownsRow.kept (World.ownsRow.alloc h _) h6 (own_ne h h2 (by decide))
      rcases List.mem_append.1 hu with hu | hu
      · exact key _ _ (h3 u hu)
      · rw [List.mem_singleton.1 hu]; exact key _ _ hp
end Go.Proofs.YtfklmopnifkieaaGreatDoor
/-! The walks of rules.line, right, Right, Find. -/
namespace Go.Proofs.YtfklmopnifkieaaGreatDoor
set_option linter.unusedSimpArgs false
set_option linter.unusedVariables false
open Go.RowKit
open Go.Lib hiding intOf
/-- The variables that rules reads. -/
structure RuV (w : World) : Prop where
  s : SVar w
  t : Tabs w
  d : DTab w
  m : MVar w
theorem RuV.keep {w w' : World} (h : RuV w) (hb : Below w.heap.size w w') : RuV w' := ⟨h.s.keep hb, h.t.keep hb, h.d.keep hb, h.m.keep hb⟩
theorem cell_new (w : World) (cs : Array Value) (t : TypeId) (j : Nat) (u : Value) (h : cs.toList[j]? = some u) : (w.alloc (.cells cs t)).cell? ⟨w.heap.size, j, none⟩ = some u := by
  have := World.news_of_block (w := w.alloc (.cells cs t)) (heap_alloc_new w _) j u h
  have ha : ((⟨w.heap.size, 0, none⟩ : Addr).add j) = ⟨w.heap.size, j, none⟩ := by unfold Addr.add; split <;> simp_all
  rw [ha] at this
  exact this
theorem PB.text {p : List Stp} (h : PB p) : (textR p).1.length ≤ 536870912 := by
  unfold textR
  split
  · exact h
  · simp
theorem lineR_len (x : Rul) (h : PB x.1) : (lineR x).length ≤ 6 * 536870912 + 6 * x.2.length + 5 := by
  have h1 := quoteL_len6 (textR x.1).1
  have h2 := quoteL_len6 x.2
  have h3 := h.text
  unfold lineR
  simp only [List.length_append, List.length_cons, List.length_nil]
  omega
theorem cat32 (a b : List UInt8) : bs a ++ (⟨#[32]⟩ : ByteArray) ++ bs b = bs (a ++ [32] ++ b) := by
  have h1 : (⟨#[32]⟩ : ByteArray) = bs [32] := rfl
  rw [h1, bs_append, bs_append]
set_option maxRecDepth 100000 in
set_option maxHeartbeats 4000000 in
theorem line_any (pv : Value) (p : List Stp) (k : Stp) (w : World) (hv : SV w pv p) (hp : PB p) (hk : k.length ≤ 536870912) (hV : RuV w) :
    Calls Tryz.prog 30 #[.agg #[pv, .string (bs k)]] w fun e w' => e = .returned (.string (bs (lineR (p, k)))) ∧ Below w.heap.size w w' := by
  have ba := below_alloc1 w (.cells #[pv, .string (bs k)] 38)
  have C1 := text_any pv p _ (hv.keep ba) hp (hV.t.keep ba) (hV.m.keep ba)
  have hpt := hp.text
  have hL : lineR (p, k) = (quoteL (textR p).1).1 ++ [32] ++ (quoteL k).1 := rfl
  obtain ⟨T, hT⟩ : ∃ T, textR p = T := ⟨_, rfl⟩
  obtain ⟨t, te⟩ := T
  rw [hT] at C1 hpt hL
  simp only [] at hpt hL
  have C2 : Hid (∀ w, RuV w → Calls Tryz.prog 44 #[.string (bs t)] w fun e w' => e = .returned (.tuple #[.string (bs (quoteL t).1), .int .i64 (quoteL t).2]) ∧ Below w.heap.size w w') := Lib.hid (fun w h => quote_any t w hpt h.t h.d)
  have C3 : Hid (∀ w, RuV w → Calls Tryz.prog 44 #[.string (bs k)] w fun e w' => e = .returned (.tuple #[.string (bs (quoteL k).1), .int .i64 (quoteL k).2]) ∧ Below w.heap.size w w') := Lib.hid (fun w h => quote_any k w hk h.t h.d)
  have l1 := quoteL_len6 t
  have l2 := quoteL_len6 k
  obtain ⟨Q1, hQ1⟩ : ∃ Q, quoteL t = Q := ⟨_, rfl⟩
  obtain ⟨q1, e1⟩ := Q1
  obtain ⟨Q2, hQ2⟩ : ∃ Q, quoteL k = Q := ⟨_, rfl⟩
  obtain ⟨q2, e2⟩ := Q2
  rw [hQ1] at C2 l1 hL
  rw [hQ2] at C3 l2 hL
  simp only [] at l1 l2 hL
  have hcat := cat32 q1 q2
  rw [← hL] at hcat
  have s1 := bs_size q1
  have s2 := bs_size q2
  have s3 : (bs q1 ++ (⟨#[32]⟩ : ByteArray)).size = q1.length + 1 := by rw [ByteArray.size_append, s1]; rfl
  have HC1 := Lib.hid C1
  have HV := Lib.hid hV
  have HL := Lib.hid hcat
  have g1 : ¬ 9223372036854775807 < (bs q1).size + (⟨#[32]⟩ : ByteArray).size := by rw [s1]; show ¬ _ < _ + 1; omega
  have g2 : ¬ 9223372036854775807 < (bs q1 ++ (⟨#[32]⟩ : ByteArray)).size + (bs q2).size := by rw [s3, s2]; omega
  clear C1 hV hL hT hQ1 hQ2 hcat hp hpt hk s1 s2 s3 l1 l2 hv
  go_enter Tryz.func30, Tryz.ntmps30
  go_wp2_with fail
  refine HC1.out.mono ?_
  rintro e w1 ⟨rfl, hb1⟩
  unfold TextE
  have HB1 := Lib.hid (below_of_new (Below.refl w.heap.size w) (ba.trans (hb1.mono (by simp))))
  have cx1 : w1.cell? ⟨w.heap.size, 1, none⟩ = some (.string (bs k)) := by
    rw [hb1.cell (p := ⟨w.heap.size, 1, none⟩) (by simp)]
    exact cell_new w _ _ 1 _ rfl
  have hcl := Lib.hid (cell_lt cx1)
  clear hb1 ba
  go_wp2_with fail
  with_reducible refine (C2.out _ (HV.out.keep HB1.out)).mono ?_
  rintro e w2 ⟨rfl, hb2⟩
  have HB2 := Lib.hid (below_of_new HB1.out hb2)
  have cx2 : w2.cell? ⟨w.heap.size, 1, none⟩ = some (.string (bs k)) := by
    rw [hb2.cell (p := ⟨w.heap.size, 1, none⟩) hcl.out]; exact cx1
  clear hb2 cx1
  go_wp2_with fail
  with_reducible refine (C3.out _ (HV.out.keep HB2.out)).mono ?_
  rintro e w3 ⟨rfl, hb3⟩
  have HB3 := Lib.hid (below_of_new HB2.out hb3)
  clear hb3 cx2
  go_wp2_with fail
  go_ret
  exact ⟨by rw [← HL.out] <;> rfl, HB3.out⟩
end Go.Proofs.YtfklmopnifkieaaGreatDoor

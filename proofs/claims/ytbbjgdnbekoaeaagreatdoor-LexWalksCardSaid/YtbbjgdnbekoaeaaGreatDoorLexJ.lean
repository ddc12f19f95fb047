import Derived.Test.YtbbjgdnbekoaeaaGreatDoorLexS
import Derived.BigQuiet
import Derived.Deep.QuietTactic
import Derived.Deep.AppendLies
/-! Tokens that are compared and appended; PLAIN: two texts with a comma between them. -/
namespace Go.Proofs.YtbbjgdnbekoaeaaGreatDoor
set_option linter.unusedSimpArgs false
set_option linter.unusedVariables false
open Go.RowKit
open Go.Lib hiding intOf

theorem addr_add (g n : Nat) : ((⟨g, 0, none⟩ : Addr).add n) = ⟨g, n, none⟩ := by unfold Addr.add; split <;> simp_all
theorem tokCells_len (ts : List Tok) : (tokCells ts).length = ts.length * 3 := by
  induction ts with
  | nil => rfl
  | cons t ts ih => rw [tokCells_cons]; simp only [List.length_cons, ih]; omega
theorem tokCells_one (ts : List Tok) : ∀ u ∈ tokCells ts, u.oneCell' = true := by
  intro u hu
  unfold tokCells at hu
  obtain ⟨t, _, h⟩ := List.mem_flatMap.1 hu
  simp only [List.mem_cons, List.not_mem_nil, or_false] at h
  rcases h with rfl | rfl | rfl <;> rfl
theorem tokAt_cells : ∀ {ts : List Tok} {w : World} {g : Nat}, TokAt w g ts → ∀ (j : Nat) (u : Value), (tokCells ts)[j]? = some u → w.cell? ⟨g, j, none⟩ = some u := by
  intro ts w g h j u hj
  have hlen : (tokCells ts).length = ts.length * 3 := by
    clear h hj
    induction ts with
    | nil => rfl
    | cons t ts ih => rw [tokCells_cons]; simp only [List.length_cons, ih]; omega
  have hjl := (List.getElem?_eq_some_iff.1 hj).1
  obtain ⟨t, ht⟩ : ∃ t, ts[j / 3]? = some t := ⟨_, List.getElem?_eq_getElem (by omega)⟩
  obtain ⟨a, b, c⟩ := tokCells_at ts (j / 3) t ht
  obtain ⟨a2, b2, c2⟩ := h (j / 3) t ht
  have hm : j = j / 3 * 3 ∨ j = j / 3 * 3 + 1 ∨ j = j / 3 * 3 + 2 := by omega
  rcases hm with e | e | e
  · rw [e] at hj ⊢; rw [a] at hj; rw [a2]; exact hj
  · rw [e] at hj ⊢; rw [b] at hj; rw [b2]; exact hj
  · rw [e] at hj ⊢; rw [c] at hj; rw [c2]; exact hj
theorem ToksV.keep {w w' : World} {v : Value} {ts : List Tok} (h : ToksV w v ts) (hb : Below w.heap.size w w') : ToksV w' v ts := by
  rcases h with ⟨h1, h2⟩ | ⟨g, c, h1, h2, h3⟩
  · exact .inl ⟨h1, h2⟩
  · exact .inr ⟨g, c, h1, Nat.lt_of_lt_of_le h2 hb.size, h3.keep hb h2⟩
set_option maxHeartbeats 1000000 in
theorem sameT_yes (ts : List Tok) (v1 v2 : Value) (w : World) (h1 : ToksV w v1 ts) (h2 : ToksV w v2 ts) (hn : ts.length ≤ 4294967296) :
    Calls Tryz.prog 13 #[v1, v2] w fun e w' => e = .returned (.bool true) ∧ Below w.heap.size w w' := by
  by_cases h0 : ts = []
  · obtain ⟨o1, c1, rfl⟩ : ∃ o c, v1 = .slice o 0 c := by
      rcases h1 with ⟨_, h⟩ | ⟨g, c, h, _⟩
      · exact ⟨_, _, h⟩
      · exact ⟨_, _, by rw [h, h0]; rfl⟩
    obtain ⟨o2, c2, rfl⟩ : ∃ o c, v2 = .slice o 0 c := by
      rcases h2 with ⟨_, h⟩ | ⟨g, c, h, _⟩
      · exact ⟨_, _, h⟩
      · exact ⟨_, _, by rw [h, h0]; rfl⟩
    clear h1 h2 h0 hn
    go_enter Tryz.func13, Tryz.ntmps13
    go_wp2_with fail
    refine wp_loop_rounds 1 ?_
    rw [rounds_succ]
    go_wp2_with fail
    go_ret
    exact ⟨rfl, Below.refl _ _⟩
  · obtain ⟨g1, c1, rfl, hg1, a1⟩ := h1.resolve_left (fun h => h0 h.1)
    obtain ⟨g2, c2, rfl, hg2, a2⟩ := h2.resolve_left (fun h => h0 h.1)
    have HA1 := Lib.hid a1; have HA2 := Lib.hid a2
    clear h1 h2 h0 a1 a2
    go_enter Tryz.func13, Tryz.ntmps13
    go_wp2_with fail
    go_loopw [5] (fun i wr => ∃ j : Nat, j ≤ ts.length ∧ i = .int .i64 j ∧ Hid (Below w.heap.size w wr)) (fun i _ => ts.length - (RowKit.intOf i).toNat)
    case atStart => exact ⟨0, by omega, rfl, Below.refl _ _⟩
    case round =>
      obtain ⟨j, hj, rfl, HJ⟩ := hrel
      by_cases hlt : j < ts.length
      · obtain ⟨t, ht⟩ : ∃ t, ts[j]? = some t := ⟨_, List.getElem?_eq_getElem hlt⟩
        obtain ⟨ca, cb, cc⟩ := (HA1.out.keep HJ.out hg1) j t ht
        obtain ⟨da, db, dc⟩ := (HA2.out.keep HJ.out hg2) j t ht
        have hlz : (j : Int) < (ts.length : Int) := by omega
        clear ht
        go_wp2_with fail
        go_quiet (fail)
        go_wp2_with fail
        go_roundw
        case rel => exact ⟨j + 1, by omega, by go_num, below_drewN HJ.out _⟩
        case measure => simp [RowKit.intOf]; omega
      · go_wp2_with fail
        go_ret
        exact ⟨rfl, HJ.out⟩
theorem OwnsToks.snoc {B : Nat} {w : World} {v : Value} {ts : List Tok} {t : Tok} (h : w.ownsRow B 34 3 v (ts.length + 1) (tokCells ts ++ [.int .i64 t.kind, .int .i64 t.sf, .int .i64 t.st])) : OwnsToks B w v (ts ++ [t]) := by
  unfold OwnsToks
  have e : tokCells (ts ++ [t]) = tokCells ts ++ [.int .i64 t.kind, .int .i64 t.sf, .int .i64 t.st] := by unfold tokCells; simp
  rw [e, List.length_append]
  exact h
theorem OwnsToks.toV {B : Nat} {w : World} {v : Value} {ts : List Tok} (h : OwnsToks B w v ts) (hne : ts ≠ []) : ToksV w v ts := by
  obtain ⟨g, c, h1, _, h2, h3⟩ := h.at_ hne
  exact .inr ⟨g, c, h1, h2, h3⟩
/-- 'append(out, t)' at a step of a region that draws its order. -/
theorem step_toks {ops : Array Oper} {o : Oper} {a : Act} {K : Act → World → Prop} {Q : Exit → Act → World → Prop} {E : Prop} (hgd : o.guard = none) (s x : Operand)
    (ho : o.op = .call { callee := .builtin .append, args := #[s, x], argTypes := #[23, 23] })
    (B : Nat) (w : World) (v : Value) (ts : List Tok) (t : Tok) (hs : a.eval s = v) (hown : OwnsToks B w v ts) (cs : Array Value) (hx : a.eval x = .slice (some ⟨w.heap.size, 0, none⟩) 1 1)
    (hcs : cs.toList = [.int .i64 t.kind, .int .i64 t.sf, .int .i64 t.st]) (hl : ts.length ≤ 4294967296) (hB : B ≤ w.heap.size)
    (h : ∀ v' w', OwnsToks B w' v' (ts ++ [t]) → Below B w w' → K (a.put o.dst v') w') :
    if Region.wanted o (yielded ops a.tmps) = true then Oper.wp Tryz.prog o a (w.alloc (.cells cs 34)) K Q else E := by
  obtain ⟨i0, hi0, hz0, hz1, hz2⟩ := info_parts Tryz.infoTok
  refine step_append_lies _ hgd s x 23 ho B 34 i0 _ 3 24 Tryz.underlying23 hi0 hz0 hz1 hz2 rfl (by decide) v ts.length (tokCells ts) hs (World.ownsRow.alloc hown _) ⟨w.heap.size, 0, none⟩ 1 1 cs.toList hx (by rw [hcs]; rfl) (cells_new w cs _) (by rw [hcs]; simp [Value.oneCell']) (by decide) (by unfold maxLen; omega) (by omega) (by simp; omega) _ rfl ?_
  intro g cap w' h2 h3 _ _
  refine h _ w' ?_ (((Below.refl B w).alloc hB _).grown h3 (by simp; omega) (fun k hk => (World.ownsRow.lt hown k hk).1))
  rw [hcs] at h2
  exact OwnsToks.snoc h2
theorem chain_bd : ∀ {ts : List Tok} {a b n : Nat}, Chain ts a b → ∀ u ∈ ts, b ≤ n → u.sf ≤ n ∧ u.st ≤ n
  | [], _, _, _, _, u, hu, _ => by cases hu
  | t :: ts, a, b, n, ⟨h1, h2, _, _, h5⟩, u, hu, hb => by
    have hle := h5.le
    rcases List.mem_cons.1 hu with rfl | hu
    · omega
    · exact chain_bd h5 u hu hb
theorem toksL_short (l : List UInt8) (h : l.length ≤ 65536) : toksL l = match (toksGo l.length l 0).2 with
    | none => ((toksGo l.length l 0).1, (l.length : Int), 0)
    | some (p, e) => ([], (p : Int), e) := by unfold toksL; rw [if_neg (by omega)]; rfl
theorem toksL_join (a b : List UInt8) (ha : (toksL a).2.2 = 0) (hl : a.length + 1 + b.length ≤ 65536) :
    toksL (a ++ 44 :: b) = if (toksL b).2.2 = 0 then ((toksL a).1 ++ ⟨6, a.length, a.length + 1⟩ :: (toksL b).1.map (moveT (a.length + 1)), ((a.length + 1 + b.length : Nat) : Int), 0) else ([], (toksL b).2.1 + ((a.length + 1 : Nat) : Int), (toksL b).2.2) := by
  have hta : (toksGo a.length a 0).2 = none ∧ (toksL a).1 = (toksGo a.length a 0).1 := by
    unfold toksL at ha ⊢
    rw [if_neg (by omega)] at ha ⊢
    cases ho : (toksGo a.length a 0).2 with
    | none => exact ⟨rfl, rfl⟩
    | some x =>
      obtain ⟨p, e⟩ := x
      rw [ho] at ha
      exact absurd ha (toks_err a.length a 0 p e (Nat.le_refl _) ho).2.2
  have hjl : (a ++ 44 :: b).length = a.length + 1 + b.length := by simp; omega
  have hj := toks_join a.length (a ++ 44 :: b).length a b 0 (Nat.le_refl _) hta.1 (by omega)
  have hoff := toks_off b.length b 0 (a.length + 1)
  rw [Nat.zero_add] at hj hoff
  rw [hoff] at hj
  rw [hta.2, toksL_short _ (by omega), toksL_short b (by omega), hj]
  cases ho : (toksGo b.length b 0).2 with
  | none =>
    simp only [Option.map_none, if_true]
    rw [hjl]
  | some x =>
    obtain ⟨p, e⟩ := x
    have := toks_err b.length b 0 p e (Nat.le_refl _) ho
    simp only [Option.map_some, if_neg this.2.2]
    rw [show ((p + (a.length + 1) : Nat) : Int) = (p : Int) + ((a.length + 1 : Nat) : Int) by omega]
end Go.Proofs.YtbbjgdnbekoaeaaGreatDoor

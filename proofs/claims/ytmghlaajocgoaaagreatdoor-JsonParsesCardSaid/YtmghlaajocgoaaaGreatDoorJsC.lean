import Derived.Test.YtmghlaajocgoaaaGreatDoorJsB
import Derived.Test.YtmghlaajocgoaaaGreatDoorQuoE
import Derived.Deep.DeepCutAuto
/-! The walks of the parser's kind, here, fail, skip, takes; kindOf. -/
namespace Go.Proofs.YtmghlaajocgoaaaGreatDoor
set_option linter.unusedSimpArgs false
set_option linter.unusedVariables false
open Go.RowKit
open Go.Lib hiding intOf

/-- The parser between two tokens. -/
def J (B P : Nat) (txt : List UInt8) (rest : List Tok) (l : Sp) (nodes : List NodeD) (w : World) : Prop :=
  ∃ rv z nv, JBox w P txt rv l nv 0 0 ∧ TV w rv rest ∧ z.map (·.1) = nodes ∧ NodesAt B z nv w ∧ B ≤ P
theorem J.keep {B P : Nat} {txt : List UInt8} {rest : List Tok} {l : Sp} {nodes : List NodeD} {w w' : World} (h : J B P txt rest l nodes w) (hb : Below w.heap.size w w') : J B P txt rest l nodes w' := by
  obtain ⟨rv, z, nv, h1, h2, h3, h4, h5⟩ := h
  exact ⟨rv, z, nv, h1.keep hb, h2.keep hb, h3, h4.keep hb, h5⟩
/-- .. once it has failed. -/
def JBad (B P N : Nat) (a : Nat) (er : Int) (w : World) : Prop := ∃ txt rv l z nv, JBox w P txt rv l nv a er ∧ NodesAt B z nv w ∧ B ≤ P ∧ N ≤ z.length
theorem JBad.mono {B P N M : Nat} {a : Nat} {er : Int} {w : World} (h : JBad B P N a er w) (hm : M ≤ N) : JBad B P M a er w := by
  obtain ⟨txt, rv, l, z, nv, h1, h2, h3, h4⟩ := h
  exact ⟨txt, rv, l, z, nv, h1, h2, h3, Nat.le_trans hm h4⟩
/-- How many nodes the parser has. -/
def nodesN (P : Nat) (w : World) : Nat := match w.cell? ⟨P, 4, none⟩ with
  | some (.slice _ n _) => n
  | _ => 0
theorem J.nodesN {B P : Nat} {txt : List UInt8} {rest : List Tok} {l : Sp} {nodes : List NodeD} {w : World} (h : J B P txt rest l nodes w) : nodesN P w = nodes.length := by
  obtain ⟨rv, z, nv, h1, h2, h3, h4, h5⟩ := h
  obtain ⟨p, c, rfl⟩ := h4.slice
  have := h1.cells.2.2.2.2.1
  unfold Go.Proofs.YtmghlaajocgoaaaGreatDoor.nodesN
  rw [this, ← h3, List.length_map]
theorem grown_set (w : World) (P i : Nat) (u : Value) : w.grownBy (w.setCell ⟨P, i, none⟩ u) (some P) :=
  ⟨rfl, rfl, rfl, by simp [World.setCell], fun k _ hk => Below.heap_setCell w ⟨P, i, none⟩ u k (fun e => hk (by rw [e]))⟩
theorem grown_trans {w w1 w2 : World} {r : Option Nat} (h1 : w.grownBy w1 r) (h2 : w1.grownBy w2 r) : w.grownBy w2 r :=
  ⟨h2.os.trans h1.os, h2.tape.trans h1.tape, h2.output.trans h1.output, Nat.le_trans h1.size h2.size, fun k hk hne => (h2.block k (Nat.lt_of_lt_of_le hk h1.size) hne).trans (h1.block k hk hne)⟩
theorem kind_any (B P : Nat) (txt : List UInt8) (rest : List Tok) (l : Sp) (nodes : List NodeD) (w : World) (h : J B P txt rest l nodes w) (hr : rest.length ≤ 1073741824) :
    Calls Tryz.prog 32 #[.pointer (some ⟨P, 0, none⟩)] w fun e w' => e = .returned (.int .i64 (kindT rest : Int)) ∧ w = w' := by
  obtain ⟨rv, z, nv, hb, ht, _⟩ := h
  obtain ⟨c0, c1, c2, c3, c4, c5, c6, _⟩ := hb.cells
  cases rest with
  | nil =>
    obtain ⟨p, c, rfl⟩ := ht.empty
    clear hb ht
    go_enter Tryz.func32, Tryz.ntmps32
    go_wp2_with fail
    go_ret
    exact ⟨rfl, rfl⟩
  | cons t r =>
    obtain ⟨g, o, c, rfl, hc, k0, k1, k2, _⟩ := ht.head
    have d0 : (((r.length : Int) + 1) == 0) = false := beq_eq_false_iff_ne.2 (by omega)
    have d1 : (((r.length + 1 : Nat) : Int) == 0) = false := beq_eq_false_iff_ne.2 (by omega)
    clear hb ht
    go_enter Tryz.func32, Tryz.ntmps32
    go_wp2_with fail
    go_ret
    exact ⟨rfl, rfl⟩
theorem here_any (B P : Nat) (txt : List UInt8) (rest : List Tok) (l : Sp) (nodes : List NodeD) (w : World) (h : J B P txt rest l nodes w) (hr : rest.length ≤ 1073741824) (hs : txt.length ≤ 1073741824) :
    Calls Tryz.prog 38 #[.pointer (some ⟨P, 0, none⟩)] w fun e w' => e = .returned (.int .i64 (hereT txt.length rest : Int)) ∧ w = w' := by
  obtain ⟨rv, z, nv, hb, ht, _⟩ := h
  obtain ⟨c0, c1, c2, c3, c4, c5, c6, _⟩ := hb.cells
  have sl := bs_size txt
  cases rest with
  | nil =>
    obtain ⟨p, c, rfl⟩ := ht.empty
    clear hb ht
    go_enter Tryz.func38, Tryz.ntmps38
    go_wp2_with fail
    go_ret
    exact ⟨rfl, rfl⟩
  | cons t r =>
    obtain ⟨g, o, c, rfl, hc, k0, k1, k2, _⟩ := ht.head
    have d0 : (((r.length : Int) + 1) == 0) = false := beq_eq_false_iff_ne.2 (by omega)
    have d1 : (((r.length + 1 : Nat) : Int) == 0) = false := beq_eq_false_iff_ne.2 (by omega)
    clear hb ht
    go_enter Tryz.func38, Tryz.ntmps38
    go_wp2_with fail
    go_ret
    exact ⟨rfl, rfl⟩
theorem JBox.put {w : World} {P : Nat} {txt : List UInt8} {rv nv : Value} {l : Sp} {a : Nat} {er : Int} (h : JBox w P txt rv l nv a er) (a2 : Nat) (e2 : Int) :
    JBox ((w.setCell ⟨P, 5, none⟩ (.int .i64 a2)).setCell ⟨P, 6, none⟩ (.int .i64 e2)) P txt rv l nv a2 e2 := by
  unfold JBox at h ⊢
  simp [World.setCell, Array.getElem?_modify, h]
/-- What failing leaves. -/
def BadE (B P : Nat) (a : Nat) (er : Int) (w : World) (e : Ending) (w' : World) : Prop := e = .returned (.bool false) ∧ JBad B P (nodesN P w) a er w' ∧ Fr B P w w'
theorem fail_any (B P : Nat) (txt : List UInt8) (rest : List Tok) (l : Sp) (nodes : List NodeD) (er : Int) (w : World) (h : J B P txt rest l nodes w) (hr : rest.length ≤ 1073741824) (hs : txt.length ≤ 1073741824) :
    Calls Tryz.prog 23 #[.pointer (some ⟨P, 0, none⟩), .int .i64 er] w (BadE B P (hereT txt.length rest) er w) := by
  have C := Lib.hid (here_any B P txt rest l nodes w h hr hs)
  have hN := h.nodesN
  obtain ⟨rv, z, nv, hb, ht, hzn, hna, hBP⟩ := h
  have HNA := Lib.hid (hna.other hb (by decide) (by decide) (by decide) (grown_trans (grown_set w P 5 (.int .i64 (hereT txt.length rest : Int))) (grown_set _ P 6 (.int .i64 er))))
  have HN : Hid (nodesN P w ≤ z.length) := Lib.hid (by rw [hN, ← hzn, List.length_map]; exact Nat.le_refl _)
  obtain ⟨c0, c1, c2, c3, c4, c5, c6, f1, f2, f3, f4, f5, f6⟩ := hb.cells
  have HP := Lib.hid (hb.put (hereT txt.length rest) er)
  have HF := Lib.hid ((Fr.setP (B := B) (P := P) (i := 5) (w := w) (u := .int .i64 (hereT txt.length rest : Int)) hBP).trans (Fr.setP (i := 6) (u := .int .i64 er) hBP))
  clear hb ht hN hzn hna
  go_enter Tryz.func23, Tryz.ntmps23
  go_wp2_with fail
  refine C.out.mono ?_
  rintro e w1 ⟨rfl, rfl⟩
  go_wp2_with fail
  go_ret
  exact ⟨rfl, ⟨_, _, _, _, _, HP.out, HNA.out, hBP, HN.out⟩, HF.out⟩
theorem JBox.step {w : World} {P : Nat} {txt : List UInt8} {rv nv : Value} {l : Sp} {a : Nat} {er : Int} (h : JBox w P txt rv l nv a er) (rv2 : Value) (l2 : Sp) :
    JBox (((w.setCell ⟨P, 2, none⟩ (.int .i64 l2.1)).setCell ⟨P, 3, none⟩ (.int .i64 l2.2)).setCell ⟨P, 1, none⟩ rv2) P txt rv2 l2 nv a er := by
  unfold JBox at h ⊢
  simp [World.setCell, Array.getElem?_modify, h]
set_option maxRecDepth 100000 in
set_option maxHeartbeats 4000000 in
theorem skip_any (B P : Nat) (txt : List UInt8) (t : Tok) (r : List Tok) (l : Sp) (nodes : List NodeD) (w : World) (h : J B P txt (t :: r) l nodes w) (hr : r.length ≤ 1073741824) :
    Calls Tryz.prog 33 #[.pointer (some ⟨P, 0, none⟩)] w fun e w' => e = .returned (.tuple #[]) ∧ J B P txt r (t.sf, t.st) nodes w' ∧ w.grownBy w' (some P) := by
  obtain ⟨rv, z, nv, hb, ht, hz, hn, hBP⟩ := h
  obtain ⟨c0, c1, c2, c3, c4, c5, c6, f1, f2, f3, f4, f5, f6⟩ := hb.cells
  obtain ⟨g, o, c, rfl, hc, k0, k1, k2, htr⟩ := ht.head
  have HB := Lib.hid (hb.step (.slice (if c = 1 then some ⟨g, o, none⟩ else some ⟨g, o + 3, none⟩) r.length (c - 1)) (t.sf, t.st))
  have HG := Lib.hid (grown_trans (grown_trans (grown_set w P 2 (.int .i64 (t.sf : Int))) (grown_set _ P 3 (.int .i64 (t.st : Int)))) (grown_set _ P 1 (.slice (if c = 1 then some ⟨g, o, none⟩ else some ⟨g, o + 3, none⟩) r.length (c - 1))))
  have HX := Lib.hid hb
  have HT := Lib.hid htr
  have HN := Lib.hid hn
  have d0 : (0 : Int) < (r.length : Int) + 1 := by omega
  have d1 : (1 : Int) ≤ (r.length : Int) + 1 := by omega
  have d2 : (r.length : Int) + 1 ≤ (c : Int) := by omega
  clear hb ht htr hn
  go_enter Tryz.func33, Tryz.ntmps33
  go_wp2_with fail
  go_region
  go_end0
  refine ⟨rfl, J.keep ⟨_, z, nv, HB.out, HT.out.same (fun g2 cur hg2 => ?_), hz, HN.out.other HX.out (by decide) (by decide) (by decide) HG.out, hBP⟩ (Below.refl _ _).drew, grown_trans HG.out ⟨rfl, rfl, rfl, Nat.le_refl _, fun _ _ _ => rfl⟩⟩
  · refine HG.out.block g2 (cell_it hg2) (fun e => ?_)
    have e2 : g2 = P := Option.some.inj e
    subst e2
    have h1 := HX.out
    unfold JBox at h1
    rw [hg2] at h1
    injection h1 with h1
    injection h1 with _ h1
    exact absurd h1 (by decide)
theorem Fr.ofP {B P : Nat} {w w' : World} (hg : w.grownBy w' (some P)) (hBP : B ≤ P) (hB : B ≤ w.heap.size) : Fr B P w w' :=
  ⟨(Below.refl B w).grown hg hB (fun k hk => by cases hk; exact hBP), hg.size, fun k o hk hne _ => by rw [hg.block k (cell_it hk) (fun e => hne (Option.some.inj e))]; exact hk⟩
theorem takes_yes (B P : Nat) (txt : List UInt8) (t : Tok) (r : List Tok) (l : Sp) (nodes : List NodeD) (w : World) (h : J B P txt (t :: r) l nodes w) (hr : r.length ≤ 1048576) (k : Nat) (hk : t.kind = k) :
    Calls Tryz.prog 46 #[.pointer (some ⟨P, 0, none⟩), .int .i64 (k : Int)] w fun e w' => e = .returned (.bool true) ∧ J B P txt r (t.sf, t.st) nodes w' ∧ w.grownBy w' (some P) := by
  have C1 := kind_any B P txt (t :: r) l nodes w h (by simp only [List.length_cons]; omega)
  have hkk : kindT (t :: r) = k := hk
  rw [hkk] at C1
  have HC1 := Lib.hid C1
  have HC2 := Lib.hid (skip_any B P txt t r l nodes w h (by omega))
  have d0 : ((k : Int) != (k : Int)) = false := by rw [bne, beq_self_eq_true]; rfl
  clear C1 h hk hkk
  go_enter Tryz.func46, Tryz.ntmps46
  go_wp2_with fail
  refine HC1.out.mono ?_
  rintro e w1 ⟨rfl, rfl⟩
  go_wp2_with fail
  refine HC2.out.mono ?_
  rintro e w2 ⟨rfl, hj, hf⟩
  go_wp2_with fail
  go_ret
  exact ⟨rfl, hj, hf⟩
theorem takes_no (B P : Nat) (txt : List UInt8) (rest : List Tok) (l : Sp) (nodes : List NodeD) (w : World) (h : J B P txt rest l nodes w) (hr : rest.length ≤ 1048577) (k : Nat) (hk : kindT rest ≠ k) :
    Calls Tryz.prog 46 #[.pointer (some ⟨P, 0, none⟩), .int .i64 (k : Int)] w fun e w' => e = .returned (.bool false) ∧ w = w' := by
  have C1 := kind_any B P txt rest l nodes w h (by omega)
  obtain ⟨q, hq⟩ : ∃ q, kindT rest = q := ⟨_, rfl⟩
  rw [hq] at C1 hk
  have HC1 := Lib.hid C1
  have d0 : ((q : Int) != (k : Int)) = true := bne_iff_ne.2 (by omega)
  clear C1 h hk hq
  go_enter Tryz.func46, Tryz.ntmps46
  go_wp2_with fail
  refine HC1.out.mono ?_
  rintro e w1 ⟨rfl, rfl⟩
  go_wp2_with fail
  go_ret
  exact ⟨rfl, rfl⟩
theorem kindOf_any (k : Nat) (w : World) : Calls Tryz.prog 31 #[.int .i64 (k : Int)] w fun e w' => e = .returned (.int .i64 (kindOfT k : Int)) ∧ w = w' := by
  unfold kindOfT
  by_cases h12 : k = 12
  · subst h12
    go_enter Tryz.func31, Tryz.ntmps31
    go_wp2_with fail
    go_ret
    exact ⟨rfl, rfl⟩
  have d12 : ((k : Int) == 12) = false := beq_eq_false_iff_ne.2 (by omega)
  rw [if_neg h12]
  by_cases h10 : k = 10
  · subst h10
    go_enter Tryz.func31, Tryz.ntmps31
    go_wp2_with fail
    go_ret
    exact ⟨rfl, rfl⟩
  have d10 : ((k : Int) == 10) = false := beq_eq_false_iff_ne.2 (by omega)
  by_cases h11 : k = 11
  · subst h11
    go_enter Tryz.func31, Tryz.ntmps31
    go_wp2_with fail
    go_ret
    exact ⟨rfl, rfl⟩
  have d11 : ((k : Int) == 11) = false := beq_eq_false_iff_ne.2 (by omega)
  rw [if_neg (by omega)]
  by_cases h9 : k = 9
  · subst h9
    go_enter Tryz.func31, Tryz.ntmps31
    go_wp2_with fail
    go_ret
    exact ⟨rfl, rfl⟩
  have d9 : ((k : Int) == 9) = false := beq_eq_false_iff_ne.2 (by omega)
  rw [if_neg h9]
  by_cases h8 : k = 8
  · subst h8
    go_enter Tryz.func31, Tryz.ntmps31
    go_wp2_with fail
    go_ret
    exact ⟨rfl, rfl⟩
  have d8 : ((k : Int) == 8) = false := beq_eq_false_iff_ne.2 (by omega)
  rw [if_neg h8]
  by_cases h4 : k = 4
  · subst h4
    go_enter Tryz.func31, Tryz.ntmps31
    go_wp2_with fail
    go_ret
    exact ⟨rfl, rfl⟩
  have d4 : ((k : Int) == 4) = false := beq_eq_false_iff_ne.2 (by omega)
  rw [if_neg h4]
  by_cases h2 : k = 2
  · subst h2
    go_enter Tryz.func31, Tryz.ntmps31
    go_wp2_with fail
    go_ret
    exact ⟨rfl, rfl⟩
  have d2 : ((k : Int) == 2) = false := beq_eq_false_iff_ne.2 (by omega)
  rw [if_neg h2]
  clear h12 h10 h11 h9 h8 h4 h2
  go_enter Tryz.func31, Tryz.ntmps31
  go_wp2_with fail
  go_ret
  exact ⟨rfl, rfl⟩
end Go.Proofs.YtmghlaajocgoaaaGreatDoor

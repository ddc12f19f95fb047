import Derived.Test.YtfklmopnifkieaaGreatDoorRuE
import Derived.Test.YtfklmopnifkieaaGreatDoorBase
import Derived.Deep.AppendLies
import Derived.Deep.Upon
/-! The walks of scarflaw07.Short, pointer.Compare. -/
namespace Go.Proofs.YtfklmopnifkieaaGreatDoor
set_option linter.unusedSimpArgs false
set_option linter.unusedVariables false
open Go.RowKit
open Go.Lib hiding intOf
def ShortP (l : List Stp) : Prop := l.length ≤ 200 ∧ ∀ x ∈ l, x.length ≤ 1024
def ShortE (l : List Stp) (e : Ending) : Prop := ∃ b, e = .returned (.bool b) ∧ (b = true → ShortP l)
def SmallS (l : List Stp) : Prop := l.length ≤ 1073741824 ∧ ∀ x ∈ l, x.length ≤ 1099511627776
set_option maxRecDepth 100000 in
set_option maxHeartbeats 4000000 in
theorem short_any (v : Value) (l : List Stp) (w : World) (hv : SV w v l) (hs : SmallS l) :
    Calls Tryz.prog 9 #[v] w fun e w' => ShortE l e ∧ Below w.heap.size w w' := by
  obtain ⟨p, c, rfl, hc, hp⟩ := hv
  have HP := Lib.hid hp
  have hl := hs.1
  clear hp
  go_enter Tryz.func9, Tryz.ntmps9
  go_wp2_with fail
  go_loopw [3] (fun s3 wr => ∃ (j : Nat), s3 = .int .i64 j ∧ j ≤ l.length ∧ j ≤ 300 ∧ Hid (∀ i x, i < j → l[i]? = some x → x.length ≤ 1024) ∧ Hid (Below w.heap.size w wr)) (fun s3 _ => l.length - (RowKit.intOf s3).toNat)
  case atStart => exact ⟨0, rfl, by omega, by omega, Lib.hid (fun i x hi => by omega), Lib.hid (Below.refl _ _)⟩
  case round =>
    obtain ⟨j, rfl, hj, hj1, HC, HB⟩ := hrel
    by_cases hlt : j < l.length
    · have hlz : (j : Int) < (l.length : Int) := by omega
      have dz1 : decide ((j : Int) < (l.length : Int)) = true := decide_eq_true hlz
      have dz2 : decide (j < l.length) = true := decide_eq_true hlt
      by_cases h300 : j < 300
      · have hhz : (j : Int) < 300 := by omega
        have dh : decide ((j : Int) < 300) = true := decide_eq_true hhz
        have dh2 : decide (j < 300) = true := decide_eq_true h300
        obtain ⟨x, hx⟩ : ∃ x, l[j]? = some x := ⟨_, List.getElem?_eq_getElem hlt⟩
        obtain ⟨g, o, rfl, cx⟩ := (HP.out.keep HB.out).at_ hx
        have hxl := hs.2 x (List.mem_of_getElem? hx)
        have sx := bs_size x
        by_cases hbig : 1024 < x.length
        · have hbz : (1024 : Int) < (x.length : Int) := by omega
          clear hx
          go_wp2_with fail
          go_ret
          exact ⟨⟨_, rfl, fun h => (by cases h)⟩, HB.out⟩
        · have hbz : ¬ (1024 : Int) < (x.length : Int) := by omega
          have HC2 : Hid (∀ i x, i < j + 1 → l[i]? = some x → x.length ≤ 1024) := Lib.hid (fun i y hi hy => by
            by_cases h : i < j
            · exact HC.out i y h hy
            · obtain rfl : i = j := by omega
              rw [hx] at hy
              cases hy
              omega)
          clear hx HC
          go_wp2_with fail
          go_roundw
          case rel => exact ⟨j + 1, by go_num, by omega, by omega, HC2, HB⟩
          case measure => simp [RowKit.intOf]; omega
      · have hhz : ¬ (j : Int) < 300 := by omega
        have hh2 : ¬ (l.length : Int) ≤ 200 := by omega
        have dh : decide ((j : Int) < 300) = false := decide_eq_false hhz
        have dh3 : decide (j < 300) = false := decide_eq_false h300
        have dh2 : decide ((l.length : Int) ≤ 200) = false := decide_eq_false hh2
        go_wp2_with fail
        go_ret
        exact ⟨⟨false, rfl, fun h => (by cases h)⟩, HB.out⟩
    · have hlz : ¬ (j : Int) < (l.length : Int) := by omega
      have dz1 : decide ((j : Int) < (l.length : Int)) = false := decide_eq_false hlz
      have dz2 : decide (j < l.length) = false := decide_eq_false hlt
      have HF : Hid (l.length ≤ 200 → ShortP l) := Lib.hid (fun h => ⟨h, fun x hx => by
        obtain ⟨i, hi⟩ := List.getElem?_of_mem hx
        exact HC.out i x (by have := (List.getElem?_eq_some_iff.1 hi).1; omega) hi⟩)
      go_wp2_with fail
      go_ret
      exact ⟨⟨decide ((l.length : Int) ≤ 200), rfl, fun h => HF.out (by have := of_decide_eq_true h; omega)⟩, HB.out⟩
theorem less_self : ∀ l : List UInt8, Op.bytesLess l l = false
  | [] => rfl
  | a :: l => by
    unfold Op.bytesLess
    rw [less_self l]
    simp
theorem nan_any (x : Stp) (w : World) : Calls Tryz.prog 75 #[.string (bs x)] w fun e w' => e = .returned (.bool false) ∧ w' = w := by
  have e1 : ((bs x).toList != (bs x).toList) = false := by simp
  go_enter Tryz.func75, Tryz.ntmps75
  go_wp2_with fail
  go_ret
  exact ⟨rfl, rfl⟩
set_option maxRecDepth 100000 in
theorem cmpS_any (x y : Stp) (w : World) : Calls Tryz.prog 55 #[.string (bs x), .string (bs y)] w fun e w' => (∃ r : Int, e = .returned (.int .i64 r) ∧ (r == 0) = (x == y) ∧ -1 ≤ r ∧ r ≤ 1) ∧ w' = w := by
  have CN := Lib.hid (fun x w => nan_any x w)
  obtain ⟨L, hL⟩ : ∃ L, Op.bytesLess (bs x).toList (bs y).toList = L := ⟨_, rfl⟩
  obtain ⟨E, hE⟩ : ∃ E, ((bs x).toList == (bs y).toList) = E := ⟨_, rfl⟩
  have hxy : (x == y) = E := by rw [← hE, Lib.toList_data, Lib.toList_data, bs_data, bs_data]
  have HL : Hid (L = true → E = false) := Lib.hid (fun h => by
    rw [← hL, Lib.toList_data, Lib.toList_data, bs_data, bs_data] at h
    rw [← hxy]
    refine beq_eq_false_iff_ne.2 (fun e => ?_)
    rw [e, less_self] at h
    cases h)
  have HXY := Lib.hid hxy
  clear hxy
  go_enter Tryz.func55, Tryz.ntmps55
  go_upto_region 2 with (go_at_call 75; (with_reducible refine (CN.out _ _).mono ?_); rintro e w1 ⟨rfl, rfl⟩)
  go_upto_region 9 with (go_at_call 75; (with_reducible refine (CN.out _ _).mono ?_); rintro e w1 ⟨rfl, rfl⟩)
  cases L with
  | true =>
    have hf := HL.out rfl
    go_wp2_with fail
    go_ret
    exact ⟨⟨-1, rfl, by rw [HXY.out, hf]; rfl, by omega, by omega⟩, rfl⟩
  | false =>
    cases E with
    | true =>
      go_wp2_with fail
      go_ret
      exact ⟨⟨0, rfl, by rw [HXY.out]; rfl, by omega, by omega⟩, rfl⟩
    | false =>
      go_wp2_with fail
      go_ret
      exact ⟨⟨1, rfl, by rw [HXY.out]; rfl, by omega, by omega⟩, rfl⟩
theorem list_eq_at {α : Type} [DecidableEq α] : ∀ (p a : List α), (∀ j, j < p.length → p[j]? = a[j]?) → p.length = a.length → p = a
  | [], [], _, _ => rfl
  | [], _ :: _, _, h => by simp at h
  | _ :: _, [], _, h => by simp at h
  | x :: p, y :: a, h1, h2 => by
    have e : x = y := by simpa using h1 0 (by simp)
    rw [e, list_eq_at p a (fun j hj => by simpa using h1 (j + 1) (by simpa using hj)) (by simpa using h2)]
set_option maxRecDepth 100000 in
set_option maxHeartbeats 4000000 in
theorem scomp_any (pv av : Value) (p a : List Stp) (w : World) (hp : SV w pv p) (ha : SV w av a) (hpl : p.length ≤ 1073741824) (hal : a.length ≤ 1073741824) :
    Calls Tryz.prog 37 #[pv, av] w fun e w' => (∃ r : Int, e = .returned (.int .i64 r) ∧ (r == 0) = (p == a)) ∧ Below w.heap.size w w' := by
  obtain ⟨pp, pc, rfl, hpc, hp⟩ := hp
  obtain ⟨ap, ac, rfl, hac, ha⟩ := ha
  have HP := Lib.hid hp
  have HA := Lib.hid ha
  have CC := Lib.hid (fun x y w => cmpS_any x y w)
  have HE0 : Hid (∀ j, j < 0 → p[j]? = a[j]?) := Lib.hid (fun j h => by omega)
  clear hp ha
  go_enter Tryz.func37, Tryz.ntmps37
  go_wp2_with fail
  go_loopw [11] (fun s11 wr => ∃ (j : Nat), s11 = .int .i64 j ∧ j ≤ p.length ∧ j ≤ a.length ∧ Hid (∀ i, i < j → p[i]? = a[i]?) ∧ Hid (Below w.heap.size w wr)) (fun s11 _ => p.length - (RowKit.intOf s11).toNat)
  case atStart => exact ⟨0, rfl, by omega, by omega, HE0, Lib.hid (Below.refl _ _)⟩
  case round =>
    obtain ⟨j, rfl, hj, hja, HE, HB⟩ := hrel
    by_cases hlt : j < p.length
    · have hlz : (j : Int) < (p.length : Int) := by omega
      obtain ⟨x, hx⟩ : ∃ x, p[j]? = some x := ⟨_, List.getElem?_eq_getElem hlt⟩
      obtain ⟨gx, ox, rfl, cx⟩ := (HP.out.keep HB.out).at_ hx
      by_cases hla : j < a.length
      · have hlaz : (j : Int) < (a.length : Int) := by omega
        have hlan : ¬ (a.length : Int) ≤ (j : Int) := by omega
        have dz1 : decide ((a.length : Int) ≤ (j : Int)) = false := decide_eq_false hlan
        obtain ⟨y, hy⟩ : ∃ y, a[j]? = some y := ⟨_, List.getElem?_eq_getElem hla⟩
        obtain ⟨gy, oy, rfl, cy⟩ := (HA.out.keep HB.out).at_ hy
        obtain ⟨E, hE⟩ : ∃ E, (x == y) = E := ⟨_, rfl⟩
        have C1 : Hid (∀ w, Calls Tryz.prog 55 #[.string (bs x), .string (bs y)] w fun e w' => (∃ r : Int, e = .returned (.int .i64 r) ∧ (r == 0) = E ∧ -1 ≤ r ∧ r ≤ 1) ∧ w' = w) := Lib.hid (fun w => by rw [← hE]; exact CC.out x y w)
        have HEE := Lib.hid hE
        have HXY := Lib.hid (And.intro hx hy)
        clear hE hx hy
        cases E with
        | true =>
          have HE2 : Hid (∀ i, i < j + 1 → p[i]? = a[i]?) := Lib.hid (fun i hi => by
            by_cases h : i < j
            · exact HE.out i h
            · obtain rfl : i = j := by omega
              rw [HXY.out.1, HXY.out.2, beq_iff_eq.1 HEE.out])
          go_wp2_with (go_at_call 55; (with_reducible refine (C1.out _).mono ?_); rintro e w1 ⟨⟨r, rfl, hr0, hr1, hr2⟩, rfl⟩; obtain rfl : r = 0 := beq_iff_eq.1 hr0)
          go_roundw
          case rel => exact ⟨j + 1, by go_num, by omega, by omega, HE2, HB⟩
          case measure => simp [RowKit.intOf]; omega
        | false =>
          have HF : Hid ((p == a) = false) := Lib.hid (beq_eq_false_iff_ne.2 (fun e => by
            have h1 := HXY.out.1
            rw [e, HXY.out.2] at h1
            exact absurd (Option.some.inj h1).symm (beq_eq_false_iff_ne.1 HEE.out)))
          go_wp2_with (go_at_call 55; (with_reducible refine (C1.out _).mono ?_); rintro e w1 ⟨⟨r, rfl, hr0, hr1, hr2⟩, rfl⟩; have hrn : (r != 0) = true := by rw [bne, hr0]; rfl)
          go_ret
          exact ⟨⟨r, rfl, by rw [hr0, HF.out]⟩, HB.out⟩
      · have hlan : (a.length : Int) ≤ (j : Int) := by omega
        have dz1 : decide ((a.length : Int) ≤ (j : Int)) = true := decide_eq_true hlan
        have HF : Hid ((p == a) = false) := Lib.hid (beq_eq_false_iff_ne.2 (fun e => by rw [e] at hlt; exact hla hlt))
        clear hx
        go_wp2_with fail
        go_ret
        exact ⟨⟨1, rfl, by rw [HF.out]; rfl⟩, HB.out⟩
    · have hlz : ¬ (j : Int) < (p.length : Int) := by omega
      by_cases hla : p.length < a.length
      · have hlaz : (p.length : Int) < (a.length : Int) := by omega
        have HF : Hid ((p == a) = false) := Lib.hid (beq_eq_false_iff_ne.2 (fun e => by rw [e] at hla; omega))
        go_wp2_with fail
        go_ret
        exact ⟨⟨-1, rfl, by rw [HF.out]; rfl⟩, HB.out⟩
      · have hlaz : ¬ (p.length : Int) < (a.length : Int) := by omega
        have HF : Hid ((p == a) = true) := Lib.hid (beq_iff_eq.2 (list_eq_at p a (fun i hi => HE.out i (by omega)) (by omega)))
        go_wp2_with fail
        go_ret
        exact ⟨⟨0, rfl, by rw [HF.out]; rfl⟩, HB.out⟩
theorem compare_any (pv av : Value) (p a : List Stp) (w : World) (hp : SV w pv p) (ha : SV w av a) (hpl : p.length ≤ 1073741824) (hal : a.length ≤ 1073741824) :
    Calls Tryz.prog 21 #[pv, av] w fun e w' => (∃ r : Int, e = .returned (.int .i64 r) ∧ (r == 0) = (p == a)) ∧ Below w.heap.size w w' := by
  have CC := Lib.hid (scomp_any pv av p a w hp ha hpl hal)
  obtain ⟨pp, pc, rfl, hpc, hp⟩ := hp
  obtain ⟨ap, ac, rfl, hac, ha⟩ := ha
  clear hp ha
  go_enter Tryz.func21, Tryz.ntmps21
  go_wp2_with (go_at_call 37; (with_reducible refine CC.out.mono ?_); rintro e w1 ⟨⟨r, rfl, hr⟩, hb⟩; have HB := Lib.hid hb; have HR := Lib.hid hr; clear hb hr)
  go_ret
  exact ⟨⟨r, rfl, HR.out⟩, HB.out⟩
end Go.Proofs.YtfklmopnifkieaaGreatDoor
/-! append of a whole row onto a row that the call owns: of no program. -/
namespace Go.Proofs.YtfklmopnifkieaaGreatDoor
set_option linter.unusedSimpArgs false
set_option linter.unusedVariables false
open Go.RowKit
/-- 'append(s, x...)': a row that the call owns, and a row that lies anywhere. -/
theorem wp_copy {P : Program} {o : Oper} {a : Act} {K : Act → World → Prop} {Q : Exit → Act → World → Prop} (s x : Operand) (t : TypeId)
    (ho : o.op = .call { callee := .builtin .append, args := #[s, x], argTypes := #[t, t] })
    (B : Nat) (e : TypeId) (i : TypeInfo) (z : Value) (size bytes : Nat) (ht : P.underlying t = some (.slice e)) (hi : P.info? e = some i) (hz : i.zero = some z)
    (hsize : i.size = size) (hby : i.bytes = bytes) (hzs : z.cells.size = size) (hsz : 0 < size)
    (w : World) (v : Value) (n : Nat) (xs : List Value) (hs : a.eval s = v) (hown : w.ownsRow B e size v n xs)
    (p : Option Addr) (m c : Nat) (news : List Value) (hx : a.eval x = .slice p m c)
    (hl : (m = 0 ∧ news = []) ∨ ∃ ad, p = some ad ∧ 0 < m ∧ news.length = m * size ∧ (∀ j u, news[j]? = some u → w.cell? (ad.add j) = some u) ∧ ∀ u ∈ news, u.oneCell' = true)
    (h63 : n + m ≤ maxLen) (hbytes : (n + m) * bytes ≤ 140737488355328) (hB : B ≤ w.heap.size)
    (h : ∀ v' w', w'.ownsRow B e size v' (n + m) (xs ++ news) → Below B w w' → (∀ k, k < w.heap.size → some k ≠ v.ownBlock → w'.heap[k]? = w.heap[k]?) → (v'.ownBlock = v.ownBlock ∨ v'.ownBlock = some w.heap.size) → K (a.put o.dst v') w') : o.wp P a w K Q := by
  rcases hl with ⟨rfl, rfl⟩ | ⟨ad, rfl, hm, hln, hc, h1⟩
  · have hv : ∃ base cap, v = .slice base n cap ∧ n ≤ cap := by
      rcases hown.2 with ⟨h1, h2⟩ | ⟨g, cap, cur, h1, _, _, h2, _⟩
      · exact ⟨none, 0, by rw [h1, h2], by omega⟩
      · exact ⟨_, _, h1, h2⟩
    obtain ⟨base, cap, rfl, hle⟩ := hv
    have hsrc : Src P i.size t (.slice p 0 c) 0 [] w := by
      cases p with
      | none => exact Src.ofNil w ht c
      | some ad => exact Src.ofSlice w ht ad 0 c [] (by simp) (fun j u hj => by simp at hj) (fun u hu => by cases hu)
    have hrun := run_append_nothing (P := P) w t t o.type e i ht hi base n cap hle (.slice p 0 c) hsrc
    unfold Oper.wp
    simp [execOp, ho, resolve, invoke, builtin, hs, hx, hrun, Result.andThen]
    refine h _ w (by simpa using hown) (Below.refl _ _) (fun k _ _ => rfl) (.inl rfl)
  · refine wp_append_lies w s x t ho B e i z size bytes ht hi hz hsize hby hzs hsz v n xs hs hown ad m c news hx hln hc h1 hm h63 hbytes hB w.heap.size rfl ?_
    intro g cap w' h2 h3 h4 h5
    refine h _ w' h2 ((Below.refl B w).grown h3 hB (fun k hk => (World.ownsRow.lt hown k hk).1)) (fun k hk hne => h3.block k hk hne) ?_
    rcases h4 with h4 | h4
    · exact .inl h4.symm
    · exact .inr (by rw [h4]; rfl)
end Go.Proofs.YtfklmopnifkieaaGreatDoor
/-! Rows of texts that a call owns. -/
namespace Go.Proofs.YtfklmopnifkieaaGreatDoor
set_option linter.unusedSimpArgs false
set_option linter.unusedVariables false
open Go.RowKit
open Go.Lib hiding intOf
theorem Tryz.infoString : (Tryz.prog.info? 9).map (fun i => (i.zero, i.size, i.bytes)) = some (some (.string ⟨#[]⟩), 1, 16) := by kernel_rfl
def strCells (l : List Stp) : List Value := l.map fun x => Value.string (bs x)
def OwnsS (B : Nat) (l : List Stp) (v : Value) (w : World) : Prop := w.ownsRow B 9 1 v l.length (strCells l)
theorem strCells_one (l : List Stp) : ∀ u ∈ strCells l, u.oneCell' = true := by
  intro u hu
  unfold strCells at hu
  obtain ⟨x, _, rfl⟩ := List.mem_map.1 hu
  rfl
theorem OwnsS.toSV {B : Nat} {l : List Stp} {v : Value} {w : World} (h : OwnsS B l v w) : SV w v l := by
  have h0 := h
  rcases h.2 with ⟨h1, h2⟩ | ⟨g, cap, cur, rfl, hb, hg, hn, _⟩
  · exact ⟨none, 0, by rw [h1, h2], by omega, .inl (List.length_eq_zero_iff.1 h2)⟩
  · refine ⟨_, cap, rfl, hn, .inr ⟨g, 0, rfl, (Array.getElem?_eq_some_iff.1 hg).1, fun j x hx => ?_⟩⟩
    have hc := World.ownsRow.cells h0 (g := g) rfl j (.string (bs x)) (by unfold strCells; rw [List.getElem?_map, hx]; rfl)
    have ha : ((⟨g, 0, none⟩ : Addr).add j) = ⟨g, j, none⟩ := by unfold Addr.add; split <;> simp_all
    rw [ha] at hc
    rw [Nat.zero_add]
    exact hc
theorem OwnsS.new (w : World) (l : List Stp) (cs : Array Value) (hcs : cs.toList = strCells l) (hl : l.length ≤ 1048576) : OwnsS w.heap.size l (.slice (some ⟨w.heap.size, 0, none⟩) l.length l.length) (w.alloc (.cells cs 9)) := by
  have hsz : cs.size = l.length := by rw [← Array.length_toList, hcs]; unfold strCells; simp
  refine ⟨by unfold strCells; simp, .inr ⟨w.heap.size, l.length, cs, rfl, Nat.le_refl _, heap_alloc_new w _, Nat.le_refl _, by unfold maxLen; omega, by omega, ?_⟩⟩
  rw [hcs, List.take_of_length_le]
  unfold strCells
  simp
/-- 'append(s, x...)' of texts. -/
theorem wp_texts {o : Oper} {a : Act} {K : Act → World → Prop} {Q : Exit → Act → World → Prop} (s x : Operand)
    (ho : o.op = .call { callee := .builtin .append, args := #[s, x], argTypes := #[23, 23] })
    (B : Nat) (w : World) (v : Value) (acc l : List Stp) (hs : a.eval s = v) (hown : OwnsS B acc v w) (xv : Value) (hx : a.eval x = xv) (hp : SV w xv l)
    (hl : acc.length + l.length ≤ 4294967296) (hB : B ≤ w.heap.size)
    (h : ∀ v' w', OwnsS B (acc ++ l) v' w' → Below B w w' → K (a.put o.dst v') w') : o.wp Tryz.prog a w K Q := by
  obtain ⟨i0, hi0, hz0, hz1, hz2⟩ := info_parts Tryz.infoString
  obtain ⟨p, c, rfl, hc, hp⟩ := hp
  refine wp_copy s x 23 ho B 9 i0 _ 1 16 Tryz.underlying23 hi0 hz0 hz1 hz2 rfl (by decide) w v acc.length (strCells acc) hs hown p l.length c (strCells l) hx ?_ (by unfold maxLen; omega) (by omega) hB (fun v' w' h2 h3 _ _ => h v' w' ?_ h3)
  · rcases hp with rfl | ⟨g, o, rfl, _, hat⟩
    · exact .inl ⟨rfl, rfl⟩
    · cases l with
      | nil => exact .inl ⟨rfl, rfl⟩
      | cons y l =>
        refine .inr ⟨_, rfl, by simp, by unfold strCells; simp, fun j u hj => ?_, strCells_one _⟩
        have ha : ((⟨g, o, none⟩ : Addr).add j) = ⟨g, o + j, none⟩ := by unfold Addr.add; split <;> simp_all
        unfold strCells at hj
        rw [List.getElem?_map] at hj
        obtain ⟨k, hk, rfl⟩ := Option.map_eq_some_iff.1 hj
        rw [ha, hat j k hk]
  · unfold OwnsS
    have e : strCells (acc ++ l) = strCells acc ++ strCells l := by unfold strCells; simp
    rw [e, List.length_append]
    exact h2
/-- 'append(s, x...)' of texts, guarded or not. -/
theorem wpList_texts {ops : Array Oper} {rest : List Oper} {o : Oper} {a : Act} {Q : Exit → Act → World → Prop} (hw : Region.wanted o (yielded ops a.tmps) = true) (s x : Operand)
    (ho : o.op = .call { callee := .builtin .append, args := #[s, x], argTypes := #[23, 23] })
    (B : Nat) (w : World) (v : Value) (acc l : List Stp) (hs : a.eval s = v) (hown : OwnsS B acc v w) (xv : Value) (hx : a.eval x = xv) (hp : SV w xv l)
    (hl : acc.length + l.length ≤ 4294967296) (hB : B ≤ w.heap.size)
    (h : ∀ v' w', OwnsS B (acc ++ l) v' w' → Below B w w' → wpList Tryz.prog ops Q rest (a.put o.dst v') w') : wpList Tryz.prog ops Q (o :: rest) a w :=
  wpList_step fun K hK => by
    rw [if_pos hw]
    exact wp_texts s x ho B w v acc l hs hown xv hx hp hl hB (fun v' w' h1 h2 => hK _ _ (h v' w' h1 h2))
end Go.Proofs.YtfklmopnifkieaaGreatDoor

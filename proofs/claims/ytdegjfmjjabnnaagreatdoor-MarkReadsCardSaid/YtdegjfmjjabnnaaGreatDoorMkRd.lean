import Derived.Test.YtdegjfmjjabnnaaGreatDoorMkRd1
import Derived.Deep.AppendLies
import Derived.Deep.RegionLaw
/-! The walk of scarfref25.Decode. -/
namespace Go.Proofs.YtdegjfmjjabnnaaGreatDoor
set_option linter.unusedSimpArgs false
set_option linter.unusedVariables false
open Go.RowKit
open Go.Lib hiding intOf

/-- Between two rounds. -/
def DcJ (W0 : World) (B : Nat) (v : Value) (acc : List Part) (W : World) : Prop := OwnsParts B W v acc ∧ Below B W0 W ∧ B ≤ W.heap.size
theorem DcJ.own {W0 W : World} {B : Nat} {v : Value} {acc : List Part} (h : DcJ W0 B v acc W) : OwnsParts B W v acc := h.1
theorem DcJ.bel {W0 W : World} {B : Nat} {v : Value} {acc : List Part} (h : DcJ W0 B v acc W) : Below B W0 W := h.2.1
theorem DcJ.sz {W0 W : World} {B : Nat} {v : Value} {acc : List Part} (h : DcJ W0 B v acc W) : B ≤ W.heap.size := h.2.2
theorem DcJ.keep {W0 W W' : World} {B : Nat} {v : Value} {acc : List Part} (h : DcJ W0 B v acc W) (hb : Below W.heap.size W W') : DcJ W0 B v acc W' := ⟨owns_below h.1 hb, h.2.1.trans (hb.mono h.2.2), Nat.le_trans h.2.2 hb.size⟩
theorem DcJ.push {W0 W W' : World} {B : Nat} {v v' : Value} {acc : List Part} {x : Part} {cs : Array Value} (h : DcJ W0 B v acc W) (hcs : cs.toList = partVs x) (h1 : W'.ownsRow B 30 5 v' (acc.length + 1) (partCells acc ++ cs.toList)) (h2 : Below B W W') : DcJ W0 B v' (acc ++ [x]) W' :=
  ⟨OwnsParts.snoc hcs h1, h.2.1.trans h2, Nat.le_trans h.2.2 h2.size⟩
theorem cells_new (w : World) (cs : Array Value) (t : TypeId) : ∀ j u, cs.toList[j]? = some u → (w.alloc (.cells cs t)).cell? ((⟨w.heap.size, 0, none⟩ : Addr).add j) = some u :=
  fun j u hj => World.news_of_block (w := w.alloc (.cells cs t)) (heap_alloc_new w _) j u hj
/-- 'append(out, x)' at a step of a region that draws its order. -/
theorem step_part {ops : Array Oper} {o : Oper} {a : Act} {K : Act → World → Prop} {Q : Exit → Act → World → Prop} {E : Prop} (hgd : o.guard = none) (s x : Operand)
    (ho : o.op = .call { callee := .builtin .append, args := #[s, x], argTypes := #[23, 23] })
    (W0 : World) (B : Nat) (w : World) (v : Value) (acc : List Part) (y : Part) (hs : a.eval s = v) (hown : DcJ W0 B v acc w) (cs : Array Value) (hx : a.eval x = .slice (some ⟨w.heap.size, 0, none⟩) 1 1)
    (hcs : cs.toList = partVs y) (hl : acc.length ≤ 4294967295)
    (h : ∀ v' w', DcJ W0 B v' (acc ++ [y]) w' → K (a.put o.dst v') w') :
    if Region.wanted o (yielded ops a.tmps) = true then Oper.wp Tryz.prog o a (w.alloc (.cells cs 30)) K Q else E := by
  obtain ⟨i0, hi0, hz0, hz1, hz2⟩ := info_parts Tryz.infoPart
  refine step_append_lies _ hgd s x 23 ho B 30 i0 _ 5 72 Tryz.underlying23 hi0 hz0 hz1 hz2 rfl (by decide) v acc.length (partCells acc) hs (World.ownsRow.alloc hown.1 _) ⟨w.heap.size, 0, none⟩ 1 1 cs.toList hx (by rw [hcs]; rfl) (cells_new w cs _) (by rw [hcs]; simp [partVs, Value.oneCell']) (by decide) (by unfold maxLen; omega) (by omega) (by have := hown.2.2; simp; omega) _ rfl ?_
  intro g cap w' h2 h3 _ _
  refine h _ w' (hown.push hcs h2 (((Below.refl B w).alloc hown.2.2 _).grown h3 (by have := hown.2.2; simp; omega) (fun k hk => (World.ownsRow.lt hown.1 k hk).1)))
theorem takeO_miss1 {b t r : List UInt8} {n : Nat} (h : cut b (mark 124 n) = (t, r, false)) : takeO b n = none := by unfold takeO; rw [h]; rfl
theorem takeO_miss2 {b t b1 t2 r : List UInt8} {n : Nat} (h1 : cut b (mark 124 n) = (t, b1, true)) (h2 : cut b1 (mark 61 n) = (t2, r, false)) : takeO b n = none := by unfold takeO; rw [h1]; simp only []; rw [h2]; rfl
theorem takeO_miss3 {b t b1 t2 b2 t3 r : List UInt8} {n : Nat} (h1 : cut b (mark 124 n) = (t, b1, true)) (h2 : cut b1 (mark 61 n) = (t2, b2, true)) (h3 : cut b2 (mark 62 n) = (t3, r, false)) : takeO b n = none := by unfold takeO; rw [h1]; simp only []; rw [h2]; simp only []; rw [h3]; rfl
theorem takeO_hit {b t b1 t2 b2 t3 r : List UInt8} {n : Nat} (h1 : cut b (mark 124 n) = (t, b1, true)) (h2 : cut b1 (mark 61 n) = (t2, b2, true)) (h3 : cut b2 (mark 62 n) = (t3, r, true)) : takeO b n = some (⟨true, [], t2, t, t3⟩, r) := by unfold takeO; rw [h1]; simp only []; rw [h2]; simp only []; rw [h3]; rfl
theorem hit_ne {r sep a b : List UInt8} (h : cut r sep = (a, b, true)) (hs : 0 < sep.length) : r ≠ [] := by
  rintro rfl
  have := cut_lt [] sep (by rw [h])
  simp only [List.length_nil] at this
  omega
theorem wrap2 (a n L : Nat) (h : (a : Int) + (n : Int) + 2 = (L : Int)) (hL : L ≤ 2147483648) : IntKind.i64.wrap (IntKind.i64.wrap ((a : Int) + (n : Int)) + 2) = (L : Int) := by rw [IntKind.wrap_i64, IntKind.wrap_i64]; omega
set_option maxRecDepth 100000 in
set_option maxHeartbeats 16000000 in
theorem refDecode_any (s : List UInt8) (w : World) (hs : s.length ≤ 1048576) :
    Calls Tryz.prog 6 #[.string (bs s)] w fun e w' => DecE s e w' ∧ Below w.heap.size w w' := by
  have sl := bs_size s
  obtain ⟨i0, hi0, hz0, hz1, hz2⟩ := info_parts Tryz.infoPart
  obtain ⟨C, hC⟩ : ∃ C, cut s [10] = C := ⟨_, rfl⟩
  obtain ⟨pre, body, f⟩ := C
  have hF0 : findI s [10] 0 = if f then ((pre.length : Nat) : Int) else -1 := by unfold findI; rw [List.drop_zero, hC]; simp
  have CF0 : Hid (∀ w, Calls Tryz.prog 15 #[.string (bs s), .string ⟨#[10]⟩, .int .i64 0] w fun e w' => e = .returned (.int .i64 (if f then ((pre.length : Nat) : Int) else -1)) ∧ Below w.heap.size w w') := Lib.hid (fun w => by
    have := find_any s [10] 0 w (by omega) (by decide) (by decide) (by omega)
    rw [hF0] at this
    exact this)
  have HC := Lib.hid hC
  clear hF0 hC
  cases f with
  | false =>
    have HF : Hid (decP s = none) := Lib.hid (front_bad (by omega) HC.out (.inl rfl))
    go_enter Tryz.func6, Tryz.ntmps6
    go_wp2_with (go_at_call 15; (with_reducible refine (CF0.out _).mono ?_); rintro e w1 ⟨rfl, hb⟩; have HB1 := Lib.hid hb; clear hb)
    go_ret2
    exact ⟨.inr ⟨HF.out, rfl⟩, HB1.out⟩
  | true =>
    simp only [if_true] at CF0
    by_cases h8 : pre.length < 8
    · have d8 : decide ((pre.length : Int) < 8) = true := decide_eq_true (by omega)
      have HF : Hid (decP s = none) := Lib.hid (front_bad (by omega) HC.out (.inr (.inl h8)))
      clear h8
      go_enter Tryz.func6, Tryz.ntmps6
      go_wp2_with (go_at_call 15; (with_reducible refine (CF0.out _).mono ?_); rintro e w1 ⟨rfl, hb⟩; have HB1 := Lib.hid hb; clear hb)
      go_ret2
      exact ⟨.inr ⟨HF.out, rfl⟩, HB1.out⟩
    have d8 : decide ((pre.length : Int) < 8) = false := decide_eq_false (by omega)
    have hsz := cut_size s [10] (by rw [HC.out])
    rw [HC.out] at hsz
    simp only [] at hsz
    have hsl := congrArg List.length hsz
    simp only [List.length_append, List.length_cons, List.length_nil] at hsl
    have e7 : (bs s).extract 0 7 = bs (s.take 7) := by rw [bs_extract, bs_data]; rfl
    have eq7 : (bs s).extract 7 pre.length = bs (pre.drop 7) := by
      rw [bs_extract, bs_data]
      congr 1
      conv => lhs; rw [hsz]
      rw [List.append_assoc, List.drop_append_of_le_length (by omega), List.take_left' (by rw [List.length_drop])]
    have pz8 : (8 : Int) ≤ (pre.length : Int) := by omega
    have pzl : (pre.length : Int) + 1 ≤ (s.length : Int) := by omega
    have HSZ := Lib.hid hsz
    have HSL := Lib.hid hsl
    clear hsz hsl
    obtain ⟨b7, hb7⟩ : ∃ b, (((bs (s.take 7)).toList == [35, 109, 97, 114, 107, 115, 32]) = b) := ⟨_, rfl⟩
    have hb7' : ((bs (s.take 7)).toList != [35, 109, 97, 114, 107, 115, 32]) = !b7 := by rw [bne, hb7]
    cases b7 with
    | false =>
      have HF : Hid (decP s = none) := Lib.hid (front_bad (by omega) HC.out (.inr (.inr (by
        rw [Lib.toList_data, bs_data] at hb7
        exact beq_eq_false_iff_ne.1 hb7))))
      go_enter Tryz.func6, Tryz.ntmps6
      go_wp2_with (go_at_call 15; (with_reducible refine (CF0.out _).mono ?_); rintro e w1 ⟨rfl, hb⟩; have HB1 := Lib.hid hb; clear hb)
      go_ret2
      exact ⟨.inr ⟨HF.out, rfl⟩, HB1.out⟩
    | true =>
      obtain ⟨q, hq⟩ : ∃ q, pre.drop 7 = q := ⟨_, rfl⟩
      have hql : q.length ≤ 1048576 := by rw [← hq, List.length_drop]; omega
      rw [hq] at eq7
      have hbad : ((parseL q).2 ≠ 0 ∨ (intL (parseL q).1).2 = false ∨ (intL (parseL q).1).1 < 7 ∨ (s.length : Int) < (intL (parseL q).1).1) → decP s = none := fun h => num_bad (by omega) HC.out (by rw [hq]; exact h)
      have hfin : ∀ n : Nat, (intL (parseL q).1).1 = (n : Int) → (coreM n (body.length + 1) body = none → decP s = none) ∧ ∀ out, coreM n (body.length + 1) body = some out → decP s = if encM out = (s, 0) ∧ 0 < hunksM out then some out else none := fun n h => ref_fin (by omega) HC.out (by rw [hq]; exact h)
      have hrb := parseL_rb q
      have CP := Lib.hid (fun w => refParse_any q w (by omega))
      obtain ⟨P, hP⟩ : ∃ P, parseL q = P := ⟨_, rfl⟩
      rw [hP] at CP hbad hfin hrb
      obtain ⟨nm, pe⟩ := P
      unfold Parsed numV at CP
      simp only [] at CP hbad hfin hrb
      have hnd : nm.dig.length ≤ 4294967296 := by have := (rightB_bd hrb).1; omega
      have CI := Lib.hid (fun w => refInt_any nm w hnd)
      unfold intV at CI
      obtain ⟨I, hI⟩ : ∃ I, intL nm = I := ⟨_, rfl⟩
      rw [hI] at CI hbad hfin
      obtain ⟨iv, is⟩ := I
      simp only [] at CI hbad hfin
      have HBAD := Lib.hid hbad
      have HFIN := Lib.hid hfin
      clear hbad hfin hrb hP hI hq hnd
      go_enter Tryz.func6, Tryz.ntmps6
      go_upto_region 4 with (go_at_call 15; (with_reducible refine (CF0.out _).mono ?_); rintro e w1 ⟨rfl, hb⟩; have HB1 := Lib.hid hb; clear hb)
      go_upto_region 5 with (go_at_call 16; (with_reducible refine (CP.out _).mono ?_); rintro e w2 ⟨rfl, hb⟩; have HB2 := Lib.hid (below_of_new HB1.out hb); clear hb)
      have hnb := NumBox.new w2 nm
      have hb3 := below_alloc1 w2 (.cells #[.bool nm.neg, .string (bs nm.dig), .int .i64 nm.exp] 47)
      obtain ⟨w3, hw3⟩ : ∃ W, w2.alloc (.cells #[.bool nm.neg, .string (bs nm.dig), .int .i64 nm.exp] 47) = W := ⟨_, rfl⟩
      obtain ⟨N, hN⟩ : ∃ N, w2.heap.size = N := ⟨_, rfl⟩
      rw [hw3, hN] at hnb
      rw [hw3] at hb3
      rw [hw3, hN]
      have HB3 := Lib.hid (below_of_new HB2.out hb3)
      obtain ⟨x0, x1, x2⟩ := hnb.cells
      clear hw3 hN hnb hb3
      go_upto_region 6 with (go_at_call 17; (with_reducible refine (CI.out _).mono ?_); rintro e w4 ⟨rfl, hb⟩; have HB4 := Lib.hid (below_of_new HB3.out hb); clear hb)
      clear x0 x1 x2 CF0 CP CI
      by_cases hpe : pe = 0
      case neg =>
        have e1 : (pe != 0) = true := bne_iff_ne.2 hpe
        have HF : Hid (decP s = none) := Lib.hid (HBAD.out (.inl hpe))
        go_wp2_with fail
        go_ret2
        exact ⟨.inr ⟨HF.out, rfl⟩, HB4.out⟩
      subst hpe
      cases is with
      | false =>
        have HF : Hid (decP s = none) := Lib.hid (HBAD.out (.inr (.inl rfl)))
        go_wp2_with fail
        go_ret2
        exact ⟨.inr ⟨HF.out, rfl⟩, HB4.out⟩
      | true =>
        by_cases hi7 : iv < 7
        · have e1 : decide (iv < 7) = true := decide_eq_true hi7
          have HF : Hid (decP s = none) := Lib.hid (HBAD.out (.inr (.inr (.inl hi7))))
          go_wp2_with fail
          go_ret2
          exact ⟨.inr ⟨HF.out, rfl⟩, HB4.out⟩
        have e1 : decide (iv < 7) = false := decide_eq_false hi7
        by_cases hil : (s.length : Int) < iv
        · have e2 : decide ((s.length : Int) < iv) = true := decide_eq_true hil
          have HF : Hid (decP s = none) := Lib.hid (HBAD.out (.inr (.inr (.inr hil))))
          go_wp2_with fail
          go_ret2
          exact ⟨.inr ⟨HF.out, rfl⟩, HB4.out⟩
        have e2 : decide ((s.length : Int) < iv) = false := decide_eq_false hil
        obtain ⟨n, rfl⟩ : ∃ n : Nat, iv = (n : Int) := ⟨iv.toNat, by omega⟩
        obtain ⟨hfin1, hfin2⟩ := HFIN.out n rfl
        have hbl : body.length ≤ 1048576 := by have := HSL.out; omega
        have hcb : ∀ out, coreM n (body.length + 1) body = some out → Sz out ∧ (bodyM (widthM out) out).length ≤ 1099511627776 := fun out h => core_big (by omega) (by omega) h
        have hstart := DcR.start n body
        obtain ⟨R, hR⟩ : ∃ R, coreM n (body.length + 1) body = R := ⟨_, rfl⟩
        rw [hR] at hfin1 hfin2 hcb hstart
        have HN1 := Lib.hid hfin1
        have HN2 := Lib.hid hfin2
        have HCB := Lib.hid hcb
        have HST := Lib.hid hstart
        have hn7 : 7 ≤ n := by omega
        have e3 : decide (n < 7) = false := decide_eq_false (by omega)
        have e4 : decide (s.length < n) = false := decide_eq_false (by omega)
        have hnl : n ≤ 1048576 := by omega
        have hnz : (n : Int) ≤ 1048576 := by omega
        obtain ⟨S0, h0⟩ : ∃ S, S = bs (List.replicate n 60 ++ [10]) := ⟨_, rfl⟩
        obtain ⟨S1, h1⟩ : ∃ S, S = bs (List.replicate n 124 ++ [10]) := ⟨_, rfl⟩
        obtain ⟨S2, h2⟩ : ∃ S, S = bs (List.replicate n 61 ++ [10]) := ⟨_, rfl⟩
        obtain ⟨S3, h3⟩ : ∃ S, S = bs (List.replicate n 62 ++ [10]) := ⟨_, rfl⟩
        have CS : ∀ (c : UInt8) S w, S = bs (List.replicate n c ++ [10]) → Calls Tryz.prog 18 #[.int .u8 (c.toNat : Int), .int .i64 n] w fun e w' => e = .returned (.string S) ∧ Below w.heap.size w w' := fun c S w h => by
          have := rSigns_any c n w (by omega)
          rw [← h] at this
          exact this
        have C0 : Hid (∀ w, Calls Tryz.prog 18 #[.int .u8 60, .int .i64 n] w fun e w' => e = .returned (.string S0) ∧ Below w.heap.size w w') := Lib.hid (fun w => CS 60 S0 w h0)
        have C1 : Hid (∀ w, Calls Tryz.prog 18 #[.int .u8 124, .int .i64 n] w fun e w' => e = .returned (.string S1) ∧ Below w.heap.size w w') := Lib.hid (fun w => CS 124 S1 w h1)
        have C2 : Hid (∀ w, Calls Tryz.prog 18 #[.int .u8 61, .int .i64 n] w fun e w' => e = .returned (.string S2) ∧ Below w.heap.size w w') := Lib.hid (fun w => CS 61 S2 w h2)
        have C3 : Hid (∀ w, Calls Tryz.prog 18 #[.int .u8 62, .int .i64 n] w fun e w' => e = .returned (.string S3) ∧ Below w.heap.size w w') := Lib.hid (fun w => CS 62 S3 w h3)
        have hm : ∀ (c : UInt8) S, S = bs (List.replicate n c ++ [10]) → (⟨#[10]⟩ : ByteArray) ++ S = bs (mark c n) := fun c S h => by
          rw [h, show (⟨#[10]⟩ : ByteArray) = bs [10] from rfl, bs_append]; rfl
        have m0 := hm 60 S0 h0; have m1 := hm 124 S1 h1; have m2 := hm 61 S2 h2; have m3 := hm 62 S3 h3
        have hss : ∀ (c : UInt8) S, S = bs (List.replicate n c ++ [10]) → ¬ 9223372036854775807 < 1 + S.size := fun c S h => by rw [h, bs_size]; simp; omega
        have s0 := hss 60 S0 h0; have s1 := hss 124 S1 h1; have s2 := hss 61 S2 h2; have s3 := hss 62 S3 h3
        have CF : Hid (∀ (c : UInt8) (p : Nat) w, p ≤ s.length → Calls Tryz.prog 15 #[.string (bs s), .string (bs (mark c n)), .int .i64 p] w fun e w' => e = .returned (.int .i64 (findI s (mark c n) p)) ∧ Below w.heap.size w w') :=
          Lib.hid (fun c p w hp => find_any s (mark c n) p w (by omega) (by rw [mark_len]; omega) (by rw [mark_len]; omega) hp)
        have CE : Hid (∀ (u : Value) (out : List Part) (w : World), R = some out → PV w u out → Calls Tryz.prog 19 #[u] w fun e w' => e = .returned (.tuple #[.string (bs (encM out).1), .int .i64 (encM out).2]) ∧ Below w.heap.size w w') :=
          Lib.hid (fun u out w hR hv => rEncode_any u out w hv (HCB.out out hR).1 (HCB.out out hR).2)
        have CH : Hid (∀ (u : Value) (out : List Part) (w : World), R = some out → PV w u out → Calls Tryz.prog 20 #[u] w fun e w' => e = .returned (.int .i64 (hunksM out : Nat)) ∧ Below w.heap.size w w') :=
          Lib.hid (fun u out w hR hv => rHunks_any u out w hv (HCB.out out hR).1.1)
        obtain ⟨p0, hp0⟩ : ∃ p0, pre.length + 1 = p0 := ⟨_, rfl⟩
        have HP0 : Hid (PosF s p0 body) := Lib.hid ⟨by
          conv => lhs; rw [HSZ.out]
          rw [List.drop_left' (by simp; omega)], by have := HSL.out; omega⟩
        have hK1 : (pre.length : Int) + 1 = (p0 : Int) := by omega
        have hp0l : p0 ≤ s.length := by have := HSL.out; omega
        clear hp0
        clear hR hfin1 hfin2 hcb hstart h0 h1 h2 h3 CS hm hss hi7 hil HBAD HFIN hb7 hb7' e7 eq7 hql d8 HC
        obtain ⟨B, hB⟩ : ∃ B, w4.heap.size = B := ⟨_, rfl⟩
        have HKw : Hid (∀ W, Below B w4 W → Below w.heap.size w W) := Lib.hid (fun W h => by rw [← hB] at h; exact below_of_new HB4.out h)
        have HJ0 : Hid (DcJ w4 B (.slice none 0 0) [] w4) := Lib.hid ⟨World.ownsRow_nil _ _ _ _, Below.refl _ _, by rw [← hB]; exact Nat.le_refl _⟩
        clear hB
        go_wp2_with fail
        go_loopw [9, 10] (fun s9 s10 wr => ∃ (p : Nat) (rest : List UInt8) (acc : List Part), s10 = .int .i64 p ∧ acc.length ≤ p ∧ p ≤ s.length ∧ Hid (PosF s p rest) ∧ Hid (DcR n R acc rest) ∧ Hid (DcJ w4 B s9 acc wr)) (fun _ s10 _ => s.length - (RowKit.intOf s10).toNat)
        case atStart => exact ⟨p0, body, [], by first | rfl | rw [hK1], Nat.zero_le _, hp0l, HP0, HST, HJ0⟩
        case round =>
          obtain ⟨p, rest, acc, rfl, hap, hp, HP, HR, HJ⟩ := hrel
          clear HJ0 HST HP0 hK1 e1 e2 e3 e4
          have hpz : (p : Int) ≤ (s.length : Int) := by omega
          have dpz : decide ((p : Int) ≤ (s.length : Int)) = true := decide_eq_true hpz
          have HF0 := Lib.hid (fun w => CF.out 60 p w hp)
          obtain ⟨Cu, hCu⟩ : ∃ C, cut rest (mark 60 n) = C := ⟨_, rfl⟩
          obtain ⟨t, b, more⟩ := Cu
          have HCu := Lib.hid hCu
          clear hCu
          cases more with
          | false =>
            have CF1 : Hid (∀ w, Calls Tryz.prog 15 #[.string (bs s), .string (bs (mark 60 n)), .int .i64 p] w fun e w' => e = .returned (.int .i64 (-1)) ∧ Below w.heap.size w w') := Lib.hid (fun w => by have := HF0.out w; rw [HP.out.miss HCu.out] at this; exact this)
            clear HF0
            go_upto_region 12 with (first | (go_at_call 18; (with_reducible refine (C0.out _).mono ?_); rintro e w5 ⟨rfl, hb⟩; have HJ1 := Lib.hid (HJ.out.keep hb); clear hb) | (go_at_call 15; (with_reducible refine (CF1.out _).mono ?_); rintro e w6 ⟨rfl, hb⟩; have HJ2 := Lib.hid (HJ1.out.keep hb); clear hb))
            obtain ⟨Q, hQ⟩ : ∃ Q, decide (p < s.length) = Q := ⟨_, rfl⟩
            have hQi : decide ((p : Int) < (s.length : Int)) = Q := by
              rw [← hQ]
              by_cases h : p < s.length
              · rw [decide_eq_true h]; exact decide_eq_true (by omega)
              · rw [decide_eq_false h]; exact decide_eq_false (by omega)
            have hex := HP.out.rest
            have HPL := Lib.hid HP.out.len
            go_upto_if 144 with fail
            go_cut [9] (fun s9 wx => ∃ out, Hid (R = some out) ∧ Hid (DcJ w4 B s9 out wx))
            case first =>
              by_cases hr : rest = []
              · have HS : Hid (R = some acc) := Lib.hid (by have := HR.out; rw [hr] at this; exact this.done)
                have hpe : (p : Int) = (s.length : Int) := by have hpl := HPL.out; rw [hr] at hpl; simp at hpl; omega
                obtain rfl : false = Q := by rw [← hQ]; exact (decide_eq_false (by omega)).symm
                clear hr hpe hQ hQi hex
                go_wp2_with fail
                go_meet
                exact ⟨acc, HS, HJ2⟩
              · have hlt : (p : Int) < (s.length : Int) := by have := List.length_pos_iff.2 hr; have := HPL.out; omega
                obtain rfl : true = Q := by rw [← hQ]; exact (decide_eq_true (by omega)).symm
                obtain ⟨h1, h2⟩ := HR.out.last hr HCu.out
                have hte := cut_miss rest (mark 60 n) (by rw [HCu.out])
                rw [HCu.out] at hte
                obtain ⟨rfl, _⟩ := Prod.mk.inj hte
                have HS := Lib.hid h1
                clear hr hte h1 h2
                go_wp2_with (at_builtin; go_must (refine wpList_push rfl _ _ 23 rfl B 30 i0 _ 5 72 Tryz.underlying23 hi0 hz0 hz1 hz2 rfl (by decide) w6 u9 acc.length (partCells acc) rfl HJ2.out.own #[.bool false, .string (bs t), .string ⟨#[]⟩, .string ⟨#[]⟩, .string ⟨#[]⟩] rfl rfl (by simp [Value.oneCell']) (by omega) (by decide) HJ2.out.sz ?_); intro v1 w7 hown1 hsz1 hbel1 hkeep1 hne1)
                go_meet
                exact ⟨_, HS, Lib.hid (HJ2.out.push (x := textP t) rfl hown1 hbel1)⟩
            case rest =>
              obtain ⟨out, HS, HJ3⟩ := hcut
              have HF := Lib.hid (HN2.out out HS.out)
              have CEo := Lib.hid (fun w hv => CE.out u9 out w HS.out hv)
              have CHo := Lib.hid (fun w hv => CH.out u9 out w HS.out hv)
              obtain ⟨E, hE⟩ : ∃ E, encM out = E := ⟨_, rfl⟩
              obtain ⟨H, hH⟩ : ∃ H, hunksM out = H := ⟨_, rfl⟩
              rw [hE, hH] at HF
              rw [hE] at CEo
              rw [hH] at CHo
              obtain ⟨E1, E2⟩ := E
              simp only [] at CEo
              have HK := Lib.hid (And.intro HJ3.out.own.toPV (HKw.out _ HJ3.out.bel))
              clear hE hH hex HPL hQ hQi HCu HR HJ HJ2 HP CF CE CH C0 C1 C2 C3 m0 m1 m2 m3 s0 s1 s2 s3 CF1 HN1 HN2 HCB
              go_upto_region 30 with (go_at_call 19; (with_reducible refine (CEo.out _ HK.out.1).mono ?_); rintro e w8 ⟨rfl, hb⟩; have HK2 := Lib.hid (And.intro (HK.out.1.keep hb) (below_of_new HK.out.2 hb)); clear hb)
              by_cases h2 : E2 = 0
              case neg =>
                have he4 : (E2 != 0) = true := bne_iff_ne.2 h2
                have HF2 : Hid (decP s = none) := Lib.hid (by rw [HF.out, if_neg (fun h => h2 (Prod.mk.inj h.1).2)])
                clear h2
                go_wp2_with fail
                go_ret2
                exact ⟨.inr ⟨HF2.out, rfl⟩, HK2.out.2⟩
              subst h2
              by_cases h1 : E1 = s
              case neg =>
                have he3 : ((bs E1).toList == (bs s).toList) = false := by rw [Lib.toList_data, Lib.toList_data, bs_data, bs_data]; exact beq_eq_false_iff_ne.2 h1
                have he4 : ((bs E1).toList != (bs s).toList) = true := by rw [bne, he3]; rfl
                have HF2 : Hid (decP s = none) := Lib.hid (by rw [HF.out, if_neg (fun h => h1 (Prod.mk.inj h.1).1)])
                clear h1
                go_wp2_with fail
                go_ret2
                exact ⟨.inr ⟨HF2.out, rfl⟩, HK2.out.2⟩
              subst h1
              have he3 : ((bs E1).toList != (bs E1).toList) = false := by simp
              by_cases h0 : H = 0
              · have HF2 : Hid (decP E1 = none) := Lib.hid (by rw [HF.out, if_neg (fun h => by omega)])
                have hz : ((H : Int) == 0) = true := by rw [h0]; rfl
                clear h0
                go_wp2_with (go_at_call 20; (with_reducible refine (CHo.out _ HK2.out.1).mono ?_); rintro e w9 ⟨rfl, hb⟩; have HK3 := Lib.hid (below_of_new HK2.out.2 hb); clear hb)
                go_ret2
                exact ⟨.inr ⟨HF2.out, rfl⟩, HK3.out⟩
              · have HF2 : Hid (decP E1 = some out) := Lib.hid (by rw [HF.out, if_pos ⟨rfl, by omega⟩])
                have hz : ((H : Int) == 0) = false := beq_eq_false_iff_ne.2 (by omega)
                clear h0
                go_wp2_with (go_at_call 20; (with_reducible refine (CHo.out _ HK2.out.1).mono ?_); rintro e w9 ⟨rfl, hb⟩; have HK3 := Lib.hid (And.intro (HK2.out.1.keep hb) (below_of_new HK2.out.2 hb)); clear hb)
                go_ret2
                exact ⟨.inl ⟨out, u9, HF2.out, rfl, HK3.out.1⟩, HK3.out.2⟩
          | true =>
            have hne := hit_ne HCu.out (by rw [mark_len]; omega)
            obtain ⟨hP1, hex1, hfi1⟩ := HP.out.hit HCu.out
            rw [mark_len] at hP1
            have CF1 : Hid (∀ w, Calls Tryz.prog 15 #[.string (bs s), .string (bs (mark 60 n)), .int .i64 p] w fun e w' => e = .returned (.int .i64 ((p + t.length : Nat) : Int)) ∧ Below w.heap.size w w') := Lib.hid (fun w => by have := HF0.out w; rw [hfi1] at this; exact this)
            have hl1 := hP1.2
            obtain ⟨i, hi⟩ : ∃ i, p + t.length = i := ⟨_, rfl⟩
            rw [hi] at hP1 hex1 CF1 hl1
            have hpi : p ≤ i := by omega
            have htn : t = [] ↔ ¬ p < i := by rw [← List.length_eq_zero_iff]; omega
            obtain ⟨L1, hL1⟩ : ∃ L, i + (n + 2) = L := ⟨_, rfl⟩
            rw [hL1] at hP1 hl1
            have aL1 : (i : Int) + (n : Int) + 2 = (L1 : Int) := by omega
            have il1 : i ≤ s.length := by omega
            have iL : i + 2 ≤ L1 := by omega
            have HNE := Lib.hid hne
            have HP1 := Lib.hid hP1
            have HTN := Lib.hid htn
            clear HF0 hi hfi1 hP1 hne htn hL1
            go_upto_region 12 with (first | (go_at_call 18; (with_reducible refine (C0.out _).mono ?_); rintro e w5 ⟨rfl, hb⟩; have HJ1 := Lib.hid (HJ.out.keep hb); clear hb) | (go_at_call 15; (with_reducible refine (CF1.out _).mono ?_); rintro e w6 ⟨rfl, hb⟩; have HJ2 := Lib.hid (HJ1.out.keep hb); clear hb))
            clear CF1
            obtain ⟨Q, hQ⟩ : ∃ Q, decide (p < i) = Q := ⟨_, rfl⟩
            have hQi : decide ((p : Int) < (i : Int)) = Q := by
              rw [← hQ]
              by_cases h : p < i
              · rw [decide_eq_true h]; exact decide_eq_true (by omega)
              · rw [decide_eq_false h]; exact decide_eq_false (by omega)
            have hi0' : ¬ (i : Int) < 0 := by omega
            go_upto_if 71 with fail
            go_cut [9] (fun s9 wx => ∃ acc2, acc2.length ≤ acc.length + 1 ∧ Hid (acc2 = (acc ++ if t = [] then [] else [textP t])) ∧ Hid (DcJ w4 B s9 acc2 wx))
            case first =>
              cases Q with
              | false =>
                have HE : Hid (acc = (acc ++ if t = [] then [] else [textP t])) := Lib.hid (by rw [if_pos (HTN.out.2 (of_decide_eq_false hQ)), List.append_nil])
                go_wp2_with fail
                go_meet
                exact ⟨acc, Nat.le_succ _, HE, HJ2⟩
              | true =>
                have HE : Hid (acc ++ [textP t] = (acc ++ if t = [] then [] else [textP t])) := Lib.hid (by rw [if_neg (fun h => HTN.out.1 h (of_decide_eq_true hQ))])
                have hpiz : (p : Int) ≤ (i : Int) := by omega
                have hilz : (i : Int) ≤ (s.length : Int) := by omega
                go_wp2_with (at_builtin; go_must (refine wpList_push rfl _ _ 23 rfl B 30 i0 _ 5 72 Tryz.underlying23 hi0 hz0 hz1 hz2 rfl (by decide) w6 u9 acc.length (partCells acc) rfl HJ2.out.own #[.bool false, .string (bs t), .string ⟨#[]⟩, .string ⟨#[]⟩, .string ⟨#[]⟩] rfl rfl (by simp [Value.oneCell']) (by omega) (by decide) HJ2.out.sz ?_); intro v1 w7 hown1 hsz1 hbel1 hkeep1 hne1)
                go_meet
                exact ⟨_, by simp, HE, Lib.hid (HJ2.out.push (x := textP t) rfl hown1 hbel1)⟩
            case rest =>
              obtain ⟨acc2, hal, HA2, HJ3⟩ := hcut
              clear HJ2 HJ1 HJ hQ hQi hex1
              have G1 := Lib.hid (fun w => CF.out 124 L1 w hl1)
              obtain ⟨Cu1, hCu1⟩ : ∃ C, cut b (mark 124 n) = C := ⟨_, rfl⟩
              obtain ⟨t1, b1, m1'⟩ := Cu1
              have HC1 := Lib.hid hCu1
              clear hCu1
              cases m1' with
              | false =>
                have G1' : Hid (∀ w, Calls Tryz.prog 15 #[.string (bs s), .string (bs (mark 124 n)), .int .i64 L1] w fun e w' => e = .returned (.int .i64 (-1)) ∧ Below w.heap.size w w') := Lib.hid (fun w => by have := G1.out w; rw [HP1.out.miss HC1.out] at this; exact this)
                have HF : Hid (decP s = none) := Lib.hid (HN1.out (HR.out.bad HNE.out HCu.out (takeO_miss1 HC1.out)))
                clear G1
                go_wp2_with (go_at_call 18; (with_reducible refine (C1.out _).mono ?_); rintro e w7 ⟨rfl, hb⟩; have HJ4 := Lib.hid (HJ3.out.keep hb); clear hb)
                with_reducible refine (G1'.out _).mono ?_
                rintro e w8 ⟨rfl, hb⟩
                have HJ5 := Lib.hid (HJ4.out.keep hb)
                clear hb
                go_wp2_with fail
                go_ret2
                exact ⟨.inr ⟨HF.out, rfl⟩, HKw.out _ HJ5.out.bel⟩
              | true =>
                obtain ⟨hP2, hex2, hfi2⟩ := HP1.out.hit HC1.out
                rw [mark_len] at hP2
                have G1' : Hid (∀ w, Calls Tryz.prog 15 #[.string (bs s), .string (bs (mark 124 n)), .int .i64 L1] w fun e w' => e = .returned (.int .i64 ((L1 + t1.length : Nat) : Int)) ∧ Below w.heap.size w w') := Lib.hid (fun w => by have := G1.out w; rw [hfi2] at this; exact this)
                have hl2 := hP2.2
                obtain ⟨a, ha⟩ : ∃ a, L1 + t1.length = a := ⟨_, rfl⟩
                rw [ha] at hP2 hex2 G1' hl2
                have hLa : L1 ≤ a := by omega
                obtain ⟨L2, hL2⟩ : ∃ L, a + (n + 2) = L := ⟨_, rfl⟩
                rw [hL2] at hP2 hl2
                have aL2 : (a : Int) + (n : Int) + 2 = (L2 : Int) := by omega
                have al2 : a ≤ s.length := by omega
                have aL : a + 2 ≤ L2 := by omega
                have ha0 : ¬ (a : Int) < 0 := by omega
                have HP2 := Lib.hid hP2
                clear G1 ha hfi2 hP2 hL2
                go_upto_region 17 with (first | (go_at_call 18; (with_reducible refine (C1.out _).mono ?_); rintro e w7 ⟨rfl, hb⟩; have HJ4 := Lib.hid (HJ3.out.keep hb); clear hb) | (go_at_call 15; (with_reducible refine (G1'.out _).mono ?_); rintro e w8 ⟨rfl, hb⟩; have HJ5 := Lib.hid (HJ4.out.keep hb); clear hb))
                clear G1' HJ3 HJ4
                have G2 := Lib.hid (fun w => CF.out 61 L2 w hl2)
                obtain ⟨Cu2, hCu2⟩ : ∃ C, cut b1 (mark 61 n) = C := ⟨_, rfl⟩
                obtain ⟨t2, b2, m2'⟩ := Cu2
                have HC2 := Lib.hid hCu2
                clear hCu2
                cases m2' with
                | false =>
                  have G2' : Hid (∀ w, Calls Tryz.prog 15 #[.string (bs s), .string (bs (mark 61 n)), .int .i64 L2] w fun e w' => e = .returned (.int .i64 (-1)) ∧ Below w.heap.size w w') := Lib.hid (fun w => by have := G2.out w; rw [HP2.out.miss HC2.out] at this; exact this)
                  have HF : Hid (decP s = none) := Lib.hid (HN1.out (HR.out.bad HNE.out HCu.out (takeO_miss2 HC1.out HC2.out)))
                  clear G2
                  go_wp2_with (go_at_call 18; (with_reducible refine (C2.out _).mono ?_); rintro e w9 ⟨rfl, hb⟩; have HJ6 := Lib.hid (HJ5.out.keep hb); clear hb)
                  with_reducible refine (G2'.out _).mono ?_
                  rintro e w10 ⟨rfl, hb⟩
                  have HJ7 := Lib.hid (HJ6.out.keep hb)
                  clear hb
                  go_wp2_with fail
                  go_ret2
                  exact ⟨.inr ⟨HF.out, rfl⟩, HKw.out _ HJ7.out.bel⟩
                | true =>
                  obtain ⟨hP3, hex3, hfi3⟩ := HP2.out.hit HC2.out
                  rw [mark_len] at hP3
                  have G2' : Hid (∀ w, Calls Tryz.prog 15 #[.string (bs s), .string (bs (mark 61 n)), .int .i64 L2] w fun e w' => e = .returned (.int .i64 ((L2 + t2.length : Nat) : Int)) ∧ Below w.heap.size w w') := Lib.hid (fun w => by have := G2.out w; rw [hfi3] at this; exact this)
                  have hl3 := hP3.2
                  obtain ⟨b', hb'⟩ : ∃ b, L2 + t2.length = b := ⟨_, rfl⟩
                  rw [hb'] at hP3 hex3 G2' hl3
                  have hLb : L2 ≤ b' := by omega
                  obtain ⟨L3, hL3⟩ : ∃ L, b' + (n + 2) = L := ⟨_, rfl⟩
                  rw [hL3] at hP3 hl3
                  have aL3 : (b' : Int) + (n : Int) + 2 = (L3 : Int) := by omega
                  have bl3 : b' ≤ s.length := by omega
                  have bL : b' + 2 ≤ L3 := by omega
                  have hb0 : ¬ (b' : Int) < 0 := by omega
                  have HP3 := Lib.hid hP3
                  clear G2 hb' hfi3 hP3 hL3
                  go_upto_region 20 with (first | (go_at_call 18; (with_reducible refine (C2.out _).mono ?_); rintro e w9 ⟨rfl, hb⟩; have HJ6 := Lib.hid (HJ5.out.keep hb); clear hb) | (go_at_call 15; (with_reducible refine (G2'.out _).mono ?_); rintro e w10 ⟨rfl, hb⟩; have HJ7 := Lib.hid (HJ6.out.keep hb); clear hb))
                  clear G2' HJ5 HJ6
                  have G3 := Lib.hid (fun w => CF.out 62 L3 w hl3)
                  obtain ⟨Cu3, hCu3⟩ : ∃ C, cut b2 (mark 62 n) = C := ⟨_, rfl⟩
                  obtain ⟨t3, b3, m3'⟩ := Cu3
                  have HC3 := Lib.hid hCu3
                  clear hCu3
                  cases m3' with
                  | false =>
                    have G3' : Hid (∀ w, Calls Tryz.prog 15 #[.string (bs s), .string (bs (mark 62 n)), .int .i64 L3] w fun e w' => e = .returned (.int .i64 (-1)) ∧ Below w.heap.size w w') := Lib.hid (fun w => by have := G3.out w; rw [HP3.out.miss HC3.out] at this; exact this)
                    have HF : Hid (decP s = none) := Lib.hid (HN1.out (HR.out.bad HNE.out HCu.out (takeO_miss3 HC1.out HC2.out HC3.out)))
                    clear G3
                    go_wp2_with (go_at_call 18; (with_reducible refine (C3.out _).mono ?_); rintro e w11 ⟨rfl, hb⟩; have HJ8 := Lib.hid (HJ7.out.keep hb); clear hb)
                    with_reducible refine (G3'.out _).mono ?_
                    rintro e w12 ⟨rfl, hb⟩
                    have HJ9 := Lib.hid (HJ8.out.keep hb)
                    clear hb
                    go_wp2_with fail
                    go_ret2
                    exact ⟨.inr ⟨HF.out, rfl⟩, HKw.out _ HJ9.out.bel⟩
                  | true =>
                    obtain ⟨hP4, hex4, hfi4⟩ := HP3.out.hit HC3.out
                    rw [mark_len] at hP4
                    have G3' : Hid (∀ w, Calls Tryz.prog 15 #[.string (bs s), .string (bs (mark 62 n)), .int .i64 L3] w fun e w' => e = .returned (.int .i64 ((L3 + t3.length : Nat) : Int)) ∧ Below w.heap.size w w') := Lib.hid (fun w => by have := G3.out w; rw [hfi4] at this; exact this)
                    have hl4 := hP4.2
                    obtain ⟨c', hc'⟩ : ∃ c, L3 + t3.length = c := ⟨_, rfl⟩
                    rw [hc'] at hP4 hex4 G3' hl4
                    have hLc : L3 ≤ c' := by omega
                    obtain ⟨L4, hL4⟩ : ∃ L, c' + (n + 2) = L := ⟨_, rfl⟩
                    rw [hL4] at hP4 hl4
                    have aL4 : (c' : Int) + (n : Int) + 2 = (L4 : Int) := by omega
                    have cl4 : c' ≤ s.length := by omega
                    have cL : c' + 2 ≤ L4 := by omega
                    have hc0 : ¬ (c' : Int) < 0 := by omega
                    have HP4 := Lib.hid hP4
                    have hto := takeO_hit HC1.out HC2.out HC3.out
                    obtain ⟨hnx, _⟩ := HR.out.next HNE.out HCu.out hto
                    rw [← HA2.out] at hnx
                    have HNX := Lib.hid hnx
                    clear G3 hc' hfi4 hP4 hL4 hto hnx
                    go_upto_region 23 with (first | (go_at_call 18; (with_reducible refine (C3.out _).mono ?_); rintro e w11 ⟨rfl, hb⟩; have HJ8 := Lib.hid (HJ7.out.keep hb); clear hb) | (go_at_call 15; (with_reducible refine (G3'.out _).mono ?_); rintro e w12 ⟨rfl, hb⟩; have HJ9 := Lib.hid (HJ8.out.keep hb); clear hb))
                    clear G3' HJ7 HJ8 HP HP1 HP2 HP3 HCu HC1 HC2 HC3 HR HA2 HTN HNE C0 C1 C2 C3 m0 m1 m2 m3 s0 s1 s2 s3 CE CH HN1 HN2 HCB HSZ HSL
                    have z1 : (L2 : Int) ≤ (b' : Int) := by omega
                    have z2 : (L1 : Int) ≤ (a : Int) := by omega
                    have z3 : (L3 : Int) ≤ (c' : Int) := by omega
                    have z4 : (b' : Int) ≤ (s.length : Int) := by omega
                    have z5 : (a : Int) ≤ (s.length : Int) := by omega
                    have z6 : (c' : Int) ≤ (s.length : Int) := by omega
                    have q2 : L2 ≤ 2147483648 := by omega
                    have q3 : L3 ≤ 2147483648 := by omega
                    have hlen : (acc2 ++ [(⟨true, [], t2, t1, t3⟩ : Part)]).length ≤ L4 := by simp; omega
                    have hpL : p < L4 := by omega
                    have hac : acc2.length ≤ 4294967295 := by omega
                    have W2 := wrap2 a n L2 aL2 q2
                    have W3 := wrap2 b' n L3 aL3 q3
                    have HJ9d : Hid (DcJ w4 B u9 acc2 w12.drew) := Lib.hid ⟨HJ9.out.1, HJ9.out.2.1.drew, HJ9.out.2.2⟩
                    go_upto_region 25 with fail
                    go_region_law ((refine step_part (by rfl) (.tmp 114) (.tmp 135) (by rfl) w4 B w12.drew u9 acc2 ⟨true, [], t2, t1, t3⟩ (by rfl) HJ9d.out #[.bool true, .string ⟨#[]⟩, .string (bs t2), .string (bs t1), .string (bs t3)] (by rfl) rfl hac ?_; intro v1' w13' hJ10))
                    all_goals
                      have HJ10 := Lib.hid hJ10
                      clear hJ10 W2 W3
                      go_wp2_with fail
                      go_roundw
                      case rel => exact ⟨L4, b3, acc2 ++ [⟨true, [], t2, t1, t3⟩], by first | rfl | rw [aL4], hlen, hl4, HP4, HNX, HJ10⟩
                      case measure => simp [RowKit.intOf]; omega
end Go.Proofs.YtdegjfmjjabnnaaGreatDoor

import Derived.Test.YtdegjfmjjabnnaaGreatDoorMkS
import Derived.Test.YtdegjfmjjabnnaaGreatDoorShelfB4
import Derived.Lib.ItoaLen
/-! The walk of mark.Encode. -/
namespace Go.Proofs.YtdegjfmjjabnnaaGreatDoor
set_option linter.unusedSimpArgs false
set_option linter.unusedVariables false
open Go.RowKit
open Go.Lib hiding intOf

def PTab (w : World) : Prop := Lib.TabIs Tryz.prog w "internal/strconv.uint64pow10" .u64 Lib.pow10Tab
theorem PTab.keep {w w' : World} (h : PTab w) (hb : Below w.heap.size w w') : PTab w' := var_keep h hb
theorem below_grow (w : World) (k : Nat) (os : Array Obj) : Below w.heap.size w (Go.Sort.grow (w.drewN k) os) :=
  ⟨rfl, rfl, rfl, by simp [Go.Sort.grow], fun j hj => Go.Sort.heap_grow_old (w.drewN k) os hj⟩
theorem itoa_any (n : Int) (w : World) (h0 : -9223372036854775808 ≤ n ∧ n ≤ 9223372036854775807) (hT : PTab w) :
    Calls Tryz.prog 25 #[.int .i64 n] w fun e w' => e = .returned (.string (bs (Lib.itoa n))) ∧ Below w.heap.size w w' :=
  (Tryz.strconv_Itoa n h0.1 h0.2 w hT).mono fun _ _ ⟨a, k, os, b⟩ => ⟨a, b ▸ below_grow w k os⟩
def pieceM (n : Nat) (x : Part) : List UInt8 := if x.hunk then hunkL n x else x.text
theorem body_take (n : Nat) (l : List Part) (j : Nat) (x : Part) (h : l[j]? = some x) : bodyM n (l.take (j + 1)) = bodyM n (l.take j) ++ pieceM n x := by
  obtain ⟨hlt, e⟩ := List.getElem?_eq_some_iff.1 h
  unfold bodyM
  rw [List.take_succ_eq_append_getElem hlt, List.flatMap_append, e]
  simp [pieceM]
theorem body_take_le (n : Nat) (l : List Part) (j : Nat) : (bodyM n (l.take j)).length ≤ (bodyM n l).length := by
  have : bodyM n l = bodyM n (l.take j) ++ bodyM n (l.drop j) := by unfold bodyM; rw [← List.flatMap_append, List.take_append_drop]
  rw [this, List.length_append]
  omega
theorem head_len (n : Nat) (hn : n ≤ 1073741826) : (headM n).length ≤ 40 := by
  unfold headM
  have := Lib.itoa_length_le (n : Int) (by omega) (by omega)
  simp only [List.length_append, List.length_cons, List.length_nil]
  omega
/-- Between two parts. -/
def EnI (W0 : World) (B M n : Nat) (acc : List UInt8) (W : World) : Prop := Bld B B acc W ∧ Below B W0 W ∧ Box4 W M (bs (mark 60 n)) (bs (mark 124 n)) (bs (mark 61 n)) (bs (mark 62 n)) ∧ B ≤ W.heap.size
theorem EnI.bel {W0 W : World} {B M n : Nat} {acc : List UInt8} (h : EnI W0 B M n acc W) : Below B W0 W := h.2.1
theorem EnI.bld {W0 W : World} {B M n : Nat} {acc : List UInt8} (h : EnI W0 B M n acc W) : Bld B B acc W := h.1
theorem EnI.box {W0 W : World} {B M n : Nat} {acc : List UInt8} (h : EnI W0 B M n acc W) : Box4 W M (bs (mark 60 n)) (bs (mark 124 n)) (bs (mark 61 n)) (bs (mark 62 n)) := h.2.2.1
theorem EnI.sz {W0 W : World} {B M n : Nat} {acc : List UInt8} (h : EnI W0 B M n acc W) : B ≤ W.heap.size := h.2.2.2
theorem EnI.keep {W0 W W' : World} {B M n : Nat} {acc : List UInt8} (h : EnI W0 B M n acc W) (hb : Below W.heap.size W W') : EnI W0 B M n acc W' :=
  ⟨h.1.keep hb, h.2.1.trans (hb.mono h.2.2.2), h.2.2.1.keep hb, Nat.le_trans h.2.2.2 hb.size⟩
theorem EnI.wrote {W0 W W' : World} {B M n : Nat} {acc acc2 : List UInt8} (h : EnI W0 B M n acc W) (hM : M < B) (h1 : Bld B B acc2 W') (h2 : Below B W W') : EnI W0 B M n acc2 W' :=
  ⟨h1, h.2.1.trans h2, (h2.block M hM).trans h.2.2.1, Nat.le_trans h.2.2.2 h2.size⟩
set_option maxRecDepth 100000 in
set_option maxHeartbeats 8000000 in
theorem encode_any (v : Value) (l : List Part) (w : World) (hv : PV w v l) (hs : Sz l) (hT : PTab w) (hlen : (bodyM (widthM l) l).length ≤ 1099511627776) :
    Calls Tryz.prog 8 #[v] w fun e w' => e = .returned (.tuple #[.string (bs (encM l).1), .int .i64 (encM l).2]) ∧ Below w.heap.size w w' := by
  have hl := hs.1
  have CR := Lib.hid (fun w hv => Right_any v l w hv hl)
  have CW := Lib.hid (fun w hv => width_any v l w hv hs)
  have CC := Lib.hid (fun w hv => containsFunc_any v l w hv hl)
  have HV : Hid (PV w v l) := Lib.hid hv
  have HT := Lib.hid hT
  have hwb : widthM l ≤ 1073741825 := by
    have : ∀ (l : List Part) (k : Nat), k ≤ 1073741825 → (∀ x ∈ l, runP x ≤ 1073741824) → l.foldl (fun n x => max n (runP x + 1)) k ≤ 1073741825 := by
      intro l
      induction l with
      | nil => intro k hk _; exact hk
      | cons x l ih => intro k hk h; exact ih _ (by have := h x List.mem_cons_self; show max k (runP x + 1) ≤ _; omega) (fun y hy => h y (List.mem_cons_of_mem _ hy))
    refine this l 7 (by omega) (fun x hx => ?_)
    obtain ⟨z0, z1, z2, z3⟩ := hs.2 x hx
    have k0 := runM_le x.text; have k1 := runM_le x.s0; have k2 := runM_le x.s1; have k3 := runM_le x.s2
    unfold runP
    omega
  obtain ⟨p, c, rfl, hp⟩ := hv
  have HP : Hid (PLies w p l) := Lib.hid hp
  obtain ⟨E, hE⟩ : ∃ E, encM l = E := ⟨_, rfl⟩
  rw [hE]
  unfold encM at hE
  obtain ⟨n, hn⟩ : ∃ n, widthM l = n := ⟨_, rfl⟩
  rw [hn] at hE hwb CW hlen
  cases hr : rightM l with
  | false =>
    rw [hr] at hE CR
    have HF : Hid (E = ([], 1)) := Lib.hid (by rw [← hE]; rfl)
    clear hE hp hT
    go_enter Tryz.func8, Tryz.ntmps8
    go_wp2_with (go_at_call 21; (with_reducible refine (CR.out _ HV.out).mono ?_); rintro e w1 ⟨rfl, hb⟩; have HB := Lib.hid hb; clear hb)
    go_ret2
    exact ⟨by rw [HF.out]; rfl, HB.out⟩
  | true =>
    rw [hr, if_pos rfl] at hE
    rw [hr] at CR
    have CL := Lib.hid (fun w => lines_any n w (by omega))
    unfold linesV at CL
    obtain ⟨A, hA⟩ : ∃ A, anyHunk l = A := ⟨_, rfl⟩
    rw [hA] at hE CC
    have HE := Lib.hid hE
    clear hE hp hT hr hA
    go_enter Tryz.func8, Tryz.ntmps8
    go_wp2_with (go_at_call 21; (with_reducible refine (CR.out _ HV.out).mono ?_); rintro e w1 ⟨rfl, hb⟩; have HB1 := Lib.hid hb; clear hb)
    with_reducible refine (CW.out _ (HV.out.keep HB1.out)).mono ?_
    rintro e w2 ⟨rfl, hb⟩
    have HB2 := Lib.hid (below_of_new HB1.out hb); clear hb HB1
    go_wp2_with fail
    with_reducible refine (CL.out _).mono ?_
    rintro e w3 ⟨rfl, hb⟩
    have HB3 := Lib.hid (below_of_new HB2.out hb); clear hb HB2
    go_upto_region 6 with fail
    have hb0 := below_alloc1 w3 (.cells #[.string (bs (mark 60 n)), .string (bs (mark 124 n)), .string (bs (mark 61 n)), .string (bs (mark 62 n))] 39)
    have hM0 : Box4 (w3.alloc (.cells #[.string (bs (mark 60 n)), .string (bs (mark 124 n)), .string (bs (mark 61 n)), .string (bs (mark 62 n))] 39)) w3.heap.size (bs (mark 60 n)) (bs (mark 124 n)) (bs (mark 61 n)) (bs (mark 62 n)) := heap_alloc_new w3 _
    have hz0 : w3.heap.size < (w3.alloc (.cells #[.string (bs (mark 60 n)), .string (bs (mark 124 n)), .string (bs (mark 61 n)), .string (bs (mark 62 n))] 39)).heap.size := by simp
    have hsz : (w3.alloc (.cells #[.string (bs (mark 60 n)), .string (bs (mark 124 n)), .string (bs (mark 61 n)), .string (bs (mark 62 n))] 39)).heap.size = w3.heap.size + 1 := by simp
    obtain ⟨W0, hW0⟩ : ∃ W, w3.alloc (.cells #[.string (bs (mark 60 n)), .string (bs (mark 124 n)), .string (bs (mark 61 n)), .string (bs (mark 62 n))] 39) = W := ⟨_, rfl⟩
    rw [hW0] at hb0 hM0 hz0 hsz ⊢
    have hB0 := below_of_new HB3.out hb0
    have hE0 : EnI W0 W0.heap.size w3.heap.size n [] (W0.alloc (.cells #[.pointer none, .slice none 0 0] 57)) :=
      ⟨Bld.new W0, below_alloc1 _ _, hM0.keep (below_alloc1 _ _), (below_alloc1 W0 (.cells #[.pointer none, .slice none 0 0] 57)).size⟩
    obtain ⟨W1, hW1⟩ : ∃ W, W0.alloc (.cells #[.pointer none, .slice none 0 0] 57) = W := ⟨_, rfl⟩
    obtain ⟨M, hM⟩ : ∃ M, w3.heap.size = M := ⟨_, rfl⟩
    obtain ⟨B, hB⟩ : ∃ B, W0.heap.size = B := ⟨_, rfl⟩
    rw [hM] at hz0 hE0 hsz ⊢
    rw [← hsz]
    rw [hB] at hz0 hE0 ⊢
    rw [hW1] at hE0 ⊢
    have HE0 := Lib.hid (And.intro hE0 (And.intro hB0 (show w.heap.size ≤ B by rw [← hB]; exact hB0.size)))
    have hMB := hz0
    have hKw : Hid (∀ W, Below B W0 W → Below w.heap.size w W) := Lib.hid (fun W h => by rw [← hB] at h; exact below_of_new hB0 h)
    clear hb0 hM0 hz0 hsz hW0 hB0 hE0 hW1 hM hB HB3
    go_upto_if 17 with (go_at_call 22; (with_reducible refine (CC.out _ (HV.out.keep (hKw.out _ HE0.out.1.bel))).mono ?_); rintro e w4 ⟨rfl, hb⟩; have HE1 := Lib.hid (HE0.out.1.keep hb); clear hb)
    have hal : (if A = true then headM n else []).length ≤ 40 := by
      split
      · exact head_len n (by omega)
      · simp
    have HAL := Lib.hid hal
    clear hal
    go_cut [] (fun wx => Hid (EnI W0 B M n (if A = true then headM n else []) wx))
    case first =>
      cases A with
      | true =>
        have CI := Lib.hid (fun w hT => itoa_any (n : Int) w (by omega) hT)
        have hIl := Lib.itoa_length_le (n : Int) (by omega) (by omega)
        obtain ⟨I, hI⟩ : ∃ I, Lib.itoa (n : Int) = I := ⟨_, rfl⟩
        rw [hI] at CI hIl
        have sI := bs_size I
        have hcat : (⟨#[35, 109, 97, 114, 107, 115, 32]⟩ : ByteArray) ++ bs I ++ ⟨#[10]⟩ = bs (headM n) := by
          rw [show (⟨#[35, 109, 97, 114, 107, 115, 32]⟩ : ByteArray) = bs [35, 109, 97, 114, 107, 115, 32] from rfl, show (⟨#[10]⟩ : ByteArray) = bs [10] from rfl, bs_append, bs_append]
          unfold headM
          rw [hI]
        have hhl := head_len n (by omega)
        have CWr := Lib.hid (fun (w : World) (h : Bld B B [] w) (hB : B ≤ w.heap.size) => writeString_any B B [] (headM n) w h (by simp; omega) hB)
        clear hI
        go_wp2_with fail
        with_reducible refine (CI.out _ (HT.out.keep (hKw.out _ HE1.out.bel))).mono ?_
        rintro e w5 ⟨rfl, hb⟩
        have HE2 := Lib.hid (HE1.out.keep hb); clear hb
        go_wp2_with fail
        refine (CWr.out _ HE2.out.bld HE2.out.sz).mono ?_
        rintro e w6 ⟨rfl, h3, b3, _⟩
        have HE3 := Lib.hid (HE2.out.wrote hMB h3 b3); clear h3 b3
        go_wp2_with fail
        go_meet
        exact HE3.out
      | false =>
        go_wp2_with fail
        go_meet
        exact HE1.out
    obtain ⟨a0, ha0⟩ : ∃ a0, (if A = true then headM n else []) = a0 := ⟨_, rfl⟩
    rw [ha0] at hcut HAL
    have HE2 : Hid (E = (a0 ++ bodyM n l, 0)) := Lib.hid (by rw [← HE.out, ha0])
    have H0 : Hid (EnI W0 B M n (a0 ++ bodyM n (l.take 0)) wc) := Lib.hid (by rw [List.take_zero, show bodyM n [] = [] from rfl, List.append_nil]; exact hcut.out)
    have CH := Lib.hid (fun x w (z0 : x.s0.length ≤ 1073741824) (z1 : x.s1.length ≤ 1073741824) (z2 : x.s2.length ≤ 1073741824) => hunk_any x n w (by omega) z0 z1 z2)
    unfold partV linesV at CH
    clear hcut ha0 HE HE1 HE0 CR CW CC CL
    go_wp2_with fail
    go_loopw [25] (fun s25 wr => ∃ j : Nat, s25 = .int .i64 j ∧ j ≤ l.length ∧ Hid (EnI W0 B M n (a0 ++ bodyM n (l.take j)) wr)) (fun s25 _ => l.length - (RowKit.intOf s25).toNat)
    case atStart => exact ⟨0, rfl, by omega, H0.out⟩
    case round =>
      obtain ⟨j, rfl, hj, HI⟩ := hrel
      by_cases hlt : j < l.length
      · obtain ⟨x, hx⟩ : ∃ x, l[j]? = some x := ⟨_, List.getElem?_eq_getElem hlt⟩
        obtain ⟨g, o, rfl, hg, _, c0, c1, c2, c3, c4⟩ := (HP.out.keep (hKw.out _ HI.out.bel)).at_ hx
        have hlz : (j : Int) < (l.length : Int) := by omega
        obtain ⟨z0, z1, z2, z3⟩ := hs.at_ hx
        have hbt := body_take n l j x hx
        have hle1 := body_take_le n l (j + 1)
        rw [hbt, List.length_append] at hle1
        obtain ⟨acc, hacc⟩ : ∃ acc, a0 ++ bodyM n (l.take j) = acc := ⟨_, rfl⟩
        have hal2 := HAL.out
        have haccl : acc.length + (pieceM n x).length ≤ 1099511627876 := by rw [← hacc, List.length_append]; omega
        have HA2 : Hid (a0 ++ bodyM n (l.take (j + 1)) = acc ++ pieceM n x) := Lib.hid (by rw [hbt, ← List.append_assoc, hacc])
        rw [hacc] at HI
        have CWr := Lib.hid (fun (w : World) (h : Bld B B acc w) (hB : B ≤ w.heap.size) => writeString_any B B acc (pieceM n x) w h (by omega) hB)
        clear hx hbt hle1 hacc hal2 haccl
        go_upto_region 11 with fail
        have hbx := PBox.new wr x
        have hb1 := below_alloc1 wr (.cells #[.bool x.hunk, .string (bs x.text), .string (bs x.s0), .string (bs x.s1), .string (bs x.s2)] 30)
        obtain ⟨Wx, hWx⟩ : ∃ W, wr.alloc (.cells #[.bool x.hunk, .string (bs x.text), .string (bs x.s0), .string (bs x.s1), .string (bs x.s2)] 30) = W := ⟨_, rfl⟩
        obtain ⟨X, hX⟩ : ∃ X, wr.heap.size = X := ⟨_, rfl⟩
        rw [hWx] at hbx hb1 ⊢
        rw [hX] at hbx ⊢
        have HY := Lib.hid (HI.out.keep hb1)
        obtain ⟨⟨x0, x1, x2, x3, x4⟩, _⟩ := hbx.cells
        obtain ⟨⟨y0, y1, y2, y3⟩, _⟩ := HY.out.box.cells
        clear hWx hX hbx hb1 c0 c1 c2 c3 c4 HI
        obtain ⟨P, hP⟩ : ∃ P, pieceM n x = P := ⟨_, rfl⟩
        cases hh : x.hunk with
        | true =>
          have hPh : hunkL n x = P := by rw [← hP]; unfold pieceM; rw [if_pos hh]
          have C1 := Lib.hid (fun w => CH.out x w z1 z2 z3)
          rw [hP] at CWr HA2
          rw [hPh, hh] at C1
          rw [hh] at x0
          clear hP hPh hh
          go_wp2_with fail
          with_reducible refine (C1.out _).mono ?_
          rintro e w5 ⟨rfl, hb⟩
          have HY2 := Lib.hid (HY.out.keep hb); clear hb
          go_wp2_with fail
          refine (CWr.out _ HY2.out.bld HY2.out.sz).mono ?_
          rintro e w6 ⟨rfl, h3, b3, _⟩
          have HY3 := Lib.hid (HY2.out.wrote hMB h3 b3); clear h3 b3
          go_wp2_with fail
          go_roundw
          case rel => exact ⟨j + 1, by go_num, by omega, by rw [HA2.out]; exact HY3.out⟩
          case measure => simp [RowKit.intOf]; omega
        | false =>
          have hPh : x.text = P := by rw [← hP]; unfold pieceM; rw [if_neg (by rw [hh]; decide)]
          rw [hP] at CWr HA2
          rw [hPh] at x1
          rw [hh] at x0
          clear hP hPh hh
          go_wp2_with fail
          refine (CWr.out _ HY.out.bld HY.out.sz).mono ?_
          rintro e w6 ⟨rfl, h3, b3, _⟩
          have HY3 := Lib.hid (HY.out.wrote hMB h3 b3); clear h3 b3
          go_wp2_with fail
          go_roundw
          case rel => exact ⟨j + 1, by go_num, by omega, by rw [HA2.out]; exact HY3.out⟩
          case measure => simp [RowKit.intOf]; omega
      · obtain rfl : j = l.length := by omega
        rw [List.take_length] at HI
        go_wp2_with fail
        refine (Tryz.Builder_String_any_k B B (a0 ++ bodyM n l) _ HI.out.bld HI.out.sz).mono ?_
        rintro e w4 ⟨rfl, _, b4, _⟩
        have HB4 := Lib.hid (hKw.out _ (HI.out.bel.trans b4)); clear b4
        go_wp2_with fail
        go_ret2
        exact ⟨by rw [HE2.out]; rfl, HB4.out⟩
end Go.Proofs.YtdegjfmjjabnnaaGreatDoor

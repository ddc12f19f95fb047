import Derived.Test.YtdegjfmjjabnnaaDoorMkLn1
/-! The walk of MarkLines. -/
namespace Go.Proofs.YtdegjfmjjabnnaaDoor
set_option linter.unusedSimpArgs false
set_option linter.unusedVariables false
open Go.RowKit
open Go.Lib hiding intOf

/-- Block O is an array of four ints. -/
def Box4i (W : World) (O : Nat) (a b c d : Int) : Prop := W.heap[O]? = some (.cells #[.int .i64 a, .int .i64 b, .int .i64 c, .int .i64 d] 39 (0, 0))
theorem Box4i.cells {W : World} {O : Nat} {a b c d : Int} (h : Box4i W O a b c d) : (W.cell? ⟨O, 0, none⟩ = some (.int .i64 a) ∧ W.cell? ⟨O, 1, none⟩ = some (.int .i64 b) ∧ W.cell? ⟨O, 2, none⟩ = some (.int .i64 c) ∧ W.cell? ⟨O, 3, none⟩ = some (.int .i64 d)) ∧
    (W.frozen? ⟨O, 0, none⟩ = false ∧ W.frozen? ⟨O, 1, none⟩ = false ∧ W.frozen? ⟨O, 2, none⟩ = false ∧ W.frozen? ⟨O, 3, none⟩ = false) :=
  ⟨⟨cell_of_row _ _ 0 _ _ (0, 0) h, cell_of_row _ _ 1 _ _ (0, 0) h, cell_of_row _ _ 2 _ _ (0, 0) h, cell_of_row _ _ 3 _ _ (0, 0) h⟩, by simp [World.frozen?, show W.heap[O]? = _ from h]⟩
theorem Box4i.keep {W W' : World} {O : Nat} {a b c d : Int} (h : Box4i W O a b c d) (hb : Below W.heap.size W W') : Box4i W' O a b c d := (hb.block O (cell_it h)).trans h
theorem Box4i.set0 {W : World} {O : Nat} {a b c d : Int} (h : Box4i W O a b c d) (x : Int) : Box4i (W.setCell ⟨O, 0, none⟩ (.int .i64 x)) O x b c d := by unfold Box4i at h ⊢; simp [World.setCell, Array.getElem?_modify, h]
theorem Box4i.set1 {W : World} {O : Nat} {a b c d : Int} (h : Box4i W O a b c d) (x : Int) : Box4i (W.setCell ⟨O, 1, none⟩ (.int .i64 x)) O a x c d := by unfold Box4i at h ⊢; simp [World.setCell, Array.getElem?_modify, h]
theorem Box4i.set2 {W : World} {O : Nat} {a b c d : Int} (h : Box4i W O a b c d) (x : Int) : Box4i (W.setCell ⟨O, 2, none⟩ (.int .i64 x)) O a b x d := by unfold Box4i at h ⊢; simp [World.setCell, Array.getElem?_modify, h]
theorem Box4i.set3 {W : World} {O : Nat} {a b c d : Int} (h : Box4i W O a b c d) (x : Int) : Box4i (W.setCell ⟨O, 3, none⟩ (.int .i64 x)) O a b c x := by unfold Box4i at h ⊢; simp [World.setCell, Array.getElem?_modify, h]
def sgB (k : Nat) : UInt8 := if k = 0 then 60 else if k = 1 then 124 else if k = 2 then 61 else 62
theorem sg_at (SG : ByteArray) (h : (⟨#[60, 124, 61, 62]⟩ : ByteArray) = SG) (k : Nat) (hk : k < SG.size) : SG[k]'hk = sgB k := by
  subst h
  have h4 : k < 4 := hk
  rcases (show k = 0 ∨ k = 1 ∨ k = 2 ∨ k = 3 by omega) with rfl | rfl | rfl | rfl <;> rfl
theorem sg_size (SG : ByteArray) (h : (⟨#[60, 124, 61, 62]⟩ : ByteArray) = SG) : SG.size = 4 := by subst h; rfl
/-- Where the count of one line's signs stands. -/
structure KR (k : Nat) (b0 b1 b2 b3 : Bool) (k0 k1 k2 k3 a0 a1 a2 a3 : Nat) : Prop where
  e0 : a0 = k0 + (if 0 < k then oneB b0 else 0)
  e1 : a1 = k1 + (if 1 < k then oneB b1 else 0)
  e2 : a2 = k2 + (if 2 < k then oneB b2 else 0)
  e3 : a3 = k3 + (if 3 < k then oneB b3 else 0)
theorem oneB_le (b : Bool) : oneB b ≤ 1 := by cases b <;> decide
theorem KR.le {k : Nat} {b0 b1 b2 b3 : Bool} {k0 k1 k2 k3 a0 a1 a2 a3 N : Nat} (h : KR k b0 b1 b2 b3 k0 k1 k2 k3 a0 a1 a2 a3) (h0 : k0 ≤ N) (h1 : k1 ≤ N) (h2 : k2 ≤ N) (h3 : k3 ≤ N) : a0 ≤ N + 1 ∧ a1 ≤ N + 1 ∧ a2 ≤ N + 1 ∧ a3 ≤ N + 1 := by
  obtain ⟨e0, e1, e2, e3⟩ := h
  have := oneB_le b0; have := oneB_le b1; have := oneB_le b2; have := oneB_le b3
  refine ⟨?_, ?_, ?_, ?_⟩
  · split at e0 <;> omega
  · split at e1 <;> omega
  · split at e2 <;> omega
  · split at e3 <;> omega
theorem KR.start (b0 b1 b2 b3 : Bool) (k0 k1 k2 k3 : Nat) : KR 0 b0 b1 b2 b3 k0 k1 k2 k3 k0 k1 k2 k3 := ⟨by simp, by simp, by simp, by simp⟩
theorem KR.s0 {b0 b1 b2 b3 : Bool} {k0 k1 k2 k3 a0 a1 a2 a3 : Nat} (h : KR 0 b0 b1 b2 b3 k0 k1 k2 k3 a0 a1 a2 a3) : KR 1 b0 b1 b2 b3 k0 k1 k2 k3 (a0 + oneB b0) a1 a2 a3 := by
  obtain ⟨e0, e1, e2, e3⟩ := h
  exact ⟨by simp at e0 ⊢; omega, by simpa using e1, by simpa using e2, by simpa using e3⟩
theorem KR.s1 {b0 b1 b2 b3 : Bool} {k0 k1 k2 k3 a0 a1 a2 a3 : Nat} (h : KR 1 b0 b1 b2 b3 k0 k1 k2 k3 a0 a1 a2 a3) : KR 2 b0 b1 b2 b3 k0 k1 k2 k3 a0 (a1 + oneB b1) a2 a3 := by
  obtain ⟨e0, e1, e2, e3⟩ := h
  exact ⟨by simpa using e0, by simp at e1 ⊢; omega, by simpa using e2, by simpa using e3⟩
theorem KR.s2 {b0 b1 b2 b3 : Bool} {k0 k1 k2 k3 a0 a1 a2 a3 : Nat} (h : KR 2 b0 b1 b2 b3 k0 k1 k2 k3 a0 a1 a2 a3) : KR 3 b0 b1 b2 b3 k0 k1 k2 k3 a0 a1 (a2 + oneB b2) a3 := by
  obtain ⟨e0, e1, e2, e3⟩ := h
  exact ⟨by simpa using e0, by simpa using e1, by simp at e2 ⊢; omega, by simpa using e3⟩
theorem KR.s3 {b0 b1 b2 b3 : Bool} {k0 k1 k2 k3 a0 a1 a2 a3 : Nat} (h : KR 3 b0 b1 b2 b3 k0 k1 k2 k3 a0 a1 a2 a3) : KR 4 b0 b1 b2 b3 k0 k1 k2 k3 a0 a1 a2 (a3 + oneB b3) := by
  obtain ⟨e0, e1, e2, e3⟩ := h
  exact ⟨by simpa using e0, by simpa using e1, by simpa using e2, by simp at e3 ⊢; omega⟩
theorem KR.done {b0 b1 b2 b3 : Bool} {k0 k1 k2 k3 a0 a1 a2 a3 : Nat} (h : KR 4 b0 b1 b2 b3 k0 k1 k2 k3 a0 a1 a2 a3) : a0 = k0 + oneB b0 ∧ a1 = k1 + oneB b1 ∧ a2 = k2 + oneB b2 ∧ a3 = k3 + oneB b3 := by
  obtain ⟨e0, e1, e2, e3⟩ := h
  exact ⟨by simpa using e0, by simpa using e1, by simpa using e2, by simpa using e3⟩
/-- The four counts. -/
structure L4 (n H : Nat) (s : List UInt8) (f k0 k1 k2 k3 : Nat) : Prop where
  p0 : LeftC 60 n H s f k0
  p1 : LeftC 124 n H s f k1
  p2 : LeftC 61 n H s f k2
  p3 : LeftC 62 n H s f k3
theorem L4.next {n H : Nat} {s : List UInt8} {f i k0 k1 k2 k3 : Nat} (h : L4 n H s f k0 k1 k2 k3) (hn : 0 < n) (h1 : f ≤ i) (h2 : i ≤ s.length) (h3 : ∀ j, f ≤ j → j < i → s[j]? ≠ some 10) (h4 : i = s.length ∨ s[i]? = some 10) (A0 : Bool) (hA : (((i : Int) - (f : Int)) == (n : Int)) = A0) :
    L4 n H s (i + 1) (k0 + oneB (A0 && remB 60 s f i)) (k1 + oneB (A0 && remB 124 s f i)) (k2 + oneB (A0 && remB 61 s f i)) (k3 + oneB (A0 && remB 62 s f i)) := by
  have e : (((i - f : Nat) : Int) == (n : Int)) = A0 := by rw [← hA, Int.ofNat_sub h1]
  obtain ⟨p0, p1, p2, p3⟩ := h
  have q0 := p0.next hn h1 h2 h3 h4
  have q1 := p1.next hn h1 h2 h3 h4
  have q2 := p2.next hn h1 h2 h3 h4
  have q3 := p3.next hn h1 h2 h3 h4
  rw [e] at q0 q1 q2 q3
  exact ⟨q0, q1, q2, q3⟩
theorem L4.le {n H : Nat} {s : List UInt8} {f k0 k1 k2 k3 : Nat} (h : L4 n H s f k0 k1 k2 k3) : k0 ≤ H ∧ k1 ≤ H ∧ k2 ≤ H ∧ k3 ≤ H := ⟨h.p0.le, h.p1.le, h.p2.le, h.p3.le⟩
/-- The counts of the whole loop: none where there is no hunk. -/
def LL (n H : Nat) (s : List UInt8) (f k0 k1 k2 k3 : Nat) : Prop := (H = 0 ∧ k0 = 0 ∧ k1 = 0 ∧ k2 = 0 ∧ k3 = 0) ∨ (0 < H ∧ L4 n H s f k0 k1 k2 k3)
theorem LL.done {n H : Nat} {s : List UInt8} {f k0 k1 k2 k3 : Nat} (h : LL n H s f k0 k1 k2 k3) (hn : 0 < n) (hf : H = 0 ∨ s.length ≤ f) : k0 = H ∧ k1 = H ∧ k2 = H ∧ k3 = H := by
  rcases h with ⟨rfl, rfl, rfl, rfl, rfl⟩ | ⟨h1, p0, p1, p2, p3⟩
  · exact ⟨rfl, rfl, rfl, rfl⟩
  · have hf := hf.resolve_left (by omega)
    exact ⟨p0.done hn hf, p1.done hn hf, p2.done hn hf, p3.done hn hf⟩
def bAt (k : Nat) (b0 b1 b2 b3 : Bool) : Bool := if k = 0 then b0 else if k = 1 then b1 else if k = 2 then b2 else b3
set_option maxRecDepth 100000 in
set_option maxHeartbeats 8000000 in
theorem markLines_any (v : Value) (l : List Part) (w : World) (hv : PV w v l) (hz : totP l + 5 * l.length ≤ 1048576) (hV : MkV w) :
    Calls Tryd.prog 5 #[v] w fun e w' => e = .returned (.bool true) ∧ Below w.heap.size w w' := by
  have HV := Lib.hid hV
  have HPV := Lib.hid hv
  have hbig := bulk_big hz
  have CS := Lib.hid (fun w hV => small_any w hV)
  have CF := Lib.hid (fun w hv => few_any v l w hv hbig.1)
  have CE := Lib.hid (fun w hv hV => encode_any v l w hv hbig.1 hV hbig.2)
  have CW := Lib.hid (fun w hv => width_any v l w hv hbig.1)
  have hG : rightM l = true → 0 < hunksM l → ∀ c : UInt8, (c = 60 ∨ c = 124 ∨ c = 61 ∨ c = 62) → cntM c (widthM l) (encM l).1 = hunksM l := fun h1 h2 c hc => cnt_enc (enc_good h1 h2) c hc
  have hFl : Few l → (encM l).1.length ≤ 307960 := fun h => few_enc h
  have hFw : Few l → widthM l ≤ 1025 := fun h => (few_len h).2
  have hw7 : 7 ≤ widthM l := (width_ge l 7).1
  have hE2 := enc_right l
  obtain ⟨E, hE⟩ : ∃ E, encM l = E := ⟨_, rfl⟩
  rw [hE] at CE hG hE2 hFl
  obtain ⟨s, E2⟩ := E
  simp only [] at CE hG hE2 hFl
  obtain ⟨n, hn⟩ : ∃ n, widthM l = n := ⟨_, rfl⟩
  rw [hn] at CW hG hFw hw7
  have hHl := hunksM_le l
  have hl := hbig.1.1
  obtain ⟨H, hH⟩ : ∃ H, hunksM l = H := ⟨_, rfl⟩
  rw [hH] at hG hHl
  have HH := Lib.hid hH
  have hlb : l.length ≤ 1048576 := by omega
  have HL : Hid (rightM l = true → LL n H s 0 0 0 0 0) := Lib.hid (fun hr => by
    by_cases h0 : H = 0
    · exact .inl ⟨h0, rfl, rfl, rfl, rfl⟩
    · have hp : 0 < H := by omega
      exact .inr ⟨hp, .start (hG hr hp 60 (by simp)), .start (hG hr hp 124 (by simp)), .start (hG hr hp 61 (by simp)), .start (hG hr hp 62 (by simp))⟩)
  have HE2 := Lib.hid hE2
  have HFl := Lib.hid hFl
  have HFw := Lib.hid hFw
  have sl := bs_size s
  clear hE hn hG hH hbig hz hE2 hFl hFw
  obtain ⟨p, c, rfl, hp⟩ := hv
  have HP : Hid (PLies w p l) := Lib.hid hp
  clear hp
  go_enter Tryd.func5, Tryd.ntmps5
  go_wp2_with (go_at_call 8; (with_reducible refine (CS.out _ HV.out).mono ?_); rintro e w1 ⟨rfl, hb⟩; have HB1 := Lib.hid hb; clear hb)
  with_reducible refine (CF.out _ (HPV.out.keep HB1.out)).mono ?_
  rintro e w2 ⟨b, rfl, hfew, hb⟩
  have HB2 := Lib.hid (below_of_new HB1.out hb)
  have HFew := Lib.hid hfew
  clear hb hfew
  go_upto_region 4 with (go_at_call 10; (with_reducible refine (CE.out _ (HPV.out.keep HB2.out) (HV.out.keep HB2.out).p).mono ?_); rintro e w3 ⟨rfl, hb⟩; have HB3 := Lib.hid (below_of_new HB2.out hb); clear hb)
  cases b with
  | false =>
    go_wp2_with fail
    go_ret
    exact ⟨rfl, HB3.out⟩
  | true =>
    by_cases he : E2 = 0
    case neg =>
      have heb : (E2 != 0) = true := bne_iff_ne.2 he
      go_wp2_with fail
      go_ret
      exact ⟨rfl, HB3.out⟩
    have HLL : Hid (LL n H s 0 0 0 0 0) := Lib.hid (HL.out (by rw [← HE2.out, he]; rfl))
    have hsl : s.length ≤ 307960 := HFl.out (HFew.out rfl)
    have hnl : n ≤ 1025 := HFw.out (HFew.out rfl)
    subst he
    clear HFew HL HE2 HFl HFw
    go_upto_block 0 with (go_at_call 16; (with_reducible refine (CW.out _ (HPV.out.keep HB3.out)).mono ?_); rintro e w4 ⟨rfl, hb⟩; have HB4 := Lib.hid (below_of_new HB3.out hb); clear hb)
    go_cut [8] (fun s8 wx => s8 = .int .i64 (H : Nat) ∧ Hid (Below w.heap.size w wx))
    case first => as_aux_lemma =>
      have HN : Hid (H = 0 + hunksM (l.drop 0)) := Lib.hid (by rw [List.drop_zero, Nat.zero_add]; exact HH.out.symm)
      go_wp2_with fail
      go_loopw [8, 9] (fun s8 s9 wr => ∃ (j n : Nat), s9 = .int .i64 j ∧ s8 = .int .i64 n ∧ j ≤ l.length ∧ n ≤ j ∧ Hid (H = n + hunksM (l.drop j)) ∧ Hid (Below w.heap.size w wr)) (fun _ s9 _ => l.length - (RowKit.intOf s9).toNat)
      case atStart => exact ⟨0, 0, rfl, rfl, by omega, by omega, HN, HB4.out⟩
      case round =>
        obtain ⟨j, n, rfl, rfl, hj, hn, HC, HB⟩ := hrel
        by_cases hlt : j < l.length
        · obtain ⟨x, hx⟩ : ∃ x, l[j]? = some x := ⟨_, List.getElem?_eq_getElem hlt⟩
          obtain ⟨g, o, rfl, hg, _, c0, c1, c2, c3, c4⟩ := (HP.out.keep HB.out).at_ hx
          have hc := HC.out
          rw [drop_at hx, hunksM_cons] at hc
          have hlz : (j : Int) < (l.length : Int) := by omega
          obtain ⟨b, hb⟩ : ∃ b, x.hunk = b := ⟨_, rfl⟩
          rw [hb] at c0 hc
          clear hx hb
          cases b with
          | true =>
            have HC2 : Hid (H = (n + 1) + hunksM (l.drop (j + 1))) := Lib.hid (by simp at hc; omega)
            clear hc HC
            go_wp2_with fail
            go_roundw
            case rel => exact ⟨j + 1, n + 1, by go_num, by go_num, by omega, by omega, HC2, by first | exact HB.out | exact below_drewN HB.out _⟩
            case measure => simp [RowKit.intOf]; omega
          | false =>
            have HC2 : Hid (H = n + hunksM (l.drop (j + 1))) := Lib.hid (by simpa using hc)
            clear hc HC
            go_wp2_with fail
            go_roundw
            case rel => exact ⟨j + 1, n, by go_num, rfl, by omega, by omega, HC2, by first | exact HB.out | exact below_drewN HB.out _⟩
            case measure => simp [RowKit.intOf]; omega
        · have HF : Hid (H = n) := Lib.hid (by
            have := HC.out
            rw [List.drop_of_length_le (by omega)] at this
            simpa [hunksM] using this)
          go_wp2_with fail
          go_meet
          exact ⟨by rw [HF.out], HB.out⟩
    case rest =>
      obtain ⟨rfl, HB5⟩ := hcut
      have HX0 : Hid (Box4i (wc.alloc (.cells #[.int .i64 0, .int .i64 0, .int .i64 0, .int .i64 0] 39)) wc.heap.size 0 0 0 0) := Lib.hid (heap_alloc_new wc _)
      have HB6 : Hid (Below w.heap.size w (wc.alloc (.cells #[.int .i64 0, .int .i64 0, .int .i64 0, .int .i64 0] 39))) := Lib.hid (HB5.out.alloc HB5.out.size _)
      go_upto_region 15 with fail
      obtain ⟨W1, hW1⟩ : ∃ W, wc.alloc (.cells #[.int .i64 0, .int .i64 0, .int .i64 0, .int .i64 0] 39) = W := ⟨_, rfl⟩
      obtain ⟨M, hM⟩ : ∃ M, wc.heap.size = M := ⟨_, rfl⟩
      have hMw : Hid (w.heap.size ≤ M) := Lib.hid (by rw [← hM]; exact HB5.out.size)
      rw [hW1, hM] at HX0
      rw [hW1] at HB6
      rw [hW1, hM]
      obtain ⟨SG, hSG⟩ : ∃ S, (⟨#[60, 124, 61, 62]⟩ : ByteArray) = S := ⟨_, rfl⟩
      have hsg4 := sg_size SG hSG
      have HSG : Hid (∀ k (hk : k < SG.size), SG[k]'hk = sgB k) := Lib.hid (fun k hk => sg_at SG hSG k hk)
      rw [hSG]
      have HX := Lib.hid (And.intro HX0.out HB6.out)
      have hHb : H ≤ 1048576 := by omega
      have hn0 : 0 < n := by omega
      clear hW1 hM hSG HX0 HB6 HB5 HP HH CS CF CE CW HB1 HB2 HB3 HB4
      go_upto_block 2 with fail
      go_cut [] (fun wx => Hid (Box4i wx M (H : Nat) (H : Nat) (H : Nat) (H : Nat) ∧ Below w.heap.size w wx))
      case first =>
        have HN0 : Hid (∀ j, 0 ≤ j → j < 0 → s[j]? ≠ some 10) := Lib.hid (fun j _ h => by omega)
        have HI0 : Hid (0 = s.length + 1 → 0 = s.length + 1) := Lib.hid id
        go_wp2_with fail
        go_loopw [12, 13] (fun s12 s13 wr => ∃ (f i k0 k1 k2 k3 : Nat), s12 = .int .i64 f ∧ s13 = .int .i64 i ∧ f ≤ i ∧ i ≤ s.length + 1 ∧ Hid (i = s.length + 1 → f = s.length + 1) ∧ Hid (∀ j, f ≤ j → j < i → s[j]? ≠ some 10) ∧ Hid (LL n H s f k0 k1 k2 k3) ∧ Hid (Box4i wr M k0 k1 k2 k3 ∧ Below w.heap.size w wr)) (fun _ s13 _ => s.length + 1 - (RowKit.intOf s13).toNat)
        case atStart => exact ⟨0, 0, 0, 0, 0, 0, rfl, rfl, by omega, by omega, HI0, HN0, HLL, HX⟩
        case round =>
          obtain ⟨f, i, k0, k1, k2, k3, rfl, rfl, hfi, hi, HI, HNT, HLc, HM⟩ := hrel
          by_cases hend : i ≤ s.length
          case neg =>
            have d1 : decide ((i : Int) ≤ (s.length : Int)) = false := decide_eq_false (by omega)
            have HF := Lib.hid (HLc.out.done hn0 (.inr (by have := HI.out (by omega); omega)))
            go_wp2_with fail
            go_meet
            obtain ⟨rfl, rfl, rfl, rfl⟩ := HF.out
            exact HM.out
          have d1 : decide ((i : Int) ≤ (s.length : Int)) = true := decide_eq_true (by omega)
          by_cases hH0 : H = 0
          case pos =>
            have d2 : decide ((0 : Int) < (H : Int)) = false := decide_eq_false (by omega)
            have d3 : decide (0 < H) = false := decide_eq_false (by omega)
            have HF := Lib.hid (HLc.out.done hn0 (.inl hH0))
            clear hH0
            go_wp2_with fail
            go_meet
            obtain ⟨rfl, rfl, rfl, rfl⟩ := HF.out
            exact HM.out
          have hHp : 0 < H := by omega
          have d2 : decide ((0 : Int) < (H : Int)) = true := decide_eq_true (by omega)
          have d3 : decide (0 < H) = true := decide_eq_true hHp
          have HL4 : Hid (L4 n H s f k0 k1 k2 k3) := Lib.hid (HLc.out.resolve_left (fun h => hH0 h.1)).2
          obtain ⟨T, hT⟩ : ∃ T : Bool, (decide (i < s.length) && !(s[i]? == some 10)) = T := ⟨_, rfl⟩
          have HT := Lib.hid hT
          clear hT hH0 HLc
          go_upto_region 19 with fail
          go_cut [66] (fun s66 wx => s66 = .bool T ∧ wr = wx)
          case first => as_aux_lemma =>
            by_cases hlt : i < s.length
            · have hlt' : i < (bs s).size := by omega
              have hbi := at_bs s i hlt'
              have q10 := byte_ne ((bs s)[i]'hlt') 10 10 rfl
              have hlz : (i : Int) < (s.length : Int) := by omega
              obtain ⟨D, hD⟩ : ∃ D : Bool, (!((bs s)[i]'hlt' == 10)) = D := ⟨_, rfl⟩
              rw [hD] at q10
              have HDT : Hid (D = T) := Lib.hid (by rw [← HT.out, decide_eq_true hlt, hbi, ← hD]; rfl)
              clear hbi hD
              go_wp2_with fail
              go_meet
              exact ⟨congrArg Value.bool HDT.out, rfl⟩
            · have hlz : ¬ (i : Int) < (s.length : Int) := by omega
              have dz : decide ((i : Int) < (s.length : Int)) = false := decide_eq_false hlz
              have HDT : Hid (false = T) := Lib.hid (by rw [← HT.out, decide_eq_false hlt]; rfl)
              go_wp2_with fail
              go_meet
              exact ⟨congrArg Value.bool HDT.out, rfl⟩
          case rest =>
            obtain ⟨rfl, rfl⟩ := hcut
            cases T with
            | true =>
              have hh := HT.out
              rw [Bool.and_eq_true] at hh
              have hlt : i < s.length := of_decide_eq_true hh.1
              have HN2 : Hid (∀ j, f ≤ j → j < i + 1 → s[j]? ≠ some 10) := Lib.hid (fun j h1 h2 => by
                by_cases h : j < i
                · exact HNT.out j h1 h
                · obtain rfl : j = i := by omega
                  have := hh.2
                  intro he
                  rw [he] at this
                  cases this)
              have HI2 : Hid (i + 1 = s.length + 1 → f = s.length + 1) := Lib.hid (fun h => by omega)
              have HLc : Hid (LL n H s f k0 k1 k2 k3) := Lib.hid (.inr ⟨hHp, HL4.out⟩)
              clear hh HT
              go_wp2_with fail
              go_roundw
              case rel => exact ⟨f, i + 1, k0, k1, k2, k3, rfl, by go_num, by omega, by omega, HI2, HN2, HLc, HM⟩
              case measure => simp [RowKit.intOf]; omega
            | false =>
              have h4 : i = s.length ∨ s[i]? = some 10 := by
                have hh := HT.out
                rw [Bool.and_eq_false_iff] at hh
                rcases hh with hh | hh
                · left; have := of_decide_eq_false hh; omega
                · right; simpa using hh
              obtain ⟨A0, hA0⟩ : ∃ A, (((i : Int) - (f : Int)) == (n : Int)) = A := ⟨_, rfl⟩
              have HNX := Lib.hid (HL4.out.next hn0 hfi hend HNT.out h4 A0 hA0)
              obtain ⟨b0, hb0⟩ : ∃ b, (A0 && remB 60 s f i) = b := ⟨_, rfl⟩
              obtain ⟨b1, hb1⟩ : ∃ b, (A0 && remB 124 s f i) = b := ⟨_, rfl⟩
              obtain ⟨b2, hb2⟩ : ∃ b, (A0 && remB 61 s f i) = b := ⟨_, rfl⟩
              obtain ⟨b3, hb3⟩ : ∃ b, (A0 && remB 62 s f i) = b := ⟨_, rfl⟩
              rw [hb0, hb1, hb2, hb3] at HNX
              have HBA : Hid (∀ k, k < 4 → (A0 && remB (sgB k) s f i) = bAt k b0 b1 b2 b3) := Lib.hid (fun k hk => by
                rcases (show k = 0 ∨ k = 1 ∨ k = 2 ∨ k = 3 by omega) with rfl | rfl | rfl | rfl
                · exact hb0
                · exact hb1
                · exact hb2
                · exact hb3)
              have hkH := HL4.out.le
              have HKH := Lib.hid hkH
              clear hb0 hb1 hb2 hb3 hkH h4 HT HL4 HI
              have hifz : (f : Int) ≤ (i : Int) := by omega
              go_upto_block 4 with fail
              go_cut [] (fun wx => ∃ (a0 a1 a2 a3 : Nat), Hid (KR 4 b0 b1 b2 b3 k0 k1 k2 k3 a0 a1 a2 a3) ∧ Hid (Box4i wx M a0 a1 a2 a3 ∧ Below w.heap.size w wx))
              case first => as_aux_lemma =>
                have HK0 := Lib.hid (KR.start b0 b1 b2 b3 k0 k1 k2 k3)
                go_wp2_with fail
                go_loopw [14] (fun s14 wk => ∃ (k a0 a1 a2 a3 : Nat), s14 = .int .i64 k ∧ k ≤ 4 ∧ Hid (KR k b0 b1 b2 b3 k0 k1 k2 k3 a0 a1 a2 a3) ∧ Hid (Box4i wk M a0 a1 a2 a3 ∧ Below w.heap.size w wk)) (fun s14 _ => 4 - (RowKit.intOf s14).toNat)
                case atStart => exact ⟨0, k0, k1, k2, k3, rfl, by omega, HK0, HM⟩
                case round =>
                  obtain ⟨k, a0, a1, a2, a3, rfl, hk, HKR, HMk⟩ := hrel
                  by_cases hk4 : k < 4
                  · have hkz : (k : Int) < 4 := by omega
                    have dk4 : decide ((k : Int) < 4) = true := decide_eq_true hkz
                    have hsk : k < SG.size := by omega
                    have hsb := HSG.out k hsk
                    have hbk := HBA.out k hk4
                    obtain ⟨c, hc⟩ : ∃ c, sgB k = c := ⟨_, rfl⟩
                    rw [hc] at hsb hbk
                    obtain ⟨ci, hci⟩ : ∃ ci : Int, (c.toNat : Int) = ci := ⟨_, rfl⟩
                    have hcI : ((SG[k]'hsk).toNat : Int) = ci := by rw [hsb, hci]
                    obtain ⟨bk, hbq⟩ : ∃ b, bAt k b0 b1 b2 b3 = b := ⟨_, rfl⟩
                    rw [hbq] at hbk
                    have HBQ := Lib.hid hbq
                    have HBK := Lib.hid hbk
                    have HCI := Lib.hid hci
                    clear hbq hbk hci hsb hc
                    go_upto_block 6 with fail
                    go_cut [15] (fun s15 wx => s15 = .bool bk ∧ Hid (Below wr.heap.size wr wx))
                    case first => as_aux_lemma =>
                      go_wp2_with fail
                      go_loopw [15, 16] (fun s15 s16 wy => ∃ (A : Bool) (j : Nat), s15 = .bool A ∧ s16 = .int .i64 j ∧ f ≤ j ∧ j ≤ i ∧ Hid ((A && remB c s j i) = bk) ∧ Hid (Below wr.heap.size wr wy)) (fun _ s16 _ => i - (RowKit.intOf s16).toNat)
                      case atStart => exact ⟨A0, f, by first | rfl | rw [hA0], rfl, Nat.le_refl _, hfi, HBK, Lib.hid (Below.refl _ _)⟩
                      case round =>
                        obtain ⟨A, j, rfl, rfl, hfj, hji, HA, HBy⟩ := hrel
                        by_cases hlt : j < i
                        · have hjl : j < s.length := by omega
                          have hlz : (j : Int) < (i : Int) := by omega
                          have hlz2 : (j : Int) < (s.length : Int) := by omega
                          have e1 : decide ((j : Int) < (i : Int)) = true := decide_eq_true hlz
                          have e2 : decide ((j : Int) < (s.length : Int)) = true := decide_eq_true hlz2
                          have hj' : j < (bs s).size := by omega
                          cases A with
                          | false =>
                            have HA2 : Hid ((false && remB c s (j + 1) i) = bk) := Lib.hid (by have := HA.out; rw [Bool.false_and] at this ⊢; exact this)
                            go_wp2_with fail
                            try (go_quiet (fail); go_wp2_with fail)
                            go_roundw
                            case rel => exact ⟨false, j + 1, rfl, by go_num, by omega, by omega, HA2, by first | exact HBy | exact below_drewN HBy.out _⟩
                            case measure => simp [RowKit.intOf]; omega
                          | true =>
                            have hbn := at_bs s j hj'
                            have T1 := byte_eq ((bs s)[j]'hj') c ci HCI.out.symm
                            obtain ⟨D, hD⟩ : ∃ D, ((bs s)[j]'hj' == c) = D := ⟨_, rfl⟩
                            rw [hD] at T1
                            have HA2 : Hid ((D && remB c s (j + 1) i) = bk) := Lib.hid (by have := HA.out; rw [remB_step c s hlt hbn, hD, Bool.true_and] at this; exact this)
                            clear hD hbn HA
                            go_wp2_with fail
                            try (go_quiet (fail); go_wp2_with fail)
                            go_roundw
                            case rel => exact ⟨D, j + 1, by first | rfl | rw [T1], by go_num, by omega, by omega, HA2, by first | exact HBy | exact below_drewN HBy.out _⟩
                            case measure => simp [RowKit.intOf]; omega
                        · have hlz : ¬ (j : Int) < (i : Int) := by omega
                          have e1 : decide ((j : Int) < (i : Int)) = false := decide_eq_false hlz
                          have HF : Hid (A = bk) := Lib.hid (by have := HA.out; rw [remB_end c s (by omega), Bool.and_true] at this; exact this)
                          go_wp2_with fail
                          go_meet
                          exact ⟨congrArg Value.bool HF.out, HBy⟩
                    case rest =>
                      obtain ⟨rfl, HBx⟩ := hcut
                      have HM2 := Lib.hid (And.intro (HMk.out.1.keep HBx.out) (below_of_new HMk.out.2 HBx.out))
                      obtain ⟨⟨e0, e1, e2, e3⟩, ⟨f0, f1, f2, f3⟩⟩ := HM2.out.1.cells
                      have hkH := HKH.out
                      obtain ⟨y0, y1, y2, y3⟩ := HKR.out.le hkH.1 hkH.2.1 hkH.2.2.1 hkH.2.2.2
                      have y0z : (a0 : Int) ≤ 1048577 := by omega
                      have y1z : (a1 : Int) ≤ 1048577 := by omega
                      have y2z : (a2 : Int) ≤ 1048577 := by omega
                      have y3z : (a3 : Int) ≤ 1048577 := by omega
                      clear hkH y0 y1 y2 y3 hcI HBK HCI
                      rcases (show k = 0 ∨ k = 1 ∨ k = 2 ∨ k = 3 by omega) with rfl | rfl | rfl | rfl
                      · obtain rfl : b0 = bk := HBQ.out
                        have HKN := HKR.out.s0
                        cases b0 with
                        | true =>
                          go_wp2_with fail
                          go_roundw
                          case rel => exact ⟨1, a0 + 1, a1, a2, a3, by go_num, by omega, Lib.hid HKN, Lib.hid ⟨by first | exact HM2.out.1.set0 _ | (push_cast; exact HM2.out.1.set0 _), HM2.out.2.setCell (p := ⟨M, 0, none⟩) hMw.out _⟩⟩
                          case measure => simp [RowKit.intOf]
                        | false =>
                          go_wp2_with fail
                          go_roundw
                          case rel => exact ⟨1, a0, a1, a2, a3, by go_num, by omega, Lib.hid HKN, HM2⟩
                          case measure => simp [RowKit.intOf]
                      · obtain rfl : b1 = bk := HBQ.out
                        have HKN := HKR.out.s1
                        cases b1 with
                        | true =>
                          go_wp2_with fail
                          go_roundw
                          case rel => exact ⟨2, a0, a1 + 1, a2, a3, by go_num, by omega, Lib.hid HKN, Lib.hid ⟨by first | exact HM2.out.1.set1 _ | (push_cast; exact HM2.out.1.set1 _), HM2.out.2.setCell (p := ⟨M, 1, none⟩) hMw.out _⟩⟩
                          case measure => simp [RowKit.intOf]
                        | false =>
                          go_wp2_with fail
                          go_roundw
                          case rel => exact ⟨2, a0, a1, a2, a3, by go_num, by omega, Lib.hid HKN, HM2⟩
                          case measure => simp [RowKit.intOf]
                      · obtain rfl : b2 = bk := HBQ.out
                        have HKN := HKR.out.s2
                        cases b2 with
                        | true =>
                          go_wp2_with fail
                          go_roundw
                          case rel => exact ⟨3, a0, a1, a2 + 1, a3, by go_num, by omega, Lib.hid HKN, Lib.hid ⟨by first | exact HM2.out.1.set2 _ | (push_cast; exact HM2.out.1.set2 _), HM2.out.2.setCell (p := ⟨M, 2, none⟩) hMw.out _⟩⟩
                          case measure => simp [RowKit.intOf]
                        | false =>
                          go_wp2_with fail
                          go_roundw
                          case rel => exact ⟨3, a0, a1, a2, a3, by go_num, by omega, Lib.hid HKN, HM2⟩
                          case measure => simp [RowKit.intOf]
                      · obtain rfl : b3 = bk := HBQ.out
                        have HKN := HKR.out.s3
                        cases b3 with
                        | true =>
                          go_wp2_with fail
                          go_roundw
                          case rel => exact ⟨4, a0, a1, a2, a3 + 1, by go_num, by omega, Lib.hid HKN, Lib.hid ⟨by first | exact HM2.out.1.set3 _ | (push_cast; exact HM2.out.1.set3 _), HM2.out.2.setCell (p := ⟨M, 3, none⟩) hMw.out _⟩⟩
                          case measure => simp [RowKit.intOf]
                        | false =>
                          go_wp2_with fail
                          go_roundw
                          case rel => exact ⟨4, a0, a1, a2, a3, by go_num, by omega, Lib.hid HKN, HM2⟩
                          case measure => simp [RowKit.intOf]
                  · obtain rfl : k = 4 := by omega
                    go_wp2_with fail
                    go_meet
                    exact ⟨a0, a1, a2, a3, HKR, HMk⟩
              case rest =>
                obtain ⟨a0, a1, a2, a3, HKR, HMk⟩ := hcut
                have HLn : Hid (LL n H s (i + 1) a0 a1 a2 a3) := Lib.hid (.inr ⟨hHp, by
                  obtain ⟨rfl, rfl, rfl, rfl⟩ := HKR.out.done
                  exact HNX.out⟩)
                have HI2 : Hid (i + 1 = s.length + 1 → i + 1 = s.length + 1) := Lib.hid id
                have HN2 : Hid (∀ j, i + 1 ≤ j → j < i + 1 → s[j]? ≠ some 10) := Lib.hid (fun j h1 h2 => by omega)
                go_wp2_with fail
                go_roundw
                case rel => exact ⟨i + 1, i + 1, a0, a1, a2, a3, by go_num, by go_num, by omega, by omega, HI2, HN2, HLn, HMk⟩
                case measure => simp [RowKit.intOf]; omega
      case rest =>
        have HMx := hcut
        obtain ⟨⟨e0, e1, e2, e3⟩, _⟩ := HMx.out.1.cells
        have h7z : (7 : Int) ≤ (n : Int) := by omega
        have d7 : decide ((7 : Int) ≤ (n : Int)) = true := decide_eq_true h7z
        clear hcut
        go_wp2_with fail
        go_ret
        exact ⟨rfl, HMx.out.2⟩
end Go.Proofs.YtdegjfmjjabnnaaDoor

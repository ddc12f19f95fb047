import Derived.Test.YtpfkdnhjideflaaDoorNumR
import Derived.Test.YtpfkdnhjideflaaDoorNumU
import Derived.Test.YtpfkdnhjideflaaDoorNumV
import Derived.Deep.CutBlock
/-! The walk of NumberShifts. -/
namespace Go.Proofs.YtpfkdnhjideflaaDoor
set_option linter.unusedSimpArgs false
set_option linter.unusedVariables false
open Go.RowKit
open Go.Lib hiding intOf

theorem parse_eq (s : ByteArray) (l : List UInt8) (hsl : s = bs l) (n : Num) (er : Int) (w : World) (hs : l.length ≤ 4294967296) (h : parseL l = (n, er)) :
    Calls Tryd.prog 15 #[.string s] w fun e w' => e = .returned (.tuple #[.agg #[.bool n.neg, .string (bs n.dig), .int .i64 n.exp], .int .i64 er]) ∧ Below w.heap.size w w' := by
  rw [hsl]; exact parse_at l n er w hs h
/-- What the six literals are. -/
structure Six (L I1 I2 I3 : List UInt8) (Na Nd Nx Ny : Num) (Ed Ey : Int) : Prop where
  a : parseL L = (Na, 0)
  b : parseL (L ++ [46, 48, 48, 48]) = (Na, 0)
  c : parseL ([48, 46] ++ L ++ [101] ++ I1) = (Na, 0)
  d : parseL (L ++ [48, 48, 48, 101, 45, 51]) = (Nd, Ed)
  x : parseL (L ++ [69, 43] ++ I2) = (Nx, 0)
  y : parseL (L ++ [48, 101] ++ I3) = (Ny, Ey)
theorem and255 (k : Int) : ∃ j : Nat, j ≤ 255 ∧ bits .and .i64 k 255 = j := by
  refine ⟨(BitVec.ofInt 64 k &&& BitVec.ofInt 64 255).toNat, ?_, ?_⟩
  · rw [BitVec.toNat_and]
    exact Nat.le_trans Nat.and_le_right (by decide)
  · have h : (BitVec.ofInt 64 k &&& BitVec.ofInt 64 255).toNat ≤ 255 := by
      rw [BitVec.toNat_and]
      exact Nat.le_trans Nat.and_le_right (by decide)
    show IntKind.i64.wrap ((BitVec.ofInt 64 k &&& BitVec.ofInt 64 255).toNat : Int) = _
    exact IntWalk.i64_in _ (by omega)
theorem six_of (L : List UInt8) (j : Nat) (hd : allDig L = true) (hh : L = [48] ∨ L.head? ≠ some 48) (hl : L.length ≤ 400) (hj : j ≤ 255) :
    ∃ Na Nd Nx Ny Ed Ey, Six L (Lib.itoa L.length) (Lib.itoa j) (Lib.itoa ((j : Int) - 1)) Na Nd Nx Ny Ed Ey ∧ ((L = [48] ∧ Na = nought ∧ Nx = nought ∧ Ed = 2 ∧ Ey = 2) ∨ (L ≠ [48] ∧ Nd = Na ∧ Ny = Nx ∧ Ed = 0 ∧ Ey = 0)) := by
  by_cases h : L = [48]
  · subst h
    obtain ⟨a, b, c, d, x, y⟩ := shifts_nought j hj
    exact ⟨nought, nought, nought, nought, 2, 2, ⟨a, b, c, d, x, y⟩, .inl ⟨rfl, rfl, rfl, rfl, rfl⟩⟩
  · obtain ⟨a, b, c, d, x, y⟩ := shifts_pos L j hd (hh.resolve_left h) hl hj
    exact ⟨_, _, _, _, 0, 0, ⟨a, b, c, d, x, y⟩, .inr ⟨h, rfl, rfl, rfl, rfl⟩⟩
set_option maxRecDepth 100000 in
set_option maxHeartbeats 8000000 in
theorem numberShifts_walk (s : ByteArray) (k : Int) (w : World) (zs : s.size ≤ 140737488351232) (hk : -9223372036854775808 ≤ k ∧ k ≤ 9223372036854775807) (hT : PTab w) :
    Calls Tryd.prog 6 #[.string s, .int .i64 k] w fun e w' => e = .returned (.bool true) ∧ Below w.heap.size w w' := by
  obtain ⟨L, rfl⟩ : ∃ l, s = bs l := ⟨_, (bs_of s).symm⟩
  have sL := bs_size L
  have HT := Lib.hid hT; clear hT
  go_enter Tryd.func6, Tryd.ntmps6
  go_wp2_with fail
  refine (small_any _ HT.out).mono ?_
  rintro e w1 ⟨rfl, hb1⟩
  have HB1 := Lib.hid hb1; clear hb1
  go_upto_block 0 with fail
  go_cut [6] (fun s6 wx => Hid (s6 = .int .i64 L.length ∧ L.all isDig = true) ∧ w1 = wx)
  case first =>
    go_wp2_with fail
    go_loopw [6] (fun i wr => ∃ p : Nat, p ≤ (bs L).size ∧ i = .int .i64 p ∧ Hid (Digs (bs L) p) ∧ w1 = wr) (fun i _ => (bs L).size - (RowKit.intOf i).toNat)
    case atStart => exact ⟨0, by omega, rfl, Digs.zero _, rfl⟩
    case round =>
      obtain ⟨p, hp, rfl, HD, rfl⟩ := hrel
      by_cases hlt : p < (bs L).size
      · cases hd : isDig ((bs L)[p]'hlt) with
        | true =>
          have HN := Lib.hid (HD.out.next hlt hd)
          have hb := of_decide_eq_true hd
          clear hd
          go_wp2_with fail
          go_roundw
          case rel => exact ⟨p + 1, by omega, by go_num, HN.out, trivial⟩
          case measure => simp [RowKit.intOf]; omega
        | false =>
          have hno : ((bs L)[p]'hlt).toNat < 48 ∨ 57 < ((bs L)[p]'hlt).toNat := by have h1 := of_decide_eq_false hd; omega
          clear hd
          rcases hno with hno | hno
          all_goals
            go_wp2_with fail
            go_ret
            exact ⟨rfl, HB1.out⟩
      · have hp2 : p = L.length := by omega
        subst hp2
        have HF : Hid (L.all isDig = true) := by
          have h := HD.out
          unfold Digs at h
          rw [bs_data, List.take_of_length_le (Nat.le_refl _)] at h
          exact h
        go_wp2_with fail
        go_meet
        exact ⟨⟨rfl, HF.out⟩, rfl⟩
  obtain ⟨HL, rfl⟩ := hcut
  have hL := HL.out.2
  obtain rfl := HL.out.1
  have HA := Lib.hid hL; clear hL HL
  by_cases h0 : L.length = 0
  · have hn : L = [] := List.eq_nil_of_length_eq_zero h0
    subst hn
    go_wp2_with fail
    go_ret
    exact ⟨rfl, HB1.out⟩
  by_cases h400 : 400 < L.length
  · have e0 : ((L.length : Int) == 0) = false := beq_eq_false_iff_ne.2 (by omega)
    go_wp2_with fail
    go_ret
    exact ⟨rfl, HB1.out⟩
  have hpos : 0 < (bs L).size := by omega
  have hT := head_is L 48 48 rfl hpos
  by_cases hz : 1 < L.length ∧ L.head? = some 48
  · obtain ⟨hz1, hz2⟩ := hz
    rw [hz2] at hT
    have hT2 : ((((bs L)[0]'hpos).toNat : Int) == 48) = true := hT
    have e0 : ((L.length : Int) == 0) = false := beq_eq_false_iff_ne.2 (by omega)
    clear hT hz2
    go_wp2_with fail
    go_ret
    exact ⟨rfl, HB1.out⟩
  obtain ⟨j, hj, hjk⟩ := and255 k
  have HJ := Lib.hid hjk; clear hjk
  have hh : L = [48] ∨ L.head? ≠ some 48 := by
    by_cases h : L.head? = some 48
    · left
      have h1 : L.length = 1 := by
        by_cases h2 : 1 < L.length
        · exact absurd ⟨h2, h⟩ hz
        · omega
      cases L with
      | nil => exact absurd rfl h0
      | cons c t =>
        have ht : t = [] := List.eq_nil_of_length_eq_zero (by simpa using h1)
        subst ht
        simp at h; rw [h]
    · exact .inr h
  have hd : allDig L = true := allDig_mk (fun h => h0 (by rw [h]; rfl)) HA.out
  have hls : L.length ≤ 400 := by omega
  obtain ⟨Na, Nd, Nx, Ny, Ed, Ey, hsix, hcase⟩ := six_of L j hd hh hls hj
  have i1 := itoa_len L.length (by omega)
  have i2 := itoa_len j (by omega)
  have i3 := itoa_len ((j : Int) - 1) (by omega)
  have D1 : Hid (∀ w, Calls Tryd.prog 22 #[.int .i64 (L.length : Int)] w fun e w' => e = .returned (.string (bs (Lib.itoa L.length))) ∧ Below w.heap.size w w') := Lib.hid (fun w => decimal_any L.length w (by omega))
  have D2 : Hid (∀ w, Calls Tryd.prog 22 #[.int .i64 (j : Int)] w fun e w' => e = .returned (.string (bs (Lib.itoa j))) ∧ Below w.heap.size w w') := Lib.hid (fun w => decimal_any j w (by omega))
  have D3 : Hid (∀ w, Calls Tryd.prog 22 #[.int .i64 ((j : Int) - 1)] w fun e w' => e = .returned (.string (bs (Lib.itoa ((j : Int) - 1)))) ∧ Below w.heap.size w w') := Lib.hid (fun w => decimal_any ((j : Int) - 1) w (by omega))
  generalize Lib.itoa L.length = I1 at *
  generalize Lib.itoa ((j : Int) - 1) = I3 at *
  generalize Lib.itoa (j : Int) = I2 at *
  have P1 := Lib.hid (fun w => parse_eq (bs L) L rfl Na 0 w (by omega) hsix.a)
  have P2 := Lib.hid (fun w => parse_eq (bs L ++ ⟨#[46, 48, 48, 48]⟩) _ (bs_append L [46, 48, 48, 48]) Na 0 w (by simp; omega) hsix.b)
  have P3 := Lib.hid (fun w => parse_eq (⟨#[48, 46]⟩ ++ bs L ++ ⟨#[101]⟩ ++ bs I1) ([48, 46] ++ L ++ [101] ++ I1) (by rw [show (⟨#[48, 46]⟩ : ByteArray) = bs [48, 46] from rfl, show (⟨#[101]⟩ : ByteArray) = bs [101] from rfl, bs_append, bs_append, bs_append]) Na 0 w (by simp; omega) hsix.c)
  have P4 := Lib.hid (fun w => parse_eq (bs L ++ ⟨#[48, 48, 48, 101, 45, 51]⟩) _ (bs_append L [48, 48, 48, 101, 45, 51]) Nd Ed w (by simp; omega) hsix.d)
  have P5 := Lib.hid (fun w => parse_eq (bs L ++ ⟨#[69, 43]⟩ ++ bs I2) (L ++ [69, 43] ++ I2) (by rw [show (⟨#[69, 43]⟩ : ByteArray) = bs [69, 43] from rfl, bs_append, bs_append]) Nx 0 w (by simp; omega) hsix.x)
  have P6 := Lib.hid (fun w => parse_eq (bs L ++ ⟨#[48, 101]⟩ ++ bs I3) (L ++ [48, 101] ++ I3) (by rw [show (⟨#[48, 101]⟩ : ByteArray) = bs [48, 101] from rfl, bs_append, bs_append]) Ny Ey w (by simp; omega) hsix.y)
  have s1 := bs_size I1
  have s2 := bs_size I2
  have s3 := bs_size I3
  have HC := Lib.hid hcase
  have HH := Lib.hid hh
  have HZ := Lib.hid hz
  clear hsix hcase hh hd hz
  go_upto_region 7 with fail
  go_cut [55] (fun s55 wx => s55 = .bool false ∧ w1 = wx)
  case first =>
    have e0 : ((L.length : Int) == 0) = false := beq_eq_false_iff_ne.2 (by omega)
    have e4 : decide (400 < (L.length : Int)) = false := decide_eq_false (by omega)
    have e5 : decide (400 < L.length) = false := decide_eq_false (by omega)
    by_cases h1 : 1 < L.length
    · have hf : (L.head? == some 48) = false := beq_eq_false_iff_ne.2 (fun h => HZ.out ⟨h1, h⟩)
      rw [hf] at hT
      clear hf
      go_wp2_with fail
      go_meet
      exact ⟨rfl, rfl⟩
    · clear hT
      go_wp2_with fail
      go_meet
      exact ⟨rfl, rfl⟩
  obtain ⟨rfl, rfl⟩ := hcut
  clear hT
  go_upto_region 9 with fail
  go_cut [7, 8] (fun s7 s8 wx => ∃ b7 : Nat, s7 = .pointer (some ⟨b7, 0, none⟩) ∧ s8 = .int .i64 0 ∧ Hid (NumBox wx b7 Na ∧ Below w.heap.size w wx))
  case first =>
    go_wp2_with fail
    refine (P1.out _).mono ?_
    rintro e v0 ⟨rfl, hb0⟩
    go_wp2_with fail
    go_meet
    have hx := hb0
    have hB := (HB1.out.trans (hx.mono HB1.out.size))
    exact ⟨_, rfl, rfl, NumBox.new v0 Na, hB.trans ((below_alloc1 v0 _).mono hB.size)⟩
  obtain ⟨b7, rfl, rfl, H7⟩ := hcut
  go_upto_region 10 with fail
  go_cut [9, 10] (fun s9 s10 wx => ∃ b9 : Nat, s9 = .pointer (some ⟨b9, 0, none⟩) ∧ s10 = .int .i64 0 ∧ Hid (NumBox wx b9 Na ∧ NumBox wx b7 Na ∧ Below w.heap.size w wx))
  case first =>
    go_wp2_with fail
    refine (P2.out _).mono ?_
    rintro e v0 ⟨rfl, hb0⟩
    go_wp2_with fail
    go_meet
    have hx := hb0
    have hB := (H7.out.2.trans (hx.mono H7.out.2.size))
    exact ⟨_, rfl, rfl, NumBox.new v0 Na, (H7.out.1.keep hx).keep (below_alloc1 v0 _), hB.trans ((below_alloc1 v0 _).mono hB.size)⟩
  obtain ⟨b9, rfl, rfl, H9⟩ := hcut
  go_upto_region 11 with fail
  go_cut [11, 12] (fun s11 s12 wx => ∃ b11 : Nat, s11 = .pointer (some ⟨b11, 0, none⟩) ∧ s12 = .int .i64 0 ∧ Hid (NumBox wx b11 Na ∧ NumBox wx b9 Na ∧ NumBox wx b7 Na ∧ Below w.heap.size w wx))
  case first =>
    go_wp2_with fail
    refine (D1.out _).mono ?_
    rintro e v0 ⟨rfl, hb0⟩
    go_wp2_with fail
    refine (P3.out _).mono ?_
    rintro e v1 ⟨rfl, hb1⟩
    go_wp2_with fail
    go_meet
    have hx := (below_of_new hb0 hb1)
    have hB := (H9.out.2.2.trans (hx.mono H9.out.2.2.size))
    exact ⟨_, rfl, rfl, NumBox.new v1 Na, (H9.out.1.keep hx).keep (below_alloc1 v1 _), (H9.out.2.1.keep hx).keep (below_alloc1 v1 _), hB.trans ((below_alloc1 v1 _).mono hB.size)⟩
  obtain ⟨b11, rfl, rfl, H11⟩ := hcut
  go_upto_region 12 with fail
  go_cut [13, 14] (fun s13 s14 wx => ∃ b13 : Nat, s13 = .pointer (some ⟨b13, 0, none⟩) ∧ s14 = .int .i64 Ed ∧ Hid (NumBox wx b13 Nd ∧ NumBox wx b11 Na ∧ NumBox wx b9 Na ∧ NumBox wx b7 Na ∧ Below w.heap.size w wx))
  case first =>
    go_wp2_with fail
    refine (P4.out _).mono ?_
    rintro e v0 ⟨rfl, hb0⟩
    go_wp2_with fail
    go_meet
    have hx := hb0
    have hB := (H11.out.2.2.2.trans (hx.mono H11.out.2.2.2.size))
    exact ⟨_, rfl, rfl, NumBox.new v0 Nd, (H11.out.1.keep hx).keep (below_alloc1 v0 _), (H11.out.2.1.keep hx).keep (below_alloc1 v0 _), (H11.out.2.2.1.keep hx).keep (below_alloc1 v0 _), hB.trans ((below_alloc1 v0 _).mono hB.size)⟩
  obtain ⟨b13, rfl, rfl, H13⟩ := hcut
  go_upto_region 13 with fail
  go_cut [15] (fun s15 wx => s15 = .int .i64 (j : Int) ∧ _ = wx)
  case first =>
    go_wp2_with fail
    go_meet
    exact ⟨by rw [← HJ.out], rfl⟩
  obtain ⟨rfl, rfl⟩ := hcut
  go_upto_region 14 with fail
  go_cut [16, 17] (fun s16 s17 wx => ∃ b16 : Nat, s16 = .pointer (some ⟨b16, 0, none⟩) ∧ s17 = .int .i64 0 ∧ Hid (NumBox wx b16 Nx ∧ NumBox wx b13 Nd ∧ NumBox wx b11 Na ∧ NumBox wx b9 Na ∧ NumBox wx b7 Na ∧ Below w.heap.size w wx))
  case first =>
    go_wp2_with fail
    refine (D2.out _).mono ?_
    rintro e v0 ⟨rfl, hb0⟩
    go_wp2_with fail
    refine (P5.out _).mono ?_
    rintro e v1 ⟨rfl, hb1⟩
    go_wp2_with fail
    go_meet
    have hx := (below_of_new hb0 hb1)
    have hB := (H13.out.2.2.2.2.trans (hx.mono H13.out.2.2.2.2.size))
    exact ⟨_, rfl, rfl, NumBox.new v1 Nx, (H13.out.1.keep hx).keep (below_alloc1 v1 _), (H13.out.2.1.keep hx).keep (below_alloc1 v1 _), (H13.out.2.2.1.keep hx).keep (below_alloc1 v1 _), (H13.out.2.2.2.1.keep hx).keep (below_alloc1 v1 _), hB.trans ((below_alloc1 v1 _).mono hB.size)⟩
  obtain ⟨b16, rfl, rfl, H16⟩ := hcut
  go_upto_region 15 with fail
  go_cut [18, 19] (fun s18 s19 wx => ∃ b18 : Nat, s18 = .pointer (some ⟨b18, 0, none⟩) ∧ s19 = .int .i64 Ey ∧ Hid (NumBox wx b18 Ny ∧ NumBox wx b16 Nx ∧ NumBox wx b13 Nd ∧ NumBox wx b11 Na ∧ NumBox wx b9 Na ∧ NumBox wx b7 Na ∧ Below w.heap.size w wx))
  case first =>
    go_wp2_with fail
    refine (D3.out _).mono ?_
    rintro e v0 ⟨rfl, hb0⟩
    go_wp2_with fail
    refine (P6.out _).mono ?_
    rintro e v1 ⟨rfl, hb1⟩
    go_wp2_with fail
    go_meet
    have hx := (below_of_new hb0 hb1)
    have hB := (H16.out.2.2.2.2.2.trans (hx.mono H16.out.2.2.2.2.2.size))
    exact ⟨_, rfl, rfl, NumBox.new v1 Ny, (H16.out.1.keep hx).keep (below_alloc1 v1 _), (H16.out.2.1.keep hx).keep (below_alloc1 v1 _), (H16.out.2.2.1.keep hx).keep (below_alloc1 v1 _), (H16.out.2.2.2.1.keep hx).keep (below_alloc1 v1 _), (H16.out.2.2.2.2.1.keep hx).keep (below_alloc1 v1 _), hB.trans ((below_alloc1 v1 _).mono hB.size)⟩
  obtain ⟨b18, rfl, rfl, H18⟩ := hcut
  obtain ⟨x18, x16, x13, x11, x9, x7, HBf⟩ := H18.out
  obtain ⟨c0, c1, c2⟩ := x18.cells
  obtain ⟨d0, d1, d2⟩ := x16.cells
  obtain ⟨e0, e1, e2⟩ := x13.cells
  obtain ⟨f0, f1, f2⟩ := x11.cells
  obtain ⟨g0, g1, g2⟩ := x9.cells
  obtain ⟨h0, h1, h2⟩ := x7.cells
  have HBg := Lib.hid HBf
  clear x18 x16 x13 x11 x9 x7 HBf H18 H16 H13 H11 H9 H7
  rcases HC.out with ⟨rfl, rfl, rfl, rfl, rfl⟩ | ⟨hne, rfl, rfl, rfl, rfl⟩
  · have t1 : ((bs [48]).toList == [48]) = true := by rw [Lib.toList_data, bs_data]; rfl
    clear HC HH HZ
    have hb0 : bs ([] : List UInt8) = ⟨#[]⟩ := rfl
    simp only [nought, hb0] at c0 c1 c2 d0 d1 d2 e0 e1 e2 f0 f1 f2 g0 g1 g2 h0 h1 h2
    go_wp2_with fail
    go_ret
    exact ⟨rfl, HBg.out⟩
  · have t0 : (bs L).toList = L := by rw [Lib.toList_data, bs_data]
    have t1 : ((bs L).toList == [48]) = false := by rw [t0]; exact beq_eq_false_iff_ne.2 hne
    clear HC HH HZ t0 hne
    go_wp2_with fail
    go_ret
    exact ⟨rfl, HBg.out⟩

end Go.Proofs.YtpfkdnhjideflaaDoor

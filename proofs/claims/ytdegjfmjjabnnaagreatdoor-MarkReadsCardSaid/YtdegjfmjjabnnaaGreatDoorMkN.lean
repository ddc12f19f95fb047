import Derived.Test.YtdegjfmjjabnnaaGreatDoorMkM
import Derived.Test.YtdegjfmjjabnnaaGreatDoorMkK
import Derived.Deep.RegionLawGrows
/-! The walk of mark.Width. -/
namespace Go.Proofs.YtdegjfmjjabnnaaGreatDoor
set_option linter.unusedSimpArgs false
set_option linter.unusedVariables false
open Go.RowKit
open Go.Lib hiding intOf

theorem Tryz.infoStr : (Tryz.prog.info? 9).map (fun i => (i.zero, i.size, i.bytes)) = some (some (.string ⟨#[]⟩), 1, 16) := by kernel_rfl
def fourS (x : Part) : List (List UInt8) := [x.s0, x.s1, x.s2, x.text]
def foldS (l : List (List UInt8)) (m : Nat) : Nat := l.foldl (fun n s => max n (runM s + 1)) m
theorem fold4 (x : Part) (m : Nat) : foldS (fourS x) m = max m (runP x + 1) := by
  unfold foldS fourS runP
  simp only [List.foldl_cons, List.foldl_nil]
  omega
theorem foldS_step (l : List (List UInt8)) (i : Nat) (s : List UInt8) (m : Nat) (h : l[i]? = some s) : foldS (l.take (i + 1)) m = max (foldS (l.take i) m) (runM s + 1) := by
  obtain ⟨hlt, e⟩ := List.getElem?_eq_some_iff.1 h
  unfold foldS
  rw [List.take_succ_eq_append_getElem hlt, List.foldl_append, e]
  rfl
theorem foldS_le (l : List (List UInt8)) (B : Nat) (h : ∀ s ∈ l, s.length ≤ B) : ∀ (k m : Nat), m ≤ B + 1 → foldS (l.take k) m ≤ B + 1 := by
  induction l with
  | nil => intro k m hm; simpa [foldS] using hm
  | cons s l ih =>
    intro k m hm
    cases k with
    | zero => simpa [foldS] using hm
    | succ k =>
      rw [List.take_succ_cons]
      have h1 := runM_le s
      have h2 := h s List.mem_cons_self
      exact ih (fun t ht => h t (List.mem_cons_of_mem _ ht)) k (max m (runM s + 1)) (by omega)
theorem strRow {W : World} {X : Nat} {a b c : ByteArray} (d2 : W.cell? ⟨X, 2, none⟩ = some (.string a)) (d3 : W.cell? ⟨X, 3, none⟩ = some (.string b)) (d4 : W.cell? ⟨X, 4, none⟩ = some (.string c)) (hX : X < W.heap.size) (o : Obj) :
    ∀ B, some (⟨X, 2, none⟩ : Addr) = some B → ∀ j u, ([.string a, .string b, .string c] : List Value)[j]? = some u → (W.drew.alloc o).cell? (B.add j) = some u := by
  rintro B hB j u hj
  cases hB
  have ha : ((⟨X, 2, none⟩ : Addr).add j) = ⟨X, 2 + j, none⟩ := by unfold Addr.add; split <;> simp_all
  have hp : ∀ k, (W.drew.alloc o).cell? ⟨X, k, none⟩ = W.cell? ⟨X, k, none⟩ := fun k => World.cell?_alloc_past _ _ _ hX
  rw [ha, hp]
  match j with
  | 0 => cases hj; exact d2
  | 1 => cases hj; exact d3
  | 2 => cases hj; exact d4
  | j + 3 => simp at hj
theorem strOne {W : World} {t : TypeId} {a : ByteArray} : ∀ j u, ([.string a] : List Value)[j]? = some u → (W.alloc (.cells #[.string a] t)).cell? ((⟨W.heap.size, 0, none⟩ : Addr).add j) = some u := by
  intro j u hj
  match j with
  | 0 => cases hj; exact cell_of_one (heap_alloc_new W _)
  | j + 1 => simp at hj
/-- A row of texts. -/
def TextsAt (W : World) (G : Nat) (l : List (List UInt8)) : Prop := G < W.heap.size ∧ ∀ (j : Nat) (s : List UInt8), l[j]? = some s → W.cell? ⟨G, j, none⟩ = some (.string (bs s))
theorem TextsAt.keep {W W' : World} {G : Nat} {l : List (List UInt8)} (h : TextsAt W G l) (hb : Below W.heap.size W W') : TextsAt W' G l :=
  ⟨Nat.lt_of_lt_of_le h.1 hb.size, fun j s hj => by rw [hb.cell (p := ⟨G, j, none⟩) h.1]; exact h.2 j s hj⟩
set_option maxRecDepth 100000 in
set_option maxHeartbeats 8000000 in
theorem width_any (v : Value) (l : List Part) (w : World) (hv : PV w v l) (hs : Sz l) :
    Calls Tryz.prog 10 #[v] w fun e w' => e = .returned (.int .i64 (widthM l : Nat)) ∧ Below w.heap.size w w' := by
  obtain ⟨i0, hi0, hz0, hz1, hz2⟩ := info_parts Tryz.infoStr
  obtain ⟨p, c, rfl, hp⟩ := hv
  have HP : Hid (PLies w p l) := Lib.hid hp
  clear hp
  have hl := hs.1
  obtain ⟨R, hR⟩ : ∃ R, widthM l = R := ⟨_, rfl⟩
  rw [hR]
  have HN : Hid (R = (l.drop 0).foldl (fun n x => max n (runP x + 1)) 7) := Lib.hid (by rw [List.drop_zero, ← hR]; rfl)
  clear hR
  have CR := Lib.hid (fun s w (h : s.length ≤ 1099511627776) => run_any s w h)
  go_enter Tryz.func10, Tryz.ntmps10
  go_wp2_with fail
  go_loopw [3, 10] (fun s3 s10 wr => ∃ (j m : Nat), s10 = .int .i64 j ∧ s3 = .int .i64 m ∧ j ≤ l.length ∧ m ≤ 1073741825 ∧ Hid (R = (l.drop j).foldl (fun n x => max n (runP x + 1)) m) ∧ Hid (Below w.heap.size w wr)) (fun _ s10 _ => l.length - (RowKit.intOf s10).toNat)
  case atStart => exact ⟨0, 7, rfl, rfl, by omega, by omega, HN, Below.refl _ _⟩
  case round =>
    obtain ⟨j, m, rfl, rfl, hj, hm, HC, HB⟩ := hrel
    by_cases hlt : j < l.length
    · obtain ⟨x, hx⟩ : ∃ x, l[j]? = some x := ⟨_, List.getElem?_eq_getElem hlt⟩
      obtain ⟨g, o, rfl, hg, _, c0, c1, c2, c3, c4⟩ := (HP.out.keep HB.out).at_ hx
      have hlz : (j : Int) < (l.length : Int) := by omega
      obtain ⟨z0, z1, z2, z3⟩ := hs.at_ hx
      have hc := HC.out
      rw [drop_at hx, List.foldl_cons] at hc
      have HC2 := Lib.hid hc
      clear hc HC hx
      go_upto_region 5 with fail
      have hB1 : Below w.heap.size w (wr.alloc (.cells #[.bool x.hunk, .string (bs x.text), .string (bs x.s0), .string (bs x.s1), .string (bs x.s2)] 30)) := HB.out.alloc HB.out.size _
      have hbx := partBox wr x 30
      have hzx : wr.heap.size < (wr.alloc (.cells #[.bool x.hunk, .string (bs x.text), .string (bs x.s0), .string (bs x.s1), .string (bs x.s2)] 30)).heap.size := by simp
      obtain ⟨W1, hW1⟩ : ∃ W, wr.alloc (.cells #[.bool x.hunk, .string (bs x.text), .string (bs x.s0), .string (bs x.s1), .string (bs x.s2)] 30) = W := ⟨_, rfl⟩
      obtain ⟨X, hX⟩ : ∃ X, wr.heap.size = X := ⟨_, rfl⟩
      rw [hW1] at hB1 hbx hzx ⊢
      rw [hX] at hbx hzx ⊢
      have HB1 := Lib.hid hB1
      obtain ⟨d0, d1, d2, d3, d4⟩ := hbx
      simp only [Nat.zero_add] at d1 d2 d3 d4
      clear hW1 hX hB1 c0 c1 c2 c3 c4
      have HX := Lib.hid (fun o => strRow d2 d3 d4 hzx o)
      go_cut [19, 20, 21] (fun s19 s20 s21 wx => s20 = .int .i64 4 ∧ s21 = .int .i64 0 ∧ ∃ G cp, s19 = .slice (some ⟨G, 0, none⟩) 4 cp ∧ Hid (TextsAt wx G (fourS x)) ∧ Hid (Below w.heap.size w wx))
      case first =>
        go_region_law ((refine step_append_grows (by rfl) (.tmp 15) (.tmp 18) 67 (by rfl) 9 i0 (.string ⟨#[]⟩) 1 16 Tryz.underlying67 hi0 hz0 hz1 hz2 (by rfl) (by decide) (some ⟨X, 2, none⟩) 3 3 [.string (bs x.s0), .string (bs x.s1), .string (bs x.s2)] (by rfl) (fun h => by cases h) (by rfl) (HX.out _) ⟨W1.heap.size, 0, none⟩ 1 1 [.string (bs x.text)] (by rfl) (by rfl) strOne (by simp [Value.oneCell']) (by decide) (by decide) (by decide) ?_; intro v' w' hown hgrow; obtain ⟨g', cap', rfl⟩ := ownsRow_succ hown))
        go_wp2_with fail
        go_meet
        have hc := World.ownsRow.cells hown (g := g') rfl
        have ha : ∀ k, ((⟨g', 0, none⟩ : Addr).add k) = ⟨g', k, none⟩ := fun k => by unfold Addr.add; split <;> simp_all
        refine ⟨rfl, rfl, g', cap', rfl, ⟨(hown.lt g' rfl).2, fun k s hk => ?_⟩, (HB1.out.drew.alloc HB1.out.size _).grown hgrow (by have := HB1.out.size; simp; omega) (fun k e => by cases e)⟩
        rw [← ha]
        refine hc k _ ?_
        unfold fourS at hk
        match k with
        | 0 => cases hk; rfl
        | 1 => cases hk; rfl
        | 2 => cases hk; rfl
        | 3 => cases hk; rfl
        | k + 4 => simp at hk
      obtain ⟨rfl, rfl, G, cp, rfl, HT, HB2⟩ := hcut
      have hle : ∀ k, foldS ((fourS x).take k) m ≤ 1073741825 := fun k => foldS_le (fourS x) 1073741824 (fun s hs => by
        unfold fourS at hs
        simp only [List.mem_cons, List.not_mem_nil, or_false] at hs
        rcases hs with rfl | rfl | rfl | rfl <;> omega) k m hm
      have HLE := Lib.hid hle
      have HF4 := Lib.hid (fold4 x m)
      have h44 : (fourS x).length = 4 := rfl
      have HT0 : Hid (TextsAt wc G (fourS x)) := HT
      clear d0 d1 d2 d3 d4 hzx hle HX
      go_wp2_with fail
      go_loopw [3, 21] (fun s3 s21 wy => ∃ k : Nat, s21 = .int .i64 k ∧ k ≤ 4 ∧ s3 = .int .i64 (foldS ((fourS x).take k) m : Nat) ∧ Hid (TextsAt wy G (fourS x)) ∧ Hid (Below w.heap.size w wy)) (fun _ s21 _ => 4 - (RowKit.intOf s21).toNat)
      case atStart => exact ⟨0, rfl, by omega, by rfl, HT0.out, HB2.out⟩
      case round =>
        obtain ⟨k, rfl, hk, rfl, HT2, HB3⟩ := hrel
        by_cases hk4 : k < 4
        · obtain ⟨y, hy⟩ : ∃ y, (fourS x)[k]? = some y := ⟨_, List.getElem?_eq_getElem (by rw [h44]; exact hk4)⟩
          have hkz : (k : Int) < 4 := by omega
          have hcy := HT2.out.2 k y hy
          have hyl : y.length ≤ 1073741824 := by
            have := List.mem_of_getElem? hy
            unfold fourS at this
            simp only [List.mem_cons, List.not_mem_nil, or_false] at this
            rcases this with rfl | rfl | rfl | rfl <;> omega
          have hst := foldS_step (fourS x) k y m hy
          have hq := runM_le y
          have C1 := Lib.hid (fun w => CR.out y w (by omega))
          have hl1 := HLE.out k
          obtain ⟨A, hA⟩ : ∃ A, foldS ((fourS x).take k) m = A := ⟨_, rfl⟩
          obtain ⟨q, hqq⟩ : ∃ q, runM y = q := ⟨_, rfl⟩
          rw [hA] at hst hl1 ⊢
          rw [hqq] at hst C1 hq
          have HST := Lib.hid hst
          have hmx : max (A : Int) ((q : Int) + 1) = ((max A (q + 1) : Nat) : Int) := by omega
          have HMX := Lib.hid hmx
          clear hy hst hA hqq hmx
          go_wp2_with (go_at_call 28; (with_reducible refine (C1.out _).mono ?_); rintro e w1 ⟨rfl, hb⟩; have HT3 := Lib.hid (HT2.out.keep hb); have HB4 := Lib.hid (below_of_new HB3.out hb); clear hb)
          go_roundw
          case rel => exact ⟨k + 1, by go_num, by omega, by rw [HST.out, ← HMX.out], HT3.out, HB4.out⟩
          case measure => simp [RowKit.intOf]; omega
        · obtain rfl : k = 4 := by omega
          have h4e : foldS ((fourS x).take 4) m = max m (runP x + 1) := by rw [← HF4.out]; rfl
          rw [h4e]
          have hb5 : max m (runP x + 1) ≤ 1073741825 := by rw [← h4e]; exact HLE.out 4
          obtain ⟨A, hA⟩ : ∃ A, max m (runP x + 1) = A := ⟨_, rfl⟩
          have HC3 := Lib.hid HC2.out
          rw [hA] at hb5 HC3 ⊢
          clear hA h4e
          go_wp2_with fail
          go_roundw
          case rel => exact ⟨j + 1, A, by go_num, rfl, by omega, hb5, HC3, HB3.out⟩
          case measure => simp [RowKit.intOf]; omega
    · have HF : Hid (R = m) := Lib.hid (by
        have := HC.out
        rw [List.drop_of_length_le (by omega)] at this
        exact this)
      go_wp2_with fail
      go_ret
      exact ⟨ret_int (by rw [HF.out]), HB.out⟩
end Go.Proofs.YtdegjfmjjabnnaaGreatDoor

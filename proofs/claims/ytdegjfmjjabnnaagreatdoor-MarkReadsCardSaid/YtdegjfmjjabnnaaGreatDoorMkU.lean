import Derived.Test.YtdegjfmjjabnnaaGreatDoorMkT
import Derived.Test.YtdegjfmjjabnnaaGreatDoorMkE
import Derived.Test.YtdegjfmjjabnnaaGreatDoorShelfC
/-! The walk of mark.width. -/
namespace Go.Proofs.YtdegjfmjjabnnaaGreatDoor
set_option linter.unusedSimpArgs false
set_option linter.unusedVariables false
open Go.RowKit
open Go.Lib hiding intOf

def MVar (w : World) : Prop := ∃ m : Int, w.cell? ⟨0, 0, none⟩ = some (.int .i64 m)
theorem MVar.keep {w w' : World} (h : MVar w) (hb : Below w.heap.size w w') : MVar w' := let ⟨m, hm⟩ := h; ⟨m, by rw [hb.cell (p := ⟨_, _, none⟩) (cell_lt hm)]; exact hm⟩
def SVar (w : World) : Prop := ∃ tp p, w.var? Tryz.prog "strconv.ErrSyntax" = some #[.iface tp p]
theorem SVar.keep {w w' : World} (h : SVar w) (hb : Below w.heap.size w w') : SVar w' := let ⟨tp, p, h⟩ := h; ⟨tp, p, var_keep h hb⟩
def GVar (w : World) : Prop := ∃ tp p, w.var? Tryz.prog "strconv.ErrRange" = some #[.iface tp p]
theorem GVar.keep {w w' : World} (h : GVar w) (hb : Below w.heap.size w w') : GVar w' := let ⟨tp, p, h⟩ := h; ⟨tp, p, var_keep h hb⟩
/-- What mark reads of the world. -/
def MkV (w : World) : Prop := MVar w ∧ SVar w ∧ GVar w ∧ PTab w
theorem MkV.m {w : World} (h : MkV w) : MVar w := h.1
theorem MkV.s {w : World} (h : MkV w) : SVar w := h.2.1
theorem MkV.g {w : World} (h : MkV w) : GVar w := h.2.2.1
theorem MkV.p {w : World} (h : MkV w) : PTab w := h.2.2.2
theorem MkV.keep {w w' : World} (h : MkV w) (hb : Below w.heap.size w w') : MkV w' := ⟨h.1.keep hb, h.2.1.keep hb, h.2.2.1.keep hb, h.2.2.2.keep hb⟩
theorem cut_any (s sep : List UInt8) (w : World) (hs : s.length ≤ 1073741824) (hM : MVar w) :
    Calls Tryz.prog 13 #[.string (bs s), .string (bs sep)] w fun e w' => e = .returned (.tuple #[.string (bs (cut s sep).1), .string (bs (cut s sep).2.1), .bool (cut s sep).2.2]) ∧ Below w.heap.size w w' := by
  obtain ⟨m, hm⟩ := hM
  have sl := bs_size s
  have := Tryz.strings_Cut (bs s) (bs sep) m w (by omega) hm
  rw [bs_data, bs_data] at this
  refine this.mono fun _ _ ⟨h1, k, h2⟩ => ⟨h1, ?_⟩
  subst h2
  exact below_drewN (Below.refl _ _) k
/-- How Atoi ends. -/
def AtE (l : List UInt8) (w : World) (e : Ending) (w' : World) : Prop := ∃ (n : Int) (ev : Value), e = .returned (.tuple #[.int .i64 n, ev]) ∧ ((atoiAll l = .ok n ∧ ev = .nilIface) ∨ ((∀ k, atoiAll l ≠ .ok k) ∧ ∃ t p, ev = .iface t p)) ∧ Below w.heap.size w w'
theorem atoi_any (l : List UInt8) (w : World) (hs : l.length ≤ 1073741824) (hS : SVar w) (hG : GVar w) : Calls Tryz.prog 30 #[.string (bs l)] w (AtE l w) := by
  have sl := bs_size l
  cases h : atoiAll l with
  | ok v =>
    refine (Tryz.strconv_Atoi_ok (bs l) (by omega) v (by rw [bs_data]; exact h) w).mono fun e w' hh => ⟨v, .nilIface, hh.1, .inl ⟨h, rfl⟩, ?_⟩
    rcases hh.2 with rfl | ⟨t, rfl⟩
    · exact Below.refl _ _
    · exact Lib.bytesWorld_below _ _ _
  | «syntax» =>
    obtain ⟨tp, p, hv⟩ := hS
    refine (Tryz.strconv_Atoi_syntax_var (bs l) (by omega) (by rw [bs_data]; exact h) tp p w hv).mono fun e w' hh => ?_
    obtain ⟨N, h1, _, _, h2⟩ := hh
    exact ⟨_, _, h1, .inr ⟨fun k hk => (by rw [h] at hk; cases hk), _, _, rfl⟩, h2⟩
  | range =>
    obtain ⟨tp, p, hv⟩ := hG
    refine (Tryz.strconv_Atoi_range_var (bs l) (by omega) (by rw [bs_data]; exact h) tp p w hv).mono fun e w' hh => ?_
    obtain ⟨N, h1, _, _, h2⟩ := hh
    exact ⟨_, _, h1, .inr ⟨fun k hk => (by rw [h] at hk; cases hk), _, _, rfl⟩, h2⟩
theorem prefix_any (s : List UInt8) (w : World) : Calls Tryz.prog 29 #[.string (bs s), .string ⟨#[35, 109, 97, 114, 107, 115, 32]⟩] w fun e w' => e = .returned (.tuple #[.string (bs (Lib.trimPrefix s headP)), .bool (Lib.hasPrefix s headP)]) ∧ w = w' := by
  have := Tryz.strings_CutPrefix (bs s) ⟨#[35, 109, 97, 114, 107, 115, 32]⟩ w
  rw [bs_data] at this
  exact this.mono fun _ _ h => ⟨h.1, h.2.symm⟩
def WidE (r : Nat × List UInt8) (e : Ending) : Prop := e = .returned (.tuple #[.int .i64 (r.1 : Nat), .string (bs r.2)])
set_option maxRecDepth 100000 in
set_option maxHeartbeats 8000000 in
theorem mwidth_any (s : List UInt8) (w : World) (hs : s.length ≤ 1073741824) (hV : MkV w) :
    Calls Tryz.prog 11 #[.string (bs s)] w fun e w' => WidE (widthL s) e ∧ Below w.heap.size w w' := by
  have sl := bs_size s
  have CC : Hid (∀ w, MVar w → Calls Tryz.prog 13 #[.string (bs s), .string ⟨#[10]⟩] w fun e w' => e = .returned (.tuple #[.string (bs (cut s [10]).1), .string (bs (cut s [10]).2.1), .bool (cut s [10]).2.2]) ∧ Below w.heap.size w w') := Lib.hid (fun w hM => cut_any s [10] w hs hM)
  have HV := Lib.hid hV
  obtain ⟨R, hR⟩ : ∃ R, widthL s = R := ⟨_, rfl⟩
  rw [hR]
  unfold widthL at hR
  have hl1 : (cut s [10]).1.length ≤ s.length := by
    cases h : (cut s [10]).2.2 with
    | true => have := cut_lt s [10] h; omega
    | false => rw [cut_miss s [10] h]; exact Nat.le_refl _
  obtain ⟨C, hC⟩ : ∃ C, cut s [10] = C := ⟨_, rfl⟩
  rw [hC] at CC hR hl1
  obtain ⟨line, rest, is⟩ := C
  simp only [] at CC hR hl1
  have CP := Lib.hid (fun w => prefix_any line w)
  have hdl : (Lib.trimPrefix line headP).length ≤ line.length := by unfold Lib.trimPrefix; split <;> simp
  have CA := Lib.hid (fun w hS hG => atoi_any (Lib.trimPrefix line headP) w (by omega) hS hG)
  have htold : headP <+: line ↔ Lib.hasPrefix line headP = true := by unfold Lib.hasPrefix; exact List.isPrefixOf_iff_prefix.symm
  have htrim : Lib.hasPrefix line headP = true → Lib.trimPrefix line headP = line.drop 7 := fun h => by unfold Lib.trimPrefix; rw [if_pos h]; rfl
  obtain ⟨told, ht⟩ : ∃ t, Lib.hasPrefix line headP = t := ⟨_, rfl⟩
  obtain ⟨D, hD⟩ : ∃ D, Lib.trimPrefix line headP = D := ⟨_, rfl⟩
  rw [ht] at CP htold htrim
  rw [hD] at CP CA htrim
  simp only [htold] at hR
  have HR := Lib.hid (And.intro hR htrim)
  clear hR hC hl1 hdl htold htrim ht hD hV
  go_enter Tryz.func11, Tryz.ntmps11
  go_wp2_with fail
  with_reducible refine (CC.out _ HV.out.m).mono ?_
  rintro e w1 ⟨rfl, hb⟩
  have HB := Lib.hid hb; clear hb
  go_wp2_with fail
  with_reducible refine (CP.out _).mono ?_
  rintro e w' ⟨rfl, rfl⟩
  go_wp2_with fail
  with_reducible refine (CA.out _ (HV.out.keep HB.out).s (HV.out.keep HB.out).g).mono ?_
  rintro e w2 ⟨n, ev, rfl, hn, hb⟩
  have HB2 := Lib.hid (below_of_new HB.out hb); clear hb HB
  have HN := Lib.hid hn
  cases is with
  | false =>
    have HF : Hid (R = (0, [])) := Lib.hid (by rw [← HR.out.1]; simp)
    clear hn
    go_wp2_with fail
    go_ret2
    exact ⟨by unfold WidE; rw [HF.out]; rfl, HB2.out⟩
  | true =>
    cases told with
    | false =>
      have HF : Hid (R = (0, [])) := Lib.hid (by rw [← HR.out.1]; simp)
      clear hn
      go_wp2_with fail
      go_ret2
      exact ⟨by unfold WidE; rw [HF.out]; rfl, HB2.out⟩
    | true =>
      have hdd := HR.out.2 rfl
      rcases hn with ⟨hok, rfl⟩ | ⟨hno, t, p, rfl⟩
      · have hR2 : (if 7 ≤ n ∧ n ≤ (s.length : Int) then (n.toNat, rest) else (0, [])) = R := by
          rw [← HR.out.1, ← hdd, hok]; simp
        by_cases h7 : n < 7
        · have d7 : decide (n < 7) = true := decide_eq_true h7
          have HF : Hid (R = (0, [])) := Lib.hid (by rw [← hR2, if_neg (by omega)])
          clear hR2 hok hdd
          go_wp2_with fail
          go_ret2
          exact ⟨by unfold WidE; rw [HF.out]; rfl, HB2.out⟩
        · have d7 : decide (n < 7) = false := decide_eq_false h7
          by_cases hsz : (s.length : Int) < n
          · have d8 : decide ((s.length : Int) < n) = true := decide_eq_true hsz
            have HF : Hid (R = (0, [])) := Lib.hid (by rw [← hR2, if_neg (by omega)])
            clear hR2 hok hdd
            go_wp2_with fail
            go_ret2
            exact ⟨by unfold WidE; rw [HF.out]; rfl, HB2.out⟩
          · have d8 : decide ((s.length : Int) < n) = false := decide_eq_false hsz
            have HF : Hid (R = (n.toNat, rest)) := Lib.hid (by rw [← hR2, if_pos (by omega)])
            have hnn : ((n.toNat : Nat) : Int) = n := by omega
            have HNN := Lib.hid hnn
            clear hR2 hok hdd hnn
            go_wp2_with fail
            go_ret2
            exact ⟨by unfold WidE; rw [HF.out]; simp only []; rw [HNN.out]; rfl, HB2.out⟩
      · have HF : Hid (R = (0, [])) := Lib.hid (by
          rw [← HR.out.1, ← hdd]
          cases h : atoiAll D with
          | ok k => exact absurd h (hno k)
          | «syntax» => simp
          | range => simp)
        clear hno hdd
        go_wp2_with fail
        go_ret2
        exact ⟨by unfold WidE; rw [HF.out]; rfl, HB2.out⟩
end Go.Proofs.YtdegjfmjjabnnaaGreatDoor

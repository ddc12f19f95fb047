import Derived.Test.YtmghlaajocgoaaaGreatDoorQuoB
/-! The walks of strconv.ParseUint, quote.four. -/
namespace Go.Proofs.YtmghlaajocgoaaaGreatDoor
set_option linter.unusedSimpArgs false
set_option linter.unusedVariables false
open Go.RowKit
open Go.Lib hiding intOf

def SVar (w : World) : Prop := ∃ tp p, w.var? Tryz.prog "strconv.ErrSyntax" = some #[.iface tp p]
theorem SVar.keep {w w' : World} (h : SVar w) (hb : Below w.heap.size w w') : SVar w' := let ⟨tp, p, h⟩ := h; ⟨tp, p, var_keep h hb⟩
theorem SVar.cell {w : World} (h : SVar w) : ∃ tp p, w.cell? ⟨3, 0, none⟩ = some (.iface tp p) := by
  obtain ⟨tp, p, h⟩ := h
  have := World.var?_cell (P := Tryz.prog) (show Tryz.prog.globalNamed "strconv.ErrSyntax" = some 3 by kernel_rfl) h 0
  exact ⟨tp, p, by simpa using this⟩
theorem hexGo_bad : ∀ (l : List UInt8) (acc : Nat), (∃ c ∈ l, c.toNat = 43 ∨ c.toNat = 45 ∨ c.toNat = 95) → hexGo acc l = none
  | [], _, h => by obtain ⟨c, hc, _⟩ := h; cases hc
  | d :: t, acc, h => by
    obtain ⟨c, hc, h3⟩ := h
    unfold hexGo
    rcases List.mem_cons.1 hc with rfl | hc
    · have : hexN c = none := by unfold hexN; rw [if_neg (by omega), if_neg (by omega), if_neg (by omega)]
      rw [this]
    · cases hexN d with
      | none => rfl
      | some e => exact hexGo_bad t _ ⟨c, hc, h3⟩
theorem hexN_lt {c : UInt8} {d : Nat} (h : hexN c = some d) : d < 16 := by
  unfold hexN at h
  split at h
  · injection h with h; omega
  · split at h
    · injection h with h; omega
    · split at h
      · injection h with h; omega
      · cases h
theorem hexGo_lt : ∀ (l : List UInt8) (acc n : Nat), hexGo acc l = some n → n < (acc + 1) * 16 ^ l.length
  | [], acc, n, h => by simp only [hexGo, Option.some.injEq] at h; simp; omega
  | c :: t, acc, n, h => by
    unfold hexGo at h
    cases hc : hexN c with
    | none => rw [hc] at h; cases h
    | some d =>
      rw [hc] at h
      have h1 := hexGo_lt t _ n h
      have h2 := hexN_lt hc
      have h3 : (16 * acc + d + 1) * 16 ^ t.length ≤ (16 * (acc + 1)) * 16 ^ t.length := Nat.mul_le_mul_right _ (by omega)
      rw [List.length_cons, Nat.pow_succ]
      have h4 : (16 * (acc + 1)) * 16 ^ t.length = (acc + 1) * (16 ^ t.length * 16) := by
        rw [Nat.mul_comm 16 (acc + 1), Nat.mul_assoc, Nat.mul_comm 16]
      omega
def UintE (r : Option Nat) (e : Ending) : Prop := match r with
  | some n => e = .returned (.tuple #[.int .u64 n, .nilIface])
  | none => ∃ N : Nat, e = .returned (.tuple #[.int .u64 0, .iface 154 (.pointer (some ⟨N, 0, none⟩))])
theorem parseUint4_any (t : ByteArray) (ht : t.size = 4) (w : World) (hV : SVar w) :
    Calls Tryz.prog 113 #[.string t, .int .i64 16, .int .i64 32] w fun e w' => UintE (hexGo 0 t.data.toList) e ∧ Below w.heap.size w w' := by
  have C := parse16_any t ht w
  cases hx : hexGo 0 t.data.toList with
  | some n =>
    rw [hx] at C
    unfold hexEnd at C
    have HC := Lib.hid C; clear C hx
    go_enter Tryz.func113, Tryz.ntmps113
    go_wp2_with fail
    refine HC.out.mono ?_
    rintro e w1 ⟨rfl, hb1⟩
    go_wp2_with fail
    go_ret2
    exact ⟨rfl, hb1⟩
  | none =>
    rw [hx] at C
    unfold hexEnd at C
    have HC := Lib.hid C; have HV := Lib.hid hV; clear C hx hV
    go_enter Tryz.func113, Tryz.ntmps113
    go_wp2_with fail
    refine HC.out.mono ?_
    rintro e w1 ⟨rfl, hb1⟩
    have HB1 := Lib.hid hb1
    obtain ⟨tp, p, hc⟩ := (HV.out.keep hb1).cell
    have HT := Lib.hid (Tryz.strconv_toError_syntax ⟨#[80, 97, 114, 115, 101, 85, 105, 110, 116]⟩ t 16 32 (.iface tp p) w1 (by omega) hc (.inr ⟨tp, p, rfl⟩))
    clear hb1 hc
    go_wp2_with fail
    refine HT.out.mono ?_
    rintro e w2 ⟨N, rfl, _, _, hb2⟩
    go_wp2_with fail
    go_ret2
    exact ⟨⟨N, rfl⟩, below_of_new HB1.out hb2⟩
/-- The number of the four digits that a text begins with. -/
def fourL (l : List UInt8) : Option Nat := if l.length < 4 then none else hexGo 0 (l.take 4)
theorem fourL_lt {l : List UInt8} {n : Nat} (h : fourL l = some n) : n < 65536 ∧ 4 ≤ l.length := by
  unfold fourL at h
  split at h
  · cases h
  · have := hexGo_lt _ _ _ h
    rw [List.length_take, Nat.min_eq_left (by omega)] at this
    omega
def FourE (r : Option Nat) : Ending := match r with
  | some n => .returned (.tuple #[.int .i32 n, .bool true])
  | none => .returned (.tuple #[.int .i32 0, .bool false])
set_option maxHeartbeats 1000000 in
theorem four_any (l : List UInt8) (w : World) (hs : l.length ≤ 4294967296) (hV : SVar w) :
    Calls Tryz.prog 107 #[.string (bs l)] w fun e w' => e = FourE (fourL l) ∧ Below w.heap.size w w' := by
  have sl := bs_size l
  have HV := Lib.hid hV; clear hV
  by_cases h4 : l.length < 4
  · have hr : fourL l = none := by unfold fourL; rw [if_pos h4]
    rw [hr]
    go_enter Tryz.func107, Tryz.ntmps107
    go_wp2_with fail
    go_ret2
    exact ⟨rfl, Below.refl _ _⟩
  · obtain ⟨R, hR⟩ : ∃ R, hexGo 0 (l.take 4) = R := ⟨_, rfl⟩
    have hr : fourL l = R := by unfold fourL; rw [if_neg h4, hR]
    have ht : (bs (l.take 4)).size = 4 := by rw [bs_size, List.length_take]; omega
    have hbf : (bs l).extract 0 4 = bs (l.take 4) := by rw [bs_front, bs_data]
    have CA : Hid (∀ w, Calls Tryz.prog 112 #[.string ((bs l).extract 0 4), .string ⟨#[43, 45, 95]⟩] w fun e w' => Cont (bs (l.take 4)) e ∧ Below w.heap.size w w') := Lib.hid (fun w => by rw [hbf]; exact containsAny_any (bs (l.take 4)) w (by omega))
    have CP : Hid (∀ w, SVar w → Calls Tryz.prog 113 #[.string ((bs l).extract 0 4), .int .i64 16, .int .i64 32] w fun e w' => UintE R e ∧ Below w.heap.size w w') := Lib.hid (fun w hV => by
      have := parseUint4_any (bs (l.take 4)) ht w hV
      rw [bs_data, hR] at this
      rw [hbf]; exact this)
    have hlt : ∀ n, R = some n → n < 65536 := fun n h => (fourL_lt (hr.trans h)).1
    rw [hr]
    have HC : Hid ((∃ c ∈ l.take 4, c.toNat = 43 ∨ c.toNat = 45 ∨ c.toNat = 95) → R = none) := fun h => by rw [← hR]; exact hexGo_bad _ _ h
    have HLt := Lib.hid hlt
    clear hr hR ht hbf hlt
    go_enter Tryz.func107, Tryz.ntmps107
    go_wp2_with fail
    refine (CA.out _).mono ?_
    rintro e w1 ⟨⟨B, rfl, hB⟩, hb1⟩
    have HB := Lib.hid hB; clear hB
    have HB1 := Lib.hid hb1; clear hb1
    cases B with
    | true =>
      have hn : R = none := HC.out (by have := HB.out rfl; rw [bs_data] at this; exact this)
      subst hn
      go_wp2_with fail
      go_ret2
      exact ⟨rfl, HB1.out⟩
    | false =>
      clear HB HC
      go_wp2_with fail
      refine (CP.out _ (HV.out.keep HB1.out)).mono ?_
      rintro e w2 ⟨hE, hb2⟩
      have HB2 := Lib.hid (below_of_new HB1.out hb2); clear hb2
      cases R with
      | none =>
        obtain ⟨N, rfl⟩ := hE
        go_wp2_with fail
        go_quiet (fail)
        go_wp2_with fail
        go_ret2
        exact ⟨rfl, below_drewN HB2.out _⟩
      | some n =>
        have hE' : e = .returned (.tuple #[.int .u64 n, .nilIface]) := hE
        subst hE'
        have hn := HLt.out n rfl
        clear hE
        go_wp2_with fail
        go_quiet (fail)
        go_wp2_with fail
        go_ret2
        exact ⟨rfl, below_drewN HB2.out _⟩
end Go.Proofs.YtmghlaajocgoaaaGreatDoor

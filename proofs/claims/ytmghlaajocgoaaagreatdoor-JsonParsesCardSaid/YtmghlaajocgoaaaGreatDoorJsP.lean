import Derived.Test.YtmghlaajocgoaaaGreatDoorJsN
import Derived.Test.YtmghlaajocgoaaaGreatDoorJsT
import Derived.Laws.Bits128
import Derived.Deep.RegionHeld3
/-! Words that the laws of json share. -/
namespace Go.Proofs.YtmghlaajocgoaaaGreatDoor
set_option linter.unusedSimpArgs false
set_option linter.unusedVariables false
open Go.RowKit Go.Maps Go.WideMaps
open Go.Lib hiding intOf

theorem finP_len (l : List UInt8) (lv : Nat) (ts : List Tok) (hts : ts.length ≤ 65536) : (finP l.length (valueM l lv ts (0, 0) [] (0, 0))).1.length ≤ 65536 := by
  cases hR : valueM l lv ts (0, 0) [] (0, 0) with
  | bad a er => simp [finP]
  | ok rr l2 ns =>
    obtain ⟨more, hne, hm1, hm2, _⟩ := value_ext l lv _ _ _ _ _ _ _ hR
    cases rr with
    | nil => rw [List.nil_append] at hne; subst hne; show ns.length ≤ _; simp only [List.length_nil] at hm2; omega
    | cons t rr => simp [finP]
theorem parse_few (l : List UInt8) : (parseJ l).1.length ≤ 65536 := by
  rw [parse_eq]
  split
  · simp
  · exact finP_len l 32 _ (Nat.le_trans (List.length_filter_le _ _) (toksL_tb l).1)
theorem NodesR.keepA {w : World} {p : Option Addr} {nodes : List NodeD} (h : NodesR w p nodes) (o : Obj) : NodesR (w.alloc o) p nodes := h.keep (below_alloc1 w o)
/-- A document in its cell. -/
def DocC (w : World) (D : Nat) (txt : ByteArray) (p : Option Addr) (n c : Nat) : Prop := w.heap[D]? = some (.cells #[.string txt, .slice p n c] 25)
theorem DocC.keep {w w' : World} {D : Nat} {txt : ByteArray} {p : Option Addr} {n c : Nat} (h : DocC w D txt p n c) (hb : Below w.heap.size w w') : DocC w' D txt p n c := (hb.block _ (cell_it h)).trans h
theorem DocC.new (w : World) (txt : ByteArray) (p : Option Addr) (n c : Nat) : DocC (w.alloc (.cells #[.string txt, .slice p n c] 25)) w.heap.size txt p n c := heap_alloc_new w _
theorem and_mask (n : Int) (k : Nat) (hk : k ≤ 32) (m : Int) (hm : m = ((2 ^ k - 1 : Nat) : Int)) : bits .and .i64 n m = n % ((2 ^ k : Nat) : Int) := by
  subst hm
  have h2 : (2 ^ k : Nat) ≤ 2 ^ 32 := Nat.pow_le_pow_right (by omega) hk
  have h1 : 1 ≤ (2 ^ k : Nat) := Nat.one_le_two_pow
  have hp : (BitVec.ofInt 64 ((2 ^ k - 1 : Nat) : Int)).toNat = 2 ^ k - 1 := by
    rw [BitVec.toNat_ofInt]
    generalize (2 ^ k : Nat) = p at h2 h1 ⊢
    omega
  have key : (BitVec.ofInt 64 n &&& BitVec.ofInt 64 ((2 ^ k - 1 : Nat) : Int)).toNat = (n % ((2 ^ 64 : Nat) : Int)).toNat % 2 ^ k := by
    rw [BitVec.toNat_and, BitVec.toNat_ofInt, hp, Nat.and_two_pow_sub_one_eq_mod]
  show IntKind.i64.wrap ((BitVec.ofInt 64 n &&& BitVec.ofInt 64 ((2 ^ k - 1 : Nat) : Int)).toNat : Nat) = _
  have hd : (2 ^ k : Nat) ∣ 2 ^ 64 := Nat.pow_dvd_pow 2 (by omega)
  have hm : (n % ((2 ^ 64 : Nat) : Int)).toNat % 2 ^ k = (n % ((2 ^ k : Nat) : Int)).toNat := by
    have e : (((n % ((2 ^ 64 : Nat) : Int)).toNat % 2 ^ k : Nat) : Int) = n % ((2 ^ k : Nat) : Int) := by
      rw [Int.natCast_emod, Int.toNat_of_nonneg (by omega)]
      exact Int.emod_emod_of_dvd n (Int.natCast_dvd_natCast.2 hd)
    omega
  rw [key, hm, IntKind.wrap_i64]
  have hlt : n % ((2 ^ k : Nat) : Int) < ((2 ^ k : Nat) : Int) := Int.emod_lt_of_pos _ (by omega)
  have h0 : 0 ≤ n % ((2 ^ k : Nat) : Int) := Int.emod_nonneg _ (by omega)
  generalize n % ((2 ^ k : Nat) : Int) = q at hlt h0 ⊢
  generalize (2 ^ k : Nat) = p at h2 hlt ⊢
  omega
theorem and15_i64 (n : Int) : bits .and .i64 n 15 = n % 16 := and_mask n 4 (by omega) 15 rfl
theorem and4095_i64 (n : Int) : bits .and .i64 n 4095 = n % 4096 := and_mask n 12 (by omega) 4095 rfl
abbrev SpS (W w' : World) : Prop := Hid (Below W.heap.size W w')
theorem SpS.drew {W w' : World} (h : SpS W w') : SpS W w'.drew := Lib.hid h.out.drew
theorem SpS.step {W w' w2 : World} (h : SpS W w') (hb : Below w'.heap.size w' w2) : SpS W w2 := Lib.hid (below_of_new h.out hb)
end Go.Proofs.YtmghlaajocgoaaaGreatDoor

import Derived.Test.YtbldfpkfinpciaaGreatDoorRa18
import Derived.Test.YtbldfpkfinpciaaGreatDoorCards
import Derived.Test.YtbldfpkfinpciaaGreatDoorTie
import Derived.Lib.LaidU8T
import Derived.PinnedBridge
import Derived.Lib.TrailingZeros
import Derived.Lib.SmallJoins
namespace Go.Proofs.YtbldfpkfinpciaaGreatDoor
open Go.Shelf Go.RowKit
noncomputable def laidWorld7 (os : Os) : World :=
 let w0 := World.holding Tryz.prog os ⟨#[], #[], []⟩
 let put (h : Array Obj) (g : Nat) (cs : Array Value) : Array Obj := h.modify g fun
  | .cells _ t frozen => .cells cs t frozen
  | o => o
 let h1 := put w0.heap 6 #[.int .u8 0, .int .u8 1, .int .u8 28, .int .u8 2, .int .u8 29, .int .u8 14, .int .u8 24, .int .u8 3, .int .u8 30, .int .u8 22, .int .u8 20, .int .u8 15, .int .u8 25, .int .u8 17, .int .u8 4, .int .u8 8, .int .u8 31, .int .u8 27, .int .u8 13, .int .u8 23, .int .u8 21, .int .u8 19, .int .u8 16, .int .u8 7, .int .u8 26, .int .u8 12, .int .u8 18, .int .u8 6, .int .u8 11, .int .u8 5, .int .u8 10, .int .u8 9]
 let h2 := put h1 7 #[.int .u8 0, .int .u8 1, .int .u8 56, .int .u8 2, .int .u8 57, .int .u8 49, .int .u8 28, .int .u8 3, .int .u8 61, .int .u8 58, .int .u8 42, .int .u8 50, .int .u8 38, .int .u8 29, .int .u8 17, .int .u8 4, .int .u8 62, .int .u8 47, .int .u8 59, .int .u8 36, .int .u8 45, .int .u8 43, .int .u8 51, .int .u8 22, .int .u8 53, .int .u8 39, .int .u8 33, .int .u8 30, .int .u8 24, .int .u8 18, .int .u8 12, .int .u8 5, .int .u8 63, .int .u8 55, .int .u8 48, .int .u8 27, .int .u8 60, .int .u8 41, .int .u8 37, .int .u8 16, .int .u8 46, .int .u8 35, .int .u8 44, .int .u8 21, .int .u8 52, .int .u8 32, .int .u8 23, .int .u8 11, .int .u8 54, .int .u8 26, .int .u8 40, .int .u8 15, .int .u8 34, .int .u8 20, .int .u8 31, .int .u8 10, .int .u8 25, .int .u8 14, .int .u8 19, .int .u8 9, .int .u8 13, .int .u8 8, .int .u8 7, .int .u8 6]
 let h3 := put h2 3 #[.int .u64 1, .int .u64 10, .int .u64 100, .int .u64 1000, .int .u64 10000, .int .u64 100000, .int .u64 1000000, .int .u64 10000000, .int .u64 100000000, .int .u64 1000000000, .int .u64 10000000000, .int .u64 100000000000, .int .u64 1000000000000, .int .u64 10000000000000, .int .u64 100000000000000, .int .u64 1000000000000000, .int .u64 10000000000000000, .int .u64 100000000000000000, .int .u64 1000000000000000000, .int .u64 10000000000000000000]
 let h4 := put h3 1 #[.int .u8 128, .int .u8 191, .int .u8 160, .int .u8 191, .int .u8 128, .int .u8 159, .int .u8 144, .int .u8 191, .int .u8 128, .int .u8 143, .int .u8 0, .int .u8 0, .int .u8 0, .int .u8 0, .int .u8 0, .int .u8 0, .int .u8 0, .int .u8 0, .int .u8 0, .int .u8 0, .int .u8 0, .int .u8 0, .int .u8 0, .int .u8 0, .int .u8 0, .int .u8 0, .int .u8 0, .int .u8 0, .int .u8 0, .int .u8 0, .int .u8 0, .int .u8 0]
 let n5 := h4.size
 let a5 := h4.push (.cells #[.string ⟨#[118, 97, 108, 117, 101, 32, 111, 117, 116, 32, 111, 102, 32, 114, 97, 110, 103, 101]⟩] 278 (0, 0))
 let h5 := put a5 5 #[.iface 276 (.pointer (some ⟨n5, 0, none⟩))]
 let n6 := h5.size
 let a6 := h5.push (.cells #[.string ⟨#[105, 110, 118, 97, 108, 105, 100, 32, 115, 121, 110, 116, 97, 120]⟩] 278 (0, 0))
 let h6 := put a6 4 #[.iface 276 (.pointer (some ⟨n6, 0, none⟩))]
 let h7 := put h6 0 (Lib.firstTab.map fun z => Value.int .u8 z).toArray
 { w0 with heap := h7 }
def laidL7 : List (String × DataW Unit) := [("math/bits.deBruijn32tab", Rows.laid_math_bits_deBruijn32tab), ("math/bits.deBruijn64tab", Rows.laid_math_bits_deBruijn64tab), ("internal/strconv.uint64pow10", Rows.laid_internal_strconv_uint64pow10), ("unicode/utf8.acceptRanges", Rows.laid_unicode_utf8_acceptRanges), ("strconv.ErrRange", Rows.laid_strconv_ErrRange), ("strconv.ErrSyntax", Rows.laid_strconv_ErrSyntax), ("unicode/utf8.first", Rows.laid_unicode_utf8_first)]
theorem laid_met7 (os : Os) (args : Array Value) : laidMet Tryz.prog laidL7 ((laidWorld7 os).forCall (fun _ _ => 0) ⟨#[], args, []⟩).memory :=
 (LaidIn.of_run (l := laidL7) (List.range 64) 8 (by kernel_rfl) (by kernel_rfl) (by kernel_rfl) (by kernel_rfl)).met
theorem ptab_of7 {W : World} (hL : laidMet Tryz.prog laidL7 W) : PTab W := by
 obtain ⟨g, t, cs, fuel, p, hg, hty, hvar, hd⟩ := Lib.laidMet.reads hL (.tail _ (.tail _ (.head _)))
 obtain rfl := Option.some.inj ((show Tryz.prog.globalNamed "internal/strconv.uint64pow10" = some 3 by kernel_rfl).symm.trans hg)
 obtain rfl := Option.some.inj ((show (Tryz.prog.globals[3]?).map (·.type) = some 259 by kernel_rfl).symm.trans hty)
 rw [show (Rows.laid_internal_strconv_uint64pow10 : DataW Unit) = Lib.tabData .u64 Lib.pow10Tab by kernel_rfl] at hd
 have h := Lib.cells_of_tab Tryz.underlying259 Tryz.underlying209 (by kernel_rfl) (by kernel_rfl) hd
 show World.var? Tryz.prog W _ = _
 rw [hvar, ← h]
theorem iface_cells {H : Type} {enc : TypeId × Value → H} {P : Program} {w : World} {base : Nat} {sp : Nat → Bool} {held : Bool} {fuel : Nat} {t : TypeId} {ms : Array (String × TypeId)} {cs : List Value} {nm : String} {d : DataW H} {p : List MemPlace}
  (ht : P.underlying t = some (.interface ms)) (h : DataW.trod enc P w base sp held fuel t cs = some (.iface nm d, p)) : ∃ u v, cs = [.iface u v] := by
 cases fuel with
 | zero => simp [DataW.trod] at h
 | succ n =>
  unfold DataW.trod at h
  simp only [ht] at h
  rcases cs with _ | ⟨c, _ | ⟨c2, l⟩⟩
  ·simp at h
  ·cases c <;> simp at h
   exact ⟨_, _, rfl⟩
  ·cases c <;> simp at h
theorem svar_of7 {W : World} (hL : laidMet Tryz.prog laidL7 W) : SVar W := by
 obtain ⟨g, t, cs, fuel, p, hg, hty, hvar, hd⟩ := Lib.laidMet.reads hL (.tail _ (.tail _ (.tail _ (.tail _ (.tail _ (.head _))))))
 obtain rfl := Option.some.inj ((show Tryz.prog.globalNamed "strconv.ErrSyntax" = some 4 by kernel_rfl).symm.trans hg)
 obtain rfl := Option.some.inj ((show (Tryz.prog.globals[4]?).map (·.type) = some 119 by kernel_rfl).symm.trans hty)
 obtain ⟨u, v, hcs⟩ := iface_cells Tryz.underlying119 hd
 refine ⟨u, v, ?_⟩
 rw [hvar, ← hcs]
theorem dtab_of7 {W : World} (hL : laidMet Tryz.prog laidL7 W) : DTab W := by
 obtain ⟨g, t, cs, fuel, p, hg, hty, hvar, hd⟩ := Lib.laidMet.reads hL (.tail _ (.head _))
 obtain rfl := Option.some.inj ((show Tryz.prog.globalNamed "math/bits.deBruijn64tab" = some 7 by kernel_rfl).symm.trans hg)
 obtain rfl := Option.some.inj ((show (Tryz.prog.globals[7]?).map (·.type) = some 280 by kernel_rfl).symm.trans hty)
 rw [show (Rows.laid_math_bits_deBruijn64tab : DataW Unit) = Lib.tabData .u8 (Lib.deBruijn64tab.map (fun n : Nat => (n : Int))) by kernel_rfl] at hd
 have h := Lib.cells_of_tab Tryz.underlying280 Tryz.underlying5 (by kernel_rfl) (by kernel_rfl) hd
 unfold DTab
 rw [World.var?_cell (P := Tryz.prog) (show Tryz.prog.globalNamed "math/bits.deBruijn64tab" = some 7 by kernel_rfl) hvar 15, ← Array.getElem?_toList, h]
 rfl
theorem tabs_of7 {W : World} (hL : laidMet Tryz.prog laidL7 W) : Tabs W := by
 have h1 := Lib.laidMet.reads hL (.tail _ (.tail _ (.tail _ (.head _))))
 have h2 := Lib.laidMet.reads hL (.tail _ (.tail _ (.tail _ (.tail _ (.tail _ (.tail _ (.head _)))))))
 rw [show Rows.laid_unicode_utf8_first = Lib.firstData from Pinned.utf8First_eq] at h2
 rw [show (Rows.laid_unicode_utf8_acceptRanges : DataW Unit) = Lib.acceptData by kernel_rfl] at h1
 exact utf8Tabs_of_readsT (U8Types.of196 Tryz.laysValid) ⟨by kernel_rfl, by kernel_rfl, by kernel_rfl, by kernel_rfl, by kernel_rfl, by kernel_rfl, by kernel_rfl⟩ h2 h1
theorem mvar_of {W : World} (h : W.ShapedOpen Tryz.prog) : MVar W :=
 cell_of_shapedOpen_int (P := Tryz.prog) (g := 2) (t := 3) (zero := #[.int .i64 0]) h (of_decide_eq_true (by kernel_rfl)) (by kernel_rfl) rfl (by kernel_rfl) (by kernel_rfl) Tryz.underlying3
end Go.Proofs.YtbldfpkfinpciaaGreatDoor
namespace Go.Proofs.YtbldfpkfinpciaaGreatDoor
set_option linter.unusedSimpArgs false
set_option linter.unusedVariables false
set_option linter.constructorNameAsVariable false
open Go.RowKit Go.Joins Go.ChangeShapes Go.WideShapes
section
variable {H : Type} {enc : TypeId × Value → H} {w : World} {base : Nat} {sp : Nat → Bool} {held : Bool}
instance : Inhabited (VT × Value × Value) := ⟨(.mk 0 [] [] [], .nilFunc, .nilFunc)⟩
end
end Go.Proofs.YtbldfpkfinpciaaGreatDoor

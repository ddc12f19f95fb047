import Derived.Test.YtdegjfmjjabnnaaGreatDoorMkW
/-! The walk of mark.Decode. -/
namespace Go.Proofs.YtdegjfmjjabnnaaGreatDoor
set_option linter.unusedSimpArgs false
set_option linter.unusedVariables false
open Go.RowKit
open Go.Lib hiding intOf

theorem grown_of_below {A B : World} (h : Below A.heap.size A B) : A.grownBy B none := ⟨h.os, h.tape, h.output, h.size, fun i hi _ => h.block i hi⟩
theorem owns_below {B size : Nat} {e : TypeId} {A W : World} {v : Value} {n : Nat} {xs : List Value} (h : A.ownsRow B e size v n xs) (hb : Below A.heap.size A W) : W.ownsRow B e size v n xs :=
  h.kept (grown_of_below hb) (by cases h : v.ownBlock with
    | none => exact .inl rfl
    | some k => exact .inr (by simp))
theorem widthL_bd (s : List UInt8) : ((widthL s).1 = 0 ∨ (7 ≤ (widthL s).1 ∧ (widthL s).1 ≤ s.length)) ∧ (widthL s).2.length ≤ s.length := by
  have hc := (cut_len s [10]).2
  unfold widthL
  split
  · split
    · rename_i n hn
      split
      · rename_i h
        exact ⟨.inr ⟨by simp only []; omega, by simp only []; omega⟩, hc⟩
      · exact ⟨.inl rfl, Nat.zero_le _⟩
    · exact ⟨.inl rfl, Nat.zero_le _⟩
  · exact ⟨.inl rfl, Nat.zero_le _⟩
/-- Between two rounds of decoding. -/
def DcI (W0 : World) (B M n : Nat) (v : Value) (acc : List Part) (W : World) : Prop := OwnsParts B W v acc ∧ Below B W0 W ∧ Box4 W M (bs (mark 60 n)) (bs (mark 124 n)) (bs (mark 61 n)) (bs (mark 62 n)) ∧ B ≤ W.heap.size
theorem DcI.own {W0 W : World} {B M n : Nat} {v : Value} {acc : List Part} (h : DcI W0 B M n v acc W) : OwnsParts B W v acc := h.1
theorem DcI.bel {W0 W : World} {B M n : Nat} {v : Value} {acc : List Part} (h : DcI W0 B M n v acc W) : Below B W0 W := h.2.1
theorem DcI.box {W0 W : World} {B M n : Nat} {v : Value} {acc : List Part} (h : DcI W0 B M n v acc W) : Box4 W M (bs (mark 60 n)) (bs (mark 124 n)) (bs (mark 61 n)) (bs (mark 62 n)) := h.2.2.1
theorem DcI.sz {W0 W : World} {B M n : Nat} {v : Value} {acc : List Part} (h : DcI W0 B M n v acc W) : B ≤ W.heap.size := h.2.2.2
theorem DcI.keep {W0 W W' : World} {B M n : Nat} {v : Value} {acc : List Part} (h : DcI W0 B M n v acc W) (hb : Below W.heap.size W W') : DcI W0 B M n v acc W' :=
  ⟨owns_below h.1 hb, h.2.1.trans (hb.mono h.2.2.2), h.2.2.1.keep hb, Nat.le_trans h.2.2.2 hb.size⟩
theorem DcI.push {W0 W W' : World} {B M n : Nat} {v v' : Value} {acc : List Part} {x : Part} {cs : Array Value} (h : DcI W0 B M n v acc W) (hM : M < B) (hcs : cs.toList = partVs x) (h1 : W'.ownsRow B 30 5 v' (acc.length + 1) (partCells acc ++ cs.toList)) (h2 : Below B W W') : DcI W0 B M n v' (acc ++ [x]) W' :=
  ⟨OwnsParts.snoc hcs h1, h.2.1.trans h2, (h2.block M hM).trans h.2.2.1, Nat.le_trans h.2.2.2 h2.size⟩
def strSz : Value → Nat
  | .string b => b.size
  | _ => 0
def decF (s : List UInt8) (R : Option (List Part)) : Option (List Part) := match R with
  | none => none
  | some out => if encM out = (s, 0) then some out else none
/-- How decoding ends. -/
def DecE (s : List UInt8) (e : Ending) (w' : World) : Prop := (∃ l v, decP s = some l ∧ e = .returned (.tuple #[v, .bool true]) ∧ PV w' v l) ∨ (decP s = none ∧ e = .returned (.tuple #[.slice none 0 0, .bool false]))
set_option maxRecDepth 100000 in
set_option maxHeartbeats 8000000 in
theorem decode_any (s : List UInt8) (w : World) (hs : s.length ≤ 2097152) (hV : MkV w) :
    Calls Tryz.prog 5 #[.string (bs s)] w fun e w' => DecE s e w' ∧ Below w.heap.size w w' := by
  have sl := bs_size s
  obtain ⟨i0, hi0, hz0, hz1, hz2⟩ := info_parts Tryz.infoPart
  have HV := Lib.hid hV
  have CW := Lib.hid (fun w hV => mwidth_any s w (by omega) hV)
  obtain ⟨hwd, hrl⟩ := widthL_bd s
  have hdec : decP s = if (widthL s).1 = 0 then none else match coreM (widthL s).1 ((widthL s).2.length + 1) (widthL s).2 with
    | none => none
    | some out => if encM out = (s, 0) then some out else none := rfl
  obtain ⟨Wd, hWd⟩ : ∃ Wd, widthL s = Wd := ⟨_, rfl⟩
  rw [hWd] at CW hwd hrl hdec
  obtain ⟨n, rest0⟩ := Wd
  unfold WidE at CW
  simp only [] at CW hwd hrl hdec
  have HD := Lib.hid hdec
  clear hdec hWd hV
  by_cases hn0 : n = 0
  · subst hn0
    have HF : Hid (decP s = none) := Lib.hid (by rw [HD.out, if_pos rfl])
    clear hwd
    go_enter Tryz.func5, Tryz.ntmps5
    go_wp2_with (go_at_call 11; (with_reducible refine (CW.out _ HV.out).mono ?_); rintro e w1 ⟨rfl, hb⟩; have HB1 := Lib.hid hb; clear hb)
    go_ret2
    exact ⟨.inr ⟨HF.out, rfl⟩, HB1.out⟩
  have hn7 : 7 ≤ n ∧ n ≤ 2097152 := by omega
  have hnn : decide ((n : Int) = 0) = false := decide_eq_false (by omega)
  have hnb : ((n : Int) == 0) = false := beq_eq_false_iff_ne.2 (by omega)
  have hdec2 : decP s = decF s (coreM n (rest0.length + 1) rest0) := by rw [HD.out, if_neg hn0]; rfl
  have hcb : ∀ out, coreM n (rest0.length + 1) rest0 = some out → Sz out ∧ (bodyM (widthM out) out).length ≤ 1099511627776 := fun out h => core_big hn7.1 (by omega) h
  obtain ⟨R, hR⟩ : ∃ R, coreM n (rest0.length + 1) rest0 = R := ⟨_, rfl⟩
  rw [hR] at hdec2 hcb
  have HD2 := Lib.hid hdec2
  have HRB := Lib.hid hcb
  have HCE : Hid (∀ (out : List Part) (v : Value) (w : World), R = some out → MkV w → PV w v out → Calls Tryz.prog 8 #[v] w fun e w' => e = .returned (.tuple #[.string (bs (encM out).1), .int .i64 (encM out).2]) ∧ Below w.heap.size w w') :=
    Lib.hid (fun out v w hR hV hv => encode_any v out w hv (HRB.out out hR).1 hV.p (HRB.out out hR).2)
  have HR0 : Hid (DcR n R [] rest0) := Lib.hid (by rw [← hR]; exact DcR.start n rest0)
  have CL := Lib.hid (fun w => lines_any n w (by omega))
  unfold linesV at CL
  have CC : Hid (∀ (rest : List UInt8) (w : World), rest.length ≤ 1073741824 → MVar w → Calls Tryz.prog 13 #[.string (bs rest), .string (bs (mark 60 n))] w fun e w' => e = .returned (.tuple #[.string (bs (cut rest (mark 60 n)).1), .string (bs (cut rest (mark 60 n)).2.1), .bool (cut rest (mark 60 n)).2.2]) ∧ Below w.heap.size w w') :=
    Lib.hid (fun rest w hr hM => cut_any rest (mark 60 n) w hr hM)
  have CT := Lib.hid (fun b w hb hM => take_any b n w hb hM)
  unfold linesV at CT
  clear hR hwd HD hdec2 hcb
  go_enter Tryz.func5, Tryz.ntmps5
  go_wp2_with (go_at_call 11; (with_reducible refine (CW.out _ HV.out).mono ?_); rintro e w1 ⟨rfl, hb⟩; have HB1 := Lib.hid hb; clear hb)
  with_reducible refine (CL.out _).mono ?_
  rintro e w3 ⟨rfl, hb⟩
  have HB3 := Lib.hid (below_of_new HB1.out hb); clear hb HB1
  go_upto_region 6 with fail
  have hb0 := below_alloc1 w3 (.cells #[.string (bs (mark 60 n)), .string (bs (mark 124 n)), .string (bs (mark 61 n)), .string (bs (mark 62 n))] 39)
  have hM0 : Box4 (w3.alloc (.cells #[.string (bs (mark 60 n)), .string (bs (mark 124 n)), .string (bs (mark 61 n)), .string (bs (mark 62 n))] 39)) w3.heap.size (bs (mark 60 n)) (bs (mark 124 n)) (bs (mark 61 n)) (bs (mark 62 n)) := heap_alloc_new w3 _
  have hz0' : w3.heap.size < (w3.alloc (.cells #[.string (bs (mark 60 n)), .string (bs (mark 124 n)), .string (bs (mark 61 n)), .string (bs (mark 62 n))] 39)).heap.size := by simp
  obtain ⟨W0, hW0⟩ : ∃ W, w3.alloc (.cells #[.string (bs (mark 60 n)), .string (bs (mark 124 n)), .string (bs (mark 61 n)), .string (bs (mark 62 n))] 39) = W := ⟨_, rfl⟩
  obtain ⟨M, hM⟩ : ∃ M, w3.heap.size = M := ⟨_, rfl⟩
  rw [hW0] at hb0 hM0 hz0' ⊢
  have hB0 := below_of_new HB3.out hb0
  rw [hM] at hM0 hz0' ⊢
  have HI0 : Hid (DcI W0 W0.heap.size M n (.slice none 0 0) [] W0) := Lib.hid ⟨World.ownsRow_nil _ _ _ _, Below.refl _ _, hM0, Nat.le_refl _⟩
  have HQ := Lib.hid (And.intro hB0 hz0')
  clear hb0 hM0 hB0 hz0' hW0 hM
  obtain ⟨B, hBe⟩ : ∃ B, W0.heap.size = B := ⟨_, rfl⟩
  have HKw : Hid (∀ W, Below B W0 W → Below w.heap.size w W) := Lib.hid (fun W h => HQ.out.1.trans (h.mono (by rw [← hBe]; exact HQ.out.1.size)))
  rw [hBe] at HI0 HQ
  clear hBe
  go_wp2_with fail
  go_loopw [5, 7] (fun s5 s7 wr => ∃ (rest : List UInt8) (acc : List Part), s5 = .string (bs rest) ∧ acc.length + rest.length ≤ 2097152 ∧ Hid (DcI W0 B M n s7 acc wr) ∧ Hid (DcR n R acc rest)) (fun s5 _ _ => strSz s5)
  case atStart => exact ⟨rest0, [], rfl, by simp; omega, HI0, HR0⟩
  case round =>
    obtain ⟨rest, acc, rfl, hlen, HI, HR⟩ := hrel
    by_cases hr : rest = []
    · subst hr
      have he2 : ((bs ([] : List UInt8)).toList == []) = true := by rw [Lib.toList_data, bs_data]; rfl
      have hsome := HR.out.done
      have HK : Hid (MkV wr ∧ PV wr u7 (acc) ∧ Below w.heap.size w wr) := Lib.hid ⟨HV.out.keep (HKw.out _ HI.out.bel), HI.out.own.toPV, HKw.out _ HI.out.bel⟩
      have CE := Lib.hid (fun w hV hv => HCE.out _ u7 w hsome hV hv)
      have HF : Hid (decP s = if encM (acc) = (s, 0) then some (acc) else none) := Lib.hid (by rw [HD2.out, hsome]; rfl)
      obtain ⟨E, hE⟩ : ∃ E, encM (acc) = E := ⟨_, rfl⟩
      rw [hE] at CE HF
      obtain ⟨E1, E2⟩ := E
      simp only [] at CE
      clear hsome hE
      by_cases h2 : E2 = 0
      · subst h2
        by_cases h1 : E1 = s
        · subst h1
          have he3 : ((bs E1).toList != (bs E1).toList) = false := by simp
          have HF2 : Hid (decP E1 = some (acc)) := Lib.hid (by rw [HF.out, if_pos rfl])
          clear HF
          go_wp2_with (go_at_call 8; (with_reducible refine (CE.out _ HK.out.1 HK.out.2.1).mono ?_); rintro e w9 ⟨rfl, hb⟩; have HZ : Hid (Below w.heap.size w w9 ∧ PV w9 u7 (acc)) := Lib.hid ⟨below_of_new HK.out.2.2 hb, HK.out.2.1.keep hb⟩; clear hb)
          go_ret2
          exact ⟨.inl ⟨_, u7, HF2.out, rfl, HZ.out.2⟩, HZ.out.1⟩
        · have he3 : ((bs E1).toList == (bs s).toList) = false := by rw [Lib.toList_data, Lib.toList_data, bs_data, bs_data]; exact beq_eq_false_iff_ne.2 h1
          have HF2 : Hid (decP s = none) := Lib.hid (by rw [HF.out, if_neg (fun h => h1 (Prod.mk.inj h).1)])
          clear HF h1
          go_wp2_with (go_at_call 8; (with_reducible refine (CE.out _ HK.out.1 HK.out.2.1).mono ?_); rintro e w9 ⟨rfl, hb⟩; have HZ : Hid (Below w.heap.size w w9 ∧ PV w9 u7 (acc)) := Lib.hid ⟨below_of_new HK.out.2.2 hb, HK.out.2.1.keep hb⟩; clear hb)
          go_ret2
          exact ⟨.inr ⟨HF2.out, rfl⟩, HZ.out.1⟩
      · have he3 : (E2 == 0) = false := beq_eq_false_iff_ne.2 h2
        have he4 : (E2 != 0) = true := bne_iff_ne.2 h2
        have HF2 : Hid (decP s = none) := Lib.hid (by rw [HF.out, if_neg (fun h => h2 (Prod.mk.inj h).2)])
        clear HF h2
        go_wp2_with (go_at_call 8; (with_reducible refine (CE.out _ HK.out.1 HK.out.2.1).mono ?_); rintro e w9 ⟨rfl, hb⟩; have HZ : Hid (Below w.heap.size w w9 ∧ PV w9 u7 (acc)) := Lib.hid ⟨below_of_new HK.out.2.2 hb, HK.out.2.1.keep hb⟩; clear hb)
        go_ret2
        exact ⟨.inr ⟨HF2.out, rfl⟩, HZ.out.1⟩
    · have he2 : ((bs rest).toList == []) = false := by rw [Lib.toList_data, bs_data]; exact beq_eq_false_iff_ne.2 hr
      have C1 := Lib.hid (fun w hM => CC.out rest w (by omega) hM)
      have hcl := cut_len rest (mark 60 n)
      have hcs : (cut rest (mark 60 n)).2.2 = true → (cut rest (mark 60 n)).1.length + (n + 2) + (cut rest (mark 60 n)).2.1.length = rest.length := fun h => by have := cut_lt _ _ h; rw [mark_len] at this; exact this
      obtain ⟨C, hC⟩ : ∃ C, cut rest (mark 60 n) = C := ⟨_, rfl⟩
      rw [hC] at C1 hcl hcs
      obtain ⟨t, b, more⟩ := C
      simp only [] at C1 hcl hcs
      have HC := Lib.hid hC
      have HNE := Lib.hid hr
      clear hC hr
      obtain ⟨⟨m0, m1, m2, m3⟩, _⟩ := HI.out.box.cells
      go_upto_if 36 with (go_at_call 13; (with_reducible refine (C1.out _ (HV.out.keep (HKw.out _ HI.out.bel)).m).mono ?_); rintro e w4 ⟨rfl, hb⟩; have HI1 := Lib.hid (HI.out.keep hb); clear hb)
      clear m0 m1 m2 m3
      obtain ⟨q, hq⟩ : ∃ q, (bs t).toList.isEmpty = q := ⟨_, rfl⟩
      rw [hq]
      have HT : Hid (t = [] ↔ q = true) := Lib.hid (by rw [← hq, Lib.toList_data, bs_data, List.isEmpty_iff])
      clear hq
      go_cut [7] (fun s7 wx => ∃ acc2, acc2 = (acc ++ if t = [] then [] else [textP t]) ∧ Hid (DcI W0 B M n s7 acc2 wx))
      case first =>
        cases q with
        | true =>
          have HT2 := Lib.hid (HT.out.2 rfl)
          go_wp2_with fail
          go_meet
          exact ⟨_, rfl, by rw [if_pos HT2.out, List.append_nil]; exact HI1.out⟩
        | false =>
          have HT2 : Hid (¬ t = []) := Lib.hid (fun h => absurd (HT.out.1 h) (by simp))
          go_wp2_with (at_builtin; go_must (refine wpList_push rfl _ _ 23 rfl B 30 i0 _ 5 72 Tryz.underlying23 hi0 hz0 hz1 hz2 rfl (by decide) w4 u7 acc.length (partCells acc) rfl HI1.out.own #[.bool false, .string (bs t), .string ⟨#[]⟩, .string ⟨#[]⟩, .string ⟨#[]⟩] rfl rfl (by simp [Value.oneCell']) (by omega) (by decide) HI1.out.sz ?_); intro v1 w5 hown1 hsz1 hbel1 hkeep1 hne1)
          go_meet
          exact ⟨_, rfl, by rw [if_neg HT2.out]; exact HI1.out.push HQ.out.2 (x := textP t) rfl hown1 hbel1⟩
      case rest =>
        obtain ⟨acc2, hacc2, HI2⟩ := hcut
        have hal : acc2.length ≤ acc.length + 1 := by rw [hacc2]; split <;> simp
        cases more with
        | false =>
          have hsome : R = some acc2 := by
            obtain ⟨h1, h2⟩ := HR.out.last HNE.out HC.out
            rw [h1, hacc2, if_neg h2]
          clear hacc2
          have HK : Hid (MkV wc ∧ PV wc u7 (acc2) ∧ Below w.heap.size w wc) := Lib.hid ⟨HV.out.keep (HKw.out _ HI2.out.bel), HI2.out.own.toPV, HKw.out _ HI2.out.bel⟩
          have CE := Lib.hid (fun w hV hv => HCE.out _ u7 w hsome hV hv)
          have HF : Hid (decP s = if encM (acc2) = (s, 0) then some (acc2) else none) := Lib.hid (by rw [HD2.out, hsome]; rfl)
          obtain ⟨E, hE⟩ : ∃ E, encM (acc2) = E := ⟨_, rfl⟩
          rw [hE] at CE HF
          obtain ⟨E1, E2⟩ := E
          simp only [] at CE
          clear hsome hE
          by_cases h2 : E2 = 0
          · subst h2
            by_cases h1 : E1 = s
            · subst h1
              have he3 : ((bs E1).toList != (bs E1).toList) = false := by simp
              have HF2 : Hid (decP E1 = some (acc2)) := Lib.hid (by rw [HF.out, if_pos rfl])
              clear HF
              go_wp2_with (go_at_call 8; (with_reducible refine (CE.out _ HK.out.1 HK.out.2.1).mono ?_); rintro e w9 ⟨rfl, hb⟩; have HZ : Hid (Below w.heap.size w w9 ∧ PV w9 u7 (acc2)) := Lib.hid ⟨below_of_new HK.out.2.2 hb, HK.out.2.1.keep hb⟩; clear hb)
              go_ret2
              exact ⟨.inl ⟨_, u7, HF2.out, rfl, HZ.out.2⟩, HZ.out.1⟩
            · have he3 : ((bs E1).toList == (bs s).toList) = false := by rw [Lib.toList_data, Lib.toList_data, bs_data, bs_data]; exact beq_eq_false_iff_ne.2 h1
              have HF2 : Hid (decP s = none) := Lib.hid (by rw [HF.out, if_neg (fun h => h1 (Prod.mk.inj h).1)])
              clear HF h1
              go_wp2_with (go_at_call 8; (with_reducible refine (CE.out _ HK.out.1 HK.out.2.1).mono ?_); rintro e w9 ⟨rfl, hb⟩; have HZ : Hid (Below w.heap.size w w9 ∧ PV w9 u7 (acc2)) := Lib.hid ⟨below_of_new HK.out.2.2 hb, HK.out.2.1.keep hb⟩; clear hb)
              go_ret2
              exact ⟨.inr ⟨HF2.out, rfl⟩, HZ.out.1⟩
          · have he3 : (E2 == 0) = false := beq_eq_false_iff_ne.2 h2
            have he4 : (E2 != 0) = true := bne_iff_ne.2 h2
            have HF2 : Hid (decP s = none) := Lib.hid (by rw [HF.out, if_neg (fun h => h2 (Prod.mk.inj h).2)])
            clear HF h2
            go_wp2_with (go_at_call 8; (with_reducible refine (CE.out _ HK.out.1 HK.out.2.1).mono ?_); rintro e w9 ⟨rfl, hb⟩; have HZ : Hid (Below w.heap.size w w9 ∧ PV w9 u7 (acc2)) := Lib.hid ⟨below_of_new HK.out.2.2 hb, HK.out.2.1.keep hb⟩; clear hb)
            go_ret2
            exact ⟨.inr ⟨HF2.out, rfl⟩, HZ.out.1⟩
        | true =>
          have hcs2 := hcs rfl
          have C2 := Lib.hid (fun w hM => CT.out b w (by omega) hM)
          cases hto : takeO b n with
          | none =>
            have HF : Hid (decP s = none) := Lib.hid (by rw [HD2.out, HR.out.bad HNE.out HC.out hto]; rfl)
            have HTO := Lib.hid hto
            clear hto hacc2
            obtain ⟨⟨m0, m1, m2, m3⟩, _⟩ := HI2.out.box.cells
            go_upto_region 12 with (go_at_call 14; (with_reducible refine (C2.out _ (HV.out.keep (HKw.out _ HI2.out.bel)).m).mono ?_); rintro e w6 ⟨h, hb⟩; rcases take_is h with ⟨x, r, h1, rfl⟩ | ⟨h1, y, r, rfl⟩; exact absurd (HTO.out.symm.trans h1) (by simp); have HB6 := Lib.hid (HKw.out _ (HI2.out.keep hb).bel); clear hb h; simp only [partV])
            have hb0 := below_alloc1 w6 (.cells #[.bool y.hunk, .string (bs y.text), .string (bs y.s0), .string (bs y.s1), .string (bs y.s2)] 30)
            obtain ⟨W7, hW7⟩ : ∃ W, w6.alloc (.cells #[.bool y.hunk, .string (bs y.text), .string (bs y.s0), .string (bs y.s1), .string (bs y.s2)] 30) = W := ⟨_, rfl⟩
            rw [hW7] at hb0 ⊢
            have HB7 := Lib.hid (below_of_new HB6.out hb0)
            clear hW7 hb0
            go_wp2_with fail
            go_ret2
            exact ⟨.inr ⟨HF.out, rfl⟩, HB7.out⟩
          | some xr =>
            obtain ⟨x, r⟩ := xr
            obtain ⟨hnx, hrl2⟩ := HR.out.next HNE.out HC.out hto
            rw [← hacc2] at hnx
            have HNX := Lib.hid hnx
            have HTO := Lib.hid hto
            clear hto hacc2 hnx
            obtain ⟨⟨m0, m1, m2, m3⟩, _⟩ := HI2.out.box.cells
            go_upto_region 12 with (go_at_call 14; (with_reducible refine (C2.out _ (HV.out.keep (HKw.out _ HI2.out.bel)).m).mono ?_); rintro e w6 ⟨h, hb⟩; rcases take_is h with ⟨x', r', h1, rfl⟩ | ⟨h1, y, r, rfl⟩; rotate_left; exact absurd (HTO.out.symm.trans h1) (by simp); (obtain ⟨h2, h3⟩ := Prod.mk.inj (Option.some.inj (HTO.out.symm.trans h1)); rw [← h2, ← h3]); have HI3 := Lib.hid (HI2.out.keep hb); clear hb h h1 h2 h3 x' r'; simp only [partV])
            have hb0 := below_alloc1 w6 (.cells #[.bool x.hunk, .string (bs x.text), .string (bs x.s0), .string (bs x.s1), .string (bs x.s2)] 30)
            have hx0 := PBox.new w6 x
            obtain ⟨W7, hW7⟩ : ∃ W, w6.alloc (.cells #[.bool x.hunk, .string (bs x.text), .string (bs x.s0), .string (bs x.s1), .string (bs x.s2)] 30) = W := ⟨_, rfl⟩
            obtain ⟨X, hX⟩ : ∃ X, w6.heap.size = X := ⟨_, rfl⟩
            rw [hW7, hX] at hx0
            rw [hW7] at hb0
            rw [hW7, hX]
            have HI4 := Lib.hid (HI3.out.keep hb0)
            clear hW7 hX hb0 m0 m1 m2 m3
            obtain ⟨⟨x0, x1, x2, x3, x4⟩, _⟩ := hx0.cells
            clear hx0
            go_wp2_with (at_builtin; go_must (refine wpList_push rfl _ _ 23 rfl B 30 i0 _ 5 72 Tryz.underlying23 hi0 hz0 hz1 hz2 rfl (by decide) W7 u7 acc2.length (partCells acc2) rfl HI4.out.own #[.bool x.hunk, .string (bs x.text), .string (bs x.s0), .string (bs x.s1), .string (bs x.s2)] rfl rfl (by simp [Value.oneCell']) (by omega) (by decide) HI4.out.sz ?_); intro v1 w8 hown1 hsz1 hbel1 hkeep1 hne1)
            go_roundw
            case rel => exact ⟨r, acc2 ++ [x], rfl, by simp; omega, HI4.out.push HQ.out.2 rfl hown1 hbel1, HNX.out⟩
            case measure => simp [strSz, bs_size]; omega
end Go.Proofs.YtdegjfmjjabnnaaGreatDoor

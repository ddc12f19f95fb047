import Derived.Test.YtnnlpkbopeiefaaGreatDoorTl
import Derived.Test.YtnnlpkbopeiefaaGreatDoorWa
import Derived.Deep.RegionLaw
import Derived.Deep.RegionHeld3
import Derived.Deep.DeepCutAuto
/-! The walks of the reference's Clone, Equal. Printed by mktn.py. -/
namespace Go.Proofs.YtnnlpkbopeiefaaGreatDoor
set_option linter.unusedSimpArgs false
set_option linter.unusedVariables false
open Go.RowKit
open Go.Lib hiding intOf
def putV (w : World) (X : Nat) (k : Int) (t : Stp) (kv iv : Value) : World := (((w.setCell ⟨X, 0, none⟩ (.int .i64 k)).setCell ⟨X, 1, none⟩ (.string (bs t))).setCell ⟨X, 2, none⟩ kv).setCell ⟨X, 3, none⟩ iv
theorem below_putV {B : Nat} {w w' : World} {X : Nat} {k : Int} {t : Stp} {kv iv : Value} (h : Below B w w') (hX : B ≤ X) : Below B w (putV w' X k t kv iv) := by
  unfold putV
  exact (((h.setCell (p := ⟨X, 0, none⟩) hX _).setCell (p := ⟨X, 1, none⟩) hX _).setCell (p := ⟨X, 2, none⟩) hX _).setCell (p := ⟨X, 3, none⟩) hX _
theorem putV_other {w : World} {X : Nat} {k : Int} {t : Stp} {kv iv : Value} {q : Nat} (hq : q ≠ X) : (putV w X k t kv iv).heap[q]? = w.heap[q]? := by
  unfold putV
  rw [Below.heap_setCell _ ⟨X, 3, none⟩ _ q hq, Below.heap_setCell _ ⟨X, 2, none⟩ _ q hq, Below.heap_setCell _ ⟨X, 1, none⟩ _ q hq, Below.heap_setCell _ ⟨X, 0, none⟩ _ q hq]
theorem putV_cells {w : World} {X : Nat} {k0 k : Int} {t0 t : Stp} {a b kv iv : Value} (h : w.heap[X]? = some (.cells #[.int .i64 k0, .string (bs t0), a, b] 25)) : (putV w X k t kv iv).heap[X]? = some (.cells #[.int .i64 k, .string (bs t), kv, iv] 25) := by
  unfold putV
  have h1 := box_setT h 0 (.int .i64 k)
  have h2 := box_setT h1 1 (.string (bs t))
  have h3 := box_setT h2 2 kv
  exact box_setT h3 3 iv
theorem box4 {w : World} {X : Nat} {a b c e : Value} (hb : w.heap[X]? = some (.cells #[a, b, c, e] 25)) : w.cell? ⟨X, 0, none⟩ = some a ∧ w.cell? ⟨X, 1, none⟩ = some b ∧ w.cell? ⟨X, 2, none⟩ = some c ∧ w.cell? ⟨X, 3, none⟩ = some e ∧
    w.frozen? ⟨X, 0, none⟩ = false ∧ w.frozen? ⟨X, 1, none⟩ = false ∧ w.frozen? ⟨X, 2, none⟩ = false ∧ w.frozen? ⟨X, 3, none⟩ = false := by
  refine ⟨?_, ?_, ?_, ?_, ?_, ?_, ?_, ?_⟩ <;> simp [World.cell?, World.frozen?, hb]
/-- A new tree, handed back. -/
def NewE (t : VT) (w : World) (e : Ending) (w' : World) : Prop := (∃ kv iv, e = .returned (vv t kv iv) ∧ VDf w.heap.size w' t.depth t kv iv) ∧ Below w.heap.size w w'
/-- The value's fields laid into the result's cell. -/
theorem CS.put {W w : World} {Y R : Nat} {k : Int} {s : Stp} {ks : List Stp} {l : List VT} {kv ov : Value} (h : CS W Y k s ks l kv ov w) (hR : R < W.heap.size) : VDx (fun q => W.heap.size ≤ q) (putV w R k s kv ov) (VT.mk k s ks l).depth (VT.mk k s ks l) kv ov :=
  h.tree.agree (fun q hq _ => ⟨putV_other (by omega), hq⟩)
section
variable {W w w2 : World} {X : Nat} {k : Int} {s : ByteArray} {kv : Value}
end
def FbC (W0 : World) (x : Value) (w' : World) : Prop := ∃ Y, x = .pointer (some ⟨Y, 0, none⟩) ∧ W0.heap.size ≤ Y ∧ w'.heap[Y]? = some (.cells #[.int .i64 0, .string (bs []), .slice none 0 0, .slice none 0 0] 25)
theorem FbC.new {W0 w' : World} (h : W0.heap.size ≤ w'.heap.size) : FbC W0 (.pointer (some ⟨w'.heap.size, 0, none⟩)) (w'.alloc (.cells #[.int .i64 0, .string ⟨#[]⟩, .slice none 0 0, .slice none 0 0] 25)) := ⟨_, rfl, h, heap_alloc_new w' _⟩
theorem FbC.keep {W0 w' w2 : World} {x : Value} (h : FbC W0 x w') (hb : Below w'.heap.size w' w2) : FbC W0 x w2 := by
  obtain ⟨Y, h1, h2, h3⟩ := h
  exact ⟨Y, h1, h2, (hb.block Y (cell_it h3)).trans h3⟩
theorem fbKeep {W0 w' w2 : World} {B : Nat} {l : List Stp} {v x : Value} (hB : B ≤ w'.heap.size) (ho : OwnsS B l v w') (h3 : ∀ k, k < w'.heap.size → some k ≠ v.ownBlock → w2.heap[k]? = w'.heap[k]?) (hs : w'.heap.size ≤ w2.heap.size) (h : FbC W0 x w') : FbC W0 x w2 := by
  obtain ⟨Y, h1, h2, h4⟩ := h
  refine ⟨Y, h1, h2, ?_⟩
  rw [h3 Y (cell_it h4) (fun e => ?_)]
  · exact h4
  · rcases ho.2 with ⟨rfl, _⟩ | ⟨g, cap, cur, rfl, _, hg, _⟩
    · cases e
    · injection e with e
      subst e
      rw [h4] at hg
      injection hg with hg
      injection hg with _ hg
      exact absurd hg (by decide)
def PhC (W2 W0 : World) (t : VT) : Nat → Value → World → Prop
  | 0, _, w' => Below W0.heap.size W0 w'
  | 1, c, w' => Below W0.heap.size W0 w' ∧ OwnsS W0.heap.size [] c w'
  | 2, c, w' => Below W0.heap.size W0 w' ∧ OwnsS W0.heap.size t.keys c w'
  | 3, c, w' => ∃ p2 c2, c = .agg #[.int .i64 t.kind, .string (bs t.text), .slice p2 t.keys.length c2, .slice none 0 0] ∧ Below W0.heap.size W0 w' ∧ OwnsS W0.heap.size t.keys (.slice p2 t.keys.length c2) w'
  | _, c, w' => ∃ Y p2 c2, c = .pointer (some ⟨Y, 0, none⟩) ∧ CS W2 Y t.kind t.text t.keys [] (.slice p2 t.keys.length c2) (.slice none 0 0) w'
theorem PhC.bel {W2 W0 : World} (hb : Below W2.heap.size W2 W0) {t : VT} {k : Nat} {c : Value} {w' : World} (h : PhC W2 W0 t k c w') : W0.heap.size ≤ w'.heap.size ∨ 4 ≤ k := by
  match k, h with
  | 0, h => exact .inl (Below.size h)
  | 1, h => exact .inl h.1.size
  | 2, h => exact .inl h.1.size
  | 3, ⟨_, _, _, h, _⟩ => exact .inl h.size
  | k + 4, _ => exact .inr (by omega)
theorem PhC.keep {W2 W0 : World} {t : VT} {k : Nat} {c : Value} {w' w2 : World} (h : PhC W2 W0 t k c w') (hb : Below w'.heap.size w' w2) : PhC W2 W0 t k c w2 := by
  match k, h with
  | 0, h => exact below_of_new (show Below W0.heap.size W0 w' from h) hb
  | 1, h => exact ⟨below_of_new h.1 hb, h.2.keep hb⟩
  | 2, h => exact ⟨below_of_new h.1 hb, h.2.keep hb⟩
  | 3, ⟨p2, c2, h1, h2, h3⟩ => exact ⟨p2, c2, h1, below_of_new h2 hb, h3.keep hb⟩
  | k + 4, ⟨Y, p2, c2, h1, h2⟩ => exact ⟨Y, p2, c2, h1, h2.keep hb⟩
theorem RF2.szC {ops : Array Oper} {sl eff : List Nat} {fr : Nat} {Fb : Value → World → Prop} {val : Nat → Value} {S : World → Prop} {W2 W0 : World} {t : VT} {d : Nat → Bool} {v : Nat → Value} {w' : World} (h : RF2 ops sl eff fr Fb val S (PhC W2 W0 t) d v w') (hb : Below W2.heap.size W2 W0) (he : eff.length = 4) (hl : ∃ e, eff[3]? = some e ∧ d e = false) : W0.heap.size ≤ w'.heap.size := by
  obtain ⟨q, hq, h2, h3⟩ := h.ph
  obtain ⟨e, h4, h5⟩ := hl
  rcases PhC.bel hb h3 with h6 | h6
  · exact h6
  · rw [(h2 3 e h4).2 (by omega)] at h5; cases h5
theorem CS.ofStore {W2 W0 w' : World} {Y : Nat} {k : Int} {s : Stp} {ks : List Stp} {p2 : Option Addr} {n2 c2 : Nat} (hb : Below W2.heap.size W2 W0) (hA : Below W0.heap.size W0 w') (ho : OwnsS W0.heap.size ks (.slice p2 n2 c2) w') (hY : W0.heap.size ≤ Y) (hYb : w'.heap[Y]? = some (.cells #[.int .i64 0, .string (bs []), .slice none 0 0, .slice none 0 0] 25)) : CS W2 Y k s ks [] (.slice p2 n2 c2) (.slice none 0 0) (putV w' Y k s (.slice p2 n2 c2) (.slice none 0 0)) := by
  have hne : some Y ≠ (Value.slice p2 n2 c2).ownBlock := fun e => by
    rcases ho.2 with ⟨h, _⟩ | ⟨g, cap, cur, h, _, hg, _⟩
    · rw [h] at e; cases e
    · rw [h] at e
      injection e with e
      subst e
      rw [hYb] at hg
      injection hg with hg
      injection hg with _ hg
      exact absurd hg (by decide)
  refine ⟨putV_cells hYb, ?_, hne, OwnsV.nil _ _ _, below_putV (below_of_new hb hA) (Nat.le_trans hb.size hY), Nat.le_trans hb.size hY⟩
  exact (ho.mono hb.size).keepB (fun q _ hq _ => putV_other (fun e => hne (by rw [← e]; exact hq)))
def RCl (n : Nat) : Prop := ∀ (t : VT) (kv iv : Value) (w : World), VD w n t kv iv → t.bulk ≤ 1073741824 → Calls Tryz.prog 18 #[vv t kv iv] w (NewE t w)
theorem HX_of {l : List VT} {i : Nat} {x : VT} (h : l[i]? = some x) : Hid (l[i]? = some x) := Lib.hid h
set_option maxRecDepth 100000 in
set_option maxHeartbeats 4000000 in
theorem rclone_step (n : Nat) (IH : RCl n) : RCl (n + 1) := by
  intro t kv iv w h hbk
  obtain ⟨m', hm, ⟨pk, ck, rfl, hck, hlies⟩, p, c, rfl, hlc, hit⟩ := h.parts
  obtain rfl : n = m' := by omega
  obtain ⟨X, hX⟩ : ∃ X, w.heap.size = X := ⟨_, rfl⟩
  obtain ⟨W1, hW1⟩ : ∃ W, w.alloc (.cells #[.int .i64 t.kind, .string (bs t.text), .slice pk t.keys.length ck, .slice p t.items.length c] 25) = W := ⟨_, rfl⟩
  obtain ⟨R, hR⟩ : ∃ R, W1.heap.size = R := ⟨_, rfl⟩
  obtain ⟨W2, hW2⟩ : ∃ W, W1.alloc (.cells #[.int .i64 0, .string ⟨#[]⟩, .slice none 0 0, .slice none 0 0] 25) = W := ⟨_, rfl⟩
  have hB1 : Below w.heap.size w W1 := by rw [← hW1]; exact below_alloc1 _ _
  have hB12 : Below W1.heap.size W1 W2 := by rw [← hW2]; exact below_alloc1 _ _
  have HB2 := Lib.hid (below_of_new hB1 hB12)
  have HXB : Hid (VBox W2 X t (.slice pk t.keys.length ck) (.slice p t.items.length c)) := Lib.hid (VBox.keep (by rw [← hW1, ← hX]; exact VBox.new w t _ _) hB12)
  have HRB : Hid (W2.heap[R]? = some (.cells #[.int .i64 0, .string (bs []), .slice none 0 0, .slice none 0 0] 25)) := Lib.hid (by rw [← hW2, ← hR]; exact heap_alloc_new W1 _)
  have hXR : X < R := by rw [← hR, ← hX, ← hW1]; simp
  have hR2 : R < W2.heap.size := by rw [← hW2, ← hR]; simp
  have HIT := Lib.hid (hit.keep HB2.out)
  have HSL := Lib.hid (hlies.keep HB2.out)
  have HSV : Hid (SV W2 (.slice pk t.keys.length ck) t.keys) := Lib.hid ⟨pk, ck, rfl, hck, HSL.out⟩
  have hb0 : t.bulk = t.text.length + (totS t.keys + t.keys.length) + bulks t.items + 1 := by cases t; rw [VT.bulk]; rfl
  have hlen := len_le_bulks t.items
  unfold vv
  have hXd : X < w.heap.size + 1 := by omega
  clear hit hlies h hm hB1 hB12
  go_enter Tryz.func18, Tryz.ntmps18
  go_upto_region 1 with fail
  clear hW1 hW2 hR
  obtain ⟨b0, b1, b2, b3⟩ := HXB.out.cells
  go_cut [3, 5, 6, 7, 8, 9, 10, 11, 12, 13] (fun s3 s5 s6 s7 s8 s9 s10 s11 s12 s13 wx => ∃ Y kv0, s3 = .pointer (some ⟨Y, 0, none⟩) ∧ Hid (CS W2 Y t.kind t.text t.keys [] kv0 (.slice none 0 0) wx))
  case first =>
    obtain ⟨W0, hW0⟩ : ∃ W, W2.drew = W := ⟨_, rfl⟩
    have hbW : Below W2.heap.size W2 W0 := by rw [← hW0]; exact (Below.refl _ _).drew
    obtain ⟨SA, hSA⟩ : ∃ S : World → Prop, (fun w' => w'.cell? ⟨X, 0, none⟩ = some (.int .i64 t.kind) ∧ w'.cell? ⟨X, 1, none⟩ = some (.string (bs t.text)) ∧ w'.cell? ⟨X, 2, none⟩ = some (.slice pk t.keys.length ck)) = S := ⟨_, rfl⟩
    have HSA : Hid (∀ w', Below W0.heap.size W0 w' → SA w') := Lib.hid (fun w' hb => by
      rw [← hSA]
      obtain ⟨a0, a1, a2, _⟩ := (HXB.out.keep (below_of_new hbW hb)).cells
      exact ⟨a0, a1, a2⟩)
    have HSK : Hid (∀ w1 w2, SA w1 → Below w1.heap.size w1 w2 → SA w2) := Lib.hid (fun w1 w2 h1 hb => by
      rw [← hSA] at h1 ⊢
      exact ⟨cell_keepT h1.1 hb, cell_keepT h1.2.1 hb, cell_keepT h1.2.2 hb⟩)
    clear b0 b1 b2 b3
    have hfol : Tryz.prog.follows .mixedOrders = true := by kernel_rfl
    refine wp_region_rcf hfol [5, 6, 7, 8, 9, 10, 11, 12, 13, 3] [4, 7, 8, 10] 9 (FbC W0) 33 rfl (by kernel_rfl) (by kernel_rfl) (by kernel_rfl) (fun iz => match iz with | 0 => .pointer (some ⟨X, 0, none⟩) | 1 => .int .i64 t.kind | 2 => .pointer (some ⟨X, 1, none⟩) | 3 => .string (bs t.text) | 5 => .pointer (some ⟨X, 2, none⟩) | 6 => .slice pk t.keys.length ck | _ => undef) SA (PhC W2 W0 t) (by rw [hW0]; exact HSA.out _ (Below.refl _ _)) (by rw [hW0]; exact Below.refl _ _) ?_ ?_
    · intro d a w' iq o' ho hi hall hfr hF R' hR
      have hiN : iq < 11 := (Array.getElem?_eq_some_iff.1 ho).1
      have q1 : a.tmps[1]?.getD undef = .pointer (some ⟨X, 0, none⟩) := by rw [← Array.getD_eq_getD_getElem?]; exact hfr 1 (by decide)
      clear hfr
      have ha := hall
      have hoo := ho
      have hcs : iq = 0 ∨ iq = 1 ∨ iq = 2 ∨ iq = 3 ∨ iq = 4 ∨ iq = 5 ∨ iq = 6 ∨ iq = 7 ∨ iq = 8 ∨ iq = 9 ∨ iq = 10 := by omega
      clear hiN
      rcases hcs with rfl | rfl | rfl | rfl | rfl | rfl | rfl | rfl | rfl | rfl | rfl
      · simp only [List.getElem?_toArray, List.getElem?_cons_zero, List.getElem?_cons_succ, Option.some.injEq] at ho
        subst ho
        go_simp
        exact hR _ _ (hF.pure (by decide) hoo ha rfl (by decide) (by decide) (by decide) rfl)
      · simp only [List.getElem?_toArray, List.getElem?_cons_zero, List.getElem?_cons_succ, Option.some.injEq] at ho
        subst ho
        simp [Region.binds] at hall
        have c5 : a.tmps[5]?.getD undef = .pointer (some ⟨X, 0, none⟩) := by rw [← Array.getD_eq_getD_getElem?]; exact hF.cl 0 (by decide) (by decide) (by decide) (by first | exact hall | exact hall.1 | exact hall.2 | exact hall.2.1 | exact hall.2.2 | exact hall.2.2.1 | exact hall.2.2.2)
        have hS0 := hF.early (f := 11) (i := 1) (by kernel_rfl) hi
        rw [← hSA] at hS0
        obtain ⟨x0, x1, x2⟩ := hS0
        go_simp
        exact hR _ _ (hF.pure (by decide) hoo ha rfl (by decide) (by decide) (by decide) rfl)
      · simp only [List.getElem?_toArray, List.getElem?_cons_zero, List.getElem?_cons_succ, Option.some.injEq] at ho
        subst ho
        go_simp
        exact hR _ _ (hF.pure (by decide) hoo ha rfl (by decide) (by decide) (by decide) rfl)
      · simp only [List.getElem?_toArray, List.getElem?_cons_zero, List.getElem?_cons_succ, Option.some.injEq] at ho
        subst ho
        simp [Region.binds] at hall
        have c7 : a.tmps[7]?.getD undef = .pointer (some ⟨X, 1, none⟩) := by rw [← Array.getD_eq_getD_getElem?]; exact hF.cl 2 (by decide) (by decide) (by decide) (by first | exact hall | exact hall.1 | exact hall.2 | exact hall.2.1 | exact hall.2.2 | exact hall.2.2.1 | exact hall.2.2.2)
        have hS0 := hF.early (f := 11) (i := 3) (by kernel_rfl) hi
        rw [← hSA] at hS0
        obtain ⟨x0, x1, x2⟩ := hS0
        go_simp
        exact hR _ _ (hF.pure (by decide) hoo ha rfl (by decide) (by decide) (by decide) rfl)
      · simp only [List.getElem?_toArray, List.getElem?_cons_zero, List.getElem?_cons_succ, Option.some.injEq] at ho
        subst ho
        have hP0 := hF.at2 (j := 0) rfl hi (.inl rfl)
        have hA : Below W0.heap.size W0 w' := hP0
        have hb6 := fun ob => below_of_new hA (below_alloc1 w' ob)
        go_simp
        exact hR _ _ (hF.eff2 (by decide) (by decide) 0 hoo ha rfl hi (.inl rfl) rfl (by decide) (fun _ x hx => FbC.keep hx (below_alloc1 _ _)) (fun _ => HSA.out _ (hb6 _)) ⟨hb6 _, (OwnsS.new0 w').mono hA.size⟩)
      · simp only [List.getElem?_toArray, List.getElem?_cons_zero, List.getElem?_cons_succ, Option.some.injEq] at ho
        subst ho
        go_simp
        exact hR _ _ (hF.pure (by decide) hoo ha rfl (by decide) (by decide) (by decide) rfl)
      · simp only [List.getElem?_toArray, List.getElem?_cons_zero, List.getElem?_cons_succ, Option.some.injEq] at ho
        subst ho
        simp [Region.binds] at hall
        have c10 : a.tmps[10]?.getD undef = .pointer (some ⟨X, 2, none⟩) := by rw [← Array.getD_eq_getD_getElem?]; exact hF.cl 5 (by decide) (by decide) (by decide) (by first | exact hall | exact hall.1 | exact hall.2 | exact hall.2.1 | exact hall.2.2 | exact hall.2.2.1 | exact hall.2.2.2)
        have hS0 := hF.early (f := 11) (i := 6) (by kernel_rfl) hi
        rw [← hSA] at hS0
        obtain ⟨x0, x1, x2⟩ := hS0
        go_simp
        exact hR _ _ (hF.pure (by decide) hoo ha rfl (by decide) (by decide) (by decide) rfl)
      · simp only [List.getElem?_toArray, List.getElem?_cons_zero, List.getElem?_cons_succ, Option.some.injEq] at ho
        subst ho
        simp [Region.binds] at hall
        have c11 : a.tmps[11]?.getD undef = .slice pk t.keys.length ck := by rw [← Array.getD_eq_getD_getElem?]; exact hF.cl 6 (by decide) (by decide) (by decide) (by first | exact hall | exact hall.1 | exact hall.2 | exact hall.2.1 | exact hall.2.2 | exact hall.2.2.1 | exact hall.2.2.2)
        have hpv : d 4 = true := by first | first | exact hall | exact hall.1 | exact hall.2 | exact hall.2.1 | exact hall.2.2 | exact hall.2.2.1 | exact hall.2.2.2 | (exact ha ⟨_, _⟩ (by simp) rfl)
        have hP0 := hF.at2 (j := 1) rfl hi (.inr ⟨4, rfl, hpv⟩)
        obtain ⟨hA, hown⟩ := hP0
        have hown : OwnsS W0.heap.size [] (a.tmps.getD 9 undef) w' := hown
        refine wp_texts (.tmp 9) (.tmp 11) rfl W0.heap.size w' _ [] t.keys rfl hown (.slice pk t.keys.length ck) (by show a.tmps.getD 11 undef = _; rw [Array.getD_eq_getD_getElem?]; exact c11) (HSV.out.keep (below_of_new hbW hA)) (by simp; omega) hA.size (fun v' w2 h1 h2 h3 h4 => ?_)
        exact hR _ _ (hF.eff2 (by decide) (by decide) 1 hoo ha rfl hi (.inr ⟨4, rfl, hpv⟩) rfl (by decide) (fun _ x hx => fbKeep hA.size hown h3 h2.size hx) (fun _ => HSA.out _ (hA.trans h2)) ⟨hA.trans h2, h1⟩)
      · simp only [List.getElem?_toArray, List.getElem?_cons_zero, List.getElem?_cons_succ, Option.some.injEq] at ho
        subst ho
        simp [Region.binds] at hall
        have c6 : a.tmps[6]?.getD undef = .int .i64 t.kind := by rw [← Array.getD_eq_getD_getElem?]; exact hF.cl 1 (by decide) (by decide) (by decide) (by first | exact hall | exact hall.1 | exact hall.2 | exact hall.2.1 | exact hall.2.2 | exact hall.2.2.1 | exact hall.2.2.2)
        have c8 : a.tmps[8]?.getD undef = .string (bs t.text) := by rw [← Array.getD_eq_getD_getElem?]; exact hF.cl 3 (by decide) (by decide) (by decide) (by first | exact hall | exact hall.1 | exact hall.2 | exact hall.2.1 | exact hall.2.2 | exact hall.2.2.1 | exact hall.2.2.2)
        have hpv : d 7 = true := by first | first | exact hall | exact hall.1 | exact hall.2 | exact hall.2.1 | exact hall.2.2 | exact hall.2.2.1 | exact hall.2.2.2 | (exact ha ⟨_, _⟩ (by simp) rfl)
        have hP0 := hF.at2 (j := 2) rfl hi (.inr ⟨7, rfl, hpv⟩)
        obtain ⟨hA, hown⟩ := hP0
        have hown : OwnsS W0.heap.size t.keys (a.tmps.getD 12 undef) w' := hown
        obtain ⟨p2, c2, h12⟩ := hown.slice
        rw [h12] at hown
        have c12 : a.tmps[12]?.getD undef = .slice p2 t.keys.length c2 := by rw [← Array.getD_eq_getD_getElem?]; exact h12
        go_simp
        exact hR _ _ (hF.eff2 (by decide) (by decide) 2 hoo ha rfl hi (.inr ⟨7, rfl, hpv⟩) rfl (by decide) (fun _ x hx => hx) (fun _ => HSA.out _ hA) ⟨p2, c2, rfl, hA, hown⟩)
      · simp only [List.getElem?_toArray, List.getElem?_cons_zero, List.getElem?_cons_succ, Option.some.injEq] at ho
        subst ho
        have hA2 := below_alloc1 w' (.cells #[.int .i64 0, .string ⟨#[]⟩, .slice none 0 0, .slice none 0 0] 25)
        have hFb := FbC.new (W0 := W0) (w' := w')
        go_simp
        exact hR _ _ (hF.free (by decide) hoo ha rfl (by decide) rfl (by decide) (by decide) (by decide) (hF.lastNot (f := 11) (i := 9) (by kernel_rfl) hi) (fun hs => HSK.out _ _ hs hA2) (fun k c hp => PhC.keep hp hA2) (hFb (hF.szC hbW rfl ⟨10, rfl, hF.lastNot (f := 11) (i := 9) (by kernel_rfl) hi⟩)))
      · simp only [List.getElem?_toArray, List.getElem?_cons_zero, List.getElem?_cons_succ, Option.some.injEq] at ho
        subst ho
        simp [Region.binds] at hall
        have hpv : d 8 = true := by first | first | exact hall | exact hall.1 | exact hall.2 | exact hall.2.1 | exact hall.2.2 | exact hall.2.2.1 | exact hall.2.2.2 | (exact ha ⟨_, _⟩ (by simp) rfl)
        have hP0 := hF.at2 (j := 3) rfl hi (.inr ⟨8, rfl, hpv⟩)
        obtain ⟨p2, c2, h13, hA, hown⟩ := hP0
        have h13 : a.tmps.getD 13 undef = .agg #[.int .i64 t.kind, .string (bs t.text), .slice p2 t.keys.length c2, .slice none 0 0] := h13
        have c13 : a.tmps[13]?.getD undef = .agg #[.int .i64 t.kind, .string (bs t.text), .slice p2 t.keys.length c2, .slice none 0 0] := by rw [← Array.getD_eq_getD_getElem?]; exact h13
        obtain ⟨Y, hY, hYW, hYb⟩ := hF.fb hi (by first | exact hall | exact hall.1 | exact hall.2 | exact hall.2.1 | exact hall.2.2)
        have hY : a.tmps.getD 3 undef = .pointer (some ⟨Y, 0, none⟩) := hY
        have c3 : a.tmps[3]?.getD undef = .pointer (some ⟨Y, 0, none⟩) := by rw [← Array.getD_eq_getD_getElem?]; exact hY
        obtain ⟨y0, y1, y2, y3, g0, g1, g2, g3⟩ := box4 hYb
        go_simp
        exact hR undef _ (hF.eff2 (by decide) (by decide) 3 hoo ha rfl hi (.inr ⟨8, rfl, hpv⟩) rfl (by decide) (fun h => absurd rfl h) (fun h => absurd rfl h) ⟨Y, p2, c2, hY, CS.ofStore hbW hA hown hYW hYb⟩)
    intro v wz hcl hP4
    obtain ⟨Y, p2, c2, hY, hC⟩ := hP4
    have hY : v 3 = .pointer (some ⟨Y, 0, none⟩) := hY
    simp only [fillT, List.setIfInBounds_toArray, List.set_cons_succ, List.set_cons_zero, hY]
    go_wp2_with fail
    go_meet
    exact ⟨Y, _, rfl, Lib.hid hC⟩
  case rest =>
    obtain ⟨Y, kv0, rfl, HC0⟩ := hcut
    obtain ⟨pk0, ck0, rfl⟩ := HC0.out.keys.slice
    clear b0 b1 b2 b3
    go_wp2_with fail
    go_loopw [4] (fun s4 wr => ∃ (i : Nat) (ov : Value), s4 = .int .i64 (i : Int) ∧ i ≤ t.items.length ∧ Hid (CS W2 Y t.kind t.text t.keys (t.items.take i) (.slice pk0 t.keys.length ck0) ov wr)) (fun s4 _ => t.items.length - (RowKit.intOf s4).toNat)
    case atStart => exact ⟨0, .slice none 0 0, rfl, Nat.zero_le _, by rw [List.take_zero]; first | exact HC0 | exact Lib.hid (HC0.out.keep (Below.refl _ _).drew)⟩
    case round =>
      obtain ⟨i, ov, rfl, hi, HC⟩ := hrel
      obtain ⟨b0, b1, b2, b3⟩ := (HXB.out.keep HC.out.bel).cells
      obtain ⟨y0, y1, y2, y3, g0, g1, g2, g3⟩ := HC.out.cells
      by_cases hil : i < t.items.length
      · obtain ⟨x, hx⟩ : ∃ x, t.items[i]? = some x := ⟨_, List.getElem?_eq_getElem hil⟩
        have hi1 : (i : Int) < (t.items.length : Int) := by omega
        have dk : decide ((i : Int) < (t.items.length : Int)) = true := decide_eq_true hi1
        have hxb := bulk_mem (List.mem_of_getElem? hx)
        obtain ⟨g, o, kv', iv', rfl, hg, n0, n1, n2, n3, hvd⟩ := HIT.out i x hx
        obtain ⟨pk2, ck2, px, cx, rfl, rfl⟩ := hvd.form
        obtain ⟨W0, hW0⟩ : ∃ W, wr.drew = W := ⟨_, rfl⟩
        have hb0r : Below wr.heap.size wr W0 := by rw [← hW0]; exact (Below.refl _ _).drew
        have HC0' := Lib.hid (HC.out.keep hb0r)
        have HCL : Hid (∀ w', Below W0.heap.size W0 w' → Calls Tryz.prog 18 #[.agg #[.int .i64 x.kind, .string (bs x.text), .slice pk2 x.keys.length ck2, .slice px x.items.length cx]] w' (NewE x w')) := Lib.hid (fun w' hb => IH x _ _ w' ((hvd.keep HC0'.out.bel).keep hb) (by omega))
        have HS : Hid (∀ w', Below W0.heap.size W0 w' → w'.cell? ⟨Y, 3, none⟩ = some ov ∧ w'.frozen? ⟨Y, 3, none⟩ = false) := Lib.hid (fun w' hb => let q := (HC0'.out.keep hb).cells; ⟨q.2.2.2.1, q.2.2.2.2.2.2.2⟩)
        have HLt : Hid (g < W2.heap.size ∧ X < W2.heap.size ∧ W2.heap.size ≤ Y ∧ Y < W0.heap.size) := Lib.hid ⟨hg, by omega, HC.out.new_, cell_it HC0'.out.box⟩
        have HM : Hid (W0.cell? ⟨X, 3, none⟩ = some (.slice (some ⟨g, o, none⟩) t.items.length c) ∧ W0.cell? ⟨g, o + i * 4, none⟩ = some (.int .i64 x.kind) ∧ W0.cell? ⟨g, o + i * 4 + 1, none⟩ = some (.string (bs x.text)) ∧ W0.cell? ⟨g, o + i * 4 + 2, none⟩ = some (.slice pk2 x.keys.length ck2) ∧ W0.cell? ⟨g, o + i * 4 + 3, none⟩ = some (.slice px x.items.length cx)) := Lib.hid ⟨((HXB.out.keep HC0'.out.bel).cells).2.2.2, by rw [HC0'.out.bel.cell (p := ⟨g, _, none⟩) hg]; exact n0, by rw [HC0'.out.bel.cell (p := ⟨g, _, none⟩) hg]; exact n1, by rw [HC0'.out.bel.cell (p := ⟨g, _, none⟩) hg]; exact n2, by rw [HC0'.out.bel.cell (p := ⟨g, _, none⟩) hg]; exact n3⟩
        have hi0 : (0 : Int) ≤ (i : Int) := by omega
        have hil2 : (i : Int).toNat = i := by omega
        have hov := HC.out.its.slice
        have hlt : (t.items.take i).length = i := by rw [List.length_take]; omega
        rw [hlt] at hov
        obtain ⟨po, co, rfl⟩ := hov
        have hHX := HX_of hx
        have hlen2 : (t.items.take i ++ [x]).length = i + 1 := by rw [List.length_append, List.length_take, List.length_singleton]; omega
        clear hx hxb n0 n1 n2 n3 hvd hg hb0r hlt
        go_upto_region 5 with fail
        clear b0 b1 b2 b3 y0 y1 y2 y3 g0 g1 g2 g3
        obtain ⟨SA, hSA⟩ : ∃ S : World → Prop, (fun w' => (w'.cell? ⟨Y, 3, none⟩ = some (.slice po i co) ∧ w'.frozen? ⟨Y, 3, none⟩ = false) ∧ (w'.cell? ⟨X, 3, none⟩ = some (.slice (some ⟨g, o, none⟩) t.items.length c) ∧ w'.cell? ⟨g, o + i * 4, none⟩ = some (.int .i64 x.kind) ∧ w'.cell? ⟨g, o + i * 4 + 1, none⟩ = some (.string (bs x.text)) ∧ w'.cell? ⟨g, o + i * 4 + 2, none⟩ = some (.slice pk2 x.keys.length ck2) ∧ w'.cell? ⟨g, o + i * 4 + 3, none⟩ = some (.slice px x.items.length cx))) = S := ⟨_, rfl⟩
        have HSA : Hid (∀ w', Below W0.heap.size W0 w' → SA w') := Lib.hid (fun w' hb => by
          rw [← hSA]
          obtain ⟨a0, a1, a2, a3, a4⟩ := HM.out
          exact ⟨HS.out w' hb, cell_keepT a0 hb, cell_keepT a1 hb, cell_keepT a2 hb, cell_keepT a3 hb, cell_keepT a4 hb⟩)
        have HSG : Hid (∀ w' c', PhV W0 Y (.slice pk0 t.keys.length ck0 : Value).ownBlock x (t.items.take i) (.slice po i co) 3 c' w' → SA w') := Lib.hid (fun w' c' hp => by
          rw [← hSA]
          obtain ⟨a0, a1, a2, a3, a4⟩ := HM.out
          obtain ⟨l1, l2, l3, l4⟩ := HLt.out
          obtain ⟨q1, q2, q3, q4⟩ := hp
          have hbY : Below (Y + 1) W0 w' := q2
          have e1 : ∀ k o', k < Y + 1 → w'.cell? ⟨k, o', none⟩ = W0.cell? ⟨k, o', none⟩ := fun k o' hk => hbY.cell (p := ⟨k, o', none⟩) hk
          obtain ⟨z1, z2⟩ := HS.out W0 (Below.refl _ _)
          refine ⟨⟨by rw [e1 _ _ (by omega)]; exact z1, by rw [hbY.frozen (p := ⟨Y, 3, none⟩) (by show Y < Y + 1; omega)]; exact z2⟩, by rw [e1 _ _ (by omega)]; exact a0, by rw [e1 _ _ (by omega)]; exact a1, by rw [e1 _ _ (by omega)]; exact a2, by rw [e1 _ _ (by omega)]; exact a3, by rw [e1 _ _ (by omega)]; exact a4⟩)
        have hfol : Tryz.prog.follows .mixedOrders = true := by kernel_rfl
        refine wp_region_rcf hfol [21, 22, 23, 24, 25, 26, 27, 28, 29, 30, 31] [7, 8, 9, 11] 1000000 (fun _ _ => True) 33 rfl (by kernel_rfl) (by kernel_rfl) (by kernel_rfl) (fun iz => match iz with | 0 => .pointer (some ⟨Y, 3, none⟩) | 1 => .slice po i co | 2 => .pointer (some ⟨X, 3, none⟩) | 3 => .slice (some ⟨g, o, none⟩) t.items.length c | 4 => .int .i64 (i : Int) | 5 => .pointer (some ⟨g, o + i * 4, none⟩) | 6 => .agg #[.int .i64 x.kind, .string (bs x.text), .slice pk2 x.keys.length ck2, .slice px x.items.length cx] | 10 => .pointer (some ⟨Y, 3, none⟩) | _ => undef) SA (PhV W0 Y (.slice pk0 t.keys.length ck0 : Value).ownBlock x (t.items.take i) (.slice po i co)) (by rw [hW0]; exact HSA.out _ (Below.refl _ _)) (by rw [hW0]; exact Below.refl _ _) ?_ ?_
        · intro d a w' iq o' ho hi hall hfr hF R' hR
          have hiN : iq < 12 := (Array.getElem?_eq_some_iff.1 ho).1
          have q1 : a.tmps[1]?.getD undef = .pointer (some ⟨X, 0, none⟩) := by rw [← Array.getD_eq_getD_getElem?]; exact hfr 1 (by decide)
          have q3 : a.tmps[3]?.getD undef = .pointer (some ⟨Y, 0, none⟩) := by rw [← Array.getD_eq_getD_getElem?]; exact hfr 3 (by decide)
          have q4 : a.tmps[4]?.getD undef = .int .i64 (i : Int) := by rw [← Array.getD_eq_getD_getElem?]; exact hfr 4 (by decide)
          clear hfr
          have ha := hall
          have hoo := ho
          have hcs : iq = 0 ∨ iq = 1 ∨ iq = 2 ∨ iq = 3 ∨ iq = 4 ∨ iq = 5 ∨ iq = 6 ∨ iq = 7 ∨ iq = 8 ∨ iq = 9 ∨ iq = 10 ∨ iq = 11 := by omega
          clear hiN
          rcases hcs with rfl | rfl | rfl | rfl | rfl | rfl | rfl | rfl | rfl | rfl | rfl | rfl
          · simp only [List.getElem?_toArray, List.getElem?_cons_zero, List.getElem?_cons_succ, Option.some.injEq] at ho
            subst ho
            go_simp
            exact hR _ _ (hF.pure (by decide) hoo ha rfl (by decide) (by decide) (by decide) rfl)
          · simp only [List.getElem?_toArray, List.getElem?_cons_zero, List.getElem?_cons_succ, Option.some.injEq] at ho
            subst ho
            simp [Region.binds] at hall
            have c21 : a.tmps[21]?.getD undef = .pointer (some ⟨Y, 3, none⟩) := by rw [← Array.getD_eq_getD_getElem?]; exact hF.cl 0 (by decide) (by decide) (by decide) (by first | exact hall | exact hall.1 | exact hall.2 | exact hall.2.1 | exact hall.2.2 | exact hall.2.2.1 | exact hall.2.2.2)
            have hS0 := hF.early (f := 12) (i := 1) (by kernel_rfl) hi
            rw [← hSA] at hS0
            obtain ⟨⟨x3, x3f⟩, x4, m0, m1, m2, m3⟩ := hS0
            go_simp
            exact hR _ _ (hF.pure (by decide) hoo ha rfl (by decide) (by decide) (by decide) rfl)
          · simp only [List.getElem?_toArray, List.getElem?_cons_zero, List.getElem?_cons_succ, Option.some.injEq] at ho
            subst ho
            go_simp
            exact hR _ _ (hF.pure (by decide) hoo ha rfl (by decide) (by decide) (by decide) rfl)
          · simp only [List.getElem?_toArray, List.getElem?_cons_zero, List.getElem?_cons_succ, Option.some.injEq] at ho
            subst ho
            simp [Region.binds] at hall
            have c23 : a.tmps[23]?.getD undef = .pointer (some ⟨X, 3, none⟩) := by rw [← Array.getD_eq_getD_getElem?]; exact hF.cl 2 (by decide) (by decide) (by decide) (by first | exact hall | exact hall.1 | exact hall.2 | exact hall.2.1 | exact hall.2.2 | exact hall.2.2.1 | exact hall.2.2.2)
            have hS0 := hF.early (f := 12) (i := 3) (by kernel_rfl) hi
            rw [← hSA] at hS0
            obtain ⟨⟨x3, x3f⟩, x4, m0, m1, m2, m3⟩ := hS0
            go_simp
            exact hR _ _ (hF.pure (by decide) hoo ha rfl (by decide) (by decide) (by decide) rfl)
          · simp only [List.getElem?_toArray, List.getElem?_cons_zero, List.getElem?_cons_succ, Option.some.injEq] at ho
            subst ho
            go_simp
            exact hR _ _ (hF.pure (by decide) hoo ha rfl (by decide) (by decide) (by decide) rfl)
          · simp only [List.getElem?_toArray, List.getElem?_cons_zero, List.getElem?_cons_succ, Option.some.injEq] at ho
            subst ho
            simp [Region.binds] at hall
            have c24 : a.tmps[24]?.getD undef = .slice (some ⟨g, o, none⟩) t.items.length c := by rw [← Array.getD_eq_getD_getElem?]; exact hF.cl 3 (by decide) (by decide) (by decide) (by first | exact hall | exact hall.1 | exact hall.2 | exact hall.2.1 | exact hall.2.2 | exact hall.2.2.1 | exact hall.2.2.2)
            have c25 : a.tmps[25]?.getD undef = .int .i64 (i : Int) := by rw [← Array.getD_eq_getD_getElem?]; exact hF.cl 4 (by decide) (by decide) (by decide) (by first | exact hall | exact hall.1 | exact hall.2 | exact hall.2.1 | exact hall.2.2 | exact hall.2.2.1 | exact hall.2.2.2)
            have hS0 := hF.early (f := 12) (i := 5) (by kernel_rfl) hi
            rw [← hSA] at hS0
            obtain ⟨⟨x3, x3f⟩, x4, m0, m1, m2, m3⟩ := hS0
            go_simp
            exact hR _ _ (hF.pure (by decide) hoo ha rfl (by decide) (by decide) (by decide) rfl)
          · simp only [List.getElem?_toArray, List.getElem?_cons_zero, List.getElem?_cons_succ, Option.some.injEq] at ho
            subst ho
            simp [Region.binds] at hall
            have c26 : a.tmps[26]?.getD undef = .pointer (some ⟨g, o + i * 4, none⟩) := by rw [← Array.getD_eq_getD_getElem?]; exact hF.cl 5 (by decide) (by decide) (by decide) (by first | exact hall | exact hall.1 | exact hall.2 | exact hall.2.1 | exact hall.2.2 | exact hall.2.2.1 | exact hall.2.2.2)
            have hS0 := hF.early (f := 12) (i := 6) (by kernel_rfl) hi
            rw [← hSA] at hS0
            obtain ⟨⟨x3, x3f⟩, x4, m0, m1, m2, m3⟩ := hS0
            go_simp
            exact hR _ _ (hF.pure (by decide) hoo ha rfl (by decide) (by decide) (by decide) rfl)
          · simp only [List.getElem?_toArray, List.getElem?_cons_zero, List.getElem?_cons_succ, Option.some.injEq] at ho
            subst ho
            simp [Region.binds] at hall
            have c27 : a.tmps[27]?.getD undef = .agg #[.int .i64 x.kind, .string (bs x.text), .slice pk2 x.keys.length ck2, .slice px x.items.length cx] := by rw [← Array.getD_eq_getD_getElem?]; exact hF.cl 6 (by decide) (by decide) (by decide) (by first | exact hall | exact hall.1 | exact hall.2 | exact hall.2.1 | exact hall.2.2 | exact hall.2.2.1 | exact hall.2.2.2)
            have hP0 := hF.at2 (j := 0) rfl hi (.inl rfl)
            have hA : Below W0.heap.size W0 w' := hP0
            go_simp
            go_at_call 18
            refine (HCL.out _ hA).mono ?_
            rintro e w5 ⟨⟨kv5, iv5, rfl, hv5⟩, hb5⟩
            have hb6 := below_of_new hA hb5
            exact hR _ _ (hF.eff2 (by decide) (by decide) 0 hoo ha rfl hi (.inl rfl) rfl (by decide) (fun _ _ _ => trivial) (fun _ => HSA.out _ hb6) ⟨kv5, iv5, rfl, hv5.mono (fun q hq _ => Nat.le_trans hA.size hq), hb6⟩)
          · simp only [List.getElem?_toArray, List.getElem?_cons_zero, List.getElem?_cons_succ, Option.some.injEq] at ho
            subst ho
            simp [Region.binds] at hall
            have hpv : d 7 = true := by first | first | exact hall | exact hall.1 | exact hall.2 | exact hall.2.1 | exact hall.2.2 | exact hall.2.2.1 | exact hall.2.2.2 | (exact ha ⟨_, _⟩ (by simp) rfl)
            have hP0 := hF.at2 (j := 1) rfl hi (.inr ⟨7, rfl, hpv⟩)
            obtain ⟨kv5, iv5, hc5, hv5, hb5⟩ := hP0
            have hc5 : a.tmps.getD 28 undef = vv x kv5 iv5 := hc5
            have c28 : a.tmps[28]?.getD undef = .agg #[.int .i64 x.kind, .string (bs x.text), kv5, iv5] := by rw [← Array.getD_eq_getD_getElem?]; exact hc5
            have hb6 := fun ob => below_of_new hb5 (below_alloc1 w' ob)
            go_simp
            exact hR _ _ (hF.eff2 (by decide) (by decide) 1 hoo ha rfl hi (.inr ⟨7, rfl, hpv⟩) rfl (by decide) (fun _ _ _ => trivial) (fun _ => HSA.out _ (hb6 _)) ⟨w', kv5, iv5, hv5, hb5, rfl, rfl⟩)
          · simp only [List.getElem?_toArray, List.getElem?_cons_zero, List.getElem?_cons_succ, Option.some.injEq] at ho
            subst ho
            simp [Region.binds] at hall
            have c22 : a.tmps[22]?.getD undef = .slice po i co := by rw [← Array.getD_eq_getD_getElem?]; exact hF.cl 1 (by decide) (by decide) (by decide) (by first | exact hall | exact hall.1 | exact hall.2 | exact hall.2.1 | exact hall.2.2 | exact hall.2.2.1 | exact hall.2.2.2)
            have hpv : d 8 = true := by first | first | exact hall | exact hall.1 | exact hall.2 | exact hall.2.1 | exact hall.2.2 | exact hall.2.2.1 | exact hall.2.2.2 | (exact ha ⟨_, _⟩ (by simp) rfl)
            have hP0 := hF.at2 (j := 2) rfl hi (.inr ⟨8, rfl, hpv⟩)
            have c22' : a.tmps.getD 22 undef = .slice po i co := by rw [Array.getD_eq_getD_getElem?]; exact c22
            exact PhV.app (.tmp 22) (.tmp 29) rfl HC0'.out hP0 c22' rfl (by rw [List.length_take]; omega) (fun v' w2 hp3 => hR _ _ (hF.eff2 (by decide) (by decide) 2 hoo ha rfl hi (.inr ⟨8, rfl, hpv⟩) rfl (by decide) (fun _ _ _ => trivial) (fun _ => HSG.out _ _ hp3) hp3))
          · simp only [List.getElem?_toArray, List.getElem?_cons_zero, List.getElem?_cons_succ, Option.some.injEq] at ho
            subst ho
            go_simp
            exact hR _ _ (hF.pure (by decide) hoo ha rfl (by decide) (by decide) (by decide) rfl)
          · simp only [List.getElem?_toArray, List.getElem?_cons_zero, List.getElem?_cons_succ, Option.some.injEq] at ho
            subst ho
            simp [Region.binds] at hall
            have c31 : a.tmps[31]?.getD undef = .pointer (some ⟨Y, 3, none⟩) := by rw [← Array.getD_eq_getD_getElem?]; exact hF.cl 10 (by decide) (by decide) (by decide) (by first | exact hall | exact hall.1 | exact hall.2 | exact hall.2.1 | exact hall.2.2 | exact hall.2.2.1 | exact hall.2.2.2)
            have hpv : d 9 = true := by first | first | exact hall | exact hall.1 | exact hall.2 | exact hall.2.1 | exact hall.2.2 | exact hall.2.2.1 | exact hall.2.2.2 | (exact ha ⟨_, _⟩ (by simp) rfl)
            have hP0 := hF.at2 (j := 3) rfl hi (.inr ⟨9, rfl, hpv⟩)
            have hP3 : PhV W0 Y (.slice pk0 t.keys.length ck0 : Value).ownBlock x (t.items.take i) (.slice po i co) 3 (a.tmps.getD 30 undef) w' := hP0
            have hS0 := hF.st hi
            rw [← hSA] at hS0
            obtain ⟨⟨x3, x3f⟩, _⟩ := hS0
            obtain ⟨pz, cz, hz⟩ := hP3.1.slice
            rw [hlen2] at hz
            rw [hz] at hP3
            have c30 : a.tmps[30]?.getD undef = .slice pz (i + 1) cz := by rw [← Array.getD_eq_getD_getElem?]; exact hz
            go_simp
            exact hR undef _ (hF.eff2 (by decide) (by decide) 3 hoo ha rfl hi (.inr ⟨9, rfl, hpv⟩) rfl (by decide) (fun _ _ _ => trivial) (fun h => absurd rfl h) ⟨_, _, hP3, rfl⟩)
        intro v wz hcl hP4
        obtain ⟨ov2, HC2⟩ := PhV.fin HC0'.out hP4
        have HC2 := Lib.hid HC2
        have HTK := Lib.hid (take_one hHX.out)
        clear hcl hP4 HSG HSA hSA HM HLt HS HCL HC0' hW0 HC
        simp only [fillT, List.setIfInBounds_toArray, List.set_cons_succ, List.set_cons_zero]
        go_wp2_with fail
        go_roundw
        case rel => exact ⟨i + 1, ov2, by go_num, by omega, by rw [HTK.out]; first | exact HC2 | exact Lib.hid (HC2.out.keep (Below.refl _ _).drew)⟩
        case measure => simp [RowKit.intOf]; omega
      · have dk : decide ((i : Int) < (t.items.length : Int)) = false := decide_eq_false (by omega)
        obtain rfl : i = t.items.length := by omega
        obtain ⟨po, co, hov⟩ := HC.out.its.slice
        rw [List.take_length] at hov
        subst hov
        have HP : Hid (NewE t w (.returned (vv t (.slice pk0 t.keys.length ck0) (.slice po t.items.length co))) (putV wr R t.kind t.text (.slice pk0 t.keys.length ck0) (.slice po t.items.length co))) := Lib.hid (by
          have hc := HC.out
          rw [List.take_length] at hc
          refine ⟨⟨_, _, rfl, ?_⟩, below_putV (below_of_new HB2.out hc.bel) (by rw [hX]; omega)⟩
          have h1 := hc.put (R := R) hR2
          rw [VT.eta] at h1
          exact h1.mono (fun q hq _ => Nat.le_trans HB2.out.size hq))
        have HRf : Hid ((putV wr R t.kind t.text (.slice pk0 t.keys.length ck0) (.slice po t.items.length co)).heap[R]? = some (.cells #[.int .i64 t.kind, .string (bs t.text), (.slice pk0 t.keys.length ck0), (.slice po t.items.length co)] 25)) := Lib.hid (putV_cells ((HC.out.bel.block R hR2).trans HRB.out))
        obtain ⟨r0, r1, r2, r3, f0, f1, f2, f3⟩ := box4 ((HC.out.bel.block R hR2).trans HRB.out)
        go_wp2_with fail
        obtain ⟨WF, hWF⟩ : ∃ W, putV wr R t.kind t.text (.slice pk0 t.keys.length ck0) (.slice po t.items.length co) = W := ⟨_, rfl⟩
        rw [hWF] at HP HRf
        have hWF' : (((wr.setCell ⟨R, 0, none⟩ (.int .i64 t.kind)).setCell ⟨R, 1, none⟩ (.string (bs t.text))).setCell ⟨R, 2, none⟩ (.slice pk0 t.keys.length ck0)).setCell ⟨R, 3, none⟩ (.slice po t.items.length co) = WF := hWF
        rw [hWF']
        clear hWF hWF' r0 r1 r2 r3 f0 f1 f2 f3
        obtain ⟨d0, d1, d2, d3, _⟩ := box4 HRf.out
        refine bodyPost_ret (v := vv t (.slice pk0 t.keys.length ck0) (.slice po t.items.length co)) ?_ rfl HP.out
        simp [results, Tryz.results18, go_sem, d0, d1, d2, d3, vv]
theorem rclone_any : ∀ n, RCl n
  | 0 => fun _ _ _ _ h => h.elim
  | n + 1 => rclone_step n (rclone_any n)
def REq (n : Nat) : Prop := ∀ (t : VT) (kv iv kv2 iv2 : Value) (w : World), VD w n t kv iv → VD w n t kv2 iv2 → t.bulk ≤ 1073741824 → Calls Tryz.prog 27 #[vv t kv iv, vv t kv2 iv2] w fun e w' => e = .returned (.bool true) ∧ Below w.heap.size w w'
set_option maxRecDepth 100000 in
set_option maxHeartbeats 4000000 in
theorem requal_step (n : Nat) (IH : REq n) : REq (n + 1) := by
  intro t kv iv kv2 iv2 w h h' hbk
  obtain ⟨m', hm, ⟨pk, ck, rfl, hck, hlies⟩, p, c, rfl, hlc, hit⟩ := h.parts
  obtain rfl : n = m' := by omega
  obtain ⟨m2, hm2, ⟨pk2, ck2, rfl, hck2, hlies2⟩, p2, c2, rfl, hlc2, hit2⟩ := h'.parts
  obtain rfl : n = m2 := by omega
  obtain ⟨X, hX⟩ : ∃ X, w.heap.size = X := ⟨_, rfl⟩
  obtain ⟨W1, hW1⟩ : ∃ W, w.alloc (.cells #[.int .i64 t.kind, .string (bs t.text), .slice pk t.keys.length ck, .slice p t.items.length c] 25) = W := ⟨_, rfl⟩
  obtain ⟨X2, hX2⟩ : ∃ X2, W1.heap.size = X2 := ⟨_, rfl⟩
  obtain ⟨W2, hW2⟩ : ∃ W, W1.alloc (.cells #[.int .i64 t.kind, .string (bs t.text), .slice pk2 t.keys.length ck2, .slice p2 t.items.length c2] 25) = W := ⟨_, rfl⟩
  have hB1 : Below w.heap.size w W1 := by rw [← hW1]; exact below_alloc1 _ _
  have hB12 : Below W1.heap.size W1 W2 := by rw [← hW2]; exact below_alloc1 _ _
  have HB2 := Lib.hid (below_of_new hB1 hB12)
  have HXB : Hid (VBox W2 X t (.slice pk t.keys.length ck) (.slice p t.items.length c)) := Lib.hid (VBox.keep (by rw [← hW1, ← hX]; exact VBox.new w t _ _) hB12)
  have HXB2 : Hid (VBox W2 X2 t (.slice pk2 t.keys.length ck2) (.slice p2 t.items.length c2)) := Lib.hid (by rw [← hW2, ← hX2]; exact VBox.new W1 t _ _)
  have HIT := Lib.hid (hit.keep HB2.out)
  have HIT2 := Lib.hid (hit2.keep HB2.out)
  have HSL := Lib.hid (hlies.keep HB2.out)
  have HSL2 := Lib.hid (hlies2.keep HB2.out)
  have hb0 : t.bulk = t.text.length + (totS t.keys + t.keys.length) + bulks t.items + 1 := by cases t; rw [VT.bulk]; rfl
  have hlen := len_le_bulks t.items
  have ek : (t.kind != t.kind) = false := by simp
  have et : ((bs t.text).toList != (bs t.text).toList) = false := by simp
  have el : ((t.keys.length : Int) != (t.keys.length : Int)) = false := by simp
  have ei : ((t.items.length : Int) != (t.items.length : Int)) = false := by simp
  unfold vv
  clear hit hlies h hm hB1 hB12 hit2 hlies2 h' hm2
  go_enter Tryz.func27, Tryz.ntmps27
  go_upto_region 1 with fail
  clear hW1 hW2 hX2
  obtain ⟨b0, b1, b2, b3⟩ := HXB.out.cells
  obtain ⟨d0, d1, d2, d3⟩ := HXB2.out.cells
  go_wp2_with fail
  clear b0 b1 b2 b3 d0 d1 d2 d3
  go_loopw [5] (fun s5 wr => ∃ i : Nat, s5 = .int .i64 (i : Int) ∧ i ≤ t.keys.length ∧ Hid (Below W2.heap.size W2 wr)) (fun s5 _ => t.keys.length - (RowKit.intOf s5).toNat)
  case atStart => exact ⟨0, rfl, Nat.zero_le _, Lib.hid (by first | exact Below.refl _ _ | exact (Below.refl _ _).drew)⟩
  case round =>
    obtain ⟨i, rfl, hi, HBr⟩ := hrel
    obtain ⟨b0, b1, b2, b3⟩ := (HXB.out.keep HBr.out).cells
    obtain ⟨d0, d1, d2, d3⟩ := (HXB2.out.keep HBr.out).cells
    by_cases hil : i < t.keys.length
    · obtain ⟨x, hx⟩ : ∃ x, t.keys[i]? = some x := ⟨_, List.getElem?_eq_getElem hil⟩
      have hi1 : (i : Int) < (t.keys.length : Int) := by omega
      have dk : decide ((i : Int) < (t.keys.length : Int)) = true := decide_eq_true hi1
      obtain ⟨g, o, rfl, cx⟩ := (HSL.out.keep HBr.out).at_ hx
      obtain ⟨g2, o2, rfl, cx2⟩ := (HSL2.out.keep HBr.out).at_ hx
      have ex : ((bs x).toList != (bs x).toList) = false := by simp
      have hi0 : (0 : Int) ≤ (i : Int) := by omega
      clear hx
      go_upto_region 6 with fail
      go_region
      all_goals
        go_wp2_with fail
        go_roundw
        case rel => exact ⟨i + 1, by go_num, by omega, by first | exact HBr | exact Lib.hid (below_drewN HBr.out _)⟩
        case measure => simp [RowKit.intOf]; omega
    · have dk : decide ((i : Int) < (t.keys.length : Int)) = false := decide_eq_false (by omega)
      go_wp2_with fail
      clear b0 b1 b2 b3 d0 d1 d2 d3
      go_loopw [6, 7] (fun s6 s7 wq => ∃ i : Nat, s6 = .int .i64 (i : Int) ∧ i ≤ t.items.length ∧ Hid (Below W2.heap.size W2 wq)) (fun s6 _ _ => t.items.length - (RowKit.intOf s6).toNat)
      case atStart => exact ⟨0, rfl, Nat.zero_le _, HBr⟩
      case round =>
        obtain ⟨j, rfl, hj, HBq⟩ := hrel
        obtain ⟨b0, b1, b2, b3⟩ := (HXB.out.keep HBq.out).cells
        obtain ⟨d0, d1, d2, d3⟩ := (HXB2.out.keep HBq.out).cells
        by_cases hjl : j < t.items.length
        · obtain ⟨x, hx⟩ : ∃ x, t.items[j]? = some x := ⟨_, List.getElem?_eq_getElem hjl⟩
          have hj1 : (j : Int) < (t.items.length : Int) := by omega
          have dk2 : decide ((j : Int) < (t.items.length : Int)) = true := decide_eq_true hj1
          have hxb := bulk_mem (List.mem_of_getElem? hx)
          obtain ⟨g, o, kv', iv', rfl, hg, n0, n1, n2, n3, hvd⟩ := HIT.out j x hx
          obtain ⟨pk3, ck3, px, cx, rfl, rfl⟩ := hvd.form
          obtain ⟨g2, o2, kv'', iv'', rfl, hg2, z0, z1, z2, z3, hvd2⟩ := HIT2.out j x hx
          obtain ⟨pk4, ck4, px2, cx2, rfl, rfl⟩ := hvd2.form
          have m0 : wr.cell? ⟨g, o + j * 4, none⟩ = some (.int .i64 x.kind) := by rw [HBq.out.cell (p := ⟨g, _, none⟩) hg]; exact n0
          have m1 : wr.cell? ⟨g, o + j * 4 + 1, none⟩ = some (.string (bs x.text)) := by rw [HBq.out.cell (p := ⟨g, _, none⟩) hg]; exact n1
          have m2 : wr.cell? ⟨g, o + j * 4 + 2, none⟩ = some (.slice pk3 x.keys.length ck3) := by rw [HBq.out.cell (p := ⟨g, _, none⟩) hg]; exact n2
          have m3 : wr.cell? ⟨g, o + j * 4 + 3, none⟩ = some (.slice px x.items.length cx) := by rw [HBq.out.cell (p := ⟨g, _, none⟩) hg]; exact n3
          have q0 : wr.cell? ⟨g2, o2 + j * 4, none⟩ = some (.int .i64 x.kind) := by rw [HBq.out.cell (p := ⟨g2, _, none⟩) hg2]; exact z0
          have q1 : wr.cell? ⟨g2, o2 + j * 4 + 1, none⟩ = some (.string (bs x.text)) := by rw [HBq.out.cell (p := ⟨g2, _, none⟩) hg2]; exact z1
          have q2 : wr.cell? ⟨g2, o2 + j * 4 + 2, none⟩ = some (.slice pk4 x.keys.length ck4) := by rw [HBq.out.cell (p := ⟨g2, _, none⟩) hg2]; exact z2
          have q3 : wr.cell? ⟨g2, o2 + j * 4 + 3, none⟩ = some (.slice px2 x.items.length cx2) := by rw [HBq.out.cell (p := ⟨g2, _, none⟩) hg2]; exact z3
          have HC := Lib.hid (IH x _ _ _ _ wr.drew ((hvd.keep HBq.out).keep (Below.refl _ _).drew) ((hvd2.keep HBq.out).keep (Below.refl _ _).drew) (by omega))
          unfold vv at HC
          have hj0 : (0 : Int) ≤ (j : Int) := by omega
          clear hx hxb n0 n1 n2 n3 z0 z1 z2 z3 hvd hvd2 hg hg2
          go_upto_region 11 with fail
          go_region_with (go_at_call 27; (refine HC.out.mono ?_); rintro e w6 ⟨rfl, hb6⟩)
          all_goals
            have HB6 := Lib.hid (below_of_new HBq.out (below_of_new (Below.refl _ _).drew hb6))
            clear hb6 b0 b1 b2 b3 d0 d1 d2 d3 m0 m1 m2 m3 q0 q1 q2 q3
            go_wp2_with fail
            go_roundw
            case rel => exact ⟨j + 1, by go_num, by omega, by first | exact HB6 | exact Lib.hid (below_drewN HB6.out _)⟩
            case measure => simp [RowKit.intOf]; omega
        · have dk2 : decide ((j : Int) < (t.items.length : Int)) = false := decide_eq_false (by omega)
          have HB6 := Lib.hid (below_of_new HB2.out HBq.out)
          go_wp2_with fail
          go_ret
          exact ⟨rfl, by first | exact HB6.out | (rw [← hX]; exact HB6.out)⟩
theorem requal_any : ∀ n, REq n
  | 0 => fun _ _ _ _ _ _ h _ _ => h.elim
  | n + 1 => requal_step n (requal_any n)
end Go.Proofs.YtnnlpkbopeiefaaGreatDoor

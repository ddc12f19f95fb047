import Derived.Test.YtnnlpkbopeiefaaGreatDoorNumB
import Derived.Test.YtnnlpkbopeiefaaGreatDoorSm
import Derived.Deep.DeepCutAuto
import Derived.Test.YtnnlpkbopeiefaaGreatDoorProg
/-! PLAIN: values as trees. No program. -/
namespace Go.Proofs.YtnnlpkbopeiefaaGreatDoor
set_option linter.unusedSimpArgs false
set_option linter.unusedVariables false
abbrev Stp := List UInt8
inductive VT where
  | mk (kind : Int) (text : Stp) (keys : List Stp) (items : List VT)
def VT.kind : VT → Int | .mk k _ _ _ => k
def VT.text : VT → Stp | .mk _ s _ _ => s
def VT.keys : VT → List Stp | .mk _ _ ks _ => ks
def VT.items : VT → List VT | .mk _ _ _ l => l
theorem VT.eta (t : VT) : VT.mk t.kind t.text t.keys t.items = t := by cases t; rfl
theorem VT.ind {P : VT → Prop} (h : ∀ k s ks l, (∀ x ∈ l, P x) → P (.mk k s ks l)) (t : VT) : P t := by
  match t with
  | .mk k s ks l => exact h k s ks l (fun x hx => VT.ind h x)
termination_by SizeOf.sizeOf t
decreasing_by
  have := List.sizeOf_lt_of_mem hx
  simp
  omega
def totS (l : List Stp) : Nat := (l.map List.length).sum
theorem totS_cons (y : Stp) (l : List Stp) : totS (y :: l) = y.length + totS l := rfl
theorem totS_mem {l : List Stp} {x : Stp} (h : x ∈ l) : x.length ≤ totS l := by
  induction l with
  | nil => cases h
  | cons y l ih =>
    rw [totS_cons]
    rcases List.mem_cons.1 h with rfl | h
    · omega
    · have := ih h; omega
/- How many nodes; how deep. -/
mutual
def VT.size : VT → Nat
  | .mk _ _ _ l => sizes l + 1
def sizes : List VT → Nat
  | [] => 0
  | x :: l => x.size + sizes l
end
mutual
def VT.depth : VT → Nat
  | .mk _ _ _ l => depths l + 1
def depths : List VT → Nat
  | [] => 0
  | x :: l => max x.depth (depths l)
end
/- All that is in it: texts, keys, nodes. -/
mutual
def VT.bulk : VT → Nat
  | .mk _ s ks l => s.length + (totS ks + ks.length) + bulks l + 1
def bulks : List VT → Nat
  | [] => 0
  | x :: l => x.bulk + bulks l
end
/- A test of each node. -/
mutual
def everyB (p : VT → Bool) : VT → Bool
  | .mk k s ks l => p (.mk k s ks l) && everyL p l
def everyL (p : VT → Bool) : List VT → Bool
  | [] => true
  | x :: l => everyB p x && everyL p l
end
/- scarflaw06's few. -/
mutual
def fewM : VT → Int → Nat → Int
  | .mk _ _ ks l, left, d => if 60 < d then -1 else fewL l (left - 1 - (ks.length : Int)) (d + 1)
def fewL : List VT → Int → Nat → Int
  | [], left, _ => left
  | x :: l, left, d => if 0 ≤ left then fewL l (fewM x left d) d else left
end
/- scarflaw06's short. -/
mutual
def shortB : VT → Bool
  | .mk _ s ks l => decide (s.length ≤ 2048) && ks.all (fun k => decide (k.length ≤ 1024)) && shortL l
def shortL : List VT → Bool
  | [] => true
  | x :: l => shortB x && shortL l
end
def FewB (t : VT) (most : Int) : Bool := decide (0 ≤ fewM t most 0) && shortB t
theorem sizes_eq (l : List VT) : sizes l = (l.map VT.size).sum := by
  induction l with
  | nil => rfl
  | cons x l ih => rw [sizes, ih]; rfl
theorem bulks_eq (l : List VT) : bulks l = (l.map VT.bulk).sum := by
  induction l with
  | nil => rfl
  | cons x l ih => rw [bulks, ih]; rfl
theorem everyL_eq (p : VT → Bool) (l : List VT) : everyL p l = l.all (everyB p) := by
  induction l with
  | nil => rfl
  | cons x l ih => rw [everyL, ih]; rfl
theorem sizes_app (a b : List VT) : sizes (a ++ b) = sizes a + sizes b := by simp [sizes_eq]
theorem bulks_app (a b : List VT) : bulks (a ++ b) = bulks a + bulks b := by simp [bulks_eq]
theorem depths_app (a b : List VT) : depths (a ++ b) = max (depths a) (depths b) := by
  induction a with
  | nil => simp [depths]
  | cons x a ih => rw [List.cons_append, depths, depths, ih]; omega
theorem size_pos (t : VT) : 0 < t.size := by cases t; rw [VT.size]; omega
theorem size_le_bulk (t : VT) : t.size ≤ t.bulk := by
  induction t using VT.ind with
  | h k s ks l ih =>
    rw [VT.size, VT.bulk]
    have : sizes l ≤ bulks l := by
      clear k s ks
      induction l with
      | nil => exact Nat.le_refl _
      | cons x l ihl =>
        rw [sizes, bulks]
        have h1 := ih x List.mem_cons_self
        have h2 := ihl (fun y hy => ih y (List.mem_cons_of_mem _ hy))
        omega
    omega
theorem sizes_le_bulks (l : List VT) : sizes l ≤ bulks l := by
  induction l with
  | nil => exact Nat.le_refl _
  | cons x l ih => rw [sizes, bulks]; have := size_le_bulk x; omega
theorem depth_le_size (t : VT) : t.depth ≤ t.size := by
  induction t using VT.ind with
  | h k s ks l ih =>
    rw [VT.size, VT.depth]
    have : depths l ≤ sizes l := by
      clear k s ks
      induction l with
      | nil => exact Nat.le_refl _
      | cons x l ihl =>
        rw [sizes, depths]
        have h1 := ih x List.mem_cons_self
        have h2 := ihl (fun y hy => ih y (List.mem_cons_of_mem _ hy))
        omega
    omega
theorem depths_le_bulks (l : List VT) : depths l ≤ bulks l := by
  induction l with
  | nil => exact Nat.le_refl _
  | cons x l ih => rw [depths, bulks]; have := depth_le_size x; have := size_le_bulk x; omega
theorem len_le_bulks (l : List VT) : l.length ≤ bulks l := by
  induction l with
  | nil => exact Nat.le_refl _
  | cons x l ih => rw [bulks, List.length_cons]; have := size_pos x; have := size_le_bulk x; omega
theorem bulk_mem {l : List VT} {x : VT} (h : x ∈ l) : x.bulk ≤ bulks l := by
  induction l with
  | nil => cases h
  | cons y l ih =>
    rw [bulks]
    rcases List.mem_cons.1 h with rfl | h
    · omega
    · have := ih h; omega
theorem depth_mem {l : List VT} {x : VT} (h : x ∈ l) : x.depth ≤ depths l := by
  induction l with
  | nil => cases h
  | cons y l ih =>
    rw [depths]
    rcases List.mem_cons.1 h with rfl | h
    · omega
    · have := ih h; omega
/-- What few leaves is what there was, but for each node and key. -/
theorem fewM_le (t : VT) : ∀ (left : Int) (d : Nat), 0 ≤ left → fewM t left d ≤ left ∧ (0 ≤ fewM t left d → fewM t left d + (t.size : Int) ≤ left) ∧ -1 - (t.bulk : Int) ≤ fewM t left d := by
  induction t using VT.ind with
  | h k s ks l ih =>
    intro left d h0
    rw [fewM, VT.size, VT.bulk]
    have key : ∀ (l : List VT), (∀ x ∈ l, ∀ (left : Int) (d : Nat), 0 ≤ left → fewM x left d ≤ left ∧ (0 ≤ fewM x left d → fewM x left d + (x.size : Int) ≤ left) ∧ -1 - (x.bulk : Int) ≤ fewM x left d) → ∀ (left : Int) (d : Nat), fewL l left d ≤ left ∧ (0 ≤ fewL l left d → fewL l left d + (sizes l : Int) ≤ left) ∧ (if 0 ≤ left then -1 - (bulks l : Int) ≤ fewL l left d else fewL l left d = left) := by
      clear ih k s ks
      intro l
      induction l with
      | nil => intro ih left d; rw [fewL, sizes, bulks]; refine ⟨Int.le_refl _, fun _ => by omega, ?_⟩; split <;> omega
      | cons x l ihl =>
        intro ih left d
        rw [fewL, sizes, bulks]
        by_cases h : 0 ≤ left
        · rw [if_pos h, if_pos h]
          obtain ⟨a1, a2, a3⟩ := ih x List.mem_cons_self left d h
          obtain ⟨b1, b2, b3⟩ := ihl (fun y hy => ih y (List.mem_cons_of_mem _ hy)) (fewM x left d) d
          refine ⟨by omega, fun h2 => ?_, ?_⟩
          · have := b2 h2
            have h4 : 0 ≤ fewM x left d := by omega
            have := a2 h4
            omega
          · split at b3 <;> omega
        · rw [if_neg h, if_neg h]
          exact ⟨Int.le_refl _, fun h2 => absurd h2 h, rfl⟩
    split
    · omega
    · obtain ⟨b1, b2, b3⟩ := key l ih (left - 1 - (ks.length : Int)) (d + 1)
      refine ⟨by omega, fun h2 => ?_, ?_⟩
      · have := b2 h2
        omega
      · split at b3 <;> omega
end Go.Proofs.YtnnlpkbopeiefaaGreatDoor
/-! Values as trees in memory. -/
namespace Go.Proofs.YtnnlpkbopeiefaaGreatDoor
set_option linter.unusedSimpArgs false
set_option linter.unusedVariables false
open Go.RowKit
/-- Where a row of texts lies. -/
def SLies (w : World) (p : Option Addr) (l : List Stp) : Prop := l = [] ∨ ∃ g o, p = some ⟨g, o, none⟩ ∧ g < w.heap.size ∧ ∀ (j : Nat) (x : Stp), l[j]? = some x → w.cell? ⟨g, o + j, none⟩ = some (.string (bs x))
theorem SLies.keep {w w' : World} {p : Option Addr} {l : List Stp} (h : SLies w p l) (hb : Below w.heap.size w w') : SLies w' p l := by
  rcases h with h | ⟨g, o, h2, h3, h4⟩
  · exact .inl h
  · exact .inr ⟨g, o, h2, Nat.lt_of_lt_of_le h3 hb.size, fun j x hx => by rw [hb.cell (p := ⟨g, o + j, none⟩) h3]; exact h4 j x hx⟩
theorem SLies.at_ {w : World} {p : Option Addr} {l : List Stp} (h : SLies w p l) {j : Nat} {x : Stp} (hx : l[j]? = some x) : ∃ g o, p = some ⟨g, o, none⟩ ∧ w.cell? ⟨g, o + j, none⟩ = some (.string (bs x)) := by
  rcases h with h | ⟨g, o, h2, h3, h4⟩
  · rw [h] at hx; simp at hx
  · exact ⟨g, o, h2, h4 j x hx⟩
/-- A value that reads as a row of texts. -/
def SV (w : World) (v : Value) (l : List Stp) : Prop := ∃ p c, v = .slice p l.length c ∧ l.length ≤ c ∧ SLies w p l
theorem SV.keep {w w' : World} {v : Value} {l : List Stp} (h : SV w v l) (hb : Below w.heap.size w w') : SV w' v l := by
  obtain ⟨p, c, h1, h2, h3⟩ := h
  exact ⟨p, c, h1, h2, h3.keep hb⟩
/-- What a value is, by its keys and items in memory: read within n levels. -/
def VD (w : World) : Nat → VT → Value → Value → Prop
  | 0, _, _, _ => False
  | n + 1, t, kv, iv => SV w kv t.keys ∧ ∃ p c, iv = .slice p t.items.length c ∧ t.items.length ≤ c ∧ (t.items = [] ∨ ∃ g o, p = some ⟨g, o, none⟩ ∧ g < w.heap.size ∧ ∀ (j : Nat) (x : VT), t.items[j]? = some x → ∃ kv' iv', w.cell? ⟨g, o + j * 4, none⟩ = some (.int .i64 x.kind) ∧ w.cell? ⟨g, o + j * 4 + 1, none⟩ = some (.string (bs x.text)) ∧ w.cell? ⟨g, o + j * 4 + 2, none⟩ = some kv' ∧ w.cell? ⟨g, o + j * 4 + 3, none⟩ = some iv' ∧ VD w n x kv' iv')
def vv (t : VT) (kv iv : Value) : Value := .agg #[.int .i64 t.kind, .string (bs t.text), kv, iv]
theorem VD.keep {w w' : World} (hb : Below w.heap.size w w') : ∀ {n : Nat} {t : VT} {kv iv : Value}, VD w n t kv iv → VD w' n t kv iv
  | 0, _, _, _, h => h
  | n + 1, t, kv, iv, h => by
    obtain ⟨h1, p, c, h2, h3, h4⟩ := h
    refine ⟨h1.keep hb, p, c, h2, h3, ?_⟩
    rcases h4 with h4 | ⟨g, o, h4, h5, h6⟩
    · exact .inl h4
    · refine .inr ⟨g, o, h4, Nat.lt_of_lt_of_le h5 hb.size, fun j x hx => ?_⟩
      obtain ⟨kv', iv', e0, e1, e2, e3, e4⟩ := h6 j x hx
      exact ⟨kv', iv', by rw [hb.cell (p := ⟨g, _, none⟩) h5]; exact e0, by rw [hb.cell (p := ⟨g, _, none⟩) h5]; exact e1, by rw [hb.cell (p := ⟨g, _, none⟩) h5]; exact e2, by rw [hb.cell (p := ⟨g, _, none⟩) h5]; exact e3, VD.keep hb e4⟩
theorem VD.more {w : World} : ∀ {n : Nat} {t : VT} {kv iv : Value}, VD w n t kv iv → ∀ m, VD w (n + m) t kv iv
  | 0, _, _, _, h, _ => h.elim
  | n + 1, t, kv, iv, h, m => by
    obtain ⟨h1, p, c, h2, h3, h4⟩ := h
    rw [Nat.add_right_comm]
    refine ⟨h1, p, c, h2, h3, ?_⟩
    rcases h4 with h4 | ⟨g, o, h4, h5, h6⟩
    · exact .inl h4
    · refine .inr ⟨g, o, h4, h5, fun j x hx => ?_⟩
      obtain ⟨kv', iv', e0, e1, e2, e3, e4⟩ := h6 j x hx
      exact ⟨kv', iv', e0, e1, e2, e3, VD.more e4 m⟩
/-- The items of a value in memory. -/
def Items (w : World) (m : Nat) (p : Option Addr) (l : List VT) : Prop := ∀ (j : Nat) (x : VT), l[j]? = some x → ∃ g o kv' iv', p = some ⟨g, o, none⟩ ∧ g < w.heap.size ∧ w.cell? ⟨g, o + j * 4, none⟩ = some (.int .i64 x.kind) ∧ w.cell? ⟨g, o + j * 4 + 1, none⟩ = some (.string (bs x.text)) ∧ w.cell? ⟨g, o + j * 4 + 2, none⟩ = some kv' ∧ w.cell? ⟨g, o + j * 4 + 3, none⟩ = some iv' ∧ VD w m x kv' iv'
theorem Items.keep {w w' : World} {m : Nat} {p : Option Addr} {l : List VT} (h : Items w m p l) (hb : Below w.heap.size w w') : Items w' m p l := by
  intro j x hx
  obtain ⟨g, o, kv, iv, e0, e1, e2, e3, e4, e5, e6⟩ := h j x hx
  exact ⟨g, o, kv, iv, e0, Nat.lt_of_lt_of_le e1 hb.size, by rw [hb.cell (p := ⟨g, _, none⟩) e1]; exact e2, by rw [hb.cell (p := ⟨g, _, none⟩) e1]; exact e3, by rw [hb.cell (p := ⟨g, _, none⟩) e1]; exact e4, by rw [hb.cell (p := ⟨g, _, none⟩) e1]; exact e5, e6.keep hb⟩
theorem VD.parts {w : World} {n : Nat} {t : VT} {kv iv : Value} (h : VD w n t kv iv) : ∃ m, n = m + 1 ∧ SV w kv t.keys ∧ ∃ p c, iv = .slice p t.items.length c ∧ t.items.length ≤ c ∧ Items w m p t.items := by
  cases n with
  | zero => exact h.elim
  | succ m =>
    obtain ⟨h1, p, c, h2, h3, h4⟩ := h
    refine ⟨m, rfl, h1, p, c, h2, h3, fun j x hx => ?_⟩
    rcases h4 with h4 | ⟨g, o, h4, h5, h6⟩
    · rw [h4] at hx; simp at hx
    · obtain ⟨kv', iv', e⟩ := h6 j x hx
      exact ⟨g, o, kv', iv', h4, h5, e⟩
theorem VD.form {w : World} {n : Nat} {t : VT} {kv iv : Value} (h : VD w n t kv iv) : ∃ pk ck p c, kv = .slice pk t.keys.length ck ∧ iv = .slice p t.items.length c := by
  obtain ⟨_, _, ⟨pk, ck, h1, _, _⟩, p, c, h2, _, _⟩ := h.parts
  exact ⟨pk, ck, p, c, h1, h2⟩
/-- A value in a cell of its own. -/
def VBox (w : World) (b : Nat) (t : VT) (kv iv : Value) : Prop := w.heap[b]? = some (.cells #[.int .i64 t.kind, .string (bs t.text), kv, iv] 25)
theorem VBox.new (w : World) (t : VT) (kv iv : Value) : VBox (w.alloc (.cells #[.int .i64 t.kind, .string (bs t.text), kv, iv] 25)) w.heap.size t kv iv := heap_alloc_new w _
theorem VBox.keep {w w' : World} {b : Nat} {t : VT} {kv iv : Value} (h : VBox w b t kv iv) (hb : Below w.heap.size w w') : VBox w' b t kv iv := by
  unfold VBox at h
  exact (hb.block _ (cell_it h)).trans h
theorem VBox.cells {w : World} {b : Nat} {t : VT} {kv iv : Value} (h : VBox w b t kv iv) : w.cell? ⟨b, 0, none⟩ = some (.int .i64 t.kind) ∧ w.cell? ⟨b, 1, none⟩ = some (.string (bs t.text)) ∧ w.cell? ⟨b, 2, none⟩ = some kv ∧ w.cell? ⟨b, 3, none⟩ = some iv := by
  unfold VBox at h
  refine ⟨?_, ?_, ?_, ?_⟩ <;> simp [World.cell?, h]
end Go.Proofs.YtnnlpkbopeiefaaGreatDoor
/-! The walks of value.Size and Depth. -/
namespace Go.Proofs.YtnnlpkbopeiefaaGreatDoor
set_option linter.unusedSimpArgs false
set_option linter.unusedVariables false
open Go.RowKit
theorem take_one {α : Type} {l : List α} {k : Nat} {x : α} (h : l[k]? = some x) : l.take (k + 1) = l.take k ++ [x] := by
  rw [List.take_add_one, h]; rfl
theorem vsize_any : ∀ (n : Nat) (t : VT) (kv iv : Value) (w : World), VD w n t kv iv → t.bulk ≤ 1099511627776 →
    Calls Tryz.prog 17 #[vv t kv iv] w fun e w' => e = .returned (.int .i64 (t.size : Int)) ∧ Below w.heap.size w w' := by
  intro n
  induction n with
  | zero => intro t kv iv w h; exact h.elim
  | succ m ih =>
    intro t kv iv w h hbk
    obtain ⟨m', hm, hsv, p, c, rfl, hlc, hit⟩ := h.parts
    obtain rfl : m = m' := by omega
    obtain ⟨k, s, ks, l⟩ := t
    obtain ⟨R, hR⟩ : ∃ R, (VT.mk k s ks l).size = R := ⟨_, rfl⟩
    rw [hR]
    rw [VT.size] at hR
    simp only [VT.items] at hlc hit
    have hbl : bulks l ≤ 1099511627776 := by rw [VT.bulk] at hbk; omega
    have hll : l.length ≤ 1099511627776 := Nat.le_trans (len_le_bulks l) hbl
    have HR := Lib.hid hR
    have HIT := Lib.hid hit
    have HIH := Lib.hid ih
    clear hR hit ih h hsv hm hbk
    unfold vv
    simp only [VT.kind, VT.text, VT.items]
    go_enter Tryz.func17, Tryz.ntmps17
    go_wp2_with fail
    go_loopw [3, 9] (fun s3 s9 wr => ∃ (i : Nat), s3 = .int .i64 ((sizes (l.take i) + 1 : Nat) : Int) ∧ s9 = .int .i64 (i : Int) ∧ i ≤ l.length ∧ Hid (Below w.heap.size w wr)) (fun _ s9 _ => l.length - (RowKit.intOf s9).toNat)
    case atStart => exact ⟨0, rfl, rfl, Nat.zero_le _, Lib.hid (below_alloc1 w _)⟩
    case round =>
      obtain ⟨i, rfl, rfl, hi, HBr⟩ := hrel
      by_cases hil : i < l.length
      · obtain ⟨x, hx⟩ : ∃ x, l[i]? = some x := ⟨_, List.getElem?_eq_getElem hil⟩
        obtain ⟨g, o, kv', iv', rfl, hg, n0, n1, n2, n3, hvd⟩ := HIT.out.keep HBr.out i x hx
        obtain ⟨pk, ck, px, cx, rfl, rfl⟩ := hvd.form
        have hxb := Nat.le_trans (bulk_mem (List.mem_of_getElem? hx)) hbl
        have hi1 : (i : Int) < (l.length : Int) := by omega
        have dk : decide ((i : Int) < (l.length : Int)) = true := decide_eq_true hi1
        have hsz : sizes (l.take i) + 1 + x.size = sizes (l.take (i + 1)) + 1 := by rw [take_one hx, sizes_app, sizes, sizes]; omega
        have hbd : sizes (l.take (i + 1)) ≤ bulks l := by
          have h1 : sizes (l.take (i + 1)) ≤ sizes l := by
            have := sizes_app (l.take (i + 1)) (l.drop (i + 1))
            rw [List.take_append_drop] at this
            omega
          exact Nat.le_trans h1 (sizes_le_bulks l)
        have HX := Lib.hid hx
        have HVD := Lib.hid hvd
        have HSZ := Lib.hid hsz
        have HBd := Lib.hid hbd
        clear hx hvd hsz hbd
        go_upto_region 5 with fail
        have HB5 := Lib.hid (below_alloc1 wr (.cells #[.int .i64 x.kind, .string (bs x.text), .slice pk x.keys.length ck, .slice px x.items.length cx] 25))
        have HC := Lib.hid (HIH.out x _ _ (wr.alloc (.cells #[.int .i64 x.kind, .string (bs x.text), .slice pk x.keys.length ck, .slice px x.items.length cx] 25)) (HVD.out.keep HB5.out) hxb)
        unfold vv at HC
        go_wp2_with fail
        refine HC.out.mono ?_
        rintro e w2 ⟨rfl, hb2⟩
        have HB6 := Lib.hid (below_of_new HBr.out (below_of_new HB5.out hb2))
        have hbd := HBd.out
        have hsz := HSZ.out
        have hszz : ((sizes (l.take i) + 1 : Nat) : Int) + (x.size : Int) = ((sizes (l.take (i + 1)) + 1 : Nat) : Int) := by omega
        clear hb2
        go_wp2_with fail
        go_roundw
        · exact ⟨i + 1, by congr 1 <;> omega, rfl, hil, HB6⟩
        · simp only [RowKit.intOf]
          omega
      · have dk : decide ((i : Int) < (l.length : Int)) = false := decide_eq_false (by omega)
        obtain rfl : i = l.length := by omega
        rw [List.take_length]
        have hdl : depths l ≤ 1099511627776 := Nat.le_trans (depths_le_bulks l) hbl
        go_wp2_with fail
        go_ret
        exact ⟨by rw [← HR.out]; first | rfl | simp, HBr.out⟩
theorem vdepth_any : ∀ (n : Nat) (t : VT) (kv iv : Value) (w : World), VD w n t kv iv → t.bulk ≤ 1099511627776 →
    Calls Tryz.prog 145 #[vv t kv iv] w fun e w' => e = .returned (.int .i64 (t.depth : Int)) ∧ Below w.heap.size w w' := by
  intro n
  induction n with
  | zero => intro t kv iv w h; exact h.elim
  | succ m ih =>
    intro t kv iv w h hbk
    obtain ⟨m', hm, hsv, p, c, rfl, hlc, hit⟩ := h.parts
    obtain rfl : m = m' := by omega
    obtain ⟨k, s, ks, l⟩ := t
    obtain ⟨R, hR⟩ : ∃ R, (VT.mk k s ks l).depth = R := ⟨_, rfl⟩
    rw [hR]
    rw [VT.depth] at hR
    simp only [VT.items] at hlc hit
    have hbl : bulks l ≤ 1099511627776 := by rw [VT.bulk] at hbk; omega
    have hll : l.length ≤ 1099511627776 := Nat.le_trans (len_le_bulks l) hbl
    have HR := Lib.hid hR
    have HIT := Lib.hid hit
    have HIH := Lib.hid ih
    clear hR hit ih h hsv hm hbk
    unfold vv
    simp only [VT.kind, VT.text, VT.items]
    go_enter Tryz.func145, Tryz.ntmps145
    go_wp2_with fail
    go_loopw [3, 9] (fun s3 s9 wr => ∃ (i : Nat), s3 = .int .i64 ((depths (l.take i) : Nat) : Int) ∧ s9 = .int .i64 (i : Int) ∧ i ≤ l.length ∧ Hid (Below w.heap.size w wr)) (fun _ s9 _ => l.length - (RowKit.intOf s9).toNat)
    case atStart => exact ⟨0, rfl, rfl, Nat.zero_le _, Lib.hid (below_alloc1 w _)⟩
    case round =>
      obtain ⟨i, rfl, rfl, hi, HBr⟩ := hrel
      by_cases hil : i < l.length
      · obtain ⟨x, hx⟩ : ∃ x, l[i]? = some x := ⟨_, List.getElem?_eq_getElem hil⟩
        obtain ⟨g, o, kv', iv', rfl, hg, n0, n1, n2, n3, hvd⟩ := HIT.out.keep HBr.out i x hx
        obtain ⟨pk, ck, px, cx, rfl, rfl⟩ := hvd.form
        have hxb := Nat.le_trans (bulk_mem (List.mem_of_getElem? hx)) hbl
        have hi1 : (i : Int) < (l.length : Int) := by omega
        have dk : decide ((i : Int) < (l.length : Int)) = true := decide_eq_true hi1
        have hsz : max (depths (l.take i)) x.depth = depths (l.take (i + 1)) := by rw [take_one hx, depths_app, depths, depths]; omega
        have hbd : depths (l.take (i + 1)) ≤ bulks l := by
          have h1 : depths (l.take (i + 1)) ≤ depths l := by
            have := depths_app (l.take (i + 1)) (l.drop (i + 1))
            rw [List.take_append_drop] at this
            omega
          exact Nat.le_trans h1 (depths_le_bulks l)
        have HX := Lib.hid hx
        have HVD := Lib.hid hvd
        have HSZ := Lib.hid hsz
        have HBd := Lib.hid hbd
        clear hx hvd hsz hbd
        go_upto_region 5 with fail
        have HB5 := Lib.hid (below_alloc1 wr (.cells #[.int .i64 x.kind, .string (bs x.text), .slice pk x.keys.length ck, .slice px x.items.length cx] 25))
        have HC := Lib.hid (HIH.out x _ _ (wr.alloc (.cells #[.int .i64 x.kind, .string (bs x.text), .slice pk x.keys.length ck, .slice px x.items.length cx] 25)) (HVD.out.keep HB5.out) hxb)
        unfold vv at HC
        go_wp2_with fail
        refine HC.out.mono ?_
        rintro e w2 ⟨rfl, hb2⟩
        have HB6 := Lib.hid (below_of_new HBr.out (below_of_new HB5.out hb2))
        have hbd := HBd.out
        have hsz := HSZ.out
        have hszz : max ((depths (l.take i) : Nat) : Int) (x.depth : Int) = ((depths (l.take (i + 1)) : Nat) : Int) := by omega
        clear hb2
        go_wp2_with fail
        go_roundw
        · exact ⟨i + 1, by congr 1 <;> omega, rfl, hil, HB6⟩
        · simp only [RowKit.intOf]
          omega
      · have dk : decide ((i : Int) < (l.length : Int)) = false := decide_eq_false (by omega)
        obtain rfl : i = l.length := by omega
        rw [List.take_length]
        have hdl : depths l ≤ 1099511627776 := Nat.le_trans (depths_le_bulks l) hbl
        go_wp2_with fail
        go_ret
        exact ⟨by rw [← HR.out]; first | rfl | simp, HBr.out⟩
end Go.Proofs.YtnnlpkbopeiefaaGreatDoor
/-! The walks of scarflaw06's few, short and Few. -/
namespace Go.Proofs.YtnnlpkbopeiefaaGreatDoor
set_option linter.unusedSimpArgs false
set_option linter.unusedVariables false
open Go.RowKit
theorem vfew_any : ∀ (n : Nat) (t : VT) (kv iv : Value) (w : World) (left : Int) (d : Nat), VD w n t kv iv → t.bulk ≤ 1099511627776 → 0 ≤ left → left ≤ 4294967296 → d ≤ 61 →
    Calls Tryz.prog 51 #[vv t kv iv, .int .i64 left, .int .i64 (d : Int)] w fun e w' => e = .returned (.int .i64 (fewM t left d)) ∧ Below w.heap.size w w' := by
  intro n
  induction n with
  | zero => intro t kv iv w left d h; exact h.elim
  | succ m ih =>
    intro t kv iv w left d h hbk hle0 hle1 hd
    obtain ⟨pk, ck, p, c, rfl, rfl⟩ := h.form
    obtain ⟨m', hm, hsv, p2, c2, he, hlc, hit⟩ := h.parts
    obtain rfl : m = m' := by omega
    injection he with he1 he2 he3
    subst he1; subst he3
    obtain ⟨k, s, ks, l⟩ := t
    obtain ⟨R, hR⟩ : ∃ R, fewM (VT.mk k s ks l) left d = R := ⟨_, rfl⟩
    rw [hR]
    rw [fewM] at hR
    simp only [VT.items] at hlc hit
    have hbl : bulks l ≤ 1099511627776 := by rw [VT.bulk] at hbk; omega
    have hkl : ks.length ≤ 1099511627776 := by rw [VT.bulk] at hbk; omega
    have hll : l.length ≤ 1099511627776 := Nat.le_trans (len_le_bulks l) hbl
    have HIT := Lib.hid hit
    have HIH := Lib.hid ih
    clear hit ih h hsv hm hbk
    unfold vv
    simp only [VT.kind, VT.text, VT.items, VT.keys]
    by_cases h60 : 60 < d
    · rw [if_pos h60] at hR
      have d60 : decide ((60 : Int) < (d : Int)) = true := decide_eq_true (by omega)
      have HR := Lib.hid hR
      clear hR h60
      go_enter Tryz.func51, Tryz.ntmps51
      go_wp2_with fail
      go_ret
      exact ⟨by rw [← HR.out]; rfl, below_alloc1 _ _⟩
    · rw [if_neg h60] at hR
      have d60 : decide ((60 : Int) < (d : Int)) = false := decide_eq_false (by omega)
      have hd2 : d ≤ 60 := by omega
      have HR := Lib.hid hR
      obtain ⟨W1, hW1⟩ : ∃ W, w.alloc (.cells #[.int .i64 k, .string (bs s), .slice pk ks.length ck, .slice p l.length c] 25) = W := ⟨_, rfl⟩
      obtain ⟨B, hB⟩ : ∃ B, w.heap.size = B := ⟨_, rfl⟩
      have HB1 : Hid (Below w.heap.size w W1) := Lib.hid (by rw [← hW1]; exact below_alloc1 _ _)
      have HX : Hid (VBox W1 B (.mk k s ks l) (.slice pk ks.length ck) (.slice p l.length c)) := Lib.hid (by rw [← hW1, ← hB]; exact VBox.new w (.mk k s ks l) _ _)
      have HIT1 := Lib.hid (HIT.out.keep HB1.out)
      clear hR h60 HIT
      go_enter Tryz.func51, Tryz.ntmps51
      go_upto_region 1 with fail
      clear hW1
      obtain ⟨b0, b1, b2, b3⟩ := HX.out.cells
      simp only [VT.kind, VT.text] at b0 b1
      go_wp2_with fail
      clear b0 b1 b2 b3
      go_loopw [1, 7] (fun s1 s7 wr => ∃ (i : Nat) (left : Int), s1 = .int .i64 left ∧ s7 = .int .i64 (i : Int) ∧ i ≤ l.length ∧ -2199023255552 ≤ left ∧ left ≤ 4294967296 ∧ Hid (fewL (l.drop i) left (d + 1) = R) ∧ Hid (Below W1.heap.size W1 wr)) (fun _ s7 _ => l.length - (RowKit.intOf s7).toNat)
      case atStart => exact ⟨0, _, rfl, rfl, Nat.zero_le _, by omega, by omega, HR, Lib.hid (Below.refl _ _)⟩
      case round =>
        obtain ⟨i, left, rfl, rfl, hi, hf0, hf1, HRi, HBr⟩ := hrel
        clear HR
        obtain ⟨b0, b1, b2, b3⟩ := (HX.out.keep HBr.out).cells
        by_cases hil : i < l.length
        · obtain ⟨x, hx⟩ : ∃ x, l[i]? = some x := ⟨_, List.getElem?_eq_getElem hil⟩
          obtain ⟨g, o, kv', iv', rfl, hg, n0, n1, n2, n3, hvd⟩ := HIT1.out.keep HBr.out i x hx
          obtain ⟨pk2, ck2, px, cx, rfl, rfl⟩ := hvd.form
          have hxb := Nat.le_trans (bulk_mem (List.mem_of_getElem? hx)) hbl
          have hi1 : (i : Int) < (l.length : Int) := by omega
          have dk : decide ((i : Int) < (l.length : Int)) = true := decide_eq_true hi1
          have hdr : l.drop i = x :: l.drop (i + 1) := by
            rw [List.drop_eq_getElem_cons hil]
            congr 1
            exact (List.getElem?_eq_some_iff.1 hx).2
          have hRi := HRi.out
          rw [hdr, fewL] at hRi
          by_cases hl0 : 0 ≤ left
          · rw [if_pos hl0] at hRi
            have dl : decide ((0 : Int) ≤ left) = true := decide_eq_true hl0
            obtain ⟨f1, f2, f3⟩ := fewM_le x left (d + 1) hl0
            have HC := Lib.hid (HIH.out x _ _ wr left (d + 1) hvd hxb hl0 hf1 (by omega))
            unfold vv at HC
            have ed : ((d + 1 : Nat) : Int) = (d : Int) + 1 := by omega
            rw [ed] at HC
            obtain ⟨y, hy⟩ : ∃ y, fewM x left (d + 1) = y := ⟨_, rfl⟩
            rw [hy] at HC f1 f2 f3 hRi
            have HR2 := Lib.hid hRi
            clear hx hvd hRi HRi hdr f2 hy ed
            go_wp2_with fail
            refine HC.out.mono ?_
            rintro e w2 ⟨rfl, hb2⟩
            have HB6 := Lib.hid (below_of_new HBr.out hb2)
            clear hb2
            go_wp2_with fail
            go_roundw
            · exact ⟨i + 1, y, rfl, rfl, hil, by omega, by omega, HR2, HB6⟩
            · simp only [RowKit.intOf]
              omega
          · rw [if_neg hl0] at hRi
            have dl : decide ((0 : Int) ≤ left) = false := decide_eq_false hl0
            have HR2 := Lib.hid hRi
            clear hx hvd hRi HRi hdr
            go_wp2_with fail
            go_ret
            exact ⟨by rw [← HR2.out]; rfl, by first | exact below_of_new HB1.out HBr.out | (rw [← hB]; exact below_of_new HB1.out HBr.out)⟩
        · have dk : decide ((i : Int) < (l.length : Int)) = false := decide_eq_false (by omega)
          have hRi := HRi.out
          rw [List.drop_eq_nil_of_le (by omega), fewL] at hRi
          have HR2 := Lib.hid hRi
          clear hRi HRi
          go_wp2_with fail
          go_ret
          exact ⟨by rw [← HR2.out]; rfl, by first | exact below_of_new HB1.out HBr.out | (rw [← hB]; exact below_of_new HB1.out HBr.out)⟩
theorem vshort_any : ∀ (n : Nat) (t : VT) (kv iv : Value) (w : World), VD w n t kv iv → t.bulk ≤ 1099511627776 →
    Calls Tryz.prog 52 #[vv t kv iv] w fun e w' => e = .returned (.bool (shortB t)) ∧ Below w.heap.size w w' := by
  intro n
  induction n with
  | zero => intro t kv iv w h; exact h.elim
  | succ m ih =>
    intro t kv iv w h hbk
    obtain ⟨m', hm, ⟨pk, ck, rfl, hck, hks⟩, p, c, rfl, hlc, hit⟩ := h.parts
    obtain rfl : m = m' := by omega
    obtain ⟨k, s, ks, l⟩ := t
    obtain ⟨R, hR⟩ : ∃ R, shortB (VT.mk k s ks l) = R := ⟨_, rfl⟩
    rw [hR]
    rw [shortB] at hR
    simp only [VT.items, VT.keys] at hlc hit hks hck
    have hbl : bulks l ≤ 1099511627776 := by rw [VT.bulk] at hbk; omega
    have hsl : s.length ≤ 1099511627776 := by rw [VT.bulk] at hbk; omega
    have htk : totS ks + ks.length ≤ 1099511627776 := by rw [VT.bulk] at hbk; omega
    have hll : l.length ≤ 1099511627776 := Nat.le_trans (len_le_bulks l) hbl
    have ss := bs_size s
    have HIH := Lib.hid ih
    obtain ⟨W1, hW1⟩ : ∃ W, w.alloc (.cells #[.int .i64 k, .string (bs s), .slice pk ks.length ck, .slice p l.length c] 25) = W := ⟨_, rfl⟩
    obtain ⟨B, hB⟩ : ∃ B, w.heap.size = B := ⟨_, rfl⟩
    have HB1 : Hid (Below w.heap.size w W1) := Lib.hid (by rw [← hW1]; exact below_alloc1 _ _)
    have HX : Hid (VBox W1 B (.mk k s ks l) (.slice pk ks.length ck) (.slice p l.length c)) := Lib.hid (by rw [← hW1, ← hB]; exact VBox.new w (.mk k s ks l) _ _)
    have HIT1 := Lib.hid (hit.keep HB1.out)
    have HKS1 := Lib.hid (hks.keep HB1.out)
    have HR := Lib.hid hR
    clear hR hit ih h hm hbk hks
    unfold vv
    simp only [VT.kind, VT.text, VT.items, VT.keys]
    by_cases h20 : s.length ≤ 2048
    · have d20 : decide ((2048 : Int) < (s.length : Int)) = false := decide_eq_false (by omega)
      have d20b : decide (2048 < s.length) = false := decide_eq_false (by omega)
      have HR0 : Hid ((ks.all (fun k => decide (k.length ≤ 1024)) && shortL l) = R) := Lib.hid (by rw [← HR.out, decide_eq_true h20, Bool.true_and])
      clear HR
      go_enter Tryz.func52, Tryz.ntmps52
      go_upto_region 1 with fail
      clear hW1
      obtain ⟨b0, b1, b2, b3⟩ := HX.out.cells
      simp only [VT.kind, VT.text] at b0 b1
      go_wp2_with fail
      clear b0 b1 b2 b3
      go_loopw [3] (fun s3 wr => ∃ (i : Nat), s3 = .int .i64 (i : Int) ∧ i ≤ ks.length ∧ Hid (((ks.drop i).all (fun k => decide (k.length ≤ 1024)) && shortL l) = R) ∧ Hid (Below W1.heap.size W1 wr)) (fun s3 _ => ks.length - (RowKit.intOf s3).toNat)
      case atStart => exact ⟨0, rfl, Nat.zero_le _, HR0, Lib.hid (Below.refl _ _)⟩
      case round =>
        obtain ⟨i, rfl, hi, HRi, HBr⟩ := hrel
        clear HR0
        obtain ⟨b0, b1, b2, b3⟩ := (HX.out.keep HBr.out).cells
        by_cases hil : i < ks.length
        · obtain ⟨x, hx⟩ : ∃ x, ks[i]? = some x := ⟨_, List.getElem?_eq_getElem hil⟩
          obtain ⟨g, o, rfl, hc0⟩ := (HKS1.out.keep HBr.out).at_ hx
          have hi1 : (i : Int) < (ks.length : Int) := by omega
          have dk : decide ((i : Int) < (ks.length : Int)) = true := decide_eq_true hi1
          have hxl : x.length ≤ 1099511627776 := by have := totS_mem (List.mem_of_getElem? hx); omega
          have sx := bs_size x
          have hdr : ks.drop i = x :: ks.drop (i + 1) := by
            rw [List.drop_eq_getElem_cons hil]
            congr 1
            exact (List.getElem?_eq_some_iff.1 hx).2
          have hRi := HRi.out
          rw [hdr, List.all_cons] at hRi
          by_cases h10 : x.length ≤ 1024
          · have d10 : decide ((1024 : Int) < (x.length : Int)) = false := decide_eq_false (by omega)
            have d10b : decide (1024 < x.length) = false := decide_eq_false (by omega)
            rw [decide_eq_true h10, Bool.true_and] at hRi
            have HR2 := Lib.hid hRi
            clear hx hRi HRi hdr
            go_wp2_with fail
            go_roundw
            · exact ⟨i + 1, rfl, hil, HR2, HBr⟩
            · simp only [RowKit.intOf]
              omega
          · have d10 : decide ((1024 : Int) < (x.length : Int)) = true := decide_eq_true (by omega)
            have d10b : decide (1024 < x.length) = true := decide_eq_true (by omega)
            rw [decide_eq_false h10] at hRi
            have HR2 := Lib.hid hRi
            clear hx hRi HRi hdr
            go_wp2_with fail
            go_ret
            exact ⟨by rw [← HR2.out]; rfl, by first | exact below_of_new HB1.out HBr.out | (rw [← hB]; exact below_of_new HB1.out HBr.out)⟩
        · have dk : decide ((i : Int) < (ks.length : Int)) = false := decide_eq_false (by omega)
          have hRi := HRi.out
          rw [List.drop_eq_nil_of_le (by omega), List.all_nil, Bool.true_and] at hRi
          have HR2 := Lib.hid hRi
          have HIT2 := Lib.hid (HIT1.out.keep HBr.out)
          have HX2 := Lib.hid (HX.out.keep HBr.out)
          have HB2 := Lib.hid (below_of_new HB1.out HBr.out)
          clear hRi HRi HIT1 HX HB1 HBr HKS1
          go_wp2_with fail
          clear b0 b1 b2 b3
          go_loopw [4, 5] (fun s4 s5 wx => ∃ (i : Nat), s4 = .int .i64 (i : Int) ∧ i ≤ l.length ∧ Hid (shortL (l.drop i) = R) ∧ Hid (Below wr.heap.size wr wx)) (fun s4 _ _ => l.length - (RowKit.intOf s4).toNat)
          case atStart => exact ⟨0, rfl, Nat.zero_le _, HR2, Lib.hid (Below.refl _ _)⟩
          case round =>
            obtain ⟨j, rfl, hj, HRj, HBj⟩ := hrel
            clear HR2
            obtain ⟨b0, b1, b2, b3⟩ := (HX2.out.keep HBj.out).cells
            by_cases hjl : j < l.length
            · obtain ⟨x, hx⟩ : ∃ x, l[j]? = some x := ⟨_, List.getElem?_eq_getElem hjl⟩
              obtain ⟨g, o, kv', iv', rfl, hg, n0, n1, n2, n3, hvd⟩ := HIT2.out.keep HBj.out j x hx
              obtain ⟨pk2, ck2, px, cx, rfl, rfl⟩ := hvd.form
              have hxb := Nat.le_trans (bulk_mem (List.mem_of_getElem? hx)) hbl
              have hj1 : (j : Int) < (l.length : Int) := by omega
              have dkj : decide ((j : Int) < (l.length : Int)) = true := decide_eq_true hj1
              have hdr : l.drop j = x :: l.drop (j + 1) := by
                rw [List.drop_eq_getElem_cons hjl]
                congr 1
                exact (List.getElem?_eq_some_iff.1 hx).2
              have hRj := HRj.out
              rw [hdr, shortL] at hRj
              have HC := Lib.hid (HIH.out x _ _ _ hvd hxb)
              unfold vv at HC
              obtain ⟨y, hy⟩ : ∃ y, shortB x = y := ⟨_, rfl⟩
              rw [hy] at HC hRj
              have HRy := Lib.hid hRj
              clear hx hvd hRj HRj hdr hy
              go_wp2_with fail
              refine HC.out.mono ?_
              rintro e w2 ⟨rfl, hb2⟩
              have HB6 := Lib.hid (below_of_new HBj.out hb2)
              clear hb2
              cases y with
              | true =>
                have HR3 : Hid (shortL (l.drop (j + 1)) = R) := Lib.hid (by rw [← HRy.out, Bool.true_and])
                go_wp2_with fail
                go_roundw
                · exact ⟨j + 1, rfl, hjl, HR3, HB6⟩
                · simp only [RowKit.intOf]
                  omega
              | false =>
                go_wp2_with fail
                go_ret
                exact ⟨by rw [← HRy.out]; rfl, below_of_new HB2.out HB6.out⟩
            · have dkj : decide ((j : Int) < (l.length : Int)) = false := decide_eq_false (by omega)
              have hRj := HRj.out
              rw [List.drop_eq_nil_of_le (by omega), shortL] at hRj
              have HR3 := Lib.hid hRj
              clear hRj HRj
              go_wp2_with fail
              go_ret
              exact ⟨by rw [← HR3.out]; rfl, below_of_new HB2.out HBj.out⟩
    · have d20 : decide ((2048 : Int) < (s.length : Int)) = true := decide_eq_true (by omega)
      have d20b : decide (2048 < s.length) = true := decide_eq_true (by omega)
      have HR0 : Hid (false = R) := Lib.hid (by rw [← HR.out, decide_eq_false h20, Bool.false_and, Bool.false_and])
      clear HR
      go_enter Tryz.func52, Tryz.ntmps52
      go_upto_region 1 with fail
      clear hW1
      obtain ⟨b0, b1, b2, b3⟩ := HX.out.cells
      simp only [VT.kind, VT.text] at b0 b1
      go_wp2_with fail
      go_ret
      exact ⟨by rw [← HR0.out]; rfl, by first | exact HB1.out | (rw [← hB]; exact HB1.out)⟩
theorem vFew_any (n : Nat) (t : VT) (kv iv : Value) (w : World) (most : Int) (h : VD w n t kv iv) (hbk : t.bulk ≤ 1099511627776) (h0 : 0 ≤ most) (h1 : most ≤ 4294967296) :
    Calls Tryz.prog 14 #[vv t kv iv, .int .i64 most] w fun e w' => e = .returned (.bool (FewB t most)) ∧ Below w.heap.size w w' := by
  obtain ⟨pk, ck, p, c, rfl, rfl⟩ := h.form
  obtain ⟨R, hR⟩ : ∃ R, FewB t most = R := ⟨_, rfl⟩
  rw [hR]
  unfold FewB at hR
  obtain ⟨y, hy⟩ : ∃ y, fewM t most 0 = y := ⟨_, rfl⟩
  obtain ⟨f1, f2, f3⟩ := fewM_le t most 0 h0
  rw [hy] at hR f1 f2 f3
  obtain ⟨W1, hW1⟩ : ∃ W, w.alloc (.cells #[.int .i64 t.kind, .string (bs t.text), .slice pk t.keys.length ck, .slice p t.items.length c] 25) = W := ⟨_, rfl⟩
  obtain ⟨B, hB⟩ : ∃ B, w.heap.size = B := ⟨_, rfl⟩
  have HB1 : Hid (Below w.heap.size w W1) := Lib.hid (by rw [← hW1]; exact below_alloc1 _ _)
  have HX : Hid (VBox W1 B t (.slice pk t.keys.length ck) (.slice p t.items.length c)) := Lib.hid (by rw [← hW1, ← hB]; exact VBox.new w t _ _)
  have HV := Lib.hid (h.keep HB1.out)
  have HC := Lib.hid (vfew_any n t _ _ W1 most 0 HV.out hbk h0 h1 (by omega))
  unfold vv at HC ⊢
  rw [hy] at HC
  have HR := Lib.hid hR
  clear hR hy f2 h
  go_enter Tryz.func14, Tryz.ntmps14
  go_upto_region 1 with fail
  clear hW1
  obtain ⟨b0, b1, b2, b3⟩ := HX.out.cells
  go_wp2_with fail
  refine HC.out.mono ?_
  rintro e w2 ⟨rfl, hb2⟩
  clear b0 b1 b2 b3
  obtain ⟨b0, b1, b2, b3⟩ := (HX.out.keep hb2).cells
  have HB2 := Lib.hid hb2
  clear hb2
  by_cases hy0 : 0 ≤ y
  · have dy : decide ((0 : Int) ≤ y) = true := decide_eq_true hy0
    have HC2 := Lib.hid (vshort_any n t _ _ w2 (HV.out.keep HB2.out) hbk)
    unfold vv at HC2
    go_wp2_with fail
    refine HC2.out.mono ?_
    rintro e w3 ⟨rfl, hb3⟩
    have HB3 := Lib.hid hb3
    clear hb3
    go_wp2_with fail
    go_ret
    exact ⟨by rw [← HR.out]; simp [dy], by first | exact below_of_new HB1.out (below_of_new HB2.out HB3.out) | (rw [← hB]; exact below_of_new HB1.out (below_of_new HB2.out HB3.out))⟩
  · have dy : decide ((0 : Int) ≤ y) = false := decide_eq_false hy0
    go_wp2_with fail
    go_ret
    exact ⟨by rw [← HR.out]; simp [dy], by first | exact below_of_new HB1.out HB2.out | (rw [← hB]; exact below_of_new HB1.out HB2.out)⟩
end Go.Proofs.YtnnlpkbopeiefaaGreatDoor

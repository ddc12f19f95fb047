import Derived.Test.YtbldfpkfinpciaaGreatDoorRa7
namespace Go.Proofs.YtbldfpkfinpciaaGreatDoor
set_option linter.unusedVariables false
open Go.RowKit
structure RG (n s0 ic im il ia ip is : Nat) (val : Nat → Value) (S1 S A0 : World → Prop) (Al Ap : Value → World → Prop) (Fin : World → Prop) (d : Nat → Bool) (v : Nat → Value) (w' : World) : Prop where
 cl : ∀ i, i < n → i ≠ ia → i ≠ ip → d i = true → v (s0 + i) = val i
 st1 : S1 w'
 st : d is = false → S w'
 upl : d ip = true → d il = true
 upc : d im = true → d ic = true
 up0 : d ia = true → d im = true
 up1 : d ip = true → d ia = true
 up2 : d is = true → d ip = true
 w0 : d ia = false → A0 w'
 w1 : d ia = true → d ip = false → Al (v (s0 + ia)) w'
 w2 : d ip = true → d is = false → Ap (v (s0 + ip)) w'
 w3 : d is = true → Fin w'
section
variable {n s0 ic im il ia ip is : Nat} {val : Nat → Value} {S1 S A0 : World → Prop} {Al Ap : Value → World → Prop} {Fin : World → Prop} {d : Nat → Bool} {v : Nat → Value} {w' w2 : World}
theorem not_up {a b : Bool} (h : a = true → b = true) (hb : b = false) : a = false := by
 cases a with
 | false => rfl
 | true => rw [h rfl] at hb; cases hb
theorem RG.clSet (h : RG n s0 ic im il ia ip is val S1 S A0 Al Ap Fin d v w') {i k : Nat} (hk : k = s0 + i) {x : Value} (hx : (i = ia ∨ i = ip) ∨ x = val i) : ∀ j, j < n → j ≠ ia → j ≠ ip → setB d i j = true → setV v (some k) x (s0 + j) = val j := by
 subst hk
 intro j hj h1 h2 hd
 by_cases hji : j = i
 ·subst hji
  rw [setV_eq]
  rcases hx with (rfl | rfl) | hx
  ·exact absurd rfl h1
  ·exact absurd rfl h2
  ·exact hx
 ·rw [setV_ne (by omega)]
  exact h.cl j hj h1 h2 ((setB_or hd).resolve_left hji)
theorem RG.pure (h : RG n s0 ic im il ia ip is val S1 S A0 Al Ap Fin d v w') {i k : Nat} (hk : k = s0 + i) {x : Value} (hx : x = val i) (h1 : i ≠ ia) (h2 : i ≠ ip) (h3 : i ≠ is) (hm : i = im → i = ic ∨ d ic = true) : RG n s0 ic im il ia ip is val S1 S A0 Al Ap Fin (setB d i) (setV v (some k) x) w' := by
 have e1 : setB d i ia = d ia := setB_ne (Ne.symm h1)
 have e2 : setB d i ip = d ip := setB_ne (Ne.symm h2)
 have e3 : setB d i is = d is := setB_ne (Ne.symm h3)
 refine ⟨h.clSet hk (.inr hx), h.st1, fun a => ?_, fun a => ?_, fun a => ?_, fun a => ?_, fun a => ?_, fun a => ?_, fun a => ?_, fun a b => ?_, fun a b => ?_, fun a => ?_⟩
 ·rw [e3] at a; exact h.st a
 ·rw [e2] at a
  by_cases hc : il = i
  ·rw [hc]; exact setB_eq
  ·rw [setB_ne hc]; exact h.upl a
 ·by_cases hc : ic = i
  ·rw [hc]; exact setB_eq
  ·rw [setB_ne hc]
   rcases setB_or a with e | a
   ·exact (hm e.symm).resolve_left (fun e => hc e.symm)
   ·exact h.upc a
 ·rw [e1] at a
  by_cases hc : im = i
  ·rw [hc]; exact setB_eq
  ·rw [setB_ne hc]; exact h.up0 a
 ·rw [e2] at a; rw [e1]; exact h.up1 a
 ·rw [e3] at a; rw [e2]; exact h.up2 a
 ·rw [e1] at a; exact h.w0 a
 ·rw [e1] at a; rw [e2] at b
  subst hk
  rw [setV_ne (by omega)]
  exact h.w1 a b
 ·rw [e2] at a; rw [e3] at b
  subst hk
  rw [setV_ne (by omega)]
  exact h.w2 a b
 ·rw [e3] at a; exact h.w3 a
theorem RG.call (h : RG n s0 ic im il ia ip is val S1 S A0 Al Ap Fin d v w') (ho : ic ≠ ia ∧ ic ≠ ip ∧ ic ≠ is) (hd : d ic = false) {k : Nat} (hk : k = s0 + ic) {x : Value} (hx : x = val ic) (hS1 : S1 w2) (hS : S w2) (hA : A0 w2) : RG n s0 ic im il ia ip is val S1 S A0 Al Ap Fin (setB d ic) (setV v (some k) x) w2 := by
 obtain ⟨o1, o2, o3⟩ := ho
 have hda := not_up h.up0 (not_up h.upc hd)
 have hdp := not_up h.up1 hda
 have hds := not_up h.up2 hdp
 have e1 : setB d ic ia = d ia := setB_ne (Ne.symm o1)
 have e2 : setB d ic ip = d ip := setB_ne (Ne.symm o2)
 have e3 : setB d ic is = d is := setB_ne (Ne.symm o3)
 refine ⟨h.clSet hk (.inr hx), hS1, fun _ => hS, fun a => ?_, fun _ => setB_eq, fun a => (by rw [e1, hda] at a; cases a), fun a => ?_, fun a => ?_, fun _ => hA, fun a => ?_, fun a => ?_, fun a => ?_⟩
 ·rw [e2, hdp] at a; cases a
 ·rw [e2, hdp] at a; cases a
 ·rw [e3, hds] at a; cases a
 ·rw [e1, hda] at a; cases a
 ·rw [e2, hdp] at a; cases a
 ·rw [e3, hds] at a; cases a
theorem RG.alloc (h : RG n s0 ic im il ia ip is val S1 S A0 Al Ap Fin d v w') (ho : ia ≠ ic ∧ ia ≠ ip ∧ ia ≠ is ∧ ia ≠ im) (hd : d ia = false) (hc : d im = true) {k : Nat} (hk : k = s0 + ia) {x : Value} (hS1 : S1 w2) (hS : S w2) (hA : Al x w2) : RG n s0 ic im il ia ip is val S1 S A0 Al Ap Fin (setB d ia) (setV v (some k) x) w2 := by
 obtain ⟨o1, o2, o3, o4⟩ := ho
 have hdp := not_up h.up1 hd
 have hds := not_up h.up2 hdp
 have e0 : setB d ia im = d im := setB_ne (Ne.symm o4)
 have e4 : setB d ia ic = d ic := setB_ne (Ne.symm o1)
 have e2 : setB d ia ip = d ip := setB_ne (Ne.symm o2)
 have e3 : setB d ia is = d is := setB_ne (Ne.symm o3)
 refine ⟨h.clSet hk (.inl (.inl rfl)), hS1, fun _ => hS, fun a => ?_, fun a => (by rw [e4]; exact h.upc hc), fun _ => by rw [e0]; exact hc, fun a => ?_, fun a => ?_, fun a => ?_, fun _ _ => ?_, fun a => ?_, fun a => ?_⟩
 ·rw [e2, hdp] at a; cases a
 ·rw [e2, hdp] at a; cases a
 ·rw [e3, hds] at a; cases a
 ·rw [setB_eq] at a; cases a
 ·subst hk; rw [setV_eq]; exact hA
 ·rw [e2, hdp] at a; cases a
 ·rw [e3, hds] at a; cases a
theorem RG.app (h : RG n s0 ic im il ia ip is val S1 S A0 Al Ap Fin d v w') (ho : ip ≠ ic ∧ ip ≠ ia ∧ ip ≠ is ∧ ip ≠ il ∧ ip ≠ im) (hd : d ip = false) (ha : d ia = true) (hl : d il = true) {k : Nat} (hk : k = s0 + ip) {x : Value} (hS1 : S1 w2) (hS : S w2) (hA : Ap x w2) : RG n s0 ic im il ia ip is val S1 S A0 Al Ap Fin (setB d ip) (setV v (some k) x) w2 := by
 obtain ⟨o1, o2, o3, o4, o5⟩ := ho
 have hds := not_up h.up2 hd
 have e0 : setB d ip im = d im := setB_ne (Ne.symm o5)
 have e4 : setB d ip ic = d ic := setB_ne (Ne.symm o1)
 have e1 : setB d ip ia = d ia := setB_ne (Ne.symm o2)
 have e3 : setB d ip is = d is := setB_ne (Ne.symm o3)
 refine ⟨h.clSet hk (.inl (.inr rfl)), hS1, fun _ => hS, fun _ => by rw [setB_ne (Ne.symm o4)]; exact hl, fun a => (by rw [e0] at a; rw [e4]; exact h.upc a), fun a => ?_, fun _ => by rw [e1]; exact ha, fun a => ?_, fun a => ?_, fun _ a => ?_, fun _ _ => ?_, fun a => ?_⟩
 ·rw [e1] at a; rw [e0]; exact h.up0 a
 ·rw [e3, hds] at a; cases a
 ·rw [e1, ha] at a; cases a
 ·rw [setB_eq] at a; cases a
 ·subst hk; rw [setV_eq]; exact hA
 ·rw [e3, hds] at a; cases a
theorem RG.sto (h : RG n s0 ic im il ia ip is val S1 S A0 Al Ap Fin d v w') (ho : is ≠ ic ∧ is ≠ ia ∧ is ≠ ip ∧ n ≤ is ∧ is ≠ il ∧ is ≠ im) (hd : d is = false) (hp : d ip = true) {x : Value} (hS1 : S1 w2) (hF : Fin w2) : RG n s0 ic im il ia ip is val S1 S A0 Al Ap Fin (setB d is) (setV v none x) w2 := by
 obtain ⟨o0, o1, o2, o3, o4, o5⟩ := ho
 have e0 : setB d is im = d im := setB_ne (Ne.symm o5)
 have e4 : setB d is ic = d ic := setB_ne (Ne.symm o0)
 have e1 : setB d is ia = d ia := setB_ne (Ne.symm o1)
 have e2 : setB d is ip = d ip := setB_ne (Ne.symm o2)
 refine ⟨fun j hj h1 h2 h3 => ?_, hS1, fun a => ?_, fun a => by rw [setB_ne (Ne.symm o4)]; exact h.upl (by rw [← e2]; exact a), fun a => (by rw [e0] at a; rw [e4]; exact h.upc a), fun a => ?_, fun a => ?_, fun _ => by rw [e2]; exact hp, fun a => ?_, fun a b => ?_, fun _ b => ?_, fun _ => hF⟩
 ·rw [setB_ne (by omega)] at h3
  exact h.cl j hj h1 h2 h3
 ·rw [setB_eq] at a; cases a
 ·rw [e1] at a; rw [e0]; exact h.up0 a
 ·rw [e2] at a; rw [e1]; exact h.up1 a
 ·rw [e1, h.up1 hp] at a; cases a
 ·rw [e2, hp] at b; cases b
 ·rw [setB_eq] at b; cases b
theorem wp_of_step {ops : Array Oper} {o : Oper} {t : Array Value} {A E : Prop} (hgd : o.guard = none) (h : if Region.wanted o (yielded ops t) = true then A else E) : A := by
 rw [if_pos (by simp [Region.wanted, hgd])] at h
 exact h
theorem lt19 {i : Nat} (h : i < 19) : i = 0 ∨ i = 1 ∨ i = 2 ∨ i = 3 ∨ i = 4 ∨ i = 5 ∨ i = 6 ∨ i = 7 ∨ i = 8 ∨ i = 9 ∨ i = 10 ∨ i = 11 ∨ i = 12 ∨ i = 13 ∨ i = 14 ∨ i = 15 ∨ i = 16 ∨ i = 17 ∨ i = 18 := by omega
theorem lt22 {i : Nat} (h : i < 22) : i = 0 ∨ i = 1 ∨ i = 2 ∨ i = 3 ∨ i = 4 ∨ i = 5 ∨ i = 6 ∨ i = 7 ∨ i = 8 ∨ i = 9 ∨ i = 10 ∨ i = 11 ∨ i = 12 ∨ i = 13 ∨ i = 14 ∨ i = 15 ∨ i = 16 ∨ i = 17 ∨ i = 18 ∨ i = 19 ∨ i = 20 ∨ i = 21 := by omega
end
end Go.Proofs.YtbldfpkfinpciaaGreatDoor

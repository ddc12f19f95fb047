import Derived.Test.YtbbjgdnbekoaeaaDoorYlS
/-! The walk of the law YlineBack. -/
namespace Go.Proofs.YtbbjgdnbekoaeaaDoor
set_option linter.unusedSimpArgs false
set_option linter.unusedVariables false
open Go.RowKit
open Go.Lib hiding intOf

theorem sqw_len (m : List UInt8) : (sqw m).1.length ≤ 2 * m.length + 2 := by
  have := (dbl_len m).2
  unfold sqw
  split
  · simp
  · simp only [List.length_cons, List.length_append, List.length_nil]; omega
theorem sqw_er (m : List UInt8) : (sqw m).2 = 0 ∨ (sqw m).2 = 2 := by unfold sqw; split <;> simp
set_option maxRecDepth 100000 in
set_option maxHeartbeats 4000000 in
theorem ylineBack_any (s t u : ByteArray) (w : World) (hs : s.size ≤ 1048576) (ht : t.size ≤ 1048576) (hu : u.size ≤ 1048576) (hV : Yv w) :
    Calls Tryd.prog 6 #[.string s, .string t, .string u] w fun e w' => e = .returned (.bool true) ∧ Below w.heap.size w w' := by
  have C0 := Lib.hid (fun w h => ysmall_any w h)
  have HV0 := Lib.hid hV; clear hV
  obtain ⟨l, rfl⟩ : ∃ l, s = bs l := ⟨s.data.toList, (bs_of s).symm⟩
  obtain ⟨m, rfl⟩ : ∃ m, t = bs m := ⟨t.data.toList, (bs_of t).symm⟩
  obtain ⟨n, rfl⟩ : ∃ n, u = bs n := ⟨u.data.toList, (bs_of u).symm⟩
  have sl := bs_size l
  have sm := bs_size m
  have sn := bs_size n
  have her := sqw_er m
  have hql := sqw_len m
  have hback := sqL_back l m n
  obtain ⟨q, er, hq⟩ : ∃ q er, sqw m = (q, er) := ⟨_, _, rfl⟩
  rw [hq] at her hql hback
  simp only [] at her hql hback
  have sq := bs_size q
  have C1 := Lib.hid (fun w h => quoted_at m q er hq w (by omega) h)
  clear hq
  go_enter Tryd.func6, Tryd.ntmps6
  go_wp2_with fail
  with_reducible refine (C0.out _ HV0.out).mono ?_
  rintro e w1 ⟨rfl, hb1⟩
  have HB1 := Lib.hid hb1; have HV1 := Lib.hid (HV0.out.keep hb1); clear hb1
  go_wp2_with fail
  with_reducible refine (C1.out _ HV1.out).mono ?_
  rintro e w2 ⟨rfl, hb2⟩
  have HB2 := Lib.hid (below_of_new HB1.out hb2); have HV2 := Lib.hid (HV1.out.keep hb2); clear hb2
  rcases her with rfl | rfl
  · have hback := hback rfl
    have C2 : Hid (n.head? ≠ some 39 → ∀ w, Yv w → Calls Tryd.prog 15 #[.string (bs l ++ bs q ++ bs n), .int .i64 l.length] w fun e w' => e = .returned (.tuple #[.string (bs m), .int .i64 ((l.length : Int) + q.length), .int .i64 0]) ∧ Below w.heap.size w w') := Lib.hid (fun h w hV => by
      have := single_at (l ++ q ++ n) m l.length _ 0 (hback h) w (by simp only [List.length_append]; omega) hV
      rw [bs_append, bs_append]
      simpa using this)
    clear hback
    have hk : IntKind.i64.wrap ((l.length : Int) + (q.length : Int)) = (l.length : Int) + (q.length : Int) := by rw [IntKind.wrap_i64]; omega
    by_cases hn : n = []
    · have C3 := Lib.hid (C2.out (by rw [hn]; simp))
      have n0 : n.length = 0 := by rw [hn]; rfl
      clear hn C2
      go_wp2_with fail
      with_reducible refine (C3.out _ HV2.out).mono ?_
      rintro e w3 ⟨rfl, hb3⟩
      have HB3 := Lib.hid (below_of_new HB2.out hb3); clear hb3
      go_wp2_with fail
      go_ret
      exact ⟨rfl, HB3.out⟩
    · have hn0 : 0 < (bs n).size := by rw [bs_size]; exact List.length_pos_iff.2 hn
      have hn1 : 0 < n.length := List.length_pos_iff.2 hn
      have T39 := head_is n 39 39 rfl hn0
      obtain ⟨cc, hcc⟩ : ∃ cc : Int, (((bs n)[0]'hn0).toNat : Int) = cc := ⟨_, rfl⟩
      rw [hcc] at T39
      by_cases h39 : n.head? = some 39
      · have t39 : (cc == 39) = true := by rw [T39, h39]; rfl
        clear T39 h39 hn C2
        go_wp2_with fail
        go_ret
        exact ⟨rfl, HB2.out⟩
      · have t39 : (cc == 39) = false := by rw [T39]; simpa using h39
        have C3 := Lib.hid (C2.out h39)
        clear T39 h39 hn C2
        go_wp2_with fail
        with_reducible refine (C3.out _ HV2.out).mono ?_
        rintro e w3 ⟨rfl, hb3⟩
        have HB3 := Lib.hid (below_of_new HB2.out hb3); clear hb3
        go_wp2_with fail
        go_ret
        exact ⟨rfl, HB3.out⟩
  · clear hback
    go_wp2_with fail
    go_ret
    exact ⟨rfl, HB2.out⟩
end Go.Proofs.YtbbjgdnbekoaeaaDoor

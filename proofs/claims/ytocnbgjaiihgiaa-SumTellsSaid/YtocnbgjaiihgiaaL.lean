import Derived.Test.YtocnbgjaiihgiaaI
namespace Go.Proofs.Ytocnbgjaiihgiaa
open Go.RowKit Go.Kx Plain
set_option maxHeartbeats 800000 in
theorem tells_any (w : World) (v : Value) (l : List Nat) (hr : (Rep.slice Rep.u8).rd w T [v] l) (u : Value) (s : List Int) (hs : RI.rd w T [u] s) :
    Calls Try.prog 3 #[v, u] w fun e w' => e = .returned (.bool true) ∧ Below w.heap.size w w' := by
  obtain ⟨A1, c1, rfl, hA1, hA1', hr⟩ := Rep.slice_open hr
  obtain ⟨A2, c2, rfl, hA2, hA2', hs⟩ := Rep.slice_open hs
  by_cases h1 : 400 < l.length
  · have hd1 : decide ((400 : Int) < (l.length : Int)) = true := by simp; omega
    go_enter Try.func3, Try.ntmps3
    go_wp2_with fail
    refine (head_any _).mono ?_
    rintro e W1 ⟨rfl, hb1⟩
    go_wp2_with fail
    go_ret
    exact ⟨rfl, hb1⟩
  · have hd1 : decide ((400 : Int) < (l.length : Int)) = false := by simp; omega
    by_cases h2 : 40 < s.length
    · have hd2 : decide ((40 : Int) < (s.length : Int)) = true := by simp; omega
      go_enter Try.func3, Try.ntmps3
      go_wp2_with fail
      refine (head_any _).mono ?_
      rintro e W1 ⟨rfl, hb1⟩
      go_wp2_with fail
      go_ret
      exact ⟨rfl, hb1⟩
    · have hd2 : decide ((40 : Int) < (s.length : Int)) = false := by simp; omega
      have hln : l.length ≤ 1000000 := by omega
      obtain ⟨q, Hq⟩ : ∃ q, Hid (q = (blocks l).map (fun n : Nat => (n : Int))) := ⟨_, rfl⟩
      go_enter Try.func3, Try.ntmps3
      go_wp2_with fail
      refine (head_any _).mono ?_
      rintro e W1 ⟨rfl, hb1⟩
      have hr := Rep.below hr hb1
      have hs := Rep.below hs hb1
      go_wp2_with fail
      refine (Of_any _ l _ hr _ rfl).mono ?_
      rintro e W2 ⟨rfl, hb2⟩
      have hB2 := hb1.trans (hb2.mono hb1.size)
      have hr := Rep.below hr hb2
      have hs := Rep.below hs hb2
      go_wp2_with fail
      refine (refof_any _ l _ hr hln).mono ?_
      rintro e W2' ⟨rfl, rfl⟩
      go_wp2_with fail
      refine (blocks_named _ l _ hr hln q Hq.out).mono ?_
      rintro e W3 ⟨A3, c3, rfl, hq1, hb3⟩
      have hB3 := hB2.trans (hb3.mono hB2.size)
      have hr := Rep.below hr hb3
      have hs := Rep.below hs hb3
      go_wp2_with fail
      refine (refblocks_named _ l _ hr hln q Hq.out).mono ?_
      rintro e W4 ⟨A4, c4, rfl, hq2, hb4⟩
      have hB4 := hB3.trans (hb4.mono hB3.size)
      have hr := Rep.below hr hb4
      have hs := Rep.below hs hb4
      have hq1 := Rep.below hq1 hb4
      go_wp2_with fail
      refine (ints_any _ _ _ _ _ hq1 hq2).mono ?_
      rintro e W5 ⟨rfl, hb5⟩
      have hB5 := hB4.trans (hb5.mono hB4.size)
      have hr := Rep.below hr hb5
      have hs := Rep.below hs hb5
      go_wp2_with fail
      refine (check_named _ _ l s _ hr hln hs q Hq.out.symm _ rfl).mono ?_
      rintro e W6 ⟨rfl, hb6⟩
      have hB6 := hB5.trans (hb6.mono hB5.size)
      have hr := Rep.below hr hb6
      have hs := Rep.below hs hb6
      go_wp2_with fail
      refine (refcheck_named _ _ l s _ hr hln hs (by omega) q Hq.out.symm _ rfl).mono ?_
      rintro e W7 ⟨rfl, hb7⟩
      have hB7 := hB6.trans (hb7.mono hB6.size)
      go_wp2_with fail
      go_ret
      exact ⟨by simp, hB7⟩
end Go.Proofs.Ytocnbgjaiihgiaa

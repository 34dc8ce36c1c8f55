import Derived.Test.YtocnbgjaiihgiaaF
namespace Go.Proofs.Ytocnbgjaiihgiaa
open Go.RowKit Go.Kx Plain
set_option maxHeartbeats 400000 in
theorem refblocks_any (v : Value) (l : List Nat) (w : World) {D : Nat → Prop} (hl : (Rep.slice Rep.u8).rd w D [v] l) (hsz : l.length ≤ 1000000) :
    Calls Try.prog 14 #[v] w fun e w' => ∃ v', e = .returned v' ∧ Own w' w.heap.size 3 (Rep.nat .i64 4294967296) v' (blocks l) ∧ Below w.heap.size w w' := by
  have hl := Rep.widen hl
  have hb8 := Rep.slice_u8_all hl
  obtain ⟨a, cap, rfl, hm1, hm2, hl⟩ := Rep.slice_open hl
  go_enter Try.func14, Try.ntmps14
  go_wp2
  go_loopw [3, 4] (fun out i wr => ∃ (k : Nat) (done : List Nat), i = .int .i64 k ∧ k ≤ l.length + 15 ∧ done.length ≤ k ∧ Hid (blocks l = done ++ blocks (l.drop k)) ∧ Own wr w.heap.size 3 (Rep.nat .i64 4294967296) out done ∧
    Below w.heap.size w wr) (fun _ i _ => l.length + 16 - (intOf i).toNat)
  case atStart => exact ⟨0, [], rfl, by omega, by simp, rfl, Own.nil _ _ _ _, Below.refl _ _⟩
  case round =>
    obtain ⟨k, done, rfl, hk, hdl, hd, hown, hbel⟩ := hrel
    by_cases hlt : k < l.length
    · have hdec : decide (k < l.length) = true := by simp; omega
      obtain ⟨h, hmin, hh1, hh2, hh3⟩ : ∃ h : Nat, (if (l.length : Int) < (k : Int) + 16 then (l.length : Int) else (k : Int) + 16) = (h : Int) ∧ k ≤ h ∧ h ≤ l.length ∧ Hid ((l.drop k).take (h - k) = (l.drop k).take 16) := by
        rcases Nat.lt_or_ge l.length (k + 16) with h | h
        · refine ⟨l.length, by split <;> omega, by omega, by omega, ?_⟩
          show _ = _
          rw [List.take_of_length_le (by simp), List.take_of_length_le (by simp; omega)]
        · exact ⟨k + 16, by split <;> omega, by omega, by omega, by show _ = _; congr 1; omega⟩
      have hcut := Rep.slice_cut ((Rep.slice Rep.u8).keep (Keeps.of_below hbel) hl) hh1 hh2
      rw [show k * Rep.u8.size = k from Nat.mul_one k, if_neg (by omega)] at hcut
      have hres : ∀ w2 D, (Rep.nat .i64 4294967296).rd w2 D [.int .i64 ((crc ((l.drop k).take (h - k)) : Nat) : Int)] (crc ((l.drop k).take (h - k))) := fun w2 D =>
        ⟨rfl, crc_lt (fun x hx => hb8 x (List.mem_of_mem_drop (List.mem_of_mem_take hx)))⟩
      have hbytes : (done.length + 1) * 8 ≤ 140737488355328 := by omega
      have hhc : h ≤ cap := by omega
      have hst : Hid (blocks l = (done ++ [crc ((l.drop k).take (h - k))]) ++ blocks (l.drop (k + 16))) := by
        show _ = _
        rw [hd.out, blocks_cons (l.drop k) (by intro h0; have := congrArg List.length h0; simp at this; omega), ← hh3.out]; simp
      go_wp2_with (first | (go_at_call 11; refine (refof_any _ _ _ hcut (by simp; omega)).mono ?_; rintro e w' ⟨rfl, rfl⟩) | (at_builtin; refine wpList_push el23 rfl _ _ rfl (hown.alloc _) rfl rfl (cell_one_new _ _ _) (hres _ _) hbytes (by have h := hbel.size; simp; omega) _ rfl ?_; intro v3 w3 hown3 hk3 hb3 hv3 hv4))
      go_outline
      go_roundw
      case rel => exact ⟨k + 16, _, by go_num, by omega, by simp; omega, hst, hown3, (hbel.alloc hbel.size _).trans hb3⟩
      case measure => simp [intOf]; omega
    · have hdec : decide (k < l.length) = false := by simp; omega
      have hfin : Hid (blocks l = done) := by
        show _ = _
        rw [hd.out, List.drop_of_length_le (by omega), blocks_nil, List.append_nil]
      go_wp2
      go_ret
      exact ⟨_, rfl, by rw [hfin.out]; exact hown, hbel⟩
end Go.Proofs.Ytocnbgjaiihgiaa

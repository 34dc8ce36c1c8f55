import Derived.Test.YtocnbgjaiihgiaaM
import Derived.Test.YtocnbgjaiihgiaaP6
namespace Go.Proofs.Ytocnbgjaiihgiaa
open Go.RowKit Go.Kx Plain
theorem keepC {w0 w w' : World} {b o : Nat} {v : Value} (hb : Below w.heap.size w w') (h : w.cell? ⟨b, o, none⟩ = some v ∧ Below w0.heap.size w0 w) : w'.cell? ⟨b, o, none⟩ = some v ∧ Below w0.heap.size w0 w' :=
  ⟨(Keeps.of_below (D := T) hb).cell trivial h.1, h.2.trans (hb.mono h.2.size)⟩
set_option maxHeartbeats 1600000 in
theorem parts_any (w : World) (va : Value) (a : List Nat) (ha : (Rep.slice Rep.u8).rd w T [va] a) (vb : Value) (b : List Nat) (hb : (Rep.slice Rep.u8).rd w T [vb] b) :
    Calls Try.prog 7 #[va, vb] w fun e w' => e = .returned (.bool true) ∧ Below w.heap.size w w' := by
  obtain ⟨A1, c1, rfl, hA1, hA1', ha⟩ := Rep.slice_open ha
  obtain ⟨A2, c2, rfl, hA2, hA2', hb⟩ := Rep.slice_open hb
  by_cases h1 : 200 < a.length
  · have hd1 : decide ((200 : Int) < (a.length : Int)) = true := by simp; omega
    go_enter Try.func7, Try.ntmps7
    go_wp2_with fail
    refine (head_any _).mono ?_
    rintro e W1 ⟨rfl, hb1⟩
    go_wp2_with fail
    go_ret
    exact ⟨rfl, hb1⟩
  · have hd1 : decide ((200 : Int) < (a.length : Int)) = false := by simp; omega
    by_cases h2 : 200 < b.length
    · have hd2 : decide ((200 : Int) < (b.length : Int)) = true := by simp; omega
      go_enter Try.func7, Try.ntmps7
      go_wp2_with fail
      refine (head_any _).mono ?_
      rintro e W1 ⟨rfl, hb1⟩
      go_wp2_with fail
      go_ret
      exact ⟨rfl, hb1⟩
    · have hd2 : decide ((200 : Int) < (b.length : Int)) = false := by simp; omega
      obtain ⟨n, hn, hna, hn16⟩ : ∃ n : Nat, (a.length : Int) / 16 * 16 = (n : Int) ∧ n ≤ a.length ∧ n % 16 = 0 := ⟨a.length / 16 * 16, by omega, by omega, by omega⟩
      have hnc : n ≤ c1 := by omega
      go_enter Try.func7, Try.ntmps7
      go_wp2_with fail
      refine (head_any _).mono ?_
      rintro e W1 ⟨rfl, hB⟩
      have ha := Rep.slice_take (Rep.below ha hB) hna
      have hb := Rep.below hb hB
      obtain ⟨a1, Ha1⟩ : ∃ a1, Hid (a1 = a.take n) := ⟨_, rfl⟩
      have hl1 : a1.length = n := by rw [Ha1.out]; simp; omega
      rw [← Ha1.out] at ha
      have Hl1 := Lib.hid hl1
      clear hl1
      have hae := (Rep.slice Rep.u8).keep (Keeps.alloc W1 (.cells #[] 5) (fun b => some b ≠ some W1.heap.size)) ((Rep.slice Rep.u8).more (D' := fun b => some b ≠ some W1.heap.size) (fun b _ h he => by injection he; omega) ha)
      have hbe := (Rep.slice Rep.u8).more (D' := fun b => b < W1.heap.size) (fun b _ h => h) hb
      have hk1 : (([] : List Nat).length + a1.length) * 1 ≤ 140737488355328 := by have := Hl1.out; simp; omega
      have hk2 : (a1.length + b.length) * 1 ≤ 140737488355328 := by have := Hl1.out; simp; omega
      go_wp2_with (first
        | (at_builtin; refine wpList_pushAll el22 rfl (.tmp 27) (.tmp 30) rfl (Own.empty W1 W1.heap.size 5 Rep.u8 (Nat.le_refl _)) rfl rfl hae hk1 (le_alloc (Nat.le_refl _) _) _ rfl ?_; intro v2 W2 ho2 hk2' hb2 hv2; rw [List.nil_append] at ho2)
        | (at_builtin; refine wpList_pushAll el22 rfl (.tmp 31) (.tmp 32) rfl ho2 rfl rfl ((Rep.slice Rep.u8).more (fun b hb _ he => Nat.lt_irrefl _ (Nat.lt_of_lt_of_le hb (ho2.block he.symm).1)) ((Rep.slice Rep.u8).keep ((Keeps.alloc W1 (.cells #[] 5) _).trans (Keeps.mono hk2' (fun b hb _ he => by have := (by simpa [Value.ownBlock] using he : b = W1.heap.size); omega))) hbe)) hk2 (Nat.le_trans (le_alloc (Nat.le_refl _) _) hb2.size) _ rfl ?_; intro v3 W3 ho3 hk3' hb3 hv3)
        | fail)
      have h13 : Below W1.heap.size W1 W3 := (((Below.refl _ _).alloc (Nat.le_refl _) _).trans hb2).trans hb3
      have hB := hB.trans (h13.mono hB.size)
      have ha := Rep.below ha h13
      have hb := Rep.below hb h13
      have hall := ho3.rd
      obtain ⟨A3, c3, rfl, hA3, hA3'⟩ := ho3.shape
      obtain ⟨al, Hal⟩ : ∃ al, Hid (al = a1 ++ b) := ⟨_, rfl⟩
      have hall : (Rep.slice Rep.u8).rd W3 T [.slice A3 (a1 ++ b).length c3] al := by rw [Hal.out]; exact hall
      have Hall : Hid (al.length = n + b.length) := by show _ = _; rw [Hal.out, List.length_append, Hl1.out]
      obtain ⟨nl, hnl⟩ : ∃ nl, (a1 ++ b).length = nl := ⟨_, rfl⟩
      rw [hnl] at hall hA3 ⊢
      have Hnl : Hid (nl = al.length) := by show _ = _; rw [Hal.out, hnl]
      clear hnl ho2 ho3 hb2 hb3 hk2' hk3' hv2 hv3 hae hbe hk1 hk2 h13
      obtain ⟨q1, Hq1⟩ : ∃ q, Hid (q = (blocks a1).map (fun n : Nat => (n : Int))) := ⟨_, rfl⟩
      obtain ⟨q2, Hq2⟩ : ∃ q, Hid (q = (blocks b).map (fun n : Nat => (n : Int))) := ⟨_, rfl⟩
      obtain ⟨q3, Hq3⟩ : ∃ q, Hid (q = (blocks al).map (fun n : Nat => (n : Int))) := ⟨_, rfl⟩
      have Hq : Hid (q3 = q1 ++ q2) := by
        show _ = _
        rw [Hq1.out, Hq2.out, Hq3.out, Hal.out, blocks_append a1 b (by rw [Hl1.out]; exact hn16), List.map_append]
      have Hql : Hid (q1.length ≤ 100 ∧ q2.length ≤ 100 ∧ q3.length = (al.length + 15) / 16) := by
        show _ ∧ _ ∧ _
        have e1 := Hl1.out
        rw [Hq1.out, Hq2.out, Hq3.out, List.length_map, List.length_map, List.length_map, blocks_len, blocks_len, blocks_len]
        refine ⟨by omega, by omega, rfl⟩
      refine (blocks_named _ a1 _ ha (by have := Hl1.out; omega) q1 Hq1.out).mono ?_
      rintro e W4 ⟨A4, c4, rfl, hr1, hb4⟩
      have hB := hB.trans (hb4.mono hB.size)
      have hb := Rep.below hb hb4
      have hall := Rep.below hall hb4
      go_wp2_with fail
      refine (blocks_named _ b _ hb (by omega) q2 Hq2.out).mono ?_
      rintro e W5 ⟨A5, c5, rfl, hr2, hb5⟩
      have hB := hB.trans (hb5.mono hB.size)
      have hr1 := Rep.below hr1 hb5
      have hall := Rep.below hall hb5
      go_wp2_with fail
      refine (blocks_named _ al _ hall (by have := Hall.out; omega) q3 Hq3.out).mono ?_
      rintro e W6 ⟨A6, c6, rfl, hr3, hb6⟩
      have hB := hB.trans (hb6.mono hB.size)
      have hr1 := Rep.below hr1 hb6
      have hr2 := Rep.below hr2 hb6
      have hall := Rep.below hall hb6
      have hr1e := (Rep.slice (Rep.int .i64)).keep (Keeps.alloc W6 (.cells #[] 3) (fun b => some b ≠ some W6.heap.size)) ((Rep.slice (Rep.int .i64)).more (D' := fun b => some b ≠ some W6.heap.size) (fun b _ h he => by injection he; omega) hr1)
      have hr2e := (Rep.slice (Rep.int .i64)).more (D' := fun b => b < W6.heap.size) (fun b _ h => h) hr2
      have hk1 : (([] : List Int).length + q1.length) * 8 ≤ 140737488355328 := by have := Hql.out; simp; omega
      have hk2 : (q1.length + q2.length) * 8 ≤ 140737488355328 := by have := Hql.out; omega
      go_wp2_with (first
        | (at_builtin; refine wpList_pushAll el23i rfl (.tmp 43) (.tmp 44) rfl (Own.empty W6 W6.heap.size 3 (Rep.int .i64) (Nat.le_refl _)) rfl rfl hr1e hk1 (le_alloc (Nat.le_refl _) _) _ rfl ?_; intro v7 W7 ho7 hk7' hb7 hv7; rw [List.nil_append] at ho7)
        | (at_builtin; refine wpList_pushAll el23i rfl (.tmp 45) (.tmp 46) rfl ho7 rfl rfl ((Rep.slice (Rep.int .i64)).more (fun b hb _ he => Nat.lt_irrefl _ (Nat.lt_of_lt_of_le hb (ho7.block he.symm).1)) ((Rep.slice (Rep.int .i64)).keep ((Keeps.alloc W6 (.cells #[] 3) _).trans (Keeps.mono hk7' (fun b hb _ he => by have := (by simpa [Value.ownBlock] using he : b = W6.heap.size); omega))) hr2e)) hk2 (Nat.le_trans (le_alloc (Nat.le_refl _) _) hb7.size) _ rfl ?_; intro v8 W8 ho8 hk8' hb8 hv8)
        | fail)
      have h68 : Below W6.heap.size W6 W8 := (((Below.refl _ _).alloc (Nat.le_refl _) _).trans hb7).trans hb8
      have hB := hB.trans (h68.mono hB.size)
      have hr3 := Rep.below hr3 h68
      have hall := Rep.below hall h68
      have h12 := ho8.rd
      rw [← Hq.out] at h12
      clear ho7 ho8 hb7 hb8 hk7' hk8' hv7 hv8 hr1e hr2e hk1 hk2 h68
      refine (ints_any _ _ _ _ _ hr3 h12).mono ?_
      rintro e W9 ⟨rfl, hb9⟩
      have hB := hB.trans (hb9.mono hB.size)
      have hr3 := Rep.below hr3 hb9
      have hall := Rep.below hall hb9
      have hdq : decide (q3 = q3) = true := by simp
      go_wp2_with fail
      have hnl1 : nl ≤ 400 := by have := Hnl.out; have := Hall.out; omega
      have hq3l : Hid (q3.length = (nl + 15) / 16) := by show _ = _; rw [Hnl.out]; exact Hql.out.2.2
      have hq3 : q3.length ≤ 26 := by have := hq3l.out; omega
      have Hget : Hid (∀ k, k < q3.length → q3[k]? = some ((crc ((al.drop (16 * k)).take 16) : Nat) : Int)) := by
        intro k hk
        have h16 : 16 * k < al.length := by have := hq3l.out; have := Hnl.out; omega
        rw [Hq3.out, blocks_map_get, if_pos h16]
      clear hr1 hr2 h12 ha hb
      go_loopw [11, 12] (fun i _ wr => ∃ k : Nat, k ≤ q3.length ∧ i = .int .i64 k ∧ Keeps W9 wr T ∧ Below w.heap.size w wr) (fun i _ _ => q3.length - (intOf i).toNat)
      case atStart => exact ⟨0, by omega, rfl, Keeps.refl _ _, hB⟩
      case round =>
        obtain ⟨k, hk, rfl, hkeep, hbel⟩ := hrel
        by_cases hlt : k < q3.length
        · have hdec : decide (k < q3.length) = true := by simp; omega
          have hx := Hget.out k hlt
          obtain ⟨f, hf, Hf⟩ : ∃ f : Nat, 16 * (k : Int) = (f : Int) ∧ Hid (f = 16 * k) := ⟨16 * k, by omega, rfl⟩
          have hfl : f < nl := by have := Hf.out; have := hq3l.out; omega
          have hdec2 : decide (nl ≤ f) = false := by simp; omega
          obtain ⟨h, hmin, hh1, hh2, hh3⟩ : ∃ h : Nat, (if (nl : Int) < (f : Int) + 16 then (nl : Int) else (f : Int) + 16) = (h : Int) ∧ f ≤ h ∧ h ≤ nl ∧ Hid ((al.drop f).take (h - f) = (al.drop f).take 16) := by
            rcases Nat.lt_or_ge nl (f + 16) with h | h
            · refine ⟨nl, by split <;> omega, by omega, by omega, ?_⟩
              show _ = _
              rw [List.take_of_length_le (by rw [List.length_drop, ← Hnl.out]; omega), List.take_of_length_le (by rw [List.length_drop, ← Hnl.out]; omega)]
            · exact ⟨f + 16, by split <;> omega, by omega, by omega, by show _ = _; congr 1; omega⟩
          have hcut := Rep.slice_cut ((Rep.slice Rep.u8).keep hkeep hall) hh1 (by rw [← Hnl.out]; omega)
          rw [show f * Rep.u8.size = f from Nat.mul_one f] at hcut
          rw [← Hf.out, ← hh3.out] at hx
          obtain ⟨x, Hx⟩ : ∃ x, Hid (((crc ((al.drop f).take (h - f)) : Nat) : Int) = x) := ⟨_, rfl⟩
          rw [Hx.out] at hx
          obtain ⟨b6, o6, rfl, hc6, _⟩ := Rep.slice_int ((Rep.slice (Rep.int .i64)).keep hkeep hr3) hx
          have hik : (k : Int) < (q3.length : Int) := by omega
          have hik0 : (0 : Int) ≤ (k : Int) := by omega
          have hhc : h ≤ c3 := by omega
          have hxx : (x != x) = false := by simp
          have hbw := hbel.size
          have hif1 : (0 : Int) ≤ (f : Int) := by omega
          have hif2 : (f : Int) ≤ (h : Int) := by omega
          have hif3 : (h : Int) ≤ (c3 : Int) := by omega
          have hif4 : (0 : Int) ≤ (h : Int) := by omega
          have hwr : IntKind.i64.wrap ((f : Int) + 16) = (f : Int) + 16 := IntWalk.i64_in _ (by omega)
          clear hx
          go_wp2
          go_region_held3 (fun w' => w'.cell? ⟨b6, o6 + k, none⟩ = some (.int .i64 x) ∧ Below wr.heap.size wr w')
            (first | exact ⟨hc6, (Below.refl _ _).drew⟩ | exact keepC hbc (by assumption))
            ((first
              | (go_at_call 10; refine (Of_any _ ((al.drop f).take (h - f)) _ (Rep.below hcut (And.right (by assumption))) x Hx.out).mono ?_; rintro e w9 ⟨rfl, hbc⟩)))
          have hB9 := And.right (show _ ∧ Below wr.heap.size wr _ by assumption)
          clear hwr
          go_wp2
          go_roundw
          case rel => exact ⟨k + 1, by omega, by go_num, hkeep.trans (Keeps.of_below hB9), hbel.trans (hB9.mono hbw)⟩
          case measure => simp [intOf]; omega
        · have hdec : decide (k < q3.length) = false := by simp; omega
          go_wp2
          go_ret
          exact ⟨rfl, hbel⟩
end Go.Proofs.Ytocnbgjaiihgiaa

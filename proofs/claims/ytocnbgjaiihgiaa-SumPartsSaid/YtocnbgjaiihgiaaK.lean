import Derived.Test.YtocnbgjaiihgiaaI
import Derived.Test.YtocnbgjaiihgiaaP3
namespace Go.Proofs.Ytocnbgjaiihgiaa
open Go.RowKit Go.Kx Plain
theorem el22 : Elem Try.prog 22 5 Rep.u8 1 := ⟨by kernel_rfl, ⟨.int .u8 0, by kernel_rfl, rfl⟩, by decide, by decide⟩
theorem el23i : Elem Try.prog 23 3 (Rep.int .i64) 8 := ⟨by kernel_rfl, ⟨.int .i64 0, by kernel_rfl, rfl⟩, by decide, by decide⟩
theorem wf64 {n : Int} (h1 : -9223372036854775808 ≤ n) (h2 : n ≤ 9223372036854775807) : (Lit.int .i64 n).wf = true := WalkArith.wf_i64 ⟨by omega, by omega⟩
set_option maxHeartbeats 1600000 in
theorem fits_any (w : World) (vb : Value) (b : List Nat) (hb : (Rep.slice Rep.u8).rd w T [vb] b) (a : Nat) (ha : a < 65536) (y : Nat) (hy : y < 256) :
    Calls Try.prog 6 #[vb, .int .u16 (a : Int), .int .u8 (y : Int)] w fun e w' => e = .returned (.bool true) ∧ Below w.heap.size w w' := by
  obtain ⟨A1, c1, rfl, hA1, hA1', hb⟩ := Rep.slice_open hb
  by_cases h400 : 400 < b.length
  · have hd1 : decide ((400 : Int) < (b.length : Int)) = true := by simp; omega
    go_enter Try.func6, Try.ntmps6
    go_wp2_with fail
    refine (head_any _).mono ?_
    rintro e W1 ⟨rfl, hb1⟩
    go_wp2_with fail
    go_ret
    exact ⟨rfl, hb1⟩
  · have hd1 : decide ((400 : Int) < (b.length : Int)) = false := by simp; omega
    have hln : b.length ≤ 1000000 := by omega
    obtain ⟨q, Hq⟩ : ∃ q, Hid (q = (blocks b).map (fun n : Nat => (n : Int))) := ⟨_, rfl⟩
    have Hql : Hid (q.length = (b.length + 15) / 16) := by show _ = _; rw [Hq.out, List.length_map, blocks_len]
    have hqp : 0 < b.length → 1 ≤ q.length := by have := Hql.out; omega
    have hq26 : q.length ≤ 26 := by have := Hql.out; omega
    have t1 : ((q.length : Int) != ((b.length : Int) + 15) / 16) = false := by have := Hql.out; simp; omega
    go_enter Try.func6, Try.ntmps6
    go_wp2_with fail
    refine (head_any _).mono ?_
    rintro e W1 ⟨rfl, hb1⟩
    have hb := Rep.below hb hb1
    go_wp2_with fail
    refine (blocks_named _ b _ hb hln q Hq.out).mono ?_
    rintro e W2 ⟨A2, c2, rfl, hq, hb2⟩
    have hqc := (Rep.slice_cap hq).1
    have hB := hb1.trans (hb2.mono hb1.size)
    have hb := Rep.below hb hb2
    go_wp2_with fail
    refine (check_named _ _ b q _ hb hln hq q Hq.out.symm (-1) (check_self q)).mono ?_
    rintro e W3 ⟨rfl, hb3⟩
    have hB := hB.trans (hb3.mono hB.size)
    have hb := Rep.below hb hb3
    have hq := Rep.below hq hb3
    have hs3 := hB.size
    have hqe := (Rep.slice (Rep.int .i64)).keep (Keeps.alloc W3 (.cells #[] 3) (fun b => some b ≠ some W3.heap.size)) ((Rep.slice (Rep.int .i64)).more (D' := fun b => some b ≠ some W3.heap.size) (fun b _ h he => by injection he; omega) hq)
    have hl1 : (([] : List Int).length + q.length) * 8 ≤ 140737488355328 := by simp; omega
    have hl2 : ((([] : List Int) ++ q).length + 1) * 8 ≤ 140737488355328 := by simp; omega
    have h00 : ∀ w D, (Rep.int .i64).rd w D [.int .i64 0] 0 := fun w D => ⟨rfl, by decide⟩
    go_wp2_with (first
      | (at_builtin; refine wpList_pushAll el23i rfl _ _ rfl (Own.empty W3 W3.heap.size 3 (Rep.int .i64) (Nat.le_refl _)) rfl rfl hqe hl1 (le_alloc (Nat.le_refl _) _) _ rfl ?_; intro v4 W4 ho4 hk4 hb4 hv4)
      | (at_builtin; refine wpList_push el23i rfl _ _ rfl (ho4.alloc _) rfl rfl (cell_one_new _ _ _) (h00 _ _) hl2 (le_alloc (Nat.le_trans (le_alloc (Nat.le_refl _) _) hb4.size) _) _ rfl ?_; intro v5 W5 ho5 hk5 hb5 hv5 hv5')
      | fail)
    have h35 : Below W3.heap.size W3 W5 := (((Below.refl _ _).alloc (Nat.le_refl _) _).trans (hb4.alloc (Nat.le_trans (le_alloc (Nat.le_refl _) _) hb4.size) _)).trans hb5
    have hB := hB.trans (h35.mono hB.size)
    have hb := Rep.below hb h35
    have hq := Rep.below hq h35
    refine (check_named _ _ b (([] ++ q) ++ [0]) _ hb hln ho5.rd q Hq.out.symm (q.length : Int) (by rw [List.nil_append]; exact check_snoc q 0)).mono ?_
    rintro e W6 ⟨rfl, hb6⟩
    have hB := hB.trans (hb6.mono hB.size)
    have hb := Rep.below hb hb6
    have hq := Rep.below hq hb6
    clear hqe hl1 hl2 h00 ho4 ho5 hb4 hb5 hk4 hk5 hv4 hv5 hv5' h35 hb1 hb2 hb3
    have hs6 := hB.size
    by_cases h0 : b.length = 0
    · have t2 : ((b.length : Int) == 0) = true := by simp [h0]
      clear h0
      go_wp2_with fail
      go_ret
      exact ⟨rfl, hB⟩
    · have t2 : ((b.length : Int) == 0) = false := by simp; intro h; exact h0 (by simp [h])
      have hbpos : 0 < b.length := by omega
      have hqp := hqp hbpos
      obtain ⟨k, hk, hkl⟩ : ∃ k : Nat, (a : Int) % (b.length : Int) = (k : Int) ∧ k < b.length := ⟨a % b.length, by simp, Nat.mod_lt _ hbpos⟩
      have hba := (Rep.slice Rep.u8).keep (Keeps.alloc W6 (.cells #[] 5) (fun b => some b ≠ some W6.heap.size)) ((Rep.slice Rep.u8).more (D' := fun b => some b ≠ some W6.heap.size) (fun b _ h he => by injection he; omega) hb)
      have hl1 : (([] : List Nat).length + b.length) * 1 ≤ 140737488355328 := by simp; omega
      have hbk : b[k]? = some b[k] := by simp
      have hxb : b[k] < 256 := Rep.slice_u8_all hb _ (by simp)
      have hzx := u8_xor_nat b[k] y hxb hy
      have hz : b[k] ^^^ y < 256 := Nat.xor_lt_two_pow (n := 8) (by omega) (by omega)
      have Hct := Lib.hid (check_turned b k b[k] (b[k] ^^^ y) hbk (Rep.slice_u8_all hb) hz)
      have hyz : b[k] ^^^ y = b[k] ↔ y = 0 := by
        constructor
        · intro h
          have := congrArg (b[k] ^^^ ·) h
          simpa [← Nat.xor_assoc] using this
        · rintro rfl; simp
      have Hyz := Lib.hid hyz
      clear hyz
      obtain ⟨z, hzz⟩ : ∃ z, b[k] ^^^ y = z := ⟨_, rfl⟩
      rw [hzz] at hzx hz
      have Hzz := Lib.hid hzz
      clear hzz
      have hik : (k : Int) < (b.length : Int) := by omega
      go_wp2_with (first
        | (at_builtin; refine wpList_pushAll el22 rfl _ _ rfl (Own.empty W6 W6.heap.size 5 Rep.u8 (Nat.le_refl _)) rfl rfl hba hl1 (le_alloc (Nat.le_refl _) _) _ rfl ?_; intro v7 W7 ho7 hk7 hb7 hv7; rw [List.nil_append] at ho7; obtain ⟨g7, c7, rfl, hg7, hg7', ⟨u7, hu7, hru7, hx7⟩, hf7, hset7⟩ := ho7.at1 (R := Rep.u8) rfl hbk; obtain rfl := List.cons.inj hru7 |>.1)
        | fail)
      all_goals
        have h68 : Below W6.heap.size W6 (W7.setCell ⟨g7, k, none⟩ (.int .u8 (z : Int))) := (((Below.refl _ _).alloc (Nat.le_refl _) _).trans hb7).setCell hg7 _
        have hcr := (hset7 (.int .u8 (z : Int)) z ⟨rfl, hz⟩).rd
        have hlen : (b.set k z).length = b.length := by simp
        rw [show Value.slice (some ⟨g7, 0, none⟩) b.length c7 = Value.slice (some ⟨g7, 0, none⟩) b.length c7 from rfl] at hcr
        generalize W7.setCell ⟨g7, k, none⟩ (.int .u8 (z : Int)) = W8 at h68 hcr ⊢
        have hB := hB.trans (h68.mono hB.size)
        have hb := Rep.below hb h68
        have hq := Rep.below hq h68
        clear hset7 hf7 hu7 ho7 hb7 hk7 hv7 hba
      · have hy0 : y = 0 := by have : (y : Int) = 0 := by simpa using (by assumption : ((y : Int) == 0) = true)
                               omega
        refine (check_named _ _ (b.set k z) q _ hcr (by omega) hq _ rfl (-1) (by rw [Hq.out, ← Hzz.out, Hct.out, if_pos (Hyz.out.2 hy0)])).mono ?_
        rintro e W9 ⟨rfl, hb9⟩
        have hB := hB.trans (hb9.mono hB.size)
        have hb := Rep.below hb hb9
        have hq := Rep.below hq hb9
        have htk := Rep.slice_take hq (k := q.length - 1) (by omega)
        have hq1 : (q.length - 1 : Int) = ((q.length - 1 : Nat) : Int) := by omega
        go_wp2_with fail
        refine (check_named _ _ b (q.take (q.length - 1)) _ hb hln htk q Hq.out.symm ((q.length : Int) - 1) (by rw [check_init q (q.length - 1) (by omega)]; omega)).mono ?_
        rintro e W10 ⟨rfl, hb10⟩
        have hB := hB.trans (hb10.mono hB.size)
        go_wp2_with fail
        go_ret
        exact ⟨by simp, hB⟩
      · have hy0 : ¬ y = 0 := by
          intro h
          subst h
          have h' : (((0 : Nat) : Int) == 0) = false := by assumption
          simp at h'
        refine (check_named _ _ (b.set k z) q _ hcr (by omega) hq _ rfl ((k : Int) / 16) (by rw [Hq.out, ← Hzz.out, Hct.out, if_neg (fun h => hy0 (Hyz.out.1 h))]; rfl)).mono ?_
        rintro e W9 ⟨rfl, hb9⟩
        have hB := hB.trans (hb9.mono hB.size)
        have hb := Rep.below hb hb9
        have hq := Rep.below hq hb9
        have htk := Rep.slice_take hq (k := q.length - 1) (by omega)
        have hq1 : (q.length - 1 : Int) = ((q.length - 1 : Nat) : Int) := by omega
        go_wp2_with fail
        refine (check_named _ _ b (q.take (q.length - 1)) _ hb hln htk q Hq.out.symm ((q.length : Int) - 1) (by rw [check_init q (q.length - 1) (by omega)]; omega)).mono ?_
        rintro e W10 ⟨rfl, hb10⟩
        have hB := hB.trans (hb10.mono hB.size)
        go_wp2_with fail
        go_ret
        exact ⟨by simp, hB⟩
end Go.Proofs.Ytocnbgjaiihgiaa

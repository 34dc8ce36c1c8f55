import Derived.Test.YtofmmflohhadkaaY
import Derived.Deep.RegionLaw
namespace Go.Proofs.Ytofmmflohhadkaa
open Go.RowKit Go.Kx Plain
theorem getD_some {l : List Int} {i : Nat} (h : i < l.length) : l[i]? = some (l.getD i 0) := by simp [h]
theorem Own_one (w : World) (base : Nat) (hb : base ≤ w.heap.size) (x : Int) (hx : (Lit.int .i64 x).wf = true) : Own (w.alloc (.cells #[.int .i64 x] 3)) base 3 (Rep.int .i64) (.slice (some ⟨w.heap.size, 0, none⟩) 1 1) [x] := by
  refine ⟨[[.int .i64 x]], ⟨by simp [Rep.int], .inr ⟨w.heap.size, 1, #[.int .i64 x], rfl, hb, heap_alloc_new w _, Nat.le_refl _, by decide, by simp [Rep.int], by simp [Rep.int]⟩⟩, rfl, fun i es y h1 h2 => ?_⟩
  rcases i with _ | i <;> simp at h1 h2
  subst h1; subst h2
  exact ⟨rfl, hx⟩
set_option maxHeartbeats 2000000 in
theorem pairs_any (w : World) (vg : Value) (gp : List Nat) (hg : RU.rd w T [vg] gp) (vf : Value) (fi : List Nat) (hf : RU.rd w T [vf] fi) (vs : Value) (se : List Nat) (hs : RU.rd w T [vs] se) (n : Nat) (hn : n < 65536) :
    Calls Try.prog 8 #[vg, vf, vs, .int .u16 (n : Int)] w fun e w' => e = .returned (.bool true) ∧ Below w.heap.size w w' := by
  have hg := RU.more (D' := fun b => b < w.heap.size) (fun b _ h => h) hg
  have hf := RU.more (D' := fun b => b < w.heap.size) (fun b _ h => h) hf
  have hs := RU.more (D' := fun b => b < w.heap.size) (fun b _ h => h) hs
  obtain ⟨A, c, rfl, hm1, hm2, hg⟩ := Rep.slice_open hg
  by_cases h20 : 20 < gp.length
  · have hd : decide ((20 : Int) < (gp.length : Int)) = true := by simp; omega
    go_enter Try.func8, Try.ntmps8
    go_wp2_with fail
    refine (head_any _).mono ?_
    rintro e W1 ⟨rfl, hB⟩
    go_wp2_with fail
    go_ret
    exact ⟨rfl, hB⟩
  · have hd : decide ((20 : Int) < (gp.length : Int)) = false := by simp; omega
    go_enter Try.func8, Try.ntmps8
    go_wp2_with fail
    refine (head_any _).mono ?_
    rintro e W1 ⟨rfl, hB⟩
    go_wp2_with fail
    have hO0 := Own_one W1 w.heap.size hB.size 0 (by decide)
    have hB := hB.alloc hB.size (.cells #[.int .i64 0] 3)
    generalize W1.alloc (.cells #[.int .i64 0] 3) = W2 at hO0 hB ⊢
    go_loopw [10, 11] (fun out i wr => ∃ (k : Nat) (l : List Int), i = .int .i64 k ∧ k ≤ gp.length ∧ Own wr w.heap.size 3 (Rep.int .i64) out l ∧ Hid (l.length = k + 1) ∧ Hid (AllIn l (65536 * k)) ∧ Below w.heap.size w wr) (fun _ i _ => gp.length - (intOf i).toNat)
    case atStart => exact ⟨0, [0], rfl, by omega, hO0, rfl, fun x hx => by simp at hx; omega, hB⟩
    case round =>
      obtain ⟨k, l, rfl, hk, hown, Hl, Hin, hbel⟩ := hrel
      have hbs := hbel.size
      by_cases hlt : k < gp.length
      · have hdec : decide (k < gp.length) = true := by simp; omega
        have hg := RU.keep (Keeps.of_belowB hbel) hg
        obtain ⟨b3, o3, rfl, hc3, hx3⟩ := Rep.slice_nat hg (i := k) (x := gp[k]) (by simp)
        generalize gp[k] = pn at *
        have hkl : k < l.length := by have := Hl.out; omega
        have hin1 := Hin.out l[k] (by simp)
        obtain ⟨A7, c7, rfl, hc7, hc7'⟩ := hown.shape
        obtain ⟨b1, o1, rfl, hc1, _⟩ := Rep.slice_int hown.rd (i := k) (x := l[k]) (by simp)
        generalize l[k] = om at *
        have i1 : (k : Int) < (l.length : Int) := by omega
        have i2 : (k : Int) < (gp.length : Int) := by omega
        have i0 : (0 : Int) ≤ (k : Int) := by omega
        obtain ⟨s1, hs1, hs10, hs11⟩ : ∃ s, IntKind.i64.wrap (om + IntKind.i64.wrap (pn : Int)) = s ∧ 0 ≤ s ∧ s ≤ 65536 * ((k : Int) + 1) := ⟨om + pn, by rw [IntWalk.i64_in (pn : Int) (by omega)]; exact IntWalk.i64_in _ (by omega), by omega, by omega⟩
        have hres : ∀ w D, (Rep.int .i64).rd w D [.int .i64 s1] s1 := fun w D => ⟨rfl, wf_of s1 (by omega) (by omega)⟩
        have hin2 : Hid (AllIn (l ++ [s1]) (65536 * ((k + 1 : Nat) : Int))) := fun x hx => by
          rcases List.mem_append.1 hx with h | h
          · have := Hin.out x h; omega
          · simp at h; omega
        have hl2 : Hid ((l ++ [s1]).length = k + 1 + 1) := by show _ = _; rw [List.length_append, Hl.out]; rfl
        have hbytes : (l.length + 1) * 8 ≤ 140737488355328 := by have := Hl.out; omega
        go_wp2
        go_region_law ((refine step_push el22i rfl (.tmp 31) (.tmp 42) rfl (hown.drew.alloc _) (by rfl) (by rfl) (cell_one_new _ _ _) (hres _ _) hbytes (le_alloc hbs _) _ rfl ?_; intro v3 w3 hown3 hk3 hb3 hv3 hv4))
        go_wp2
        all_goals exact ⟨⟨k + 1, _, by go_num, by omega, hown3, hl2, hin2, (hbel.drew.alloc hbs _).trans hb3⟩, by simp [intOf]; omega⟩
      · have hdec : decide (k < gp.length) = false := by simp; omega
        have hk0 : k = gp.length := by omega
        have hlen : l.length ≤ 21 := by have := Hl.out; omega
        have Hin2 : AllIn l 2000000 := fun x hx => by have := Hin.out x hx; omega
        have Hin2 := Lib.hid Hin2
        have hr := Rep.widen hown.rd
        have hf := RU.keep (Keeps.of_belowB hbel) hf
        have hs := RU.keep (Keeps.of_belowB hbel) hs
        obtain ⟨A7, c7, rfl, hc7, hc7'⟩ := hown.shape
        clear Hin hown
        go_wp2_with fail
        refine (shows_any _ _ l fi _ hr (Rep.widen hf) Hin2.out hlen).mono ?_
        rintro e W3 ⟨⟨A3, c3, la, rfl, hla⟩, hB3⟩
        have hr := Rep.below hr hB3
        have hs := Rep.below (Rep.widen hs) hB3
        have hbel3 : Below w.heap.size w W3 := hbel.trans (hB3.mono hbel.size)
        clear hf hg hB3
        go_wp2_with fail
        refine (shows_any _ _ l se _ hr hs Hin2.out hlen).mono ?_
        rintro e W4 ⟨⟨A4, c4, lb, rfl, hlb⟩, hB4⟩
        have hr := Rep.below hr hB4
        have hla := Rep.below hla hB4
        have hbel4 : Below w.heap.size w W4 := hbel3.trans (hB4.mono hbel3.size)
        clear hs hB4
        go_wp2_with fail
        refine (Right_any _ _ l la _ hr hla).mono ?_
        rintro e W5 ⟨⟨q1, rfl, HP1⟩, hB5⟩
        have hr := Rep.below hr hB5
        have hla := Rep.below hla hB5
        have hlb := Rep.below hlb hB5
        have hbel5 : Below w.heap.size w W5 := hbel4.trans (hB5.mono hbel4.size)
        clear hB5
        cases q1
        · go_wp2_with fail
          go_ret
          exact ⟨rfl, hbel5⟩
        have HR1 := Lib.hid (HP1.1 rfl)
        clear HP1
        go_wp2_with fail
        refine (Right_any _ _ l lb _ hr hlb).mono ?_
        rintro e W6 ⟨⟨q2, rfl, HP2⟩, hB6⟩
        have hla := Rep.below hla hB6
        have hlb := Rep.below hlb hB6
        have hbel6 : Below w.heap.size w W6 := hbel5.trans (hB6.mono hbel5.size)
        clear hB6 hr
        cases q2
        · go_wp2_with fail
          go_ret
          exact ⟨rfl, hbel6⟩
        have HR2 := Lib.hid (HP2.1 rfl)
        clear HP2
        have kc : ∀ W : World, (convert 34 3 (.int .u16 (n : Int))).run Try.prog W = .ok (.int .i64 (n : Int)) W := fun W => by
          have hwn : IntKind.i64.wrap (n : Int) = (n : Int) := IntWalk.i64_in _ (by omega)
          have h1 : Try.prog.intKind 3 = .i64 := by kernel_rfl
          have h2 : Try.prog.underlying 3 = some (.int .i64) := by kernel_rfl
          have h := run_convert_int (P := Try.prog) W 34 3 .u16 (n : Int) (by kernel_rfl) (by rw [h1, h2])
          rw [h1, hwn] at h
          exact h
        clear hbel5 hbel4 hbel3 hbel Hin2
        go_wp2_with fail
        go_loopw [15, 16, 17, 18, 100, 110, 111] (fun i _ _ _ _ _ _ wr => ∃ m : Nat, m ≤ l.length ∧ i = .int .i64 m ∧ Below w.heap.size w wr ∧ RI.rd wr T [.slice A3 l.length c3] la ∧ RI.rd wr T [.slice A4 l.length c4] lb) (fun i _ _ _ _ _ _ _ => l.length - (intOf i).toNat)
        case atStart => exact ⟨0, by omega, rfl, hbel6, hla, hlb⟩
        case round =>
          obtain ⟨m, hm, rfl, hbel, hla, hlb⟩ := hrel
          clear kc
          have hlenr : ∀ W : World, (Builtin.len_ #[22] 3 #[.slice A7 l.length c7]).run Try.prog W = .ok (.int .i64 (l.length : Int)) W := fun W => by
            have h := run_len_slice (P := Try.prog) W 22 3 A7 l.length c7 (by kernel_rfl)
            exact h
          by_cases hlt : m < l.length
          · have hdec : decide (m < l.length) = true := by simp; omega
            go_wp2
            go_loopw [16, 17, 18, 100, 110, 111] (fun k _ _ _ _ _ wr2 => ∃ j : Nat, j ≤ m ∧ k = .int .i64 j ∧ Below w.heap.size w wr2 ∧ RI.rd wr2 T [.slice A3 l.length c3] la ∧ RI.rd wr2 T [.slice A4 l.length c4] lb) (fun k _ _ _ _ _ _ => m - (intOf k).toNat)
            case atStart => exact ⟨0, by omega, rfl, hbel, hla, hlb⟩
            case round =>
              obtain ⟨j, hj, rfl, hbel, hla, hlb⟩ := hrel
              by_cases hjm : j < m
              · have hdj : decide (j < m) = true := by simp; omega
                obtain ⟨e1, R1, P1⟩ := HR1.out
                obtain ⟨e2, R2, P2⟩ := HR2.out
                obtain ⟨p1, p2, p3⟩ := P1 m hlt j hjm
                obtain ⟨_, p4, p5⟩ := P2 m hlt j hjm
                obtain ⟨_, _, r1, r2⟩ := R1 m hlt
                obtain ⟨_, _, r3, r4⟩ := R2 m hlt
                obtain ⟨_, _, r5, r6⟩ := R1 j (by omega)
                obtain ⟨_, _, r7, r8⟩ := R2 j (by omega)
                have i1 : (m : Int) < (l.length : Int) := by omega
                have i2 : (j : Int) < (l.length : Int) := by omega
                have i3 : (0 : Int) ≤ (m : Int) := by omega
                have i4 : (0 : Int) ≤ (j : Int) := by omega
                obtain ⟨b1, o1, rfl, hc1, _⟩ := Rep.slice_int hla (i := m) (x := la.getD m 0) (getD_some (by omega))
                obtain ⟨b1', o1', ee1, hc2, _⟩ := Rep.slice_int hla (i := j) (x := la.getD j 0) (getD_some (by omega))
                injection ee1 with ee1; injection ee1 with ee1 ee1'; subst ee1 ee1'
                obtain ⟨b2, o2, rfl, hc3, _⟩ := Rep.slice_int hlb (i := m) (x := lb.getD m 0) (getD_some (by omega))
                obtain ⟨b2', o2', ee2, hc4, _⟩ := Rep.slice_int hlb (i := j) (x := lb.getD j 0) (getD_some (by omega))
                injection ee2 with ee2; injection ee2 with ee2 ee2'; subst ee2 ee2'
                have fw := wait_does n _ _ (lb.getD m 0 - lb.getD j 0) p1 p3 p4
                have fu := use_does n _ _ (lb.getD m 0 - lb.getD j 0) p2 p5
                generalize la.getD m 0 = x1 at *
                generalize la.getD j 0 = x2 at *
                generalize lb.getD m 0 = x3 at *
                generalize lb.getD j 0 = x4 at *
                clear p1 p2 p3 p4 p5 P1 P2 R1 R2 e1 e2
                obtain ⟨d, hd, hd1⟩ : ∃ d, IntKind.i64.wrap (x1 - x2) = d ∧ x1 - x2 = d := ⟨x1 - x2, IntWalk.i64_in _ (by omega), rfl⟩
                obtain ⟨s, hs, hs1⟩ : ∃ d, IntKind.i64.wrap (x3 - x4) = d ∧ x3 - x4 = d := ⟨x3 - x4, IntWalk.i64_in _ (by omega), rfl⟩
                rw [hd1, hs1] at fw fu
                have hcn : cl n M = n := by unfold cl; simp only [M]; omega
                obtain ⟨Wn, HW⟩ : ∃ v, Hid (wt (cl n M) = v) := ⟨_, rfl⟩
                obtain ⟨Un, HU⟩ : ∃ v, Hid (us (cl n M) = v) := ⟨_, rfl⟩
                have HW2 := HW.out
                have HU2 := HU.out
                rw [hcn] at HW2 HU2
                rw [HW2] at fw
                rw [HU2] at fu
                clear hcn HW2 HU2 hd1 hs1
                go_wp2
                go_quiet (fail)
                generalize hW2 : World.drewN _ _ = W2
                have k2 : Keeps wr W2 T := by rw [← hW2]; exact Keeps.drewN _ _ _
                have hbel3 : Below w.heap.size w W2 := by rw [← hW2]; exact below_of_drewN hbel _
                have hla := RI.keep k2 hla
                have hlb := RI.keep k2 hlb
                clear k2 hW2 hbel hc1 hc2 hc3 hc4
                by_cases g1 : Wn ≤ d
                · have t1 : decide (Wn ≤ d) = true := by simp; omega
                  have g3 : (n : Int) ≤ s := fw g1 (by omega)
                  have t2 : decide (s < (n : Int)) = false := by simp; omega
                  by_cases g2 : d ≤ Un
                  · have t3 : decide (d ≤ Un) = true := by simp; omega
                    have g4 : s ≤ (n : Int) := fu g2
                    have t4 : decide ((n : Int) < s) = false := by simp; omega
                    go_wp2_with fail
                    refine (Wait_any n _ (by omega) (by omega) Wn HW.out).mono ?_
                    rintro e W7 ⟨rfl, hB7⟩
                    have hla := Rep.below hla hB7
                    have hlb := Rep.below hlb hB7
                    have hbel7 : Below w.heap.size w W7 := hbel3.trans (hB7.mono hbel3.size)
                    go_wp2_with fail
                    refine (Use_any n _ (by omega) (by omega) Un HU.out).mono ?_
                    rintro e W8 ⟨rfl, hB8⟩
                    have hla := Rep.below hla hB8
                    have hlb := Rep.below hlb hB8
                    have hbel8 : Below w.heap.size w W8 := hbel7.trans (hB8.mono hbel7.size)
                    go_wp2_with fail
                    go_roundw
                    case rel => exact ⟨j + 1, by omega, by go_num, hbel8, hla, hlb⟩
                    case measure => simp [intOf]; omega
                  · have t3 : decide (d ≤ Un) = false := by simp; omega
                    go_wp2_with fail
                    refine (Wait_any n _ (by omega) (by omega) Wn HW.out).mono ?_
                    rintro e W7 ⟨rfl, hB7⟩
                    have hla := Rep.below hla hB7
                    have hlb := Rep.below hlb hB7
                    have hbel7 : Below w.heap.size w W7 := hbel3.trans (hB7.mono hbel3.size)
                    go_wp2_with fail
                    refine (Use_any n _ (by omega) (by omega) Un HU.out).mono ?_
                    rintro e W8 ⟨rfl, hB8⟩
                    have hla := Rep.below hla hB8
                    have hlb := Rep.below hlb hB8
                    have hbel8 : Below w.heap.size w W8 := hbel7.trans (hB8.mono hbel7.size)
                    go_wp2_with fail
                    go_roundw
                    case rel => exact ⟨j + 1, by omega, by go_num, hbel8, hla, hlb⟩
                    case measure => simp [intOf]; omega
                · have t1 : decide (Wn ≤ d) = false := by simp; omega
                  by_cases g2 : d ≤ Un
                  · have t3 : decide (d ≤ Un) = true := by simp; omega
                    have g4 : s ≤ (n : Int) := fu g2
                    have t4 : decide ((n : Int) < s) = false := by simp; omega
                    go_wp2_with fail
                    refine (Wait_any n _ (by omega) (by omega) Wn HW.out).mono ?_
                    rintro e W7 ⟨rfl, hB7⟩
                    have hla := Rep.below hla hB7
                    have hlb := Rep.below hlb hB7
                    have hbel7 : Below w.heap.size w W7 := hbel3.trans (hB7.mono hbel3.size)
                    go_wp2_with fail
                    refine (Use_any n _ (by omega) (by omega) Un HU.out).mono ?_
                    rintro e W8 ⟨rfl, hB8⟩
                    have hla := Rep.below hla hB8
                    have hlb := Rep.below hlb hB8
                    have hbel8 : Below w.heap.size w W8 := hbel7.trans (hB8.mono hbel7.size)
                    go_wp2_with fail
                    go_roundw
                    case rel => exact ⟨j + 1, by omega, by go_num, hbel8, hla, hlb⟩
                    case measure => simp [intOf]; omega
                  · have t3 : decide (d ≤ Un) = false := by simp; omega
                    go_wp2_with fail
                    refine (Wait_any n _ (by omega) (by omega) Wn HW.out).mono ?_
                    rintro e W7 ⟨rfl, hB7⟩
                    have hla := Rep.below hla hB7
                    have hlb := Rep.below hlb hB7
                    have hbel7 : Below w.heap.size w W7 := hbel3.trans (hB7.mono hbel3.size)
                    go_wp2_with fail
                    refine (Use_any n _ (by omega) (by omega) Un HU.out).mono ?_
                    rintro e W8 ⟨rfl, hB8⟩
                    have hla := Rep.below hla hB8
                    have hlb := Rep.below hlb hB8
                    have hbel8 : Below w.heap.size w W8 := hbel7.trans (hB8.mono hbel7.size)
                    go_wp2_with fail
                    go_roundw
                    case rel => exact ⟨j + 1, by omega, by go_num, hbel8, hla, hlb⟩
                    case measure => simp [intOf]; omega
              · have hdj : decide (j < m) = false := by simp; omega
                go_wp2
                go_roundw
                case rel => exact ⟨m + 1, by omega, by go_num, hbel, hla, hlb⟩
                case measure => simp [intOf]; omega
          · have hdec : decide (m < l.length) = false := by simp; omega
            go_wp2
            go_ret
            exact ⟨rfl, hbel⟩
end Go.Proofs.Ytofmmflohhadkaa

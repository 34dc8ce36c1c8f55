import Derived.Test.YtocnbgjaiihgiaaK
import Derived.Test.YtocnbgjaiihgiaaP5
import Derived.Test.YtocnbgjaiihgiaaFrame
import Derived.StillTailTactics
namespace Go.Proofs.Ytocnbgjaiihgiaa
open Go.RowKit Go.Kx Plain
theorem vec4 {w : World} {D : Nat → Prop} {cs : List Value} {ys : List Nat} (h : (Rep.vec 4 Rep.u8 rfl).rd w D cs ys) :
    ∃ a b c d : Nat, ys = [a, b, c, d] ∧ cs = [.int .u8 (a : Int), .int .u8 (b : Int), .int .u8 (c : Int), .int .u8 (d : Int)] ∧ a < 256 ∧ b < 256 ∧ c < 256 ∧ d < 256 := by
  obtain ⟨h1, h2, h3⟩ := h
  match ys, h2, cs, h1 with
  | [a, b, c, d], _, [u, v, x, y], _ =>
    obtain ⟨e0, f0⟩ := h3 0 u a rfl rfl
    obtain ⟨e1, f1⟩ := h3 1 v b rfl rfl
    obtain ⟨e2, f2⟩ := h3 2 x c rfl rfl
    obtain ⟨e3, f3⟩ := h3 3 y d rfl rfl
    simp at e0 e1 e2 e3
    subst e0 e1 e2 e3
    exact ⟨a, b, c, d, rfl, rfl, f0, f1, f2, f3⟩
theorem i64_of_u16 (a n : Nat) (hn : 0 < n) : ∃ k : Nat, (a : Int) % (n : Int) = (k : Int) ∧ k < n := ⟨a % n, by simp, Nat.mod_lt _ hn⟩
set_option maxHeartbeats 1600000 in
theorem bursts_any (w : World) (vb : Value) (b : List Nat) (hb : (Rep.slice Rep.u8).rd w T [vb] b) (a : Nat) (ha : a < 65536) (cs : List Value) (ys : List Nat) (hys : (Rep.vec 4 Rep.u8 rfl).rd w T cs ys) :
    Calls Try.prog 4 #[vb, .int .u16 (a : Int), .agg cs.toArray] w fun e w' => e = .returned (.bool true) ∧ Below w.heap.size w w' := by
  obtain ⟨A1, c1, rfl, hA1, hA1', hb⟩ := Rep.slice_open hb
  obtain ⟨y0, y1, y2, y3, rfl, rfl, l0, l1, l2, l3⟩ := vec4 hys
  clear hys
  have hB0 : Below w.heap.size w (w.alloc (.cells #[.int .u8 (y0 : Int), .int .u8 (y1 : Int), .int .u8 (y2 : Int), .int .u8 (y3 : Int)] 31)) := (Below.refl _ _).alloc (Nat.le_refl _) _
  have hblk0 := Blk.new w 31 #[.int .u8 (y0 : Int), .int .u8 (y1 : Int), .int .u8 (y2 : Int), .int .u8 (y3 : Int)]
  have hb := (Rep.slice Rep.u8).keep (Keeps.alloc w (.cells #[.int .u8 (y0 : Int), .int .u8 (y1 : Int), .int .u8 (y2 : Int), .int .u8 (y3 : Int)] 31) T) hb
  have H0 := Lib.hid hB0
  have H1 := Lib.hid hblk0
  clear hB0 hblk0
  by_cases h400 : 400 < b.length
  · have hd1 : decide ((400 : Int) < (b.length : Int)) = true := by simp; omega
    go_enter Try.func4, Try.ntmps4
    go_wp2_with fail
    refine (head_any _).mono ?_
    rintro e W1 ⟨rfl, hb1⟩
    go_wp2_with fail
    go_ret
    exact ⟨rfl, H0.out.trans (hb1.mono H0.out.size)⟩
  · have hd1 : decide ((400 : Int) < (b.length : Int)) = false := by simp; omega
    by_cases h0 : b.length = 0
    · have t2 : ((b.length : Int) == 0) = true := by simp [h0]
      clear h0
      go_enter Try.func4, Try.ntmps4
      go_wp2_with fail
      refine (head_any _).mono ?_
      rintro e W1 ⟨rfl, hb1⟩
      go_wp2_with fail
      go_ret
      exact ⟨rfl, H0.out.trans (hb1.mono H0.out.size)⟩
    · have t2 : ((b.length : Int) == 0) = false := by simp; intro h; exact h0 (by simp [h])
      have hbpos : 0 < b.length := by omega
      obtain ⟨k, hk, hkl⟩ := i64_of_u16 a b.length hbpos
      go_enter Try.func4, Try.ntmps4
      go_wp2_with fail
      have hB0 := H0.out
      have hblk0 := H1.out
      generalize w.alloc (.cells #[.int .u8 (y0 : Int), .int .u8 (y1 : Int), .int .u8 (y2 : Int), .int .u8 (y3 : Int)] 31) = W0 at hB0 hblk0 hb ⊢
      refine (head_any _).mono ?_
      rintro e W1 ⟨rfl, hb1⟩
      have hB := hB0.trans (hb1.mono hB0.size)
      have hb := Rep.below hb hb1
      have hblk := hblk0.keep (Keeps.of_below (D := T) hb1) trivial
      have hgW : w.heap.size < W1.heap.size := hblk.lt
      clear H0 H1 hB0 hblk0 hb1
      have hba := (Rep.slice Rep.u8).keep (Keeps.alloc W1 (.cells #[] 5) (fun b => some b ≠ some W1.heap.size)) ((Rep.slice Rep.u8).more (D' := fun b => some b ≠ some W1.heap.size) (fun b _ h he => by injection he; omega) hb)
      have hl1 : (([] : List Nat).length + b.length) * 1 ≤ 140737488355328 := by simp; omega
      go_wp2_with (first
        | (at_builtin; refine wpList_pushAll el22 rfl _ _ rfl (Own.empty W1 W1.heap.size 5 Rep.u8 (Nat.le_refl _)) rfl rfl hba hl1 (le_alloc (Nat.le_refl _) _) _ rfl ?_; intro v7 W7 ho7 hk7 hb7 hv7; rw [List.nil_append] at ho7)
        | fail)
      rw [hk]
      clear hk hba hl1
      have h17 : Below W1.heap.size W1 W7 := ((Below.refl _ _).alloc (Nat.le_refl _) _).trans hb7
      clear hb7 hk7 hv7
      generalize hg0 : w.heap.size = g0 at *
      have hb8 := Rep.slice_u8_all hb
      have hy8 : ∀ j, [y0, y1, y2, y3].getD j 0 < 256 := by
        intro j
        rcases j with _ | _ | _ | _ | j <;> simp <;> omega
      obtain ⟨ys, Hys⟩ : ∃ ys, Hid (ys = [y0, y1, y2, y3]) := ⟨_, rfl⟩
      have hboxv : ∀ j, j < 4 → W1.cell? ⟨g0, j, none⟩ = some (.int .u8 ((ys.getD j 0 : Nat) : Int)) := by
        intro j hj
        rw [Hys.out]
        refine hblk.cell ?_
        rcases j with _ | _ | _ | _ | j <;> first | rfl | omega
      rw [← Hys.out] at hy8
      have Hbox := Lib.hid hboxv
      have Hy8 := Lib.hid hy8
      have Hb8 := Lib.hid hb8
      clear hblk hy8 hb8 hboxv
      obtain ⟨A7, c7, rfl, hc7, hc7'⟩ := ho7.shape
      go_loopw [10, 11] (fun s i wr => ∃ n : Nat, n ≤ 4 ∧ k + n ≤ b.length ∧ i = .int .i64 n ∧ s = .bool (sm ys n) ∧ Own wr W1.heap.size 5 Rep.u8 (.slice A7 b.length c7) (tw b k ys n) ∧
        Below W1.heap.size W1 wr) (fun _ i _ => 4 - (intOf i).toNat)
      case atStart => exact ⟨0, by omega, by omega, rfl, rfl, ho7, h17⟩
      case round =>
        obtain ⟨n, hn, hkn, rfl, rfl, hown, hbel⟩ := hrel
        have hdec2 : decide ((k : Int) + (n : Int) < (b.length : Int)) = decide (k + n < b.length) := by
          by_cases h : k + n < b.length
          · rw [decide_eq_true h]; simp; omega
          · rw [decide_eq_false h]; simp; omega
        by_cases hr : n < 4 ∧ k + n < b.length
        · obtain ⟨hr1, hr2⟩ := hr
          have hd4 : decide ((n : Int) < 4) = true := by simp; omega
          have hd5 : decide ((k : Int) + (n : Int) < (b.length : Int)) = true := by simp; omega
          clear hdec2
          have hat := hown.at1 (R := Rep.u8) rfl (tw_at b k ys n hr2)
          rw [tw_length] at hat
          obtain ⟨g7, c7', hv7, hg7, hg7', ⟨u, hu, hru, hxu⟩, hfr, hset⟩ := hat
          obtain ⟨rfl, _, rfl⟩ : A7 = some ⟨g7, 0, none⟩ ∧ True ∧ c7 = c7' := by injection hv7 with h1 h2 h3; exact ⟨h1, trivial, h3⟩
          clear hv7
          obtain rfl := List.cons.inj hru |>.1
          have hbx := (Keeps.of_below (D := T) hbel).cell trivial (Hbox.out n hr1)
          have hyb := Hy8.out n
          have hstep : Hid (tw b k ys (n + 1) = (tw b k ys n).set (k + n) (b.getD (k + n) 0 ^^^ ys.getD n 0)) := (rfl : tw b k ys (n + 1) = _)
          have hsms : Hid (sm ys (n + 1) = (sm ys n && (((ys.getD n 0 : Nat) : Int) == 0))) := (rfl : sm ys (n + 1) = _)
          have hxx := u8_xor_nat (b.getD (k + n) 0) (ys.getD n 0) hxu hyb
          have hz : b.getD (k + n) 0 ^^^ ys.getD n 0 < 256 := Nat.xor_lt_two_pow (n := 8) (by omega) (by omega)
          generalize b.getD (k + n) 0 ^^^ ys.getD n 0 = z at *
          generalize b.getD (k + n) 0 = x at *
          generalize ys.getD n 0 = y at *
          have hi1 : (k : Int) + (n : Int) < (b.length : Int) := by omega
          have hi0 : (0 : Int) ≤ (k : Int) + (n : Int) := by omega
          have hi4 : (n : Int) < 4 := by omega
          have hi40 : (0 : Int) ≤ (n : Int) := by omega
          have hb9 : Below W1.heap.size W1 ((wr.setCell ⟨g7, k + n, none⟩ (.int .u8 (z : Int))).drew) := (hbel.setCell hg7 _).drew
          have ho9 : Own ((wr.setCell ⟨g7, k + n, none⟩ (.int .u8 (z : Int))).drew) W1.heap.size 5 Rep.u8 (.slice (some ⟨g7, 0, none⟩) b.length c7) (tw b k ys (n + 1)) := by
            rw [hstep.out]; exact (hset _ z ⟨rfl, hz⟩).drew
          have Ho9 := Lib.hid ho9
          have Hb9 := Lib.hid hb9
          clear ho9 hb9 hset hstep
          generalize sm ys n = s at *
          cases s
          · have hs1 : Hid (sm ys (n + 1) = false) := by have := hsms.out; rw [Bool.false_and] at this; exact this
            clear hsms
            go_wp2
            go_region
            go_wp2
            go_roundw
            case rel => exact ⟨n + 1, by omega, by omega, by go_num, by rw [hs1.out], Ho9.out, Hb9.out⟩
            case measure => simp [intOf]; omega
          · have hs1 : Hid (sm ys (n + 1) = ((y : Int) == 0)) := by have := hsms.out; rw [Bool.true_and] at this; exact this
            clear hsms
            go_wp2
            go_region
            go_wp2
            go_roundw
            case rel => exact ⟨n + 1, by omega, by omega, by go_num, by rw [hs1.out], Ho9.out, Hb9.out⟩
            case measure => simp [intOf]; omega
        · have hend : Hid ((((crc b : Nat) : Int) == ((crc (tw b k ys n) : Nat) : Int)) = sm ys n) := tw_burst b k ys n Hb8.out Hy8.out hkn hn
          have hc := hown.rd
          have hl7 := tw_length b k ys n
          have hb := Rep.below hb hbel
          have hBr : Below w.heap.size w wr := by rw [hg0]; exact hB.trans (Below.mono (B' := g0) hbel (by omega))
          have hor : ¬ n < 4 ∨ ¬ k + n < b.length := by omega
          obtain ⟨c0, Hc0⟩ : ∃ c0, Hid (crc (tw b k ys n) = c0) := ⟨_, rfl⟩
          obtain ⟨c1', Hc1⟩ : ∃ c0, Hid (crc b = c0) := ⟨_, rfl⟩
          have hend2 : ((c1' : Int) == (c0 : Int)) = sm ys n := by have := hend.out; rw [Hc0.out, Hc1.out] at this; exact this
          obtain ⟨tb, Htb⟩ : ∃ tb, Hid (tw b k ys n = tb) := ⟨_, rfl⟩
          rw [Htb.out] at hc
          have Hc0' : Hid (crc tb = c0) := by rw [← Htb.out]; exact Hc0
          have hss : (sm ys n == sm ys n) = true := by simp
          clear hown hend Hc0 hl7 hdec2
          have Hend2 := Lib.hid hend2
          clear hend2
          by_cases h4 : n < 4
          · have hd4 : decide ((n : Int) < 4) = true := by simp; omega
            have hd5 : decide ((k : Int) + (n : Int) < (b.length : Int)) = false := by simp; omega
            go_wp2_with fail
            refine (Of_any _ b _ hb (c1' : Int) (by rw [Hc1.out])).mono ?_
            rintro e W9 ⟨rfl, hb9⟩
            have hc := Rep.below hc hb9
            have hBr := hBr.trans (hb9.mono hBr.size)
            go_wp2_with fail
            refine (Of_any _ tb _ hc (c0 : Int) (by rw [Hc0'.out])).mono ?_
            rintro e W10 ⟨rfl, hb10⟩
            have hBr := hBr.trans (hb10.mono hBr.size)
            go_wp2_with fail
            go_ret
            exact ⟨ret_bool (by simp [Hend2.out]), hBr⟩
          · have hd4 : decide ((n : Int) < 4) = false := by simp; omega
            go_wp2_with fail
            refine (Of_any _ b _ hb (c1' : Int) (by rw [Hc1.out])).mono ?_
            rintro e W9 ⟨rfl, hb9⟩
            have hc := Rep.below hc hb9
            have hBr := hBr.trans (hb9.mono hBr.size)
            go_wp2_with fail
            refine (Of_any _ tb _ hc (c0 : Int) (by rw [Hc0'.out])).mono ?_
            rintro e W10 ⟨rfl, hb10⟩
            have hBr := hBr.trans (hb10.mono hBr.size)
            go_wp2_with fail
            go_ret
            exact ⟨ret_bool (by simp [Hend2.out]), hBr⟩
end Go.Proofs.Ytocnbgjaiihgiaa

import Derived.Test.YtocnbgjaiihgiaaN
namespace Go.Proofs.Ytocnbgjaiihgiaa
open Go.RowKit Go.Kx Plain
theorem wrap8 (n : Nat) : IntKind.u8.wrap (n : Int) = ((n % 256 : Nat) : Int) := by rw [IntKind.wrap_u8']; omega
theorem four_rd {w : World} {g : Nat} {a b c d : Nat} (h : Blk w g 31 #[.int .u8 (a : Int), .int .u8 (b : Int), .int .u8 (c : Int), .int .u8 (d : Int)]) (ha : a < 256) (hb : b < 256) (hc : c < 256) (hd : d < 256) :
    (Rep.slice Rep.u8).rd w T [.slice (some ⟨g, 0, none⟩) 4 4] [a, b, c, d] :=
  Rep.slice_of_blk (R := Rep.u8) rfl h rfl ⟨by decide, by decide⟩ (fun i x hx => by
    rcases i with _ | _ | _ | _ | i <;> simp at hx <;> subst hx <;> exact ⟨_, rfl, rfl, by assumption⟩)
theorem eq31 (d : Nat) (a0 a1 a2 a3 b0 b1 b2 b3 : Int) (w : World) :
    (Op.equalIn (d + 2) 31 (.agg #[.int .u8 a0, .int .u8 a1, .int .u8 a2, .int .u8 a3]) (.agg #[.int .u8 b0, .int .u8 b1, .int .u8 b2, .int .u8 b3])).run Try.prog w = .ok (a0 == b0 && a1 == b1 && a2 == b2 && a3 == b3) w := by
  have hz : ∀ w, (sizeOf 5).run Try.prog w = .ok 1 w := fun w => by kernel_rfl
  have hq : ∀ a b w, (Op.equalIn (d + 1) 5 (.int .u8 a) (.int .u8 b)).run Try.prog w = .ok (a == b) w := fun a b w => run_equalIn_int w d 5 .u8 .u8 a b Try.underlying5
  have hp : ∀ (xs : Array Value) (i : Nat) (v : Value) w, xs[i]? = some v → (part 5 xs i).run Try.prog w = .ok v w := fun xs i v w h => by
    have ha : ∀ w, (isAgg 5).run Try.prog w = .ok false w := fun w => by kernel_rfl
    simp [part, hz, ha, h]
  have p0 := fun (x0 x1 x2 x3 : Value) w => hp #[x0, x1, x2, x3] 0 x0 w rfl
  have p1 := fun (x0 x1 x2 x3 : Value) w => hp #[x0, x1, x2, x3] 1 x1 w rfl
  have p2 := fun (x0 x1 x2 x3 : Value) w => hp #[x0, x1, x2, x3] 2 x2 w rfl
  have p3 := fun (x0 x1 x2 x3 : Value) w => hp #[x0, x1, x2, x3] 3 x3 w rfl
  rw [Op.equalIn]
  simp [run_underlying Try.underlying31, hz, Std.Legacy.Range.forIn_eq_forIn_range', List.range', p0, p1, p2, p3, hq]
  by_cases h0 : a0 = b0 <;> by_cases h1 : a1 = b1 <;> by_cases h2 : a2 = b2 <;> by_cases h3 : a3 = b3 <;> simp [h0, h1, h2, h3, hq, p0, p1, p2, p3]
/-- a reading, beside a block that was just made -/
theorem fresh_more {α : Type} {R : Rep α} (W : World) {D : Nat → Prop} {cs : List Value} {x : α} (h : R.rd W D cs x) (e : TypeId) :
    R.rd (W.alloc (.cells #[] e)) (fun b => some b ≠ (Value.slice (some ⟨W.heap.size, 0, none⟩) 0 0).ownBlock) cs x :=
  R.keep (Keeps.alloc W (.cells #[] e) _) (R.more (fun b _ h he => by have := (by simpa [Value.ownBlock] using he : b = W.heap.size); omega) h)
/-- a reading below what is owned -/
theorem own_more {α β : Type} {R : Rep α} {S : Rep β} {W W7 : World} {v : Value} {l : List α} {e : TypeId} {o : Obj} (ho : Own W7 W.heap.size e R v l) (hb : Below W.heap.size (W.drew.alloc o) W7) {cs : List Value} {x : β} (h : S.rd W (fun b => b < W.heap.size) cs x) :
    S.rd W7 (fun b => some b ≠ v.ownBlock) cs x :=
  S.more (fun _ hb1 _ he => Nat.lt_irrefl _ (Nat.lt_of_lt_of_le hb1 (ho.block he.symm).1)) (S.keep (((Keeps.drew W _).trans (Keeps.alloc _ o _)).trans (Keeps.of_belowB hb)) h)
theorem keep8 {w0 w w' : World} {b0 b1 b2 b3 b4 b5 b6 b7 o0 o1 o2 o3 o4 o5 o6 o7 : Nat} {v0 v1 v2 v3 v4 v5 v6 v7 : Value} (hb : Below w.heap.size w w')
    (h : w.cell? ⟨b0, o0, none⟩ = some v0 ∧ w.cell? ⟨b1, o1, none⟩ = some v1 ∧ w.cell? ⟨b2, o2, none⟩ = some v2 ∧ w.cell? ⟨b3, o3, none⟩ = some v3 ∧ w.cell? ⟨b4, o4, none⟩ = some v4 ∧ w.cell? ⟨b5, o5, none⟩ = some v5 ∧ w.cell? ⟨b6, o6, none⟩ = some v6 ∧ w.cell? ⟨b7, o7, none⟩ = some v7 ∧ Below w0.heap.size w0 w) :
    w'.cell? ⟨b0, o0, none⟩ = some v0 ∧ w'.cell? ⟨b1, o1, none⟩ = some v1 ∧ w'.cell? ⟨b2, o2, none⟩ = some v2 ∧ w'.cell? ⟨b3, o3, none⟩ = some v3 ∧ w'.cell? ⟨b4, o4, none⟩ = some v4 ∧ w'.cell? ⟨b5, o5, none⟩ = some v5 ∧ w'.cell? ⟨b6, o6, none⟩ = some v6 ∧ w'.cell? ⟨b7, o7, none⟩ = some v7 ∧ Below w0.heap.size w0 w' := by
  have k : ∀ {b o : Nat} {v : Value}, w.cell? ⟨b, o, none⟩ = some v → w'.cell? ⟨b, o, none⟩ = some v := fun h => (Keeps.of_below (D := T) hb).cell trivial h
  obtain ⟨h0, h1, h2, h3, h4, h5, h6, h7, h8⟩ := h
  exact ⟨k h0, k h1, k h2, k h3, k h4, k h5, k h6, k h7, h8.trans (hb.mono h8.size)⟩
set_option maxHeartbeats 1600000 in
theorem own_any (w : World) (vb : Value) (b : List Nat) (hb : (Rep.slice Rep.u8).rd w T [vb] b) (cs : List Value) (ys : List Nat) (hys : (Rep.vec 4 Rep.u8 rfl).rd w T cs ys) :
    Calls Try.prog 8 #[vb, .agg cs.toArray] w fun e w' => e = .returned (.bool true) ∧ Below w.heap.size w w' := by
  obtain ⟨A1, c1, rfl, hA1, hA1', hb⟩ := Rep.slice_open hb
  obtain ⟨y0, y1, y2, y3, rfl, rfl, l0, l1, l2, l3⟩ := vec4 hys
  clear hys
  have hB0 : Below w.heap.size w (w.alloc (.cells #[.int .u8 (y0 : Int), .int .u8 (y1 : Int), .int .u8 (y2 : Int), .int .u8 (y3 : Int)] 31)) := (Below.refl _ _).alloc (Nat.le_refl _) _
  have hblk0 := Blk.new w 31 #[.int .u8 (y0 : Int), .int .u8 (y1 : Int), .int .u8 (y2 : Int), .int .u8 (y3 : Int)]
  have hb := (Rep.slice Rep.u8).keep (Keeps.alloc w (.cells #[.int .u8 (y0 : Int), .int .u8 (y1 : Int), .int .u8 (y2 : Int), .int .u8 (y3 : Int)] 31) T) hb
  have H0 := Lib.hid hB0
  have H1 := Lib.hid hblk0
  clear hB0 hblk0
  by_cases h400 : 400 < b.length
  · have hd1 : decide ((400 : Int) < (b.length : Int)) = true := by simp; omega
    go_enter Try.func8, Try.ntmps8
    go_wp2_with fail
    refine (head_any _).mono ?_
    rintro e W1 ⟨rfl, hb1⟩
    go_wp2_with fail
    go_ret
    exact ⟨rfl, H0.out.trans (hb1.mono H0.out.size)⟩
  · have hd1 : decide ((400 : Int) < (b.length : Int)) = false := by simp; omega
    go_enter Try.func8, Try.ntmps8
    go_wp2_with fail
    have hB0 := H0.out
    have hblk0 := H1.out
    generalize w.alloc (.cells #[.int .u8 (y0 : Int), .int .u8 (y1 : Int), .int .u8 (y2 : Int), .int .u8 (y3 : Int)] 31) = W0 at hB0 hblk0 hb ⊢
    refine (head_any _).mono ?_
    rintro e W1 ⟨rfl, hb1⟩
    have hB := hB0.trans (hb1.mono hB0.size)
    have hb := Rep.below hb hb1
    have hblk := hblk0.keep (Keeps.of_below (D := T) hb1) trivial
    clear H0 H1 hB0 hblk0 hb1
    obtain ⟨n, Hn⟩ : ∃ n, Hid (crc b = n) := ⟨_, rfl⟩
    have hn : n < 4294967296 := by rw [← Hn.out]; exact crc_lt (Rep.slice_u8_all hb)
    go_wp2_with fail
    refine (Of_any _ b _ hb (n : Int) (by rw [Hn.out])).mono ?_
    rintro e W2 ⟨rfl, hb2⟩
    have hB := hB.trans (hb2.mono hB.size)
    have hb := Rep.below hb hb2
    have hblk := hblk.keep (Keeps.of_below (D := T) hb2) trivial
    have hgW : w.heap.size < W2.heap.size := hblk.lt
    have hdn : decide ((n : Int) < 0) = false := by simp
    have hdn2 : decide ((4294967295 : Int) < (n : Int)) = false := by simp; omega
    obtain ⟨m0, f0, g0⟩ : ∃ m : Nat, (n : Int) % 256 = (m : Int) ∧ Hid (n % 256 = m) := ⟨n % 256, by omega, rfl⟩
    obtain ⟨m1, f1, g1⟩ : ∃ m : Nat, (n : Int) / 256 % 256 = (m : Int) ∧ Hid (n / 256 % 256 = m) := ⟨n / 256 % 256, by omega, rfl⟩
    obtain ⟨m2, f2, g2⟩ : ∃ m : Nat, (n : Int) / 65536 % 256 = (m : Int) ∧ Hid (n / 65536 % 256 = m) := ⟨n / 65536 % 256, by omega, rfl⟩
    obtain ⟨m3, f3, g3⟩ : ∃ m : Nat, (n : Int) / 16777216 = (m : Int) ∧ Hid (n / 16777216 % 256 = m) := ⟨n / 16777216, by omega, (by omega : n / 16777216 % 256 = n / 16777216)⟩
    have hm0 : m0 < 256 := by omega
    have hm1 : m1 < 256 := by omega
    have hm2 : m2 < 256 := by omega
    have hm3 : m3 < 256 := by omega
    have Hle : Hid ([m0, m1, m2, m3] = le4 n) := by show _ = _; unfold le4; rw [g0.out, g1.out, g2.out, g3.out]
    go_wp2_with fail
    clear f0 f1 f2 f3 g0 g1 g2 g3 hdn hdn2
    have hB := hB.alloc hB.size (.cells #[.int .u8 (m0 : Int), .int .u8 (m1 : Int), .int .u8 (m2 : Int), .int .u8 (m3 : Int)] 31)
    have hb := (Rep.slice Rep.u8).keep (Keeps.alloc W2 (.cells #[.int .u8 (m0 : Int), .int .u8 (m1 : Int), .int .u8 (m2 : Int), .int .u8 (m3 : Int)] 31) T) hb
    have hblk := hblk.keep (Keeps.alloc W2 (.cells #[.int .u8 (m0 : Int), .int .u8 (m1 : Int), .int .u8 (m2 : Int), .int .u8 (m3 : Int)] 31) T) trivial
    have hown := Blk.new W2 31 #[.int .u8 (m0 : Int), .int .u8 (m1 : Int), .int .u8 (m2 : Int), .int .u8 (m3 : Int)]
    generalize W2.alloc (.cells #[.int .u8 (m0 : Int), .int .u8 (m1 : Int), .int .u8 (m2 : Int), .int .u8 (m3 : Int)] 31) = W3 at hB hb hblk hown ⊢
    generalize W2.heap.size = g2 at *
    have hrown := four_rd hown hm0 hm1 hm2 hm3
    have hroth := four_rd hblk l0 l1 l2 l3
    generalize hg0 : w.heap.size = g0 at *
    have hl1 : (([] : List Nat).length + b.length) * 1 ≤ 140737488355328 := by simp; omega
    have hl2 : (b.length + 4) * 1 ≤ 140737488355328 := by omega
    have hbe := fresh_more W3.drew ((Rep.slice Rep.u8).keep (Keeps.drew W3 T) hb) 5
    have hoe := (Rep.slice Rep.u8).more (D' := fun b => b < W3.heap.size) (fun b _ h => h) hrown
    go_region_held3 (fun w' => Below W3.heap.size W3 w')
      (first | exact (Below.refl _ _).drew | exact ((Below.refl _ _).alloc (Nat.le_refl _) _).drew | exact (((Below.refl _ W3).drew.alloc (Nat.le_refl _) _).trans hb7).trans hb8 | exact ((Below.refl _ W3).drew.alloc (Nat.le_refl _) _).trans hb7)
      ((first
        | (refine step_pushAll el22 rfl (.tmp 35) (.tmp 36) rfl (Own.empty W3.drew W3.heap.size 5 Rep.u8 (Nat.le_refl _)) rfl rfl hbe hl1 (le_alloc (Nat.le_refl _) _) _ rfl ?_; intro v7 W7 ho7 hk7 hb7 hv7; rw [List.nil_append] at ho7)
        | (refine step_pushAll el22 rfl (.tmp 37) (.tmp 38) rfl ho7 rfl rfl (own_more ho7 hb7 hoe) hl2 (Nat.le_trans (le_alloc (Nat.le_refl _) _) hb7.size) _ rfl ?_; intro v8 W8 ho8 hk8 hb8 hv8)))
    have h38 : Below W3.heap.size W3 W8 := (((Below.refl _ W3).drew.alloc (Nat.le_refl _) _).trans hb7).trans hb8
    have hB := hB.trans (h38.mono (by rw [← hg0]; exact hB.size))
    have hb := Rep.below hb h38
    have hblk := hblk.keep (Keeps.of_below (D := T) h38) trivial
    have hown := hown.keep (Keeps.of_below (D := T) h38) trivial
    have hroth := Rep.below hroth h38
    have hr8 := ho8.rd
    clear hrown hbe hoe ho7 ho8 hk7 hk8 hb7 hb8 hv7 hv8 h38
    have hbe := fresh_more W8.drew ((Rep.slice Rep.u8).keep (Keeps.drew W8 T) hb) 5
    have hoe := (Rep.slice Rep.u8).more (D' := fun b => b < W8.heap.size) (fun b _ h => h) hroth
    go_wp2
    go_region_held3 (fun w' => Below W8.heap.size W8 w')
      (first | exact (Below.refl _ _).drew | exact ((Below.refl _ _).alloc (Nat.le_refl _) _).drew | exact (((Below.refl _ W8).drew.alloc (Nat.le_refl _) _).trans hb7).trans hb8 | exact ((Below.refl _ W8).drew.alloc (Nat.le_refl _) _).trans hb7)
      ((first
        | (refine step_pushAll el22 rfl (.tmp 40) (.tmp 41) rfl (Own.empty W8.drew W8.heap.size 5 Rep.u8 (Nat.le_refl _)) rfl rfl hbe hl1 (le_alloc (Nat.le_refl _) _) _ rfl ?_; intro v7 W7 ho7 hk7 hb7 hv7; rw [List.nil_append] at ho7)
        | (refine step_pushAll el22 rfl (.tmp 42) (.tmp 43) rfl ho7 rfl rfl (own_more ho7 hb7 hoe) hl2 (Nat.le_trans (le_alloc (Nat.le_refl _) _) hb7.size) _ rfl ?_; intro v9 W9 ho9 hk8 hb8 hv9)))
    have h89 : Below W8.heap.size W8 W9 := (((Below.refl _ W8).drew.alloc (Nat.le_refl _) _).trans hb7).trans hb8
    have hB := hB.trans (h89.mono (by rw [← hg0]; exact hB.size))
    have hblk := hblk.keep (Keeps.of_below (D := T) h89) trivial
    have hown := hown.keep (Keeps.of_below (D := T) h89) trivial
    have hr8 := Rep.below hr8 h89
    have hr9 := ho9.rd
    have hball := Rep.slice_u8_all hb
    have Hx : Hid (((crc (b ++ [m0, m1, m2, m3]) : Nat) : Int) = 1214729159) := by
      show _ = _
      rw [Hle.out, ← Hn.out, own_sum b hball]; rfl
    obtain ⟨z, Hz⟩ : ∃ z, Hid (((crc (b ++ [y0, y1, y2, y3]) : Nat) : Int) = z) := ⟨_, rfl⟩
    have Hzz : Hid (z = 1214729159 ↔ y0 = m0 ∧ y1 = m1 ∧ y2 = m2 ∧ y3 = m3) := by
      show _ ↔ _
      have := own_only b [y0, y1, y2, y3] hball (by intro x hx; simp at hx; omega) rfl
      rw [Hn.out, ← Hle.out] at this
      rw [← Hz.out]
      constructor
      · intro h
        have := this.1 (by omega)
        simpa using this
      · rintro ⟨rfl, rfl, rfl, rfl⟩
        have := this.2 rfl
        omega
    have heq31 : ∀ w, (binOp .eql 31 (.agg #[.int .u8 (m0 : Int), .int .u8 (m1 : Int), .int .u8 (m2 : Int), .int .u8 (m3 : Int)]) (.agg #[.int .u8 (y0 : Int), .int .u8 (y1 : Int), .int .u8 (y2 : Int), .int .u8 (y3 : Int)])).run Try.prog w = .ok (.bool (z == 1214729159)) w := by
      intro w
      have hbb : ((m0 : Int) == (y0 : Int) && (m1 : Int) == (y1 : Int) && (m2 : Int) == (y2 : Int) && (m3 : Int) == (y3 : Int)) = (z == 1214729159) := by
        have h := Hzz.out
        rw [Bool.eq_iff_iff]
        simp only [Bool.and_eq_true, beq_iff_eq]
        rw [h]
        omega
      rw [run_eql_struct, show (10000 : Nat) = 9998 + 2 from rfl, eq31, Result.andThen, hbb]
    have hgd31 : ∀ w, (eqGuard .eql 31 (.tmp 55) (.tmp 56) (.agg #[.int .u8 (m0 : Int), .int .u8 (m1 : Int), .int .u8 (m2 : Int), .int .u8 (m3 : Int)]) (.agg #[.int .u8 (y0 : Int), .int .u8 (y1 : Int), .int .u8 (y2 : Int), .int .u8 (y3 : Int)])).run Try.prog w = .ok () w :=
      fun w => run_eqGuard_agg w .eql 31 _ _ _ _ (by kernel_rfl)
    have hzb : ((z == 1214729159) == (z == 1214729159)) = true := by simp
    clear ho7 ho9 hk7 hk8 hb7 hb8 hv7 hv9 h89 hbe hoe hroth hl1 hl2 hb
    have o0 := hown.cell (i := 0) rfl
    have o1 := hown.cell (i := 1) rfl
    have o2 := hown.cell (i := 2) rfl
    have o3 := hown.cell (i := 3) rfl
    have p0 := hblk.cell (i := 0) rfl
    have p1 := hblk.cell (i := 1) rfl
    have p2 := hblk.cell (i := 2) rfl
    have p3 := hblk.cell (i := 3) rfl
    go_wp2
    go_region_held3 (fun w' => w'.cell? ⟨g2, 0, none⟩ = some (.int .u8 (m0 : Int)) ∧ w'.cell? ⟨g2, 1, none⟩ = some (.int .u8 (m1 : Int)) ∧ w'.cell? ⟨g2, 2, none⟩ = some (.int .u8 (m2 : Int)) ∧ w'.cell? ⟨g2, 3, none⟩ = some (.int .u8 (m3 : Int)) ∧
        w'.cell? ⟨g0, 0, none⟩ = some (.int .u8 (y0 : Int)) ∧ w'.cell? ⟨g0, 1, none⟩ = some (.int .u8 (y1 : Int)) ∧ w'.cell? ⟨g0, 2, none⟩ = some (.int .u8 (y2 : Int)) ∧ w'.cell? ⟨g0, 3, none⟩ = some (.int .u8 (y3 : Int)) ∧ Below W9.heap.size W9 w')
      (first | exact ⟨o0, o1, o2, o3, p0, p1, p2, p3, (Below.refl _ _).drew⟩ | exact keep8 hbc (by assumption))
      ((first
        | (go_at_call 10; refine (Of_any v8 (b ++ [m0, m1, m2, m3]) _ (Rep.below hr8 (And.right (And.right (And.right (And.right (And.right (And.right (And.right (And.right (by assumption))))))))))  _ Hx.out).mono ?_; rintro e w9 ⟨rfl, hbc⟩)
        | (go_at_call 10; refine (Of_any v9 (b ++ [y0, y1, y2, y3]) _ (Rep.below hr9 (And.right (And.right (And.right (And.right (And.right (And.right (And.right (And.right (by assumption)))))))))) _ Hz.out).mono ?_; rintro e w9 ⟨rfl, hbc⟩)))
    go_wp2
    go_ret
    exact ⟨rfl, by rw [hg0]; exact hB.trans (Below.mono (show Below W9.heap.size W9 _ from And.right (And.right (And.right (And.right (And.right (And.right (And.right (And.right (by assumption))))))))) (by rw [← hg0]; exact hB.size))⟩
end Go.Proofs.Ytocnbgjaiihgiaa

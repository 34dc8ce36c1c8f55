import Derived.Test.YtofmmflohhadkaaX
namespace Go.Proofs.Ytofmmflohhadkaa
open Go.RowKit Go.Kx Plain
abbrev RU : Rep (List Nat) := Rep.slice (Rep.nat .u16 65536)
theorem el22i : Elem Try.prog 22 3 (Rep.int .i64) 8 := ⟨by kernel_rfl, ⟨.int .i64 0, by kernel_rfl, rfl⟩, by decide, by decide⟩
theorem Rep.slice_nat {k : IntKind} {bd : Nat} {w : World} {D : Nat → Prop} {A : Option Addr} {n c : Nat} {l : List Nat} (h : (Rep.slice (Rep.nat k bd)).rd w D [.slice A n c] l) {i : Nat} {x : Nat} (hx : l[i]? = some x) :
    ∃ b o, A = some ⟨b, o, none⟩ ∧ w.cell? ⟨b, o + i, none⟩ = some (.int k (x : Int)) ∧ x < bd := by
  obtain ⟨b, o, u, h1, _, h3, h4⟩ := Rep.slice_at1 (R := Rep.nat k bd) rfl h hx
  obtain ⟨h5, h6⟩ := h4
  simp at h5
  subst h5
  exact ⟨b, o, h1, h3, h6⟩
theorem wf_of (n : Int) (h1 : -9223372036854775808 ≤ n) (h2 : n ≤ 9223372036854775807) : (Lit.int .i64 n).wf = true := WalkArith.wf_i64 ⟨by omega, by omega⟩
def AllIn (l : List Int) (b : Int) : Prop := ∀ x ∈ l, 0 ≤ x ∧ x ≤ b
def IsShown (B : Nat) (n : Nat) (w' : World) (e : Ending) : Prop := ∃ A c l, e = .returned (.slice A n c) ∧ RI.rd w' T [.slice A n c] l
theorem isShown {B n : Nat} {w' : World} {A : Option Addr} {c : Nat} {l : List Int} (hn : l.length = n) (h : RI.rd w' T [.slice A l.length c] l) : IsShown B n w' (.returned (.slice A l.length c)) := by
  subst hn; exact ⟨A, c, l, rfl, h⟩
set_option maxHeartbeats 2000000 in
theorem shows_any (va vb : Value) (R : List Int) (pk : List Nat) (w : World) (ha : RI.rd w T [va] R) (hb : RU.rd w T [vb] pk) (hR : AllIn R 2000000) (hRl : R.length ≤ 21) :
    Calls Try.prog 22 #[va, vb] w fun e w' => IsShown w.heap.size R.length w' e ∧ Below w.heap.size w w' := by
  have ha := RI.more (D' := fun b => b < w.heap.size) (fun b _ h => h) ha
  have hb := RU.more (D' := fun b => b < w.heap.size) (fun b _ h => h) hb
  obtain ⟨A, c, rfl, hm1, hm2, ha⟩ := Rep.slice_open ha
  obtain ⟨A', c', rfl, hk1, hk2, hb⟩ := Rep.slice_open hb
  have HR := Lib.hid hR
  clear hR
  go_enter Try.func22, Try.ntmps22
  go_wp2
  have hB0 : Below w.heap.size w (w.alloc (.cells #[] 3)) := (Below.refl _ _).alloc (Nat.le_refl _) _
  have hO0 := Own.empty w w.heap.size 3 (Rep.int .i64) (Nat.le_refl _)
  go_loopw [5, 6, 7, 8, 9, 10] (fun out i _ _ _ _ wr => ∃ (n : Nat) (l : List Int), i = .int .i64 n ∧ n ≤ R.length ∧ Own wr w.heap.size 3 (Rep.int .i64) out l ∧ Hid (l.length = n) ∧ Hid (AllIn l (4398046511104 + 2100000 * n)) ∧ Below w.heap.size w wr) (fun _ i _ _ _ _ _ => R.length - (intOf i).toNat)
  case atStart => exact ⟨0, [], rfl, by omega, hO0, rfl, fun x hx => by simp at hx, hB0⟩
  case round =>
    obtain ⟨n, l, rfl, hn, hown, Hl, Hin, hbel⟩ := hrel
    have ha := RI.keep (Keeps.of_belowB hbel) ha
    have hb := RU.keep (Keeps.of_belowB hbel) hb
    have hbs := hbel.size
    by_cases hlt : n < R.length
    · have hdec : decide (n < R.length) = true := by simp; omega
      have hbytes : (l.length + 1) * 8 ≤ 140737488355328 := by have := Hl.out; omega
      by_cases hn0 : n = 0
      · have t1 : ((n : Int) == 0) = true := by simp; omega
        have h00 : ∀ w D, (Rep.int .i64).rd w D [.int .i64 0] 0 := fun w D => ⟨rfl, by decide⟩
        have hin2 : Hid (AllIn (l ++ [0]) (4398046511104 + 2100000 * ((n + 1 : Nat) : Int))) := fun x hx => by
          rcases List.mem_append.1 hx with h | h
          · have := Hin.out x h; omega
          · simp at h; omega
        have hl2 : Hid ((l ++ [0]).length = n + 1) := by show _ = _; rw [List.length_append, Hl.out]; rfl
        clear hn0
        go_wp2_with (at_builtin; refine wpList_push el22i rfl _ _ rfl (hown.alloc _) rfl rfl (cell_one_new _ _ _) (h00 _ _) hbytes (le_alloc hbs _) _ rfl ?_; intro v3 w3 hown3 hk3 hb3 hv3 hv4)
        go_roundw
        case rel => exact ⟨n + 1, _, by go_num, by omega, hown3, hl2, hin2, (hbel.alloc hbs _).trans hb3⟩
        case measure => simp [intOf]; omega
      · have t1 : ((n : Int) == 0) = false := by simp; omega
        have hw := hown
        obtain ⟨A7, c7, rfl, hc7, hc7'⟩ := hown.shape
        have hrd := hown.rd
        have hRn := HR.out R[n] (by simp)
        go_wp2
        go_loopw [7, 8, 9] (fun f t k wr2 => ∃ (m : Nat) (f' t' : Int), k = .int .i64 m ∧ m ≤ n ∧ f = .int .i64 f' ∧ t = .int .i64 t' ∧ 0 ≤ f' ∧ f' ≤ 4398046511104 + 2100000 * n + 2100000 ∧ 0 ≤ t' ∧ t' ≤ 4398046511104 ∧ Keeps wr wr2 T ∧ Below w.heap.size w wr2) (fun _ _ k _ => n - (intOf k).toNat)
        case atStart => exact ⟨0, 0, 4398046511104, rfl, by omega, rfl, rfl, by omega, by omega, by omega, by omega, Keeps.refl _ _, hbel⟩
        case round =>
          obtain ⟨m, f, t, rfl, hm, rfl, rfl, hf0, hf1, ht0, ht1, hkp, hbel2⟩ := hrel
          have hrd := RI.keep hkp hrd
          have ha := RI.keep (hkp.mono (fun _ _ _ => trivial)) ha
          have hb := RU.keep (hkp.mono (fun _ _ _ => trivial)) hb
          have hown := hown.keep hkp
          by_cases hmn : m < n
          · have hdm : decide (m < n) = true := by simp; omega
            have hml : m < l.length := by have := Hl.out; omega
            have hmR : m < R.length := by omega
            obtain ⟨b1, o1, rfl, hc1, _⟩ := Rep.slice_int hrd (i := m) (x := l[m]) (by simp)
            obtain ⟨b2, o2, rfl, hc2, _⟩ := Rep.slice_int ha (i := n) (x := R[n]) (by simp)
            obtain ⟨b2', o2', e2, hc3, _⟩ := Rep.slice_int ha (i := m) (x := R[m]) (by simp)
            injection e2 with e2; injection e2 with e2 e2'; subst e2 e2'
            have hRm := HR.out R[m] (by simp)
            have hlm := Hin.out l[m] (by simp)
            generalize R[n] = rn at *
            generalize R[m] = rm at *
            generalize l[m] = om at *
            have i1 : (m : Int) < (l.length : Int) := by omega
            have i2 : (n : Int) < (R.length : Int) := by omega
            have i3 : (m : Int) < (R.length : Int) := by omega
            have i0 : (0 : Int) ≤ (m : Int) := by omega
            have i00 : (0 : Int) ≤ (n : Int) := by omega
            obtain ⟨d, hd, hd1, hd2⟩ : ∃ d, IntKind.i64.wrap (rn - rm) = d ∧ -2000000 ≤ d ∧ d ≤ 2000000 := ⟨rn - rm, IntWalk.i64_in _ (by omega), by omega, by omega⟩
            have hcl : 0 ≤ cl d E ∧ cl d E ≤ 2000000 := by unfold cl; simp only [E]; omega
            obtain ⟨L, HL, hL0, hL1⟩ : ∃ v, Hid (lst (cl d E) = v) ∧ 0 ≤ v ∧ v ≤ 2100000 := ⟨_, rfl, by unfold lst; omega, by unfold lst; omega⟩
            obtain ⟨U, HU, hU0, hU1⟩ : ∃ v, Hid (mst (cl d E) = v) ∧ 0 ≤ v ∧ v ≤ 2100000 := ⟨_, rfl, by unfold mst; omega, by unfold mst; omega⟩
            obtain ⟨s1, hs1, hs10, hs11⟩ : ∃ s, IntKind.i64.wrap (om + L) = s ∧ 0 ≤ s ∧ s ≤ 4398046511104 + 2100000 * (n : Int) + 2100000 := ⟨om + L, IntWalk.i64_in _ (by omega), by omega, by omega⟩
            obtain ⟨s2, hs2, hs20⟩ : ∃ s, IntKind.i64.wrap (om + U) = s ∧ 0 ≤ s := ⟨om + U, IntWalk.i64_in _ (by omega), by omega⟩
            obtain ⟨f2, hf2, hf20, hf21⟩ : ∃ f2, (if f < s1 then s1 else f) = f2 ∧ 0 ≤ f2 ∧ f2 ≤ 4398046511104 + 2100000 * (n : Int) + 2100000 := ⟨_, rfl, by split <;> omega, by split <;> omega⟩
            obtain ⟨t2, ht2, ht20, ht21⟩ : ∃ f2, (if s2 < t then s2 else t) = f2 ∧ 0 ≤ f2 ∧ f2 ≤ 4398046511104 := ⟨_, rfl, by split <;> omega, by split <;> omega⟩
            clear hcl
            go_wp2
            go_quiet ((go_at_call 10; exact Calls.quiet_of_same ((Least_any d _ (by omega) (by omega) L HL.out).mono fun e w' ⟨he, hw⟩ => ⟨he, hw.symm⟩)))
            go_wp2
            generalize hW2 : World.drewN _ _ = W2
            have k2 : Keeps wr W2 T := by rw [← hW2]; exact Keeps.drewN _ _ _
            have hbel3 : Below w.heap.size w W2 := by rw [← hW2]; exact below_of_drewN hbel2 _
            have hc1 := k2.cell trivial hc1
            have hc2 := k2.cell trivial hc2
            have hc3 := k2.cell trivial hc3
            have hkp3 := hkp.trans k2
            clear hW2 hkp hbel2 k2
            go_quiet ((go_at_call 12; exact Calls.quiet_of_same ((Most_any d _ (by omega) (by omega) U HU.out).mono fun e w' ⟨he, hw⟩ => ⟨he, hw.symm⟩)))
            go_wp2
            go_roundw
            case rel => exact ⟨m + 1, f2, t2, by go_num, by omega, rfl, rfl, hf20, hf21, ht20, ht21, hkp3.trans (Keeps.drewN _ _ _), below_of_drewN hbel3 _⟩
            case measure => simp [intOf]; omega
          · have hdm : decide (m < n) = false := by simp; omega
            have hbs2 := hbel2.size
            have hstep : ∀ v, BetP f t v → Hid (AllIn (l ++ [v]) (4398046511104 + 2100000 * ((n + 1 : Nat) : Int))) ∧ (Lit.int .i64 v).wf = true := fun v ⟨hv1, hv2⟩ => by
              have hv : 0 ≤ v ∧ v ≤ 4398046511104 + 2100000 * (n : Int) + 2100000 := by omega
              refine ⟨fun x hx => ?_, wf_of v (by omega) (by omega)⟩
              rcases List.mem_append.1 hx with h | h
              · have := Hin.out x h; omega
              · simp at h; subst h; omega
            have hl2 : ∀ v, Hid ((l ++ [v]).length = n + 1) := fun v => by show _ = _; rw [List.length_append, Hl.out]; rfl
            have Hstep := Lib.hid hstep
            have Hl2 := Lib.hid hl2
            clear hstep hl2
            by_cases hpk : n < pk.length
            · have hdp : decide (n < pk.length) = true := by simp; omega
              obtain ⟨b3, o3, rfl, hc3, hx3⟩ := Rep.slice_nat hb (i := n) (x := pk[n]) (by simp)
              generalize pk[n] = pn at *
              have i4 : (n : Int) < (pk.length : Int) := by omega
              go_wp2_with fail
              refine (between_any f t pn _ (by omega) (by omega) (by omega) (by omega)).mono ?_
              rintro e w' ⟨⟨v, rfl, hp⟩, rfl⟩
              obtain ⟨hs1, hs2⟩ := Hstep.out v hp
              have hs3 := Hl2.out v
              clear hp
              have hres : ∀ w D, (Rep.int .i64).rd w D [.int .i64 v] v := fun w D => ⟨rfl, hs2⟩
              go_wp2_with (at_builtin; refine wpList_push el22i rfl _ _ rfl (hown.alloc _) rfl rfl (cell_one_new _ _ _) (hres _ _) hbytes (le_alloc hbs2 _) _ rfl ?_; intro v3 w3 hown3 hk3 hb3 hv3 hv4)
              go_roundw
              case rel => exact ⟨n + 1, _, by go_num, by omega, hown3, hs3, hs1, (hbel2.alloc hbs2 _).trans hb3⟩
              case measure => simp [intOf]; omega
            · have hdp : decide (n < pk.length) = false := by simp; omega
              go_wp2_with fail
              refine (between_any f t 0 _ (by omega) (by omega) (by omega) (by omega)).mono ?_
              rintro e w' ⟨⟨v, rfl, hp⟩, rfl⟩
              obtain ⟨hs1, hs2⟩ := Hstep.out v hp
              have hs3 := Hl2.out v
              clear hp
              have hres : ∀ w D, (Rep.int .i64).rd w D [.int .i64 v] v := fun w D => ⟨rfl, hs2⟩
              go_wp2_with (at_builtin; refine wpList_push el22i rfl _ _ rfl (hown.alloc _) rfl rfl (cell_one_new _ _ _) (hres _ _) hbytes (le_alloc hbs2 _) _ rfl ?_; intro v3 w3 hown3 hk3 hb3 hv3 hv4)
              go_roundw
              case rel => exact ⟨n + 1, _, by go_num, by omega, hown3, hs3, hs1, (hbel2.alloc hbs2 _).trans hb3⟩
              case measure => simp [intOf]; omega
    · have hdec : decide (n < R.length) = false := by simp; omega
      have hnl : Hid (l.length = R.length) := by have := Hl.out; show _ = _; omega
      go_wp2
      go_ret
      obtain ⟨A7, c7, rfl, hc7, hc7'⟩ := hown.shape
      have hrd := hown.rd
      exact ⟨isShown hnl.out hrd, hbel⟩
end Go.Proofs.Ytofmmflohhadkaa

import Derived.Test.YtocnbgjaiihgiaaRows
import Derived.Test.YtocnbgjaiihgiaaPlain
import Derived.Test.YtocnbgjaiihgiaaLib
namespace Go.Proofs.Ytocnbgjaiihgiaa
open Go.RowKit Go.Kx Plain
theorem and1 (c : Nat) (hc : c < 4294967296) : bits .and .u32 (c : Int) 1 = ((c % 2 : Nat) : Int) := by
  have := u32_and_nat c 1 hc (by omega)
  rw [Nat.and_one_is_mod] at this
  exact this
set_option maxHeartbeats 400000 in
theorem step_any (c : Nat) (hc : c < 4294967296) (w : World) :
    Calls Try.prog 20 #[.int .u32 (c : Int)] w fun e w' => e = .returned (.int .u32 (bit c : Nat)) ∧ w = w' := by
  have h1 := and1 c hc
  have h2 : bits .xor .u32 ((c : Int) / 2) 2197175160 = (((c / 2) ^^^ poly : Nat) : Int) := by
    have := u32_xor_nat (c / 2) poly (by omega) poly_lt
    simpa [poly] using this
  by_cases hb : c % 2 = 1
  · have hb' : bit c = (c / 2) ^^^ poly := by unfold bit; rw [if_pos hb]
    rw [hb', ← h2]
    have h3 : (bits .and .u32 (c : Int) 1 == 1) = true := by rw [h1, hb]; rfl
    clear h1 h2 hb' hb
    go_enter Try.func20, Try.ntmps20
    go_wp2
    go_ret
    exact ⟨rfl, rfl⟩
  · have hb' : bit c = (c / 2) := by unfold bit; rw [if_neg hb]
    have h3 : (bits .and .u32 (c : Int) 1 == 1) = false := by
      rw [h1]; simp; omega
    have h4 : ((bit c : Nat) : Int) = (c : Int) / 2 := by rw [hb']; omega
    rw [h4]
    clear h1 h2 hb' hb h4
    go_enter Try.func20, Try.ntmps20
    go_wp2
    go_ret
    exact ⟨rfl, rfl⟩

def bitN : Nat → Nat → Nat
  | 0, c => c
  | n + 1, c => bit (bitN n c)
theorem bitN_lt (n c : Nat) (h : c < 4294967296) : bitN n c < 4294967296 := by
  induction n with
  | zero => exact h
  | succ n ih => exact bit_lt ih
def tv (i j : Nat) : Value := .int .u32 ((if j < i then nib j else 0 : Nat) : Int)
def tabArr (i : Nat) : Array Value := #[tv i 0, tv i 1, tv i 2, tv i 3, tv i 4, tv i 5, tv i 6, tv i 7, tv i 8, tv i 9, tv i 10, tv i 11, tv i 12, tv i 13, tv i 14, tv i 15]
theorem tab_set (i : Nat) (h : i < 16) : (tabArr i).setIfInBounds i (.int .u32 ((nib i : Nat) : Int)) = tabArr (i + 1) := by
  rcases i with _ | _ | _ | _ | _ | _ | _ | _ | _ | _ | _ | _ | _ | _ | _ | _ | i <;> first | rfl | omega
theorem tab_get (i : Nat) (h : i < 16) : ∃ v, (tabArr i)[i]? = some v := by
  rcases i with _ | _ | _ | _ | _ | _ | _ | _ | _ | _ | _ | _ | _ | _ | _ | _ | i <;> first | exact ⟨_, rfl⟩ | omega
def tab : Array Value := tabArr 16
theorem tab_at (i : Nat) (h : i < 16) : tab[i]? = some (.int .u32 ((nib i : Nat) : Int)) := by
  rcases i with _ | _ | _ | _ | _ | _ | _ | _ | _ | _ | _ | _ | _ | _ | _ | _ | i <;> first | rfl | omega
theorem cell_tab (w : World) (i : Nat) (h : i < 16) : ∃ v, (w.alloc (.cells (tabArr i) 40)).cell? ⟨w.heap.size, i, none⟩ = some v := by
  obtain ⟨v, hv⟩ := tab_get i h
  exact ⟨v, by rw [World.cell?_alloc_at _ _ _ _ rfl, hv]⟩

def zs16 : Array Value := #[.int .u32 0, .int .u32 0, .int .u32 0, .int .u32 0, .int .u32 0, .int .u32 0, .int .u32 0, .int .u32 0, .int .u32 0, .int .u32 0, .int .u32 0, .int .u32 0, .int .u32 0, .int .u32 0, .int .u32 0, .int .u32 0]
theorem tab0 : tabArr 0 = zs16 := by rfl
theorem below_setCells_ {B g : Nat} (hg : B ≤ g) : ∀ (vs : List Value) (o : Nat) (w w' : World), Below B w w' → Below B w (w'.setCells g o vs)
  | [], _, _, _, h => h
  | _ :: vs, o, w, _, h => below_setCells_ hg vs (o + 1) w _ (h.setCell hg _)
set_option maxHeartbeats 400000 in
theorem half_any (w : World) :
    Calls Try.prog 18 #[] w fun e w' => e = .returned (.agg tab) ∧ Below w.heap.size w w' := by
  go_enter Try.func18, Try.ntmps18
  go_wp2
  go_loopw [3, 4, 5, 6, 10] (fun _ _ i _ _ wr => ∃ k : Nat, k ≤ 16 ∧ i = .int .i64 k ∧ wr = (w.alloc (.cells zs16 40)).alloc (.cells (tabArr k) 40)) (fun _ _ i _ _ _ => 16 - (intOf i).toNat)
  case atStart => exact ⟨0, by omega, rfl, by rw [tab0]; rfl⟩
  case round =>
    obtain ⟨k, hk, rfl, rfl⟩ := hrel
    by_cases hlt : k < 16
    · obtain ⟨v, hv⟩ := tab_get k hlt
      have hd : decide ((k : Int) < 16) = true := by simp; omega
      go_wp2
      go_loop [4, 10] (fun c j => ∃ n : Nat, n ≤ 4 ∧ j = .int .i64 n ∧ c = .int .u32 ((bitN n k : Nat) : Int)) (fun _ j => 4 - (intOf j).toNat)
      case atStart => exact ⟨0, by omega, rfl, rfl⟩
      case round =>
        obtain ⟨n, hn, rfl, rfl⟩ := hrel
        by_cases hn4 : n < 4
        · have hd : decide ((n : Int) < 4) = true := by simp; omega
          go_wp2_with (go_at_call 20; refine (step_any _ (bitN_lt n k (by omega)) _).mono ?_; rintro e w' ⟨rfl, rfl⟩)
          go_round
          case rel => exact ⟨n + 1, by omega, by go_num, rfl⟩
          case measure => simp [intOf]; omega
        · have : n = 4 := by omega
          subst this
          go_wp2
          go_roundw
          case rel => exact ⟨k + 1, by omega, by go_num, by rw [← tab_set k hlt]; rfl⟩
          case measure => simp [intOf]; omega
    · have : k = 16 := by omega
      subst this
      have hb : Below w.heap.size w (((w.alloc (.cells zs16 40)).alloc (.cells tab 40)).setCells w.heap.size 0 tab.toList) :=
        below_setCells_ (Nat.le_refl _) _ _ _ _ ((((Below.refl _ _).alloc (Nat.le_refl _) _).alloc (by simp) _))
      have hd : decide ((16 : Int) < 16) = false := by simp
      have hr : ((w.alloc (.cells zs16 40)).alloc (.cells tab 40)).rangeAt (w.heap.size + 1) 0 tab.toList := fun j v hv => by
        rw [World.cell?_alloc_at _ _ _ _ (by simp)]; simpa using hv
      have ht : ((w.alloc (.cells zs16 40)).alloc (.cells tab 40)).there w.heap.size 0 16 := fun j hj => by
        rw [World.cell?_alloc_past _ _ _ (by simp), World.cell?_alloc_at _ _ _ _ (by simp), World.frozen?_alloc_past _ _ _ (by simp), World.frozen?_alloc_at _ _ _ _ (by simp)]
        simp [zs16]; omega
      have hr2 := World.rangeAt_setCells_same _ w.heap.size 0 tab.toList ht
      change Code.wp _ _ _ _ ((w.alloc (.cells zs16 40)).alloc (.cells tab 40))
      generalize hW : (w.alloc (.cells zs16 40)).alloc (.cells tab 40) = W at hb hr ht hr2 ⊢
      clear hW
      have h1 : ∀ v ∈ tab.toList, v.oneCell' = true := by unfold tab tabArr tv; simp [Value.oneCell']
      have hi : (Try.prog.info? 40).map (·.size) = some 16 := by kernel_rfl
      have hu : Try.prog.underlying 40 = some (.array 16 39) := by kernel_rfl
      have hst : (storeCells ⟨w.heap.size, 0, none⟩ tab.toList).run Try.prog W = .ok () (W.setCells w.heap.size 0 tab.toList) :=
        run_storeCells_cells (P := Try.prog) w.heap.size 0 tab.toList 0 W (fun j hj => (ht j hj).1) (fun j hj => (ht j hj).2) h1
      have hl := run_loadVar_mid (P := Try.prog) _ _ _ 40 tab.toList (.array 16 39) hr2 hu rfl hi
      generalize W.setCells w.heap.size 0 tab.toList = W2 at hst hl hb
      go_wp2_with (refine wpList_load_mid rfl 40 _ rfl (w.heap.size + 1) 0 rfl tab.toList (.array 16 39) hr hu rfl hi ?_)
      refine bodyPost_ret (v := .agg tab) ?_ rfl ⟨rfl, hb⟩
      simp [results, Try.results18, asAddr, hl]

end Go.Proofs.Ytocnbgjaiihgiaa

import Derived.Test.YtjflkcfafijhfaaGreatProg
import Derived.Test.YtjflkcfafijhfaaGreatQ30
import Derived.Test.YtjflkcfafijhfaaGreatQ01
set_option linter.unusedSectionVars false
namespace Go.Proofs.YtjflkcfafijhfaaGreat
open Go.RowKit Go.Kx Plain
theorem and1 (c : Nat) (hc : c < 4294967296) : bits .and .u32 (c : Int) 1 = ((c % 2 : Nat) : Int) := by
 have := u32_and_nat c 1 hc (by omega)
 rw [Nat.and_one_is_mod] at this
 exact this
set_option maxRecDepth 20000 in
set_option maxHeartbeats 1000000 in
theorem step_any (c : Nat) (hc : c < 4294967296) (w : World) :
  Calls Tryz.prog 160 #[.int .u32 (c : Int)] w fun e w' => e = .returned (.int .u32 (bit c : Nat)) ∧ w = w' := by
 have h1 := and1 c hc
 have h2 : bits .xor .u32 ((c : Int) / 2) 2197175160 = (((c / 2) ^^^ poly : Nat) : Int) := by
  have := u32_xor_nat (c / 2) poly (by omega) poly_lt
  simpa [poly] using this
 by_cases hb : c % 2 = 1
 ·have hb' : bit c = (c / 2) ^^^ poly := by unfold bit; rw [if_pos hb]
  rw [hb', ← h2]
  have h3 : (bits .and .u32 (c : Int) 1 == 1) = true := by rw [h1, hb]; rfl
  clear h1 h2 hb' hb
  go_enter Tryz.func160, Tryz.ntmps160
  go_wp2
  go_ret
  exact ⟨rfl, rfl⟩
 ·have hb' : bit c = (c / 2) := by unfold bit; rw [if_neg hb]
  have h3 : (bits .and .u32 (c : Int) 1 == 1) = false := by
   rw [h1]; simp; omega
  have h4 : ((bit c : Nat) : Int) = (c : Int) / 2 := by rw [hb']; omega
  rw [h4]
  clear h1 h2 hb' hb h4
  go_enter Tryz.func160, Tryz.ntmps160
  go_wp2
  go_ret
  exact ⟨rfl, rfl⟩
def bitN : Nat → Nat → Nat
 | 0, c => c
 | n + 1, c => bit (bitN n c)
theorem bitN_lt (n c : Nat) (h : c < 4294967296) : bitN n c < 4294967296 := by
 induction n with
 | zero => exact h
 | succ n ih => exact bit_lt ih
def tv (i j : Nat) : Value := .int .u32 ((if j < i then nib j else 0 : Nat) : Int)
def tabArr (i : Nat) : Array Value := #[tv i 0, tv i 1, tv i 2, tv i 3, tv i 4, tv i 5, tv i 6, tv i 7, tv i 8, tv i 9, tv i 10, tv i 11, tv i 12, tv i 13, tv i 14, tv i 15]
theorem tab_set (i : Nat) (h : i < 16) : (tabArr i).setIfInBounds i (.int .u32 ((nib i : Nat) : Int)) = tabArr (i + 1) := by
 rcases i with _ | _ | _ | _ | _ | _ | _ | _ | _ | _ | _ | _ | _ | _ | _ | _ | i <;> first | rfl | omega
theorem tab_get (i : Nat) (h : i < 16) : ∃ v, (tabArr i)[i]? = some v := by
 rcases i with _ | _ | _ | _ | _ | _ | _ | _ | _ | _ | _ | _ | _ | _ | _ | _ | i <;> first | exact ⟨_, rfl⟩ | omega
def tab : Array Value := tabArr 16
theorem tab_at (i : Nat) (h : i < 16) : tab[i]? = some (.int .u32 ((nib i : Nat) : Int)) := by
 rcases i with _ | _ | _ | _ | _ | _ | _ | _ | _ | _ | _ | _ | _ | _ | _ | _ | i <;> first | rfl | omega
def zs16 : Array Value := #[.int .u32 0, .int .u32 0, .int .u32 0, .int .u32 0, .int .u32 0, .int .u32 0, .int .u32 0, .int .u32 0, .int .u32 0, .int .u32 0, .int .u32 0, .int .u32 0, .int .u32 0, .int .u32 0, .int .u32 0, .int .u32 0]
theorem tab0 : tabArr 0 = zs16 := by rfl
theorem below_setCells_ {B g : Nat} (hg : B ≤ g) : ∀ (vs : List Value) (o : Nat) (w w' : World), Below B w w' → Below B w (w'.setCells g o vs)
 | [], _, _, _, h => h
 | _ :: vs, o, w, _, h => below_setCells_ hg vs (o + 1) w _ (h.setCell hg _)
set_option maxRecDepth 20000 in
set_option maxHeartbeats 1000000 in
theorem half_any (w : World) :
  Calls Tryz.prog 140 #[] w fun e w' => e = .returned (.agg tab) ∧ Below w.heap.size w w' := by
 go_enter Tryz.func140, Tryz.ntmps140
 go_wp2
 go_loopw [3, 4, 5, 6, 10] (fun _ _ i _ _ wr => ∃ k : Nat, k ≤ 16 ∧ i = .int .i64 k ∧ wr = (w.alloc (.cells zs16 205)).alloc (.cells (tabArr k) 205)) (fun _ _ i _ _ _ => 16 - (intOf i).toNat)
 case atStart => exact ⟨0, by omega, rfl, by rw [tab0]; rfl⟩
 case round =>
  obtain ⟨k, hk, rfl, rfl⟩ := hrel
  by_cases hlt : k < 16
  ·obtain ⟨v, hv⟩ := tab_get k hlt
   have hd : decide ((k : Int) < 16) = true := by simp; omega
   go_wp2
   go_loop [4, 10] (fun c j => ∃ n : Nat, n ≤ 4 ∧ j = .int .i64 n ∧ c = .int .u32 ((bitN n k : Nat) : Int)) (fun _ j => 4 - (intOf j).toNat)
   case atStart => exact ⟨0, by omega, rfl, rfl⟩
   case round =>
    obtain ⟨n, hn, rfl, rfl⟩ := hrel
    by_cases hn4 : n < 4
    ·have hd : decide ((n : Int) < 4) = true := by simp; omega
     go_wp2_with (go_at_call 160; refine (step_any _ (bitN_lt n k (by omega)) _).mono ?_; rintro e w' ⟨rfl, rfl⟩)
     go_round
     case rel => exact ⟨n + 1, by omega, by go_num, rfl⟩
     case measure => simp [intOf]; omega
    ·have : n = 4 := by omega
     subst this
     go_wp2
     go_roundw
     case rel => exact ⟨k + 1, by omega, by go_num, by rw [← tab_set k hlt]; rfl⟩
     case measure => simp [intOf]; omega
  ·have : k = 16 := by omega
   subst this
   have hb : Below w.heap.size w (((w.alloc (.cells zs16 205)).alloc (.cells tab 205)).setCells w.heap.size 0 tab.toList) :=
    below_setCells_ (Nat.le_refl _) _ _ _ _ ((((Below.refl _ _).alloc (Nat.le_refl _) _).alloc (by simp) _))
   have hd : decide ((16 : Int) < 16) = false := by simp
   have hr : ((w.alloc (.cells zs16 205)).alloc (.cells tab 205)).rangeAt (w.heap.size + 1) 0 tab.toList := fun j v hv => by
    rw [World.cell?_alloc_at _ _ _ _ (by simp)]; simpa using hv
   have ht : ((w.alloc (.cells zs16 205)).alloc (.cells tab 205)).there w.heap.size 0 16 := fun j hj => by
    rw [World.cell?_alloc_past _ _ _ (by simp), World.cell?_alloc_at _ _ _ _ (by simp), World.frozen?_alloc_past _ _ _ (by simp), World.frozen?_alloc_at _ _ _ _ (by simp)]
    simp [zs16]; omega
   have hr2 := World.rangeAt_setCells_same _ w.heap.size 0 tab.toList ht
   change Code.wp _ _ _ _ ((w.alloc (.cells zs16 205)).alloc (.cells tab 205))
   generalize hW : (w.alloc (.cells zs16 205)).alloc (.cells tab 205) = W at hb hr ht hr2 ⊢
   clear hW
   have h1 : ∀ v ∈ tab.toList, v.oneCell' = true := by unfold tab tabArr tv; simp [Value.oneCell']
   have hi : (Tryz.prog.info? 205).map (·.size) = some 16 := by kernel_rfl
   have hu : Tryz.prog.underlying 205 = some (.array 16 204) := by kernel_rfl
   have hst : (storeCells ⟨w.heap.size, 0, none⟩ tab.toList).run Tryz.prog W = .ok () (W.setCells w.heap.size 0 tab.toList) :=
    run_storeCells_cells (P := Tryz.prog) w.heap.size 0 tab.toList 0 W (fun j hj => (ht j hj).1) (fun j hj => (ht j hj).2) h1
   have hl := run_loadVar_mid (P := Tryz.prog) _ _ _ 205 tab.toList (.array 16 204) hr2 hu rfl hi
   generalize W.setCells w.heap.size 0 tab.toList = W2 at hst hl hb
   go_wp2_with (refine wpList_load_mid rfl 205 _ rfl (w.heap.size + 1) 0 rfl tab.toList (.array 16 204) hr hu rfl hi ?_)
   refine bodyPost_ret (v := .agg tab) ?_ rfl ⟨rfl, hb⟩
   simp [results, Tryz.results140, asAddr, hl]
end Go.Proofs.YtjflkcfafijhfaaGreat
namespace Go.Proofs.YtjflkcfafijhfaaGreat
open Go.RowKit Go.Kx Plain
theorem ret_nat {k : IntKind} {a b : Nat} (h : a = b) : Ending.returned (.int k (a : Int)) = .returned (.int k (b : Int)) := by rw [h]
theorem nib_step (c : Nat) (h : c < 4294967296) : ∃ m n c2 : Nat, m < 16 ∧ n < 4294967296 ∧ c2 < 4294967296 ∧ bits .and .u32 (c : Int) 15 = (m : Int) ∧ tab[m]? = some (.int .u32 (n : Int)) ∧
  bits .xor .u32 (n : Int) ((c : Int) / 16) = (c2 : Int) ∧ c2 = nib c := by
 refine ⟨c % 16, nib (c % 16), nib c, by omega, nib_lt (by omega), nib_lt h, ?_, tab_at _ (by omega), ?_, rfl⟩
 ·have := u32_and_nat c 15 h (by omega)
  rw [show (15 : Nat) = 2 ^ 4 - 1 by rfl, Nat.and_two_pow_sub_one_eq_mod] at this
  exact this
 ·have := u32_xor_nat (nib (c % 16)) (c / 16) (nib_lt (by omega)) (by omega)
  rw [← nib_eq c] at this
  rw [← this]; rfl
theorem take_snoc' (l : List Nat) (k x : Nat) (h : l[k]? = some x) : l.take (k + 1) = l.take k ++ [x] := by
 rw [List.take_add_one, h]; rfl
theorem crcFrom_snoc (c x : Nat) (l : List Nat) : crcFrom c (l ++ [x]) = byteStep (crcFrom c l) x := by simp [crcFrom]
set_option maxRecDepth 20000 in
set_option maxHeartbeats 1000000 in
theorem of_any (v : Value) (l : List Nat) (w : World) {D : Nat → Prop} (hl : (Rep.slice Rep.u8).rd w D [v] l) :
  Calls Tryz.prog 139 #[.agg tab, v] w fun e w' => e = .returned (.int .i64 ((crc l : Nat) : Int)) ∧ Below w.heap.size w w' := by
 have hb := Rep.slice_u8_all hl
 obtain ⟨a, cap, rfl, hm1, hm2, hl⟩ := Rep.slice_open hl
 have hm : l.length ≤ 9223372036854775807 := by omega
 have hc := fun j x => Rep.slice_u8 hl (i := j) (x := x)
 clear hl hm1 hm2
 go_enter Tryz.func139, Tryz.ntmps139
 go_wp2
 have hB : Below w.heap.size w (w.alloc (.cells tab 205)) := (Below.refl _ _).alloc (Nat.le_refl _) _
 have ht : ∀ m v, tab[m]? = some v → (w.alloc (.cells tab 205)).cell? ⟨w.heap.size, m, none⟩ = some v := fun m v hv => by
  rw [World.cell?_alloc_at _ _ _ _ (by simp), hv]
 have hc' : ∀ (j x : Nat), l[j]? = some x → ∃ b off, a = some ⟨b, off, none⟩ ∧ (w.alloc (.cells tab 205)).cell? ⟨b, off + j, none⟩ = some (.int .u8 (x : Int)) ∧ x < 256 := fun j x hx => by
  obtain ⟨b, off, h1, h2, h3⟩ := hc j x hx
  exact ⟨b, off, h1, by rw [World.cell?_alloc_past _ _ _ (block_lt_of_cell h2)]; exact h2, h3⟩
 clear hc
 generalize w.alloc (.cells tab 205) = W at hB ht hc' ⊢
 generalize w.heap.size = B at ht ⊢
 go_loop [5, 10] (fun c i => ∃ k : Nat, k ≤ l.length ∧ i = .int .i64 k ∧ c = .int .u32 ((crcFrom 4294967295 (l.take k) : Nat) : Int)) (fun _ i => l.length - (intOf i).toNat)
 case atStart => exact ⟨0, by omega, rfl, rfl⟩
 case round =>
  obtain ⟨k, hk, rfl, rfl⟩ := hrel
  have hcl : crcFrom 4294967295 (l.take k) < 4294967296 := crcFrom_lt (by omega) (fun x hx => hb x (List.mem_of_mem_take hx))
  by_cases hlt : k < l.length
  ·obtain ⟨b, off, rfl, hcell, hx⟩ := hc' k l[k] (by simp)
   have hsn := crcFrom_snoc 4294967295 l[k] (l.take k)
   rw [← take_snoc' l k l[k] (by simp)] at hsn
   generalize l[k] = x at *
   obtain ⟨d, HD⟩ : ∃ d, Hid (d = crcFrom 4294967295 (l.take (k + 1))) := ⟨_, rfl⟩
   rw [← HD.out] at hsn
   generalize crcFrom 4294967295 (l.take k) = c at *
   obtain ⟨c1, hc1, hc1', hc1l⟩ : ∃ c1 : Nat, bits .xor .u32 (c : Int) (x : Int) = (c1 : Int) ∧ c1 = c ^^^ x ∧ c1 < 4294967296 :=
    ⟨c ^^^ x, u32_xor_nat c x hcl (by omega), rfl, Nat.xor_lt_two_pow (n := 32) (by omega) (by omega)⟩
   obtain ⟨m, n, c2, hm2, hn2, hc2l, e1, e2, e3, e4⟩ := nib_step c1 hc1l
   obtain ⟨m', n', c3, hm3, hn3, hc3l, e5, e6, e7, e8⟩ := nib_step c2 hc2l
   have g1 := ht m _ e2
   have g2 := ht m' _ e6
   have hd : c3 = d := by rw [hsn, e8, e4, hc1']; rfl
   have Hd := Lib.hid hd
   have hdec : decide ((k : Int) < (l.length : Int)) = true := by simp; omega
   clear hd hsn e2 e4 e6 e8 hc1' ht hc' hb hB
   go_wp2
   go_round
   case rel => exact ⟨k + 1, by omega, by go_num, by rw [← HD.out, ← Hd.out]⟩
   case measure => simp [intOf]; omega
  ·have : k = l.length := by omega
   subst this
   have hdec : decide ((l.length : Int) < (l.length : Int)) = false := by simp
   rw [List.take_length] at *
   have hx : bits .xor .u32 ((crcFrom 4294967295 l : Nat) : Int) 4294967295 = ((crc l : Nat) : Int) := u32_xor_nat _ 4294967295 hcl (by decide)
   have hcr : crc l < 4294967296 := crc_lt hb
   obtain ⟨d, HD⟩ : ∃ d, Hid (d = crc l) := ⟨_, rfl⟩
   rw [← HD.out] at hx hcr
   generalize crcFrom 4294967295 l = c at *
   clear hc' ht
   go_wp2
   go_ret
   exact ⟨ret_nat HD.out, hB⟩
end Go.Proofs.YtjflkcfafijhfaaGreat
namespace Go.Proofs.YtjflkcfafijhfaaGreat
open Go.RowKit Go.Kx Plain
theorem tab_one : (tab.all (·.oneCell') = true) := by
 unfold tab tabArr tv; simp [Value.oneCell']
theorem tab_one' : ∀ v ∈ tab.toList, v.oneCell' = true := by unfold tab tabArr tv; simp [Value.oneCell']
theorem info205 : (Tryz.prog.info? 205).map (·.size) = some 16 := by kernel_rfl
theorem under205 : Tryz.prog.underlying 205 = some (.array 16 204) := by kernel_rfl
theorem el28 : Elem Tryz.prog 28 3 (Rep.nat .i64 4294967296) 8 := ⟨by kernel_rfl, ⟨.int .i64 0, by kernel_rfl, rfl⟩, by decide, by decide⟩
def blocks (l : List Nat) : List Nat := if _h : l = [] then [] else crc (l.take 16) :: blocks (l.drop 16)
 termination_by l.length
 decreasing_by simp; have := List.length_pos_iff.2 _h; omega
theorem blocks_nil : blocks [] = [] := by rw [blocks]; simp
theorem blocks_cons (l : List Nat) (h : l ≠ []) : blocks l = crc (l.take 16) :: blocks (l.drop 16) := by rw [blocks, dif_neg h]
theorem keepS {w w' : World} {p B0 : Nat} {cs : List Value} {v : Value} {l : List Nat} (D : Nat → Prop) (hp : D p) (hD : ∀ b, b < B0 → D b) (hk : Keeps w w' D)
  (h : w.rangeAt p 0 cs ∧ (Rep.slice Rep.u8).rd w (fun b => b < B0) [v] l) : w'.rangeAt p 0 cs ∧ (Rep.slice Rep.u8).rd w' (fun b => b < B0) [v] l :=
 ⟨hk.range hp h.1, (Rep.slice Rep.u8).keep (hk.mono (fun b hb _ => hD b hb)) h.2⟩
set_option maxRecDepth 20000 in
set_option maxHeartbeats 1000000 in
theorem blocks_any (v : Value) (l : List Nat) (w : World) {D : Nat → Prop} (hl : (Rep.slice Rep.u8).rd w D [v] l) (hD : l.length ≤ 1000000) :
  Calls Tryz.prog 109 #[v] w fun e w' => ∃ v', e = .returned v' ∧ Own w' w.heap.size 3 (Rep.nat .i64 4294967296) v' (blocks l) ∧ Below w.heap.size w w' := by
 have hl := Rep.widen hl
 have hst := fun w1 : World => run_storeCells_new (P := Tryz.prog) w1 205 zs16 tab info205 rfl tab_one
 unfold zs16 at hst
 obtain ⟨a, cap, rfl, hm1, hm2, hl⟩ := Rep.slice_open hl
 go_enter Tryz.func109, Tryz.ntmps109
 go_wp2_with (go_at_call 140; refine (half_any _).mono ?_; rintro e w1 ⟨rfl, hb1⟩)
 clear hst
 have hB : Below w.heap.size w (w1.alloc (.cells tab 205)) := hb1.alloc hb1.size _
 have hr : (w1.alloc (.cells tab 205)).rangeAt w1.heap.size 0 tab.toList := fun j v hv => by
  rw [World.cell?_alloc_at _ _ _ _ (by simp)]; simpa using hv
 have hlt : w1.heap.size < (w1.alloc (.cells tab 205)).heap.size := by simp
 generalize w1.alloc (.cells tab 205) = W at hB hr hlt ⊢
 have hge : w.heap.size ≤ w1.heap.size := hb1.size
 generalize hp : w1.heap.size = p at hr hlt hge ⊢
 clear hp hb1 w1
 go_loopw [0, 4] (fun d out wr => ∃ (done rest : List Nat), Hid (blocks l = done ++ blocks rest) ∧ done.length + rest.length ≤ 1000000 ∧ (Rep.slice Rep.u8).rd wr (fun b => b < w.heap.size) [d] rest ∧ Own wr w.heap.size 3 (Rep.nat .i64 4294967296) out done ∧ out.ownBlock ≠ some p ∧
  Below w.heap.size w wr ∧ wr.rangeAt p 0 tab.toList ∧ p < wr.heap.size) (fun d _ _ => match d with | .slice _ n _ => n | _ => 0)
 case atStart => 
  refine ⟨[], l, rfl, by simp; omega, ?_, Own.nil _ _ _ _, by simp [Value.ownBlock], hB, hr, hlt⟩
  exact (Rep.slice Rep.u8).keep (Keeps.of_belowB hB) ((Rep.slice Rep.u8).more (fun b _ h => h) hl)
 case round =>
  obtain ⟨done, rest, hd, hlen, hrest, hown, hne, hBr, hrr, hpr⟩ := hrel
  obtain ⟨A, c, rfl, hc1, hc2, hrest⟩ := Rep.slice_open hrest
  by_cases hr0 : rest = []
  ·subst hr0
   have h0 : ¬ ((0 : Int) < 0) := by omega
   go_wp2
   go_ret
   have hd' := hd.out
   rw [blocks_nil, List.append_nil] at hd'
   exact ⟨_, rfl, by rw [hd']; exact hown, hBr⟩
  ·have hpos := List.length_pos_iff.2 hr0
   have hdec : decide ((0 : Int) < (rest.length : Int)) = true := by simp; omega
   obtain ⟨n, hmin, hn0, hn1, hn2, Hn⟩ : ∃ n : Nat, (if (16 : Int) < (rest.length : Int) then (16 : Int) else (rest.length : Int)) = (n : Int) ∧ 0 < n ∧ n ≤ rest.length ∧ n ≤ 16 ∧ Hid (rest.take n = rest.take 16 ∧ rest.drop n = rest.drop 16) := by
    rcases Nat.lt_or_ge rest.length 16 with h | h
    ·exact ⟨rest.length, if_neg (by omega), by omega, by omega, by omega, by rw [List.take_length, List.drop_length, List.take_of_length_le (by omega), List.drop_of_length_le (by omega)]; exact ⟨rfl, rfl⟩⟩
    ·exact ⟨16, by split <;> omega, by omega, by omega, by omega, rfl, rfl⟩
   have htake := Rep.slice_take hrest hn1
   have hdrop := Rep.slice_drop hrest hn1
   rw [show n * Rep.u8.size = n from Nat.mul_one n] at hdrop
   have hi205 := info205
   have hu205 := under205
   have hts : tab.toList.length = 16 := by rfl
   have htab1 := tab_one'
   have hnc : n ≤ c := by omega
   go_wp2
   clear hmin
   have hres : ∀ w2 D, (Rep.nat .i64 4294967296).rd w2 D [.int .i64 ((crc (rest.take n) : Nat) : Int)] (crc (rest.take n)) := fun w2 D =>
    ⟨rfl, crc_lt (fun x hx => Rep.slice_u8_all htake x hx)⟩
   have hD1 : ∀ b, b < w.heap.size → some b ≠ u4.ownBlock := fun b hb h => by have := (hown.block h.symm).1; omega
   have hs0 := hBr.size
   have hdl : (done.length + 1) * 8 ≤ 140737488355328 := by omega
   go_region_held3 (fun w' => w'.rangeAt p 0 tab.toList ∧ (Rep.slice Rep.u8).rd w' (fun b => b < w.heap.size) [.slice A n c] (rest.take n))
    (first
     | exact ⟨hrr, (Rep.slice Rep.u8).keep (Keeps.drew _ _) htake⟩
     | exact keepS T trivial (fun _ _ => trivial) (Keeps.of_below hb2) (by assumption)
     | exact keepS T trivial (fun _ _ => trivial) (Keeps.alloc _ _ _) (by assumption)
     | exact keepS (fun b => some b ≠ u4.ownBlock) hne.symm hD1 hk3 (by assumption))
    ((first
     | (go_at_call 139; refine (of_any _ (rest.take n) _ ((Rep.slice Rep.u8).keep (Keeps.drew _ _) htake)).mono ?_; rintro e w2 ⟨rfl, hb2⟩)
     | (refine step_push el28 rfl (.tmp 13) (.tmp 19) rfl (((hown.drew).below hb2).alloc _) rfl rfl (cell_one_new _ _ _) (hres _ _) hdl (by have h := hb2.size; simp at h ⊢; omega) _ rfl ?_; intro v3 w3 hown3 hk3 hb3 hv3 hv4)))
   have hB3 : Below w.heap.size w w3 := by
    refine hBr.trans (Below.trans ?_ hb3)
    have h1 : Below w.heap.size wr.drew w2 := hb2.mono hs0
    exact (((Below.refl _ _).drew).trans h1).alloc (Nat.le_trans hs0 hb2.size) _
   have hk03 : Keeps wr w3 (fun b => some b ≠ u4.ownBlock) :=
    (((Keeps.drew _ _).trans (Keeps.of_below hb2)).trans (Keeps.alloc _ _ _)).trans hk3
   have hdrop3 := (Rep.slice Rep.u8).keep (hk03.mono (fun b hb _ => hD1 b hb)) hdrop
   have hp3 : w3.rangeAt p 0 tab.toList := hk03.range hne.symm hrr
   have hp3' : p < w3.heap.size := Nat.lt_of_lt_of_le hpr hk03.size
   have hne3 : v3.ownBlock ≠ some p := by
    rcases hv3 with h | h
    ·rw [h]; exact hne
    ·rw [h]
     intro h'
     injection h' with h'
     have h1 := hb2.size
     simp at h1 h'
     omega
   have hlen3 : (done ++ [crc (rest.take n)]).length + (rest.drop n).length ≤ 1000000 := by simp; omega
   have hd3 : Hid (blocks l = (done ++ [crc (rest.take n)]) ++ blocks (rest.drop n)) := by
    have h1 := hd.out
    rw [blocks_cons rest hr0, ← Hn.out.1, ← Hn.out.2] at h1
    show _ = _
    rw [h1]; simp
   go_wp2
   go_roundw
   case rel => exact ⟨_, _, hd3, hlen3, hdrop3, hown3, hne3, hB3, hp3, hp3'⟩
   case measure => simp; omega
theorem ret_int {k : IntKind} {a b : Int} (h : a = b) : Ending.returned (.int k a) = .returned (.int k b) := by rw [h]
set_option maxRecDepth 20000 in
set_option maxHeartbeats 1000000 in
theorem Of_any (v : Value) (l : List Nat) (w : World) {D : Nat → Prop} (hl : (Rep.slice Rep.u8).rd w D [v] l) (n : Int) (hn : ((crc l : Nat) : Int) = n) :
  Calls Tryz.prog 99 #[v] w fun e w' => e = .returned (.int .i64 n) ∧ Below w.heap.size w w' := by
 have Hn := Lib.hid hn
 clear hn
 have h1 := hl
 obtain ⟨a, cap, rfl, _, _, _⟩ := Rep.slice_open hl
 clear hl
 go_enter Tryz.func99, Tryz.ntmps99
 go_wp2_with fail
 refine (half_any _).mono ?_
 rintro e w1 ⟨rfl, hb1⟩
 go_wp2_with fail
 refine (of_any _ l _ (Rep.below h1 hb1)).mono ?_
 rintro e w2 ⟨rfl, hb2⟩
 go_wp2_with fail
 go_ret
 exact ⟨ret_int Hn.out, hb1.trans (hb2.mono hb1.size)⟩
end Go.Proofs.YtjflkcfafijhfaaGreat

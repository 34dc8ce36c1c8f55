import Derived.Test.YtjflkcfafijhfaaGreatQ18
import Derived.Test.YtjflkcfafijhfaaGreatQ31
set_option linter.unusedSectionVars false
/- sums as contracts in plain values. -/
set_option linter.unusedSimpArgs false
set_option linter.unusedVariables false
namespace Go.Proofs.YtjflkcfafijhfaaGreat
open Go.Ab Go.RowKit Go.Kx
def isB8 (b : List Int) : Bool := b.all fun x => decide (0 ≤ x ∧ x < 256)
theorem isB8_at {b : List Int} (h : isB8 b = true) : ∀ x ∈ b, 0 ≤ x ∧ x < 256 := fun x hx => by
 have := List.all_eq_true.1 h x hx
 simpa using this
theorem rd_u8 {D : Nat → Prop} {w : World} {v : Value} {b : List Int} (h : isB8 b = true) (hv : RV NP D w v (.list 1 (b.map (ci .u8)))) : (Rep.slice Rep.u8).rd w D [v] (b.map Int.toNat) := by
 obtain ⟨A, c, rfl, h1, h2, h3⟩ := hv.list_inv
 refine ⟨A, c, by simp, by simpa using h1, h2, fun i x hx => ?_⟩
 rw [List.getElem?_map] at hx
 obtain ⟨z, hz, rfl⟩ := Option.map_eq_some_iff.1 hx
 obtain ⟨bb, o, cs, hA, hD, hb, hr, hl, h4, h5⟩ := h3 i (ci .u8 z) (by rw [List.getElem?_map, hz]; rfl)
 have hzb := isB8_at h z (List.mem_of_getElem? hz)
 refine ⟨bb, o, cs, hA, hD, hb, hr, ?_, by omega⟩
 match cs, hl with
 | [u], _ =>
  have hu := h5.2 0 u _ rfl (by rw [ci_eq]; rfl)
  rw [hu.int_inv]
  congr 2
  omega
def sum_Of_f (b1 : List Int) : Option Int := chk (isB8 b1 = true) (some ((Plain.crc (b1.map Int.toNat) : Nat) : Int))
theorem sum_Of_pc {b1 : List Int} {r : Int} (H : sum_Of_f b1 = some r) : PC Tryz.prog 99 [.list 1 (b1.map (ci .u8))] (.int .i64 r) where
 enter := ⟨_, _, Tryz.func99, rfl, by decide⟩
 run := fun w D vs hD hG hv => by
  unfold sum_Of_f at H
  obtain ⟨h0, H⟩ := chk_some H
  injection H with H
  match vs, hv with
  | [v], hv =>
   refine (Of_any v _ w (rd_u8 h0 (hv.2 0 v _ rfl rfl)) r H).mono fun e w' hr => ?_
   obtain ⟨rfl, hb⟩ := hr
   exact ⟨_, rfl, .int _ _, hb⟩
  | [], hv => exact absurd hv.1 (by simp)
  | _ :: _ :: _, hv => exact absurd hv.1 (by simp)
def sum_Blocks_f (data1 : List Int) : Option (List Int) := chk (isB8 data1 = true ∧ data1.length ≤ 1000000) (some ((blocks (data1.map Int.toNat)).map fun n : Nat => (n : Int)))
theorem sum_Blocks_rc {data1 : List Int} {r : List Int} (H : sum_Blocks_f data1 = some r) : RC Tryz.prog 109 [.list 1 (data1.map (ci .u8))] [] 0 (.ref 0 0 r.length 1) [some ⟨3, 1, false, r.map (ci .i64)⟩] := by
 unfold sum_Blocks_f at H
 obtain ⟨⟨h0, h1⟩, H⟩ := chk_some H
 injection H with H
 refine rc_ints ⟨_, _, Tryz.func109, rfl, by decide⟩ fun w D vs hD hG hv => ?_
 match vs, hv with
 | [v], hv =>
  refine (blocks_any v _ w (rd_u8 h0 (hv.2 0 v _ rfl rfl)) (by simpa using h1)).mono fun e w' hr => ?_
  obtain ⟨v', rfl, ⟨ess, hrow, hl, hes⟩, hb⟩ := hr
  refine ⟨v', rfl, ?_, hb⟩
  have e1 : ess = (blocks (data1.map Int.toNat)).map fun n : Nat => [Value.int .i64 (n : Int)] := by
   refine List.ext_getElem? fun i => ?_
   rw [List.getElem?_map]
   cases hi : (blocks (data1.map Int.toNat))[i]? with
   | none => rw [List.getElem?_eq_none (by rw [hl]; exact List.getElem?_eq_none_iff.1 hi)]; rfl
   | some n =>
    have hlt : i < ess.length := by rw [hl]; exact (List.getElem?_eq_some_iff.1 hi).1
    rw [List.getElem?_eq_getElem hlt]
    have := (hes i _ n (List.getElem?_eq_getElem hlt) hi).1
    rw [this]; rfl
  have e2 : ess.flatten = r.map (Value.int .i64) := by
   rw [e1, ← H, List.map_map]
   have : ∀ l : List Nat, (l.map fun n : Nat => [Value.int .i64 (n : Int)]).flatten = l.map (Value.int .i64 ∘ fun n : Nat => (n : Int)) := fun l => by
    induction l with
    | nil => rfl
    | cons a l ih => simp [ih]
   exact this _
  have e3 : (blocks (data1.map Int.toNat)).length = r.length := by rw [← H]; simp
  rw [e2, e3] at hrow
  exact hrow
 | [], hv => exact absurd hv.1 (by simp)
 | _ :: _ :: _, hv => exact absurd hv.1 (by simp)
end Go.Proofs.YtjflkcfafijhfaaGreat

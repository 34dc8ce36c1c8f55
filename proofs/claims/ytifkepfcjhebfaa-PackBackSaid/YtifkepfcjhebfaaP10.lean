/- PackBack, the plain law. -/
import Derived.Test.YtifkepfcjhebfaaG5
import Derived.Test.YtifkepfcjhebfaaP7
set_option linter.unusedSimpArgs false
set_option linter.unusedVariables false
namespace Go.Proofs.Ytifkepfcjhebfaa
open Go.Ab Go.RowKit
theorem back_J {x : List Int} {s : ByteArray} {z : List Int} {r5 : List Int × List Int × Int} {r8 : ByteArray × List Int × Int} (hx : ∀ n ∈ x, okI .i64 n) (hl : x.length ≤ 200) (hz : Bs z) (h5 : (ints x).length ≤ 2000 → r5 = (x, z, 0)) (h8 : r8 = (s.extract 0 (min s.size 500), z, 0)) :
    law01_PackBack_J1 true r5 z r8 s x = some true := by
  unfold law01_PackBack_J1
  rw [pInts_eq hx (by omega), Option.bind_some, cond_d]
  by_cases hc : (2000 : Int) < ((ints x).length : Int)
  · rw [if_pos hc]
  · rw [if_neg hc, h5 (by omega), h8, mn500]
    dsimp only
    rw [cond_true, sameInts_eq (by omega), Option.bind_some, rSame_eq hz hz, Option.bind_some, Option.bind_some, tl_eq]
    simp
theorem back_L {s : ByteArray} {z x : List Int} {r5 : List Int × List Int × Int} {r8 : ByteArray × List Int × Int} (hx : ∀ n ∈ x, okI .i64 n) (hl : x.length ≤ 200) (hz : Bs z) (hz2 : z.length ≤ 2000) (h5 : (ints x).length ≤ 2000 → r5 = (x, z, 0)) (h8 : r8 = (s.extract 0 (min s.size 500), z, 0)) :
    ∀ (m k : Nat), x.length < m + k → k ≤ x.length → law01_PackBack_L1 z true r5 r8 s m x (k : Int) = some true := by
  intro m
  induction m with
  | zero => intro k h1 h2; omega
  | succ m ih =>
    intro k h1 h2
    rw [law01_PackBack_L1, cond_d]
    by_cases hk : k < x.length
    · have h := hx _ (List.getElem_mem hk)
      have hn := num_len h
      have hG : G (num x[k] ++ z) := ⟨Bs.app (num_ok h) hz, by rw [List.length_append]; omega⟩
      rw [if_pos (by omega), idx_nat hk, Option.bind_some, pInt_eq h, Option.bind_some, few_eq, Option.bind_some, List.take_of_length_le (by omega), chk_pos (by omega), pRead_eq hG.1 hG.2, Option.bind_some, num_read h]
      simp only [T3, bne_self_eq_false, cond_false]
      rw [rSame_eq hz hz, Option.bind_some, law01_PackBack_J2, decide_eq_true rfl, Bool.not_true, cond_false, w64_succ (by omega)]
      exact ih (k + 1) (by omega) (by omega)
    · rw [if_neg (by omega)]
      exact back_J hx hl hz h5 h8
theorem PackBack_true (y0 : List Int) (o0 : ∀ y36 ∈ y0, okI .i64 y36) (y1 : ByteArray) (o1 : okS y1) (y2 : List Int) (o2 : ∀ y22 ∈ y2, okI .u8 y22) : law01_PackBack_f y0 y1 y2 = some true := by
  unfold law01_PackBack_f
  rw [mn200, mn500]
  obtain ⟨x, hx⟩ : ∃ x, x = y0.take (min y0.length 200) := ⟨_, rfl⟩
  have hl : x.length ≤ 200 := by rw [hx, List.length_take]; omega
  have hok : ∀ n ∈ x, okI .i64 n := fun n hn => o0 n (by rw [hx] at hn; exact List.mem_of_mem_take hn)
  have hz : Bs (y2.take 2000) := Bs.take o2 2000
  have hz2 : (y2.take 2000).length ≤ 2000 := by rw [List.length_take]; omega
  have ht := ext_size y1 500
  have hs := str_len (s := y1.extract 0 (min y1.size 500)) (by omega)
  have hints := nums_len hok
  have hcnt := num_len (okI_len (n := x.length) (by omega))
  have gA : G ((ints x).take 2000 ++ y2.take 2000) := by
    refine ⟨Bs.app (Bs.take (Bs.app (num_ok (okI_len (by omega))) (nums_ok hok)) _) hz, ?_⟩
    rw [List.length_append, List.length_take]; omega
  have gB : G (str (y1.extract 0 (min y1.size 500)) ++ y2.take 2000) := ⟨Bs.app (str_ok (by omega)) hz, by rw [List.length_append]; omega⟩
  have l4 : ((ints x).take 2000).length ≤ 2000 := by rw [List.length_take]; omega
  rw [head_eq, Option.bind_some, chk_pos (by omega), Int.toNat_natCast, List.drop_zero, ← hx, chk_pos (by omega), chk_pos (by omega), few_eq, Option.bind_some, List.nil_append, pInts_eq hok (by omega), Option.bind_some, few_eq, Option.bind_some, chk_pos (by omega), pReadInts_eq gA, Option.bind_some, Int.toNat_natCast, pStr_eq (by omega), Option.bind_some, few_eq, Option.bind_some,
    List.take_of_length_le (l := str _) (by omega), chk_pos (by omega), pReadStr_eq gB, Option.bind_some]
  refine back_L hok hl hz hz2 (fun h => ?_) ?_ BIG 0 (by rw [BIG_eq]; omega) (by omega)
  · rw [List.take_of_length_le h, (cod_ints hok (by omega)).rt]; rfl
  · rw [(cod_str (by omega)).rt]; rfl
end Go.Proofs.Ytifkepfcjhebfaa

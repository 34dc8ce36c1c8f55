/- The head of the laws of layer 5. -/
import Derived.Test.YteebeajhoemdpaaP1
import Derived.Test.YteebeajhoemdpaaH
set_option linter.unusedSimpArgs false
set_option linter.unusedVariables false
namespace Go.Proofs.Yteebeajhoemdpaa
open Go.Ab Go.RowKit
theorem sm0 (a b c : Int) : Sm ⟨a, b, c, [], []⟩ := ⟨by simp, by simp⟩
theorem gd_cons {m : Msg} {w : List Msg} (h : Sm m) (hw : ∀ x ∈ w, Sm x) : ∀ x ∈ m :: w, Sm x := by
  intro x hx
  rcases List.mem_cons.1 hx with rfl | hx
  · exact h
  · exact hw x hx
theorem send2_eq {w : List Msg} {m : Msg} (h : w.length ≤ 1000) : wire_Send_f w m 2 = some w := by
  unfold wire_Send_f
  rw [clone_eq (by omega)]
  have h1 : ((2 : Int) == 1) = false := by decide
  have h2 : ((2 : Int) == 3) = false := by decide
  have h3 : ((2 : Int) == 4) = false := by decide
  rw [h1, h2, h3]; rfl
theorem send4_eq {w : List Msg} {m x : Msg} (h : w.length + 1 < 200) : wire_Send_f (w ++ [x]) m 4 = some (w ++ [m, x]) := by
  unfold wire_Send_f
  have hr : room (w ++ [x]) [m] = (w ++ [x]) ++ [m] := by unfold room; rw [List.take_of_length_le (by simp; omega)]
  rw [room_eq (l := [m]) (by simp; omega) (by simp), hr]
  have h1 : ((4 : Int) == 1) = false := by decide
  have h2 : ((4 : Int) == 3) = false := by decide
  have h3 : ((4 : Int) == 4) = true := by decide
  rw [h1, h2, h3]
  simp only [cond_false, cond_true, Option.bind_some]
  unfold wire_Send_J2 wire_Send_J1
  have e : ((decide (((w ++ [x]).length : Int) < ((((w ++ [x]) ++ [m]).length : Nat) : Int))) && (decide (1 < ((((w ++ [x]) ++ [m]).length : Nat) : Int)))) = true := by simp; omega
  rw [e, cond_true]
  have l1 : ((w ++ [x]) ++ [m]).length = w.length + 2 := by simp
  rw [l1, w64 (by omega) (by omega), w64 (by omega) (by omega)]
  have n1 : ((w.length + 2 : Nat) : Int) - 1 = ((w.length + 1 : Nat) : Int) := by omega
  have n2 : ((w.length + 2 : Nat) : Int) - 2 = ((w.length : Nat) : Int) := by omega
  rw [n1, n2, idx_nat (show w.length + 1 < ((w ++ [x]) ++ [m]).length by omega), idx_nat (show w.length < ((w ++ [x]) ++ [m]).length by omega)]
  simp only [Option.bind_some, Int.toNat_natCast]
  rw [idx_nat (show w.length + 1 < (((w ++ [x]) ++ [m]).set w.length ((w ++ [x]) ++ [m])[w.length + 1]).length by simp), Option.bind_some]
  congr 1
  simp [List.set_append, List.getElem_append]
theorem head_true : law05_head_f = some true := by
  unfold law05_head_f law05_msg_f
  simp only [Option.bind_some]
  have hs := sm0
  obtain ⟨a, ha⟩ : ∃ a : Msg, (⟨1, 2, 7, [], []⟩ : Msg) = a := ⟨_, rfl⟩
  obtain ⟨b, hb⟩ : ∃ b : Msg, (⟨2, 1, 8, [], []⟩ : Msg) = b := ⟨_, rfl⟩
  obtain ⟨c, hc⟩ : ∃ c : Msg, (⟨3, 2, 9, [], []⟩ : Msg) = c := ⟨_, rfl⟩
  rw [ha, hb, hc]
  have sa : Sm a := ha ▸ hs _ _ _
  have sb : Sm b := hb ▸ hs _ _ _
  have sc : Sm c := hc ▸ hs _ _ _
  have e1 : wire_Send_f [] a 1 = some [a] := by rw [send1_eq (by simp)]; rfl
  have e2 : wire_Send_f [a] b 3 = some [a, b, b] := by rw [send3_eq (by simp)]; rfl
  have e3 : wire_Send_f [a, b, b] c 4 = some [a, b, c, b] := send4_eq (w := [a, b]) (by simp)
  have e4 : wire_Take_f [a, b, c, b] 2 = some ([a, b, b], c, true) := take_in (k := 2) (by simp) (by simp)
  have e5 : wire_Take_f [a, b, c, b] 4 = some ([a, b, c, b], ⟨0, 0, 0, [], []⟩, false) := take_out (by simp)
  have e6 : wire_Send_f [a, b, b] c 2 = some [a, b, b] := send2_eq (by simp)
  have e7 : wire_To_f [a, b, c, b] 2 = some [0, 2] := by rw [to_eq (by simp), ← ha, ← hb, ← hc]; rfl
  have e8 : wire_Cut_f [a, b, c, b] [3, 2] = some [c] := by
    rw [cut_eq (by simp) (by simp), ← ha, ← hb, ← hc]
    simp [cutF]
  have nn : ∀ x ∈ ([] : List Msg), Sm x := fun x h => by cases h
  have g1 : Gd [a, b, b] := ⟨by simp, gd_cons sa (gd_cons sb (gd_cons sb nn))⟩
  have g2 : Gd [a, b, c, b] := ⟨by simp, gd_cons sa (gd_cons sb (gd_cons sc (gd_cons sb nn)))⟩
  have g3 : Gd [c] := ⟨by simp, gd_cons sc nn⟩
  rw [e1, Option.bind_some, e2, Option.bind_some, e3, Option.bind_some, e4, Option.bind_some, e5, Option.bind_some, all_eq g1, Option.bind_some, decide_eq_true rfl, cond_true, e6, Option.bind_some]
  have l3 : ((([a, b, b] : List Msg).length : Int) == 3) = true := by simp
  rw [l3, cond_true, all_eq g2, Option.bind_some, decide_eq_true rfl, cond_true, cond_true, same_eq sc, Option.bind_some, decide_eq_true rfl, cond_true, Option.bind_some, cond_true]
  rw [Bool.not_false, cond_true, e7, Option.bind_some, ints_eq (by simp), Option.bind_some, decide_eq_true rfl, cond_true, e8, Option.bind_some, all_eq g3, Option.bind_some, decide_eq_true rfl]
end Go.Proofs.Yteebeajhoemdpaa

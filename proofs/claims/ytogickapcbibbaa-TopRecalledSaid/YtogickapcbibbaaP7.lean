/- Has, of a whole span that is had: a plain law. -/
import Derived.Test.YtogickapcbibbaaP6
set_option linter.unusedSimpArgs false
set_option linter.unusedVariables false
namespace Go.Proofs.Ytogickapcbibbaa
open Go.Ab Go.RowKit
theorem W6 {x : Int} (h1 : -1000000 ≤ x) (h2 : x ≤ 1000000) : IntKind.wrap .i64 x = x := w64 (by omega) (by omega)
def e1 : Edge := ⟨0, 0, true⟩
def e2 : Edge := ⟨4096, 0, false⟩
def e3 : Edge := ⟨0, 1, true⟩
def e4 : Edge := ⟨4096, 1, false⟩
theorem edges0 : span_edges_f [whole] 0 = some [e1, e2] := by
  obtain ⟨m, hm⟩ := big_add 3 (by omega)
  simp [span_edges_f, hm, span_edges_L1, span_edges_J1, span_edges_J2, idx, W6, whole, chk, e1, e2]
theorem edges1 : span_edges_f [whole] 1 = some [e3, e4] := by
  obtain ⟨m, hm⟩ := big_add 3 (by omega)
  simp [span_edges_f, hm, span_edges_L1, span_edges_J1, span_edges_J2, idx, W6, whole, chk, e3, e4]
theorem edges_nil (s : Int) : span_edges_f [] s = some [] := by
  obtain ⟨m, hm⟩ := big_add 3 (by omega)
  simp [span_edges_f, hm, span_edges_L1, span_edges_J1]
theorem cmp_e (a b : Edge) : span_asked_of_1_f a b = some (if a.at_ < b.at_ then -1 else if b.at_ < a.at_ then 1 else 0) := by
  unfold span_asked_of_1_f
  rw [Compare_eq, Option.bind_some]
theorem sort2 : slices_SortFunc_f [e1, e2] span_asked_of_1_f = some [e1, e2] := by
  rw [sort_cmp cmp_e [e1, e2] (by simp)]; decide
theorem sort4 : slices_SortFunc_f [e1, e2, e3, e4] span_asked_of_1_f = some [e1, e3, e2, e4] := by
  rw [sort_cmp cmp_e [e1, e2, e3, e4] (by simp)]; decide
theorem big5 : ∃ m, BIG = m + 1 + 1 + 1 + 1 + 1 := ⟨BIG - 5, by rw [BIG_eq]⟩
theorem loop2 : span_asked_of_L1 [e1, e2] span_Add_1_f BIG [] 0 0 (-1) 2 0 = some [whole] := by
  obtain ⟨m, hm⟩ := big5
  rw [hm, span_asked_of_L1]
  simp [span_Add_1_f, span_asked_of_J1, span_asked_of_J2, span_asked_of_J3, span_asked_of_J4, span_asked_of_J5, span_asked_of_J6, span_asked_of_J7, span_asked_of_J8, span_asked_of_J9, span_asked_of_J10, span_asked_of_J11, two, idx, W6, chk, e1, e2, e3, e4]
  rw [span_asked_of_L1]
  simp [span_Add_1_f, span_asked_of_J1, span_asked_of_J2, span_asked_of_J3, span_asked_of_J4, span_asked_of_J5, span_asked_of_J6, span_asked_of_J7, span_asked_of_J8, span_asked_of_J9, span_asked_of_J10, span_asked_of_J11, two, idx, W6, chk, e1, e2, e3, e4]
  rw [span_asked_of_L1]
  simp [span_Add_1_f, span_asked_of_J1, span_asked_of_J2, span_asked_of_J3, span_asked_of_J4, span_asked_of_J5, span_asked_of_J6, span_asked_of_J7, span_asked_of_J8, span_asked_of_J9, span_asked_of_J10, span_asked_of_J11, two, idx, W6, chk, e1, e2, e3, e4, whole]
theorem loop4 : span_asked_of_L1 [e1, e3, e2, e4] span_Cut_1_f BIG [] 0 0 (-1) 4 0 = some [] := by
  obtain ⟨m, hm⟩ := big5
  rw [hm, span_asked_of_L1]
  simp [span_Cut_1_f, span_asked_of_J1, span_asked_of_J2, span_asked_of_J3, span_asked_of_J4, span_asked_of_J5, span_asked_of_J6, span_asked_of_J7, span_asked_of_J8, span_asked_of_J9, span_asked_of_J10, span_asked_of_J11, two, idx, W6, chk, e1, e2, e3, e4]
  rw [span_asked_of_L1]
  simp [span_Cut_1_f, span_asked_of_J1, span_asked_of_J2, span_asked_of_J3, span_asked_of_J4, span_asked_of_J5, span_asked_of_J6, span_asked_of_J7, span_asked_of_J8, span_asked_of_J9, span_asked_of_J10, span_asked_of_J11, two, idx, W6, chk, e1, e2, e3, e4]
  rw [span_asked_of_L1]
  simp [span_Cut_1_f, span_asked_of_J1, span_asked_of_J2, span_asked_of_J3, span_asked_of_J4, span_asked_of_J5, span_asked_of_J6, span_asked_of_J7, span_asked_of_J8, span_asked_of_J9, span_asked_of_J10, span_asked_of_J11, two, idx, W6, chk, e1, e2, e3, e4]
  rw [span_asked_of_L1]
  simp [span_Cut_1_f, span_asked_of_J1, span_asked_of_J2, span_asked_of_J3, span_asked_of_J4, span_asked_of_J5, span_asked_of_J6, span_asked_of_J7, span_asked_of_J8, span_asked_of_J9, span_asked_of_J10, span_asked_of_J11, two, idx, W6, chk, e1, e2, e3, e4]
  rw [span_asked_of_L1]
  simp [span_Cut_1_f, span_asked_of_J1, span_asked_of_J2, span_asked_of_J3, span_asked_of_J4, span_asked_of_J5, span_asked_of_J6, span_asked_of_J7, span_asked_of_J8, span_asked_of_J9, span_asked_of_J10, span_asked_of_J11, two, idx, W6, chk, e1, e2, e3, e4]
theorem norm_whole : span_Norm_f [whole] = some [whole] := by
  unfold span_Norm_f span_Add_f span_asked_of_f
  rw [edges0, Option.bind_some, edges_nil, Option.bind_some, chk_pos (by decide), List.append_nil, sort2, Option.bind_some, chk_pos (by decide)]
  have := loop2
  change ((span_asked_of_L1 [e1, e2] span_Add_1_f BIG [] 0 0 (-1) 2 0).bind fun r => some r).bind (fun r => some r) = _
  rw [this]; rfl
theorem cut_whole : span_Cut_f [whole] [whole] = some [] := by
  unfold span_Cut_f span_asked_of_f
  rw [edges0, Option.bind_some, edges1, Option.bind_some, chk_pos (by decide), show [e1, e2] ++ [e3, e4] = [e1, e2, e3, e4] from rfl, sort4, Option.bind_some, chk_pos (by decide)]
  have := loop4
  change (span_asked_of_L1 [e1, e3, e2, e4] span_Cut_1_f BIG [] 0 0 (-1) 4 0).bind (fun r => some r) = _
  rw [this]; rfl
theorem has_own (u : Int) : lease_Has_f [⟨0, 5, 2, whole, u, 0⟩] 0 5 2 whole = some true := by
  unfold lease_Has_f
  rw [show lease_spanned_f whole = some true by decide, Option.bind_some, Bool.not_true, cond_false, show lease_kinded_f 2 = some true by decide, Option.bind_some]
  unfold lease_Has_J1
  obtain ⟨m, hm⟩ := big5
  rw [Bool.not_true, cond_false, hm, lease_Has_L1]
  simp [lease_Has_J4, lease_Has_J3, idx, chk, W6]
  rw [lease_Has_L1]
  simp [lease_Has_J2, norm_whole, cut_whole]
end Go.Proofs.Ytogickapcbibbaa

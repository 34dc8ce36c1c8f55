import Derived.Test.YtjflkcfafijhfaaGreatQ38
import Derived.Test.YtjflkcfafijhfaaGreatQ40
import Derived.Test.YtjflkcfafijhfaaGreatQ24
set_option linter.unusedSectionVars false
/- Laying copies, writing down a chain, and what hurts, as plain laws. -/
set_option linter.unusedSimpArgs false
set_option linter.unusedVariables false
namespace Go.Proofs.YtjflkcfafijhfaaGreat
open Go.Ab Go.RowKit
noncomputable def gt (d : Disk) : Copy × Int := (chunk_Get_f d 0).getD default
theorem get_eq {d : Disk} (h : GD d) : chunk_Get_f d 0 = some (gt d) := by
 obtain ⟨x, e, h1, _⟩ := get_ex h
 unfold gt; rw [h1]; rfl
theorem gt_pg {c : Copy} (hm : mayB c = true) (hb : Bs c.data) (hi : c.id = 0) : gt (dk (pg c)) = (c, 0) := by
 unfold gt; rw [get_pg hm hb hi]; rfl
def AG (l : List Disk) : Prop := ∀ d ∈ l, GD d
theorem AG.set {l : List Disk} (h : AG l) {k : Nat} {d : Disk} (hd : GD d) : AG (l.set k d) := fun x hx => by
 rcases List.mem_or_eq_of_mem_set hx with h1 | h1
 ·exact h x h1
 ·rw [h1]; exact hd
theorem AG.at {l : List Disk} (h : AG l) {k : Nat} (hk : k < l.length) : GD l[k] := h _ (List.getElem_mem hk)
def dn (ver : Int) (data : List Int) : Disk := dk (pg (nc ver data))
theorem dn_GD {ver : Int} {data : List Int} (h0 : 0 ≤ ver) (h1 : ver ≤ 1099511627776) (hl : data.length ≤ 64) (hb : Bs data) : GD (dn ver data) := .dk (pg_ok (may_SC (nc_may h0 h1 hl) hb)) (may_len (nc_may h0 h1 hl) hb).2
theorem lay_eq {own : List Disk} (ha : AG own) {s : Nat} (hs : s < own.length) {ver : Int} {sv : List Int} {data : List Int} (h0 : 0 ≤ ver) (h1 : ver ≤ 1099511627776) (hl : data.length ≤ 64) (hb : Bs data) :
  chain_laying_1_f (s : Int) own ⟨0, ver, sv⟩ data = some (own.set s (dn ver data)) := by
 unfold chain_laying_1_f
 rw [idx_nat hs, Option.bind_some]
 simp only
 rw [New_eq hb (by omega), Option.bind_some, Put_may (ha.at hs) (nc_may h0 h1 hl) hb rfl, Option.bind_some]
 simp only
 rw [Sync_wr (ha.at hs), Option.bind_some, Int.toNat_natCast]; rfl
theorem laying_eq {c : Chain} {disks : List Disk} {data : List Int} (h : disks.length ≤ 1000) : chain_laying_f c disks data = some disks := by
 unfold chain_laying_f; rw [dclone (by omega), Option.bind_some]
def wrt (disks : List Disk) (data : List Int) : Nat → List Disk
 | 0 => disks
 | k + 1 => (wrt disks data k).set k (dn 1 data)
theorem wrt_len (disks : List Disk) (data : List Int) : ∀ k, (wrt disks data k).length = disks.length
 | 0 => rfl
 | k + 1 => by unfold wrt; rw [List.length_set, wrt_len]
theorem wrt_AG {disks : List Disk} (ha : AG disks) {data : List Int} (hl : data.length ≤ 64) (hb : Bs data) : ∀ k, AG (wrt disks data k)
 | 0 => ha
 | k + 1 => (wrt_AG ha hl hb k).set (dn_GD (by omega) (by omega) hl hb)
theorem srv_at {k : Nat} (h : k < 3) : idx ch0.servers (k : Int) = some (k : Int) := by
 have : k = 0 ∨ k = 1 ∨ k = 2 := by omega
 rcases this with rfl | rfl | rfl <;> rfl
theorem write_L {disks : List Disk} (ha : AG disks) (h3 : 3 ≤ disks.length) {data : List Int} (hl : data.length ≤ 64) (hb : Bs data) (u : Nat) : ∀ (m k : Nat), 3 < m + k → k ≤ 3 → k ≤ u →
  chain_Write_L1 ch0 (u : Int) data m (wrt disks data k) (k : Int) = some (wrt disks data (min u 3), decide (3 ≤ u)) := by
 intro m
 induction m with
 | zero => intro k h1 h2; omega
 | succ m ih =>
  intro k h1 h2 hu
  rw [chain_Write_L1, cond_d, show (ch0.servers.length : Int) = 3 from rfl]
  by_cases hk : k < 3
  ·rw [if_pos (by omega), srv_at hk, Option.bind_some, cond_d]
   by_cases hku : (u : Int) ≤ (k : Int)
   ·rw [if_pos hku]
    have : k = u := by omega
    subst this
    unfold chain_Write_J2
    rw [cond_true, show min k 3 = k by omega, decide_eq_false (by omega)]
   ·have hlen := wrt_len disks data k
    rw [if_neg hku, idx_nat (by omega), Option.bind_some, ((wrt_AG ha hl hb k).at (by omega)).down]
    unfold chain_Write_J2
    rw [cond_false, show ch0 = ⟨0, 1, [0, 1, 2]⟩ from rfl, lay_eq (wrt_AG ha hl hb k) (by omega) (by omega) (by omega) hl hb, Option.bind_some, chk_pos (by rw [List.length_set]), w64_succ (by omega)]
    exact ih (k + 1) (by omega) (by omega) (by omega)
  ·have : k = 3 := by omega
   subst this
   rw [if_neg (by omega)]
   unfold chain_Write_J1
   rw [show min u 3 = 3 by omega, decide_eq_true (by omega)]
theorem write_eq {disks : List Disk} (ha : AG disks) (h3 : 3 ≤ disks.length) (h6 : disks.length ≤ 1000) {data : List Int} (hl : data.length ≤ 64) (hb : Bs data) (u : Nat) : chain_Write_f ch0 disks data (u : Int) = some (wrt disks data (min u 3), decide (3 ≤ u)) := by
 unfold chain_Write_f
 rw [cond_d, if_neg (by omega), laying_eq h6, Option.bind_some]
 exact write_L ha h3 hl hb u BIG 0 (by rw [BIG_eq]; omega) (by omega) (by omega)
end Go.Proofs.YtjflkcfafijhfaaGreat
/- What is intact, what is planned, and copying, as plain laws. -/
set_option linter.unusedSimpArgs false
set_option linter.unusedVariables false
namespace Go.Proofs.YtjflkcfafijhfaaGreat
open Go.Ab Go.RowKit
def okd (v : Int) (d : Disk) : Prop := (gt d).2 = 0 ∧ (gt d).1.ver = v
noncomputable instance (v : Int) (d : Disk) : Decidable (okd v d) := by unfold okd; exact inferInstance
theorem okd_dn {v : Int} {data : List Int} (h0 : 0 ≤ v) (h1 : v ≤ 1099511627776) (hl : data.length ≤ 64) (hb : Bs data) : gt (dn v data) = (nc v data, 0) := gt_pg (nc_may h0 h1 hl) hb rfl
noncomputable def stv (v : Int) (d : Disk) : Int := if (gt d).2 = 41 then 2 else if (gt d).2 ≠ 0 then 3 else if (gt d).1.ver < v then 4 else if v < (gt d).1.ver then 5 else 0
theorem stv_ok {v : Int} {d : Disk} : stv v d = 0 ↔ okd v d := by
 unfold stv okd
 split
 ·rename_i h; rw [h]; exact ⟨fun h => by omega, fun h => by omega⟩
 ·split
  ·rename_i h; exact ⟨fun h => by omega, fun k => absurd k.1 h⟩
  ·rename_i h
   have h0 : (gt d).2 = 0 := by omega
   split
   ·exact ⟨fun h => by omega, fun h => by omega⟩
   ·split
    ·exact ⟨fun h => by omega, fun h => by omega⟩
    ·exact ⟨fun _ => ⟨h0, by omega⟩, fun _ => rfl⟩
theorem stands_eq {disks : List Disk} (ha : AG disks) {s : Nat} (hs : s < disks.length) (v : Int) (sv : List Int) : scrub_stands_f disks ⟨0, v, sv⟩ (s : Int) = some (stv v disks[s]) := by
 unfold scrub_stands_f scrub_stands_J1
 rw [cond_d, if_neg (by omega), idx_nat hs, Option.bind_some, (ha.at hs).down, cond_false, Option.bind_some]
 simp only
 rw [get_eq (ha.at hs), Option.bind_some]
 unfold stv
 by_cases h1 : (gt disks[s]).2 = 41
 ·rw [if_pos h1, h1]; rfl
 ·rw [if_neg h1, show ((gt disks[s]).2 == 41) = false by simp [h1], cond_false]
  by_cases h2 : (gt disks[s]).2 = 0
  ·rw [if_neg (by omega), h2, show (((0 : Int) != 0) : Bool) = false from rfl, cond_false, cond_d, cond_d]
   split
   ·rfl
   ·split <;> rfl
  ·rw [if_pos h2, show (((gt disks[s]).2 != 0) : Bool) = true by simp [h2], cond_true]
theorem allL_eq {disks : List Disk} (ha : AG disks) (v : Int) (sv : List Int) : ∀ (l : List Nat), (∀ s ∈ l, s < disks.length) → allL ⟨0, v, sv⟩ disks (l.map fun s : Nat => (s : Int)) = some (l.map fun s : Nat => ((s : Int), stv v (disks.getD s dk0)))
 | [], _ => rfl
 | s :: l, h => by
  have hs := h s (List.mem_cons_self ..)
  rw [List.map_cons, allL, stands_eq ha hs, Option.bind_some, allL_eq ha v sv l (fun x hx => h x (List.mem_cons_of_mem _ hx)), Option.bind_some, List.map_cons]
  simp [List.getD_eq_getElem?_getD, hs]
theorem wholeL_eq {disks : List Disk} (ha : AG disks) (v : Int) (sv : List Int) : ∀ (l : List Nat), (∀ s ∈ l, s < disks.length) → wholeL ⟨0, v, sv⟩ disks (l.map fun s : Nat => (s : Int)) = some (l.filterMap fun s : Nat => if okd v (disks.getD s dk0) then some ((s : Int), (gt (disks.getD s dk0)).1.data) else none)
 | [], _ => rfl
 | s :: l, h => by
  have hs := h s (List.mem_cons_self ..)
  have e : disks.getD s dk0 = disks[s] := by simp [List.getD_eq_getElem?_getD, hs]
  rw [List.map_cons, wholeL, idx_nat hs, Option.bind_some]
  simp only
  rw [get_eq (ha.at hs), Option.bind_some, wholeL_eq ha v sv l (fun x hx => h x (List.mem_cons_of_mem _ hx)), Option.bind_some, List.filterMap_cons, e]
  by_cases ho : okd v disks[s]
  ·rw [if_pos ho]; exact congrArg some (if_pos ho)
  ·rw [if_neg ho]; exact congrArg some (if_neg ho)
theorem look_L {c : Chain} : ∀ (l : List (Int × Int)) (out : List Find), out.length + l.length ≤ 1000 → scrub_Look_L1 c l out = some (out ++ l.filterMap fun y => if y.2 = 0 then none else some ⟨c.id, y.1, y.2⟩)
 | [], out, _ => by simp [scrub_Look_L1, scrub_Look_J1]
 | y :: l, out, h => by
  simp only [List.length_cons] at h
  rw [scrub_Look_L1]
  by_cases e : y.2 = 0
  ·rw [show (y.2 != 0) = false by simp [e], cond_false, look_L l _ (by omega), List.filterMap_cons, if_pos e]
  ·rw [show (y.2 != 0) = true by simp [e], cond_true, chk_pos (by omega), look_L l _ (by simp; omega), List.filterMap_cons, if_neg e]; simp
end Go.Proofs.YtjflkcfafijhfaaGreat
/- What a job copies, and what a chain patches, as plain laws. -/
set_option linter.unusedSimpArgs false
set_option linter.unusedVariables false
namespace Go.Proofs.YtjflkcfafijhfaaGreat
open Go.Ab Go.RowKit
section
variable {disks : List Disk}
def dd (disks : List Disk) (k : Nat) : Disk := disks.getD k dk0
theorem dd_at {k : Nat} (h : k < disks.length) : disks[k] = dd disks k := by simp [dd, List.getD_eq_getElem?_getD, h]
theorem dd_GD (ha : AG disks) {k : Nat} (h : k < disks.length) : GD (dd disks k) := by rw [← dd_at h]; exact ha.at h
theorem idd {k : Nat} (h : k < disks.length) : idx disks (k : Int) = some (dd disks k) := by rw [idx_nat h, dd_at h]
noncomputable def dat (disks : List Disk) (k : Nat) : List Int := (gt (dd disks k)).1.data
end
end Go.Proofs.YtjflkcfafijhfaaGreat
/- What is planned, and whether disks are the same, as plain laws. -/
set_option linter.unusedSimpArgs false
set_option linter.unusedVariables false
namespace Go.Proofs.YtjflkcfafijhfaaGreat
open Go.Ab Go.RowKit
theorem bytes_L {a : List Int} (h : a.length ≤ 1000000) : ∀ m k, a.length < m + k → k ≤ a.length → ref02_Bytes_L1 a a m (k : Int) = some true := by
 intro m
 induction m with
 | zero => intro k h1 h2; omega
 | succ m ih =>
  intro k h1 h2
  rw [ref02_Bytes_L1, cond_d]
  by_cases hk : k < a.length
  ·rw [if_pos (by omega), idx_nat hk, Option.bind_some, Option.bind_some, show (a[k] != a[k]) = false by simp, cond_false, w64_succ (by omega)]
   exact ih (k + 1) (by omega) (by omega)
  ·rw [if_neg (by omega)]; rfl
theorem bytes_same {a : List Int} (h : a.length ≤ 1000000) : ref02_Bytes_f a a = some true := by
 unfold ref02_Bytes_f
 rw [show ((a.length : Int) != (a.length : Int)) = false by simp, cond_false]
 exact bytes_L h BIG 0 (by rw [BIG_eq]; omega) (Nat.zero_le _)
section
variable {disks : List Disk}
noncomputable def job (disks : List Disk) (f s : Nat) (n : Nat) : Job := ⟨0, 1, f, s, n, ((dat disks f).length : Int) + 1⟩
end
end Go.Proofs.YtjflkcfafijhfaaGreat
/- TopPatched, as a plain law. -/
set_option linter.unusedSimpArgs false
set_option linter.unusedVariables false
namespace Go.Proofs.YtjflkcfafijhfaaGreat
open Go.Ab Go.RowKit
section
variable {disks : List Disk}
end
theorem P0_ok : Bs P0 ∧ P0.length ≤ 200 := by
 refine ⟨fun x hx => ?_, by decide⟩
 have : ∀ x ∈ P0, 0 ≤ x ∧ x < 256 := by decide
 exact this x hx
theorem farm_AG {n : Nat} : AG (farm n) := by
 intro d hd
 unfold farm at hd
 rcases List.mem_append.1 hd with h | h
 ·simp at h; subst h; exact .dk P0_ok.1 P0_ok.2
 ·rw [List.mem_replicate] at h; rw [h.2]; exact .inl rfl
theorem farm_len {n : Nat} (h : 3 ≤ n) : (farm n).length = n := by unfold farm; simp; omega
theorem many {x : Int} (h : okI .u8 x) : ∃ n : Nat, 3 ≤ n ∧ n ≤ 6 ∧ IntKind.wrap .i64 (3 + (Int.tmod (IntKind.wrap .i64 x) 4)) = (n : Int) := by
 simp only [okI] at h
 rw [w64 (x := x) (by omega) (by omega), Int.tmod_eq_emod_of_nonneg h.1, w64 (by omega) (by omega)]
 exact ⟨(3 + x % 4).toNat, by omega, by omega, by omega⟩
end Go.Proofs.YtjflkcfafijhfaaGreat
/- TopStrayed, as a plain law. -/
set_option linter.unusedSimpArgs false
set_option linter.unusedVariables false
namespace Go.Proofs.YtjflkcfafijhfaaGreat
open Go.Ab Go.RowKit
theorem index_L {l : List Int} {x : Int} (hl : l.length ≤ 1000000) : ∀ m k, l.length < m + k → k ≤ l.length → ∃ r, slices_Index_L1 l x m (k : Int) = some r ∧ (0 ≤ r ↔ (l.drop k).contains x = true) := by
 intro m
 induction m with
 | zero => intro k h1 h2; omega
 | succ m ih =>
  intro k h1 h2
  rw [slices_Index_L1, cond_d]
  by_cases hk : k < l.length
  ·rw [if_pos (by omega), idx_nat hk, Option.bind_some, w64_succ (by omega), drop_cons hk, List.contains_cons]
   obtain ⟨r, e, h⟩ := ih (k + 1) (by omega) (by omega)
   by_cases hx : x = l[k]
   ·refine ⟨k, ?_, ?_⟩
    ·have : (x == l[k]) = true := by simpa using hx
     rw [this]; rfl
    ·have : (x == l[k]) = true := by simpa using hx
     rw [this]; simp
   ·have h' : (x == l[k]) = false := by simpa using hx
    rw [h']
    exact ⟨r, e, by simpa using h⟩
  ·rw [if_neg (by omega), List.drop_of_length_le (by omega)]
   exact ⟨-1, rfl, by simp⟩
theorem contains_eq {l : List Int} {x : Int} (hl : l.length ≤ 1000000) : slices_Contains_f l x = some (l.contains x) := by
 unfold slices_Contains_f slices_Index_f
 obtain ⟨r, e, h⟩ := index_L (x := x) hl BIG 0 (by rw [BIG_eq]; omega) (by omega)
 have e' : slices_Index_L1 l x BIG 0 = some r := e
 rw [e', Option.bind_some]
 rw [List.drop_zero] at h
 congr 1
 rw [Bool.eq_iff_iff, decide_eq_true_eq]; exact h
theorem has_eq {d : Disk} (h : GD d) : chunk_Has_f d = some (if (rd d).1 = [] then [] else [0]) := by
 have key : ∀ m k : Nat, ∀ out, 200 < m + k → 1 ≤ k → k ≤ 200 → chunk_Has_L1 d m out (k : Int) = some out := by
  intro m
  induction m with
  | zero => intro k out h1 h2 h3; omega
  | succ m ih =>
   intro k out h1 h2 h3
   rw [chunk_Has_L1, cond_d]
   by_cases hk : k < 200
   ·rw [if_pos (by omega), there_other h (by omega) (by omega), Option.bind_some, show ((41 : Int) == 0) = false from rfl, cond_false]
    unfold chunk_Has_J2
    rw [w64_succ (by omega)]
    exact ih (k + 1) out (by omega) (by omega) (by omega)
   ·rw [if_neg (by omega)]; rfl
 unfold chunk_Has_f
 obtain ⟨m, hm⟩ := big_add 1 (by omega)
 have hB : 200 < m + 1 := by have := BIG_eq; omega
 rw [hm, chunk_Has_L1, show decide ((0 : Int) < 200) = true from rfl, cond_true, there_eq h, Option.bind_some]
 have k1 := fun out => key m 1 out (by omega) (by omega) (by omega)
 by_cases he : (rd d).1 = []
 ·rw [if_pos he, if_pos he, show ((41 : Int) == 0) = false from rfl, cond_false]
  exact k1 []
 ·rw [if_neg he, if_neg he, show ((0 : Int) == 0) = true from rfl, cond_true, chk_pos (by simp)]
  exact k1 [0]
theorem cf87 {c : Chain} {f : Chain → Option Bool} {b : Bool} (h : f c = some b) : slices_ContainsFunc_f [c] f = some b := by
 unfold slices_ContainsFunc_f slices_IndexFunc_87_f
 obtain ⟨m, hm⟩ := big_add 2 (by omega)
 rw [hm, slices_IndexFunc_87_L1, show decide ((0 : Int) < (([c] : List Chain).length : Int)) = true from rfl, cond_true, show idx [c] (0 : Int) = some c from rfl, Option.bind_some, h, Option.bind_some]
 cases b
 ·rw [cond_false, show IntKind.wrap .i64 (0 + 1) = 1 from rfl, slices_IndexFunc_87_L1, show decide ((1 : Int) < (([c] : List Chain).length : Int)) = false from rfl, cond_false]; rfl
 ·rfl
def stray1 (sv : List Int) (l : List Disk) (k : Nat) : Option Find := if (rd (dd l k)).1 ≠ [] ∧ sv.contains (k : Int) = false then some ⟨0, (k : Int), 6⟩ else none
def strs (sv : List Int) (l : List Disk) : List Find := (List.range l.length).filterMap (stray1 sv l)
theorem strays_eq {l : List Disk} (ha : AG l) (hl : l.length ≤ 1000) (v : Int) {sv : List Int} (hsv : sv.length ≤ 1000) : scrub_Strays_f l [⟨0, v, sv⟩] = some (strs sv l) := by
 have hfl : ∀ k, ((List.range k).filterMap (stray1 sv l)).length ≤ k := fun k => by
  have := List.length_filterMap_le (stray1 sv l) (List.range k); simpa using this
 have key : ∀ m k : Nat, l.length < m + k → k ≤ l.length → scrub_Strays_L1 l [⟨0, v, sv⟩] m ((List.range k).filterMap (stray1 sv l)) (k : Int) = some (strs sv l) := by
  intro m
  induction m with
  | zero => intro k h1 h2; omega
  | succ m ih =>
   intro k h1 h2
   rw [scrub_Strays_L1, cond_d]
   by_cases hk : k < l.length
   ·have hg := dd_GD ha hk
    have hf := hfl k
    have hnext := ih (k + 1) (by omega) (by omega)
    rw [List.range_succ, List.filterMap_append] at hnext
    rw [if_pos (by omega), idd hk, Option.bind_some, has_eq hg, Option.bind_some]
    obtain ⟨q, hq⟩ := big_add 2 (by omega)
    rw [hq]
    by_cases he : (rd (dd l k)).1 = []
    ·rw [if_pos he, scrub_Strays_L2, show decide ((0 : Int) < (([] : List Int).length : Int)) = false from rfl, cond_false]
     unfold scrub_Strays_J2
     rw [w64_succ (by omega)]
     have e1 : List.filterMap (stray1 sv l) [k] = [] := by simp [stray1, he]
     rw [e1, List.append_nil] at hnext
     exact hnext
    ·have hcf : slices_ContainsFunc_f [(⟨0, v, sv⟩ : Chain)] (fun y0_ => scrub_Strays_1_f y0_ 0 (k : Int)) = some (sv.contains (k : Int)) := by
      refine cf87 ?_
      unfold scrub_Strays_1_f
      rw [show (((⟨0, v, sv⟩ : Chain).id == 0) : Bool) = true from rfl, cond_true, contains_eq (by show sv.length ≤ _; omega), Option.bind_some]
     rw [if_neg he, scrub_Strays_L2, show decide ((0 : Int) < (([0] : List Int).length : Int)) = true from rfl, cond_true, show idx [(0 : Int)] (0 : Int) = some (0 : Int) from rfl, Option.bind_some, hcf, Option.bind_some]
     cases hc : sv.contains (k : Int)
     ·rw [show (!false) = true from rfl, cond_true, chk_pos (by omega)]
      unfold scrub_Strays_J3
      rw [show IntKind.wrap .i64 (0 + 1) = 1 from rfl, scrub_Strays_L2, show decide ((1 : Int) < (([0] : List Int).length : Int)) = false from rfl, cond_false]
      unfold scrub_Strays_J2
      rw [w64_succ (by omega)]
      have e1 : List.filterMap (stray1 sv l) [k] = [⟨0, (k : Int), 6⟩] := by simp only [List.filterMap_cons, List.filterMap_nil, stray1, hc, he, ne_eq, not_false_eq_true, and_self, if_true]
      rw [e1] at hnext
      exact hnext
     ·rw [show (!true) = false from rfl, cond_false]
      unfold scrub_Strays_J3
      rw [show IntKind.wrap .i64 (0 + 1) = 1 from rfl, scrub_Strays_L2, show decide ((1 : Int) < (([0] : List Int).length : Int)) = false from rfl, cond_false]
      unfold scrub_Strays_J2
      rw [w64_succ (by omega)]
      have e1 : List.filterMap (stray1 sv l) [k] = [] := by simp only [List.filterMap_cons, List.filterMap_nil, stray1, hc, reduceCtorEq, and_false, if_false]
      rw [e1, List.append_nil] at hnext
      exact hnext
   ·have : k = l.length := by omega
    subst this
    rw [if_neg (by omega)]; rfl
 unfold scrub_Strays_f
 exact key BIG 0 (by rw [BIG_eq]; omega) (Nat.zero_le _)
theorem strs_none {sv : List Int} {l : List Disk} (h : ∀ k < l.length, sv.contains (k : Int) = true ∨ (rd (dd l k)).1 = []) : strs sv l = [] := by
 unfold strs
 rw [List.filterMap_eq_nil_iff]
 intro k hk
 have := h k (List.mem_range.1 hk)
 unfold stray1
 rw [if_neg]
 rintro ⟨h1, h2⟩
 rcases this with h3 | h3
 ·rw [h3] at h2; cases h2
 ·exact h1 h3
theorem strs_one {sv : List Int} {l : List Disk} {s : Nat} (hs : s < l.length) (hA : (rd (dd l s)).1 ≠ []) (hn : sv.contains (s : Int) = false) (h : ∀ k < l.length, k ≠ s → sv.contains (k : Int) = true ∨ (rd (dd l k)).1 = []) : strs sv l = [⟨0, (s : Int), 6⟩] := by
 unfold strs
 have e : List.range l.length = List.range s ++ s :: (List.range (l.length - s - 1)).map (fun j => s + 1 + j) := by
  have h1 : l.length = (s + 1) + (l.length - s - 1) := by omega
  conv => lhs; rw [h1]
  rw [List.range_add, List.range_succ, List.append_assoc]; rfl
 have hno : ∀ k < l.length, k ≠ s → stray1 sv l k = none := fun k hk hne => by
  unfold stray1
  rw [if_neg]
  rintro ⟨h1, h2⟩
  rcases h k hk hne with h3 | h3
  ·rw [h3] at h2; cases h2
  ·exact h1 h3
 have n1 : List.filterMap (stray1 sv l) (List.range s) = [] := by
  rw [List.filterMap_eq_nil_iff]
  intro k hk
  have := List.mem_range.1 hk
  exact hno k (by omega) (by omega)
 have n2 : List.filterMap (stray1 sv l) ((List.range (l.length - s - 1)).map (fun j => s + 1 + j)) = [] := by
  rw [List.filterMap_eq_nil_iff]
  intro k hk
  obtain ⟨j, hj, rfl⟩ := List.mem_map.1 hk
  have := List.mem_range.1 hj
  exact hno _ (by omega) (by omega)
 rw [e, List.filterMap_append, List.filterMap_cons, n1, n2]
 have : stray1 sv l s = some ⟨0, (s : Int), 6⟩ := by unfold stray1; rw [if_pos ⟨hA, hn⟩]
 rw [this]; rfl
theorem dd_set {l : List Disk} {i j : Nat} {x : Disk} (hi : i < l.length) : dd (l.set i x) j = if i = j then x else dd l j := by
 unfold dd
 rw [List.getD_eq_getElem?_getD, List.getElem?_set, List.getD_eq_getElem?_getD]
 by_cases e : i = j
 ·subst e; simp [hi]
 ·simp [e]
end Go.Proofs.YtjflkcfafijhfaaGreat
/- TopStrayed, as a plain law: the end. -/
set_option linter.unusedSimpArgs false
set_option linter.unusedVariables false
namespace Go.Proofs.YtjflkcfafijhfaaGreat
open Go.Ab Go.RowKit
theorem w_1 : IntKind.wrap .i64 1 = 1 := rfl
theorem w_2 : IntKind.wrap .i64 2 = 2 := rfl
theorem w_3 : IntKind.wrap .i64 3 = 3 := rfl
theorem del_0 {f : Int → Option Bool} (f0 : f 0 = some true) (f1 : f 1 = some false) (f2 : f 2 = some false) : slices_DeleteFunc_f [0, 1, 2] f = some [1, 2] := by
 unfold slices_DeleteFunc_f slices_IndexFunc_f
 obtain ⟨m, hm⟩ := big_add 5 (by omega)
 rw [hm]
 simp [slices_IndexFunc_L1, slices_DeleteFunc_L1, slices_DeleteFunc_J1, slices_DeleteFunc_J2, idx, f0, f1, f2, w_1, w_2, w_3, chk]
theorem del_1 {f : Int → Option Bool} (f0 : f 0 = some false) (f1 : f 1 = some true) (f2 : f 2 = some false) : slices_DeleteFunc_f [0, 1, 2] f = some [0, 2] := by
 unfold slices_DeleteFunc_f slices_IndexFunc_f
 obtain ⟨m, hm⟩ := big_add 5 (by omega)
 rw [hm]
 simp [slices_IndexFunc_L1, slices_DeleteFunc_L1, slices_DeleteFunc_J1, slices_DeleteFunc_J2, idx, f0, f1, f2, w_1, w_2, w_3, chk]
theorem del_2 {f : Int → Option Bool} (f0 : f 0 = some false) (f1 : f 1 = some false) (f2 : f 2 = some true) : slices_DeleteFunc_f [0, 1, 2] f = some [0, 1] := by
 unfold slices_DeleteFunc_f slices_IndexFunc_f
 obtain ⟨m, hm⟩ := big_add 5 (by omega)
 rw [hm]
 simp [slices_IndexFunc_L1, slices_DeleteFunc_L1, slices_DeleteFunc_J1, slices_DeleteFunc_J2, idx, f0, f1, f2, w_1, w_2, w_3, chk]
theorem finds_1 (s : Int) : ref27_SameFinds_f [⟨0, s, 6⟩] [⟨0, s, 6⟩] = some true := by
 unfold ref27_SameFinds_f
 obtain ⟨m, hm⟩ := big_add 2 (by omega)
 rw [show ((([(⟨0, s, 6⟩ : Find)].length : Nat) : Int) != (([(⟨0, s, 6⟩ : Find)].length : Nat) : Int)) = false from rfl, cond_false, hm, ref27_SameFinds_L1, show decide ((0 : Int) < (([(⟨0, s, 6⟩ : Find)] : List Find).length : Int)) = true from rfl, cond_true, show idx [(⟨0, s, 6⟩ : Find)] (0 : Int) = some ⟨0, s, 6⟩ from rfl, Option.bind_some, Option.bind_some]
 simp only [beq_self_eq_true, Bool.and_self, Bool.not_true, cond_false]
 rw [show IntKind.wrap .i64 (0 + 1) = 1 from rfl, ref27_SameFinds_L1, show decide ((1 : Int) < (([(⟨0, s, 6⟩ : Find)] : List Find).length : Int)) = false from rfl, cond_false]; rfl
section
variable {data : List Int} (hl : data.length ≤ 64) (hb : Bs data)
include hl hb
theorem gt_dn {v : Int} (h0 : 0 ≤ v) (h1 : v ≤ 1099511627776) : gt (dn v data) = (nc v data, 0) := okd_dn h0 h1 hl hb
theorem rd_dn {v : Int} (h0 : 0 ≤ v) (h1 : v ≤ 1099511627776) : (rd (dn v data)).1 ≠ [] := by
 have := may_len (nc_may h0 h1 hl) hb
 show pg (nc v data) ≠ []
 intro h; rw [h] at this; simp at this
theorem stv_dn : stv 2 (dn 2 data) = 0 := by
 rw [stv_ok]; unfold okd; rw [gt_dn hl hb (by omega) (by omega)]; exact ⟨rfl, rfl⟩
theorem read_eq {l : List Disk} (ha : AG l) {sv : List Int} {t : Nat} (hs : sv ≠ []) (hsl : sv.length ≤ 1000) (ht : sv.getD (sv.length - 1) 0 = (t : Int)) (htl : t < l.length) (hd : dd l t = dn 2 data) : chain_Read_f ⟨0, 2, sv⟩ l = some (data, 0) := by
 have hpos := List.length_pos_iff.2 hs
 unfold chain_Read_f
 show (idx sv (IntKind.wrap .i64 ((sv.length : Int) - 1))).bind _ = _
 rw [w64 (by omega) (by omega), show ((sv.length : Int) - 1) = ((sv.length - 1 : Nat) : Int) by omega, idx_nat (by omega), Option.bind_some]
 have e : sv[sv.length - 1] = (t : Int) := by rw [← ht]; simp [List.getD_eq_getElem?_getD, show sv.length - 1 < sv.length by omega]
 rw [e, idd htl, Option.bind_some, hd]
 show (chunk_Get_f (dn 2 data) 0).bind _ = _
 rw [get_eq (dn_GD (by omega) (by omega) hl hb), gt_dn hl hb (by omega) (by omega), Option.bind_some]
 rfl
theorem cut_eq {D : List Disk} (hD : AG D) (h3 : 3 ≤ D.length) (h6 : D.length ≤ 6) (hdd : ∀ k, k < 3 → dd D k = dn 1 data) {s r0 r1 : Nat} (hs : s < 3) (hr0 : r0 < 3) (hr1 : r1 < 3) (hct : slices_Contains_f ch0.servers (s : Int) = some true)
  (hdel : ∀ f : Int → Option Bool, (∀ k : Nat, k < 3 → f (k : Int) = some (decide (k = s))) → slices_DeleteFunc_f [0, 1, 2] f = some [(r0 : Int), (r1 : Int)]) :
  chain_Cut_f ch0 D (s : Int) = some (⟨0, 2, [(r0 : Int), (r1 : Int)]⟩, (D.set r0 (dn 2 data)).set r1 (dn 2 data), 0) := by
 unfold chain_Cut_f
 rw [hct, Option.bind_some, show (!true) = false from rfl, cond_false, show decide ((1099511627776 : Int) ≤ ch0.ver) = false from rfl, cond_false, iclone (by simp [ch0]), Option.bind_some]
 rw [show ch0.servers = [0, 1, 2] from rfl, hdel _ (fun k hk => by
  unfold chain_Cut_1_f
  by_cases e : k = s
  ·subst e; simp
  ·rw [show (((k : Int) == (s : Int)) : Bool) = false by simp; omega, cond_false, idd (by omega), Option.bind_some, (dd_GD hD (by omega)).down, decide_eq_false e]), Option.bind_some]
 have hw := wholeL_eq hD 1 [(r0 : Int), (r1 : Int)] [r0, r1] (fun x hx => by simp at hx; omega)
 have hok : ∀ k, k < 3 → okd 1 (dd D k) := fun k hk => by rw [hdd k hk]; unfold okd; rw [gt_dn hl hb (by omega) (by omega)]; exact ⟨rfl, rfl⟩
 have hfirst : chain_first_f ⟨ch0.id, ch0.ver, [(r0 : Int), (r1 : Int)]⟩ D = some (data, true) := by
  unfold chain_first_f chain_whole_f chain_whole_1_f
  rw [Option.bind_some]
  show (wholeL ⟨0, 1, [(r0 : Int), (r1 : Int)]⟩ D ([r0, r1].map fun s : Nat => (s : Int))).bind _ = _
  rw [hw, Option.bind_some, List.filterMap_cons]
  rw [show D.getD r0 dk0 = dd D r0 from rfl, if_pos (hok r0 hr0), hdd r0 hr0, gt_dn hl hb (by omega) (by omega)]
  rfl
 rw [hfirst, Option.bind_some, show (!true) = false from rfl, cond_false, laying_eq (by omega), Option.bind_some]
 have e2 : IntKind.wrap .i64 (ch0.ver + 1) = 2 := rfl
 rw [e2]
 obtain ⟨m, hm⟩ := big_add 3 (by omega)
 rw [hm]
 have gB := dn_GD (ver := 2) (by omega) (by omega) hl hb
 rw [chain_Cut_L1, show decide ((0 : Int) < (([(r0 : Int), (r1 : Int)] : List Int).length : Int)) = true from rfl, cond_true, show idx [(r0 : Int), (r1 : Int)] (0 : Int) = some (r0 : Int) from rfl, Option.bind_some, e2]
 rw [show (⟨ch0.id, 2, [(r0 : Int), (r1 : Int)]⟩ : Chain) = ⟨0, 2, [(r0 : Int), (r1 : Int)]⟩ from rfl, lay_eq hD (by omega) (by omega) (by omega) hl hb, Option.bind_some, chk_pos (by rw [List.length_set]), show IntKind.wrap .i64 (0 + 1) = 1 from rfl]
 rw [chain_Cut_L1, show decide ((1 : Int) < (([(r0 : Int), (r1 : Int)] : List Int).length : Int)) = true from rfl, cond_true, show idx [(r0 : Int), (r1 : Int)] (1 : Int) = some (r1 : Int) from rfl, Option.bind_some, e2]
 rw [show (⟨ch0.id, 2, [(r0 : Int), (r1 : Int)]⟩ : Chain) = ⟨0, 2, [(r0 : Int), (r1 : Int)]⟩ from rfl, lay_eq (hD.set gB) (by rw [List.length_set]; omega) (by omega) (by omega) hl hb, Option.bind_some, chk_pos (by rw [List.length_set]), show IntKind.wrap .i64 (1 + 1) = 2 from rfl]
 rw [chain_Cut_L1, show decide ((2 : Int) < (([(r0 : Int), (r1 : Int)] : List Int).length : Int)) = false from rfl, cond_false]
 rfl
theorem clean_eq {a : List Disk} (hA : AG a) (h6 : a.length ≤ 6) {s : Nat} (hs : s < a.length) (hd : dd a s = dn 1 data) : scrub_Clean_f a ⟨0, (s : Int), 6⟩ = some (a.set s (dk []), 0) := by
 have hg := dd_GD hA hs
 unfold scrub_Clean_f scrub_there_f
 rw [Option.bind_some]
 show (bif !(decide ((0 : Int) ≤ (s : Int)) && decide ((s : Int) < (a.length : Int))) then _ else _) = _
 rw [show (!(decide ((0 : Int) ≤ (s : Int)) && decide ((s : Int) < (a.length : Int)))) = false by simp; omega, cond_false]
 unfold scrub_turn_f
 show ((idx a (s : Int)).bind _).bind _ = _
 rw [idd hs, Option.bind_some]
 show ((scrub_Clean_1_f (dd a s) ⟨0, (s : Int), 6⟩).bind _).bind _ = _
 unfold scrub_Clean_1_f
 show (((chunk_Lose_f (dd a s) 0).bind _).bind _).bind _ = _
 rw [Lose_eq hg, if_neg (by rw [hd]; exact rd_dn hl hb (by omega) (by omega)), Option.bind_some, Option.bind_some, show ((0 : Int) == 0) = true from rfl, cond_true, Sync_wr hg [], Option.bind_some]
 unfold scrub_turn_J1
 rw [show (((0 : Int) != 0) : Bool) = false from rfl, cond_false, dclone (by omega), Option.bind_some, idd hs, Option.bind_some, Option.bind_some, Int.toNat_natCast]
theorem mend_eq {b : List Disk} (hA : AG b) (h3 : 3 ≤ b.length) (h6 : b.length ≤ 6) {s r0 r1 : Nat} (hs : s < 3) (hr1 : r1 < 3) (hd : dd b r1 = dn 2 data) (hne0 : s ≠ r0) (hne1 : s ≠ r1) :
  chain_Mend_f ⟨0, 2, [(r0 : Int), (r1 : Int)]⟩ b (s : Int) = some (⟨0, 2, [(r0 : Int), (r1 : Int), (s : Int)]⟩, b.set s (dn 2 data), 0) := by
 unfold chain_Mend_f
 rw [cond_d, if_neg (by omega), cond_d, if_neg (by omega), contains_eq (by simp), Option.bind_some]
 have hc : ([(r0 : Int), (r1 : Int)] : List Int).contains (s : Int) = false := by simp; omega
 rw [show (⟨0, 2, [(r0 : Int), (r1 : Int)]⟩ : Chain).servers = [(r0 : Int), (r1 : Int)] from rfl, hc]
 unfold chain_Mend_J1
 rw [cond_false, show decide ((5 : Int) ≤ (((⟨0, 2, [(r0 : Int), (r1 : Int)]⟩ : Chain).servers.length : Nat) : Int)) = false from rfl, cond_false, idd (by omega), Option.bind_some, (dd_GD hA (by omega)).down, cond_false,
  read_eq hl hb hA (t := r1) (by simp) (by simp) rfl (by omega) hd, Option.bind_some]
 rw [show (((0 : Int) != 0) : Bool) = false from rfl, cond_false, laying_eq (by omega), Option.bind_some, lay_eq hA (by omega) (by omega) (by omega) hl hb, Option.bind_some, chk_pos (by rw [List.length_set]), iclone (by simp), Option.bind_some, chk_pos (by simp)]
 rfl
theorem strayed_case {D : List Disk} (hD : AG D) (h3 : 3 ≤ D.length) (h6 : D.length ≤ 6) (hdd : ∀ k, k < 3 → dd D k = dn 1 data) (hdz : ∀ k, 3 ≤ k → dd D k = dk0) {s r0 r1 : Nat} (hs : s < 3) (hr0 : r0 < 3) (hr1 : r1 < 3) (h01 : r0 ≠ r1) (hs0 : s ≠ r0) (hs1 : s ≠ r1) :
  top_TopStrayed_J2 (⟨0, 2, [(r0 : Int), (r1 : Int)]⟩, (D.set r0 (dn 2 data)).set r1 (dn 2 data), 0) (s : Int) true data (D.length : Int) false = some true := by
 obtain ⟨a, ha⟩ : ∃ a, (D.set r0 (dn 2 data)).set r1 (dn 2 data) = a := ⟨_, rfl⟩
 rw [ha]
 have gB := dn_GD (ver := 2) (by omega) (by omega) hl hb
 have aA : AG a := by rw [← ha]; exact (hD.set gB).set gB
 have al : a.length = D.length := by rw [← ha, List.length_set, List.length_set]
 have ad : ∀ k, dd a k = if r1 = k then dn 2 data else if r0 = k then dn 2 data else dd D k := fun k => by
  rw [← ha, dd_set (by rw [List.length_set]; omega), dd_set (by omega)]
 have as' : dd a s = dn 1 data := by rw [ad, if_neg (fun h => hs1 h.symm), if_neg (fun h => hs0 h.symm), hdd s hs]
 have three : ∀ k, k < 3 → k ≠ s → k = r0 ∨ k = r1 := fun k hk hne => by omega
 have stray_a : scrub_Strays_f a [⟨0, 2, [(r0 : Int), (r1 : Int)]⟩] = some [⟨0, (s : Int), 6⟩] := by
  rw [strays_eq aA (by omega) 2 (by simp), strs_one (s := s) (by omega) (by rw [as']; exact rd_dn hl hb (by omega) (by omega)) (by simp; omega) (fun k hk hne => by
   rcases Nat.lt_or_ge k 3 with h | h
   ·rcases three k h hne with rfl | rfl
    ·exact .inl (by simp)
    ·exact .inl (by simp)
   ·right; rw [ad, if_neg (by omega), if_neg (by omega), hdz k h]; rfl)]
 unfold top_TopStrayed_J2
 rw [cond_false]
 simp only
 rw [stray_a, Option.bind_some, idd (by omega), Option.bind_some, as', get_eq (dn_GD (by omega) (by omega) hl hb), gt_dn hl hb (by omega) (by omega), Option.bind_some, finds_1, Option.bind_some]
 unfold top_TopStrayed_J3
 rw [show (!true || (((0 : Int) != 0) || decide ((2 : Int) ≤ (nc 1 data).ver))) = false from rfl, cond_false, show idx [(⟨0, (s : Int), 6⟩ : Find)] (0 : Int) = some ⟨0, (s : Int), 6⟩ from rfl, Option.bind_some]
 simp only
 rw [clean_eq hl hb aA (by omega) (by omega) as', Option.bind_some, show (((0 : Int) != 0) : Bool) = false from rfl, cond_false]
 obtain ⟨b, hb'⟩ : ∃ b, a.set s (dk []) = b := ⟨_, rfl⟩
 simp only [hb']
 have bA : AG b := by rw [← hb']; exact aA.set (.dk Bs.nil (by simp))
 have bl' : b.length = D.length := by rw [← hb', List.length_set, al]
 have bd : ∀ k, dd b k = if s = k then dk [] else dd a k := fun k => by rw [← hb', dd_set (by omega)]
 have br1 : dd b r1 = dn 2 data := by rw [bd, if_neg hs1, ad, if_pos rfl]
 rw [show ((b.length : Int) != (D.length : Int)) = false by simp; omega, cond_false]
 have stray_b : scrub_Strays_f b [⟨0, 2, [(r0 : Int), (r1 : Int)]⟩] = some [] := by
  rw [strays_eq bA (by omega) 2 (by simp), strs_none (fun k hk => by
   rcases Nat.lt_or_ge k 3 with h | h
   ·by_cases e : k = s
    ·right; rw [bd, if_pos e.symm]; rfl
    ·rcases three k h e with rfl | rfl
     ·exact .inl (by simp)
     ·exact .inl (by simp)
   ·right; rw [bd, if_neg (by omega), ad, if_neg (by omega), if_neg (by omega), hdz k h]; rfl)]
 rw [stray_b, Option.bind_some, show decide ((0 : Int) < (([] : List Find).length : Int)) = false from rfl, cond_false, idd (by omega), Option.bind_some, bd, if_pos rfl, has_eq (.dk Bs.nil (by simp)), Option.bind_some, show (if (rd (dk [])).1 = [] then ([] : List Int) else [0]) = [] from rfl, show decide ((0 : Int) < (([] : List Int).length : Int)) = false from rfl]
 unfold top_TopStrayed_J4
 rw [cond_false]
 simp only
 obtain ⟨m, hm⟩ : ∃ m, b.set s (dn 2 data) = m := ⟨_, rfl⟩
 have mA : AG m := by rw [← hm]; exact bA.set gB
 have ml : m.length = D.length := by rw [← hm, List.length_set, bl']
 have md : ∀ k, dd m k = if s = k then dn 2 data else dd b k := fun k => by rw [← hm, dd_set (by omega)]
 have m3 : ∀ k, k < 3 → dd m k = dn 2 data := fun k hk => by
  rw [md]
  by_cases e : s = k
  ·rw [if_pos e]
  ·rw [if_neg e, bd, if_neg e, ad]
   rcases three k hk (fun h => e h.symm) with rfl | rfl
   ·split
    ·rfl
    ·rw [if_pos rfl]
   ·rw [if_pos rfl]
 rw [read_eq hl hb bA (t := r1) (by simp) (by simp) rfl (by omega) br1, Option.bind_some, mend_eq hl hb bA (by omega) (by omega) hs hr1 br1 hs0 hs1, Option.bind_some]
 simp only [hm]
 rw [read_eq hl hb mA (t := s) (by simp) (by simp) rfl (by omega) (m3 s hs), Option.bind_some, cond_true]
 simp only
 rw [show ((0 : Int) == 0) = true from rfl, cond_true, bytes_same (by omega), Option.bind_some, cond_true, cond_true, cond_true, Option.bind_some, cond_true]
 have hlook : scrub_Look_f m ⟨0, 2, [(r0 : Int), (r1 : Int), (s : Int)]⟩ = some [] := by
  unfold scrub_Look_f scrub_all_f scrub_all_1_f
  rw [Option.bind_some]
  show (allL ⟨0, 2, [(r0 : Int), (r1 : Int), (s : Int)]⟩ m ([r0, r1, s].map fun s : Nat => (s : Int))).bind _ = _
  rw [allL_eq mA 2 _ [r0, r1, s] (fun x hx => by simp at hx; omega), Option.bind_some, look_L _ _ (by simp)]
  have z : ∀ k, k < 3 → stv 2 (m[k]?.getD dk0) = 0 := fun k hk => by
   have := m3 k hk
   unfold dd at this
   rw [List.getD_eq_getElem?_getD] at this
   rw [this]; exact stv_dn hl hb
  simp [z r0 hr0, z r1 hr1, z s hs]
 rw [hlook, Option.bind_some, show ((((([] : List Find).length : Nat)) : Int) == 0) = true from rfl, cond_true]
 rw [strays_eq mA (by omega) 2 (by simp), strs_none (fun k hk => by
   rcases Nat.lt_or_ge k 3 with h | h
   ·by_cases e : k = s
    ·subst e; exact .inl (by simp)
    ·rcases three k h e with rfl | rfl
     ·exact .inl (by simp)
     ·exact .inl (by simp)
   ·right; rw [md, if_neg (by omega), bd, if_neg (by omega), ad, if_neg (by omega), if_neg (by omega), hdz k h]; rfl), Option.bind_some]
 rfl
end
theorem farm_dd {n k : Nat} : dd (farm n) k = if k < 3 then dk P0 else dk0 := by
 unfold dd farm
 match k with
 | 0 => rfl
 | 1 => rfl
 | 2 => rfl
 | k + 3 =>
  rw [if_neg (by omega), List.getD_eq_getElem?_getD]
  show ((List.replicate (n - 3) dk0)[k]?).getD dk0 = dk0
  rw [List.getElem?_replicate]
  split <;> rfl
theorem cts (s : Nat) (h : s < 3) : slices_Contains_f ch0.servers (s : Int) = some true := by
 rw [contains_eq (by simp [ch0])]
 have : s = 0 ∨ s = 1 ∨ s = 2 := by omega
 rcases this with rfl | rfl | rfl <;> rfl
theorem TopStrayed_true (y0 : Int) (o0 : okI .u8 y0) (y1 : Int) (o1 : okI .u8 y1) (y2 : List Int) (o2 : ∀ y22 ∈ y2, okI .u8 y22) : top_TopStrayed_f y0 y1 y2 = some true := by
 obtain ⟨n, h3, h6, hn⟩ := many o0
 unfold top_TopStrayed_f
 rw [head_true, Option.bind_some, hn, farm_eq h3 h6, Option.bind_some]
 simp only
 unfold top_TopStrayed_J1
 by_cases hc : 64 < (y2.length : Int)
 ·rw [decide_eq_true hc, Bool.or_true, Bool.or_true, cond_true, cond_true]
 ·rw [decide_eq_false hc, show (!true || ((([ch0] : List Chain).length : Int) != 1 || false)) = false from rfl, cond_false]
  simp only
  have hl : y2.length ≤ 64 := by omega
  have hu : Int.tmod (IntKind.wrap .i64 y1) 3 = ((y1.toNat % 3 : Nat) : Int) := by
   simp only [okI] at o1
   rw [w64 (by omega) (by omega), Int.tmod_eq_emod_of_nonneg o1.1]
   omega
  have hfl := farm_len h3
  obtain ⟨s, hs⟩ : ∃ s, y1.toNat % 3 = s := ⟨_, rfl⟩
  have hs3 : s < 3 := by omega
  rw [show idx [ch0] (0 : Int) = some ch0 from rfl, Option.bind_some, hu, hs, srv_at hs3, Option.bind_some, show (3 : Int) = ((3 : Nat) : Int) from rfl, write_eq farm_AG (by omega) (by omega) hl o2, Option.bind_some]
  have hwl := wrt_len (farm n) y2 3
  obtain ⟨D, hD⟩ : ∃ D, wrt (farm n) y2 (min 3 3) = D := ⟨_, rfl⟩
  rw [hD]
  have DA : AG D := by rw [← hD]; exact wrt_AG farm_AG hl o2 _
  have Dl : D.length = n := by rw [← hD]; exact hwl.trans hfl
  have Dd : ∀ k, dd D k = if k < 3 then dn 1 y2 else dk0 := fun k => by
   rw [← hD]
   show dd ((((farm n).set 0 (dn 1 y2)).set 1 (dn 1 y2)).set 2 (dn 1 y2)) k = _
   rw [dd_set (by simp only [List.length_set]; omega), dd_set (by simp only [List.length_set]; omega), dd_set (by omega), farm_dd]
   match k with
   | 0 => rfl
   | 1 => rfl
   | 2 => rfl
   | k + 3 => rw [if_neg (by omega), if_neg (by omega), if_neg (by omega), if_neg (by omega), if_neg (by omega)]
  have D3 : ∀ k, k < 3 → dd D k = dn 1 y2 := fun k hk => by rw [Dd, if_pos hk]
  have Dz : ∀ k, 3 ≤ k → dd D k = dk0 := fun k hk => by rw [Dd, if_neg (by omega)]
  have fin : ∀ r0 r1 : Nat, r0 < 3 → r1 < 3 → r0 ≠ r1 → s ≠ r0 → s ≠ r1 → (∀ f : Int → Option Bool, (∀ k : Nat, k < 3 → f (k : Int) = some (decide (k = s))) → slices_DeleteFunc_f [0, 1, 2] f = some [(r0 : Int), (r1 : Int)]) →
    ((chain_Cut_f ch0 D (s : Int)).bind fun r4 => top_TopStrayed_J2 r4 (s : Int) true y2 (n : Int) ((!decide (3 ≤ 3)) || ((r4.2.2 != 0) || ((r4.2.1.length : Int) != (n : Int))))) = some true := by
   intro r0 r1 hr0 hr1 h01 hs0 hs1 hdel
   rw [cut_eq hl o2 DA (by omega) (by omega) D3 hs3 hr0 hr1 (cts s hs3) hdel, Option.bind_some]
   have e : ((((D.set r0 (dn 2 y2)).set r1 (dn 2 y2)).length : Int) != (n : Int)) = false := by
    rw [List.length_set, List.length_set]; simp; omega
   simp only [e]
   have := strayed_case hl o2 DA (by omega) (by omega) D3 Dz hs3 hr0 hr1 h01 hs0 hs1
   rw [Dl] at this
   exact this
  have hs' : s = 0 ∨ s = 1 ∨ s = 2 := by omega
  rcases hs' with rfl | rfl | rfl
  ·exact fin 1 2 (by omega) (by omega) (by omega) (by omega) (by omega) (fun f hf => del_0 (hf 0 (by omega)) (hf 1 (by omega)) (hf 2 (by omega)))
  ·exact fin 0 2 (by omega) (by omega) (by omega) (by omega) (by omega) (fun f hf => del_1 (hf 0 (by omega)) (hf 1 (by omega)) (hf 2 (by omega)))
  ·exact fin 0 1 (by omega) (by omega) (by omega) (by omega) (by omega) (fun f hf => del_2 (hf 0 (by omega)) (hf 1 (by omega)) (hf 2 (by omega)))
end Go.Proofs.YtjflkcfafijhfaaGreat
/- TopStrayed's call. -/
namespace Go.Proofs.YtjflkcfafijhfaaGreat
open Go.Ab Go.Kx Go.RowKit
theorem TopStrayed_law (w : World) (x0 : Nat) (z0 : x0 < 256) (x1 : Nat) (z1 : x1 < 256) (v2 : Value) (y2 : List Int) (z2 : (Rep.slice (Rep.int .u8)).rd w T [v2] y2) :
  Calls Tryz.prog 3 #[.int .u8 (x0 : Int), .int .u8 (x1 : Int), v2] w fun e W' => e = .returned (.bool true) ∧ Below w.heap.size w W' :=
 law_of (vs := [_, _, _]) (top_TopStrayed_pc (TopStrayed_true (x0 : Int) (by simp only [okI]; omega) (x1 : Int) (by simp only [okI]; omega) y2 ((fun h => okr_slice h (fun h => okr_int h)) z2))) trivial (rvs_cons (.int _ _) (rvs_cons (.int _ _) (rvs_cons (((brg_slice (brg_int .u8))).val z2) rvs_nil)))
end Go.Proofs.YtjflkcfafijhfaaGreat

import Derived.Test.YtjflkcfafijhfaaGreatQ38
import Derived.Test.YtjflkcfafijhfaaGreatQ40
import Derived.Test.YtjflkcfafijhfaaGreatQ24
set_option linter.unusedSectionVars false
/- Laying copies, writing down a chain, and what hurts, as plain laws. -/
set_option linter.unusedSimpArgs false
set_option linter.unusedVariables false
namespace Go.Proofs.YtjflkcfafijhfaaGreat
open Go.Ab Go.RowKit
noncomputable def gt (d : Disk) : Copy × Int := (chunk_Get_f d 0).getD default
theorem get_eq {d : Disk} (h : GD d) : chunk_Get_f d 0 = some (gt d) := by
 obtain ⟨x, e, h1, _⟩ := get_ex h
 unfold gt; rw [h1]; rfl
theorem gt_spec {d : Disk} (h : GD d) (h0 : (gt d).2 = 0) : mayB (gt d).1 = true ∧ (gt d).1.id = 0 ∧ Bs (gt d).1.data ∧ d = dk (pg (gt d).1) := by
 obtain ⟨x, e, h1, h2⟩ := get_ex h
 have : gt d = (x, e) := by unfold gt; rw [h1]; rfl
 rw [this] at h0 ⊢
 exact h2 h0
def AG (l : List Disk) : Prop := ∀ d ∈ l, GD d
theorem AG.set {l : List Disk} (h : AG l) {k : Nat} {d : Disk} (hd : GD d) : AG (l.set k d) := fun x hx => by
 rcases List.mem_or_eq_of_mem_set hx with h1 | h1
 ·exact h x h1
 ·rw [h1]; exact hd
theorem AG.at {l : List Disk} (h : AG l) {k : Nat} (hk : k < l.length) : GD l[k] := h _ (List.getElem_mem hk)
def dn (ver : Int) (data : List Int) : Disk := dk (pg (nc ver data))
theorem dn_GD {ver : Int} {data : List Int} (h0 : 0 ≤ ver) (h1 : ver ≤ 1099511627776) (hl : data.length ≤ 64) (hb : Bs data) : GD (dn ver data) := .dk (pg_ok (may_SC (nc_may h0 h1 hl) hb)) (may_len (nc_may h0 h1 hl) hb).2
theorem lay_eq {own : List Disk} (ha : AG own) {s : Nat} (hs : s < own.length) {ver : Int} {sv : List Int} {data : List Int} (h0 : 0 ≤ ver) (h1 : ver ≤ 1099511627776) (hl : data.length ≤ 64) (hb : Bs data) :
  chain_laying_1_f (s : Int) own ⟨0, ver, sv⟩ data = some (own.set s (dn ver data)) := by
 unfold chain_laying_1_f
 rw [idx_nat hs, Option.bind_some]
 simp only
 rw [New_eq hb (by omega), Option.bind_some, Put_may (ha.at hs) (nc_may h0 h1 hl) hb rfl, Option.bind_some]
 simp only
 rw [Sync_wr (ha.at hs), Option.bind_some, Int.toNat_natCast]; rfl
theorem laying_eq {c : Chain} {disks : List Disk} {data : List Int} (h : disks.length ≤ 1000) : chain_laying_f c disks data = some disks := by
 unfold chain_laying_f; rw [dclone (by omega), Option.bind_some]
def wrt (disks : List Disk) (data : List Int) : Nat → List Disk
 | 0 => disks
 | k + 1 => (wrt disks data k).set k (dn 1 data)
theorem wrt_len (disks : List Disk) (data : List Int) : ∀ k, (wrt disks data k).length = disks.length
 | 0 => rfl
 | k + 1 => by unfold wrt; rw [List.length_set, wrt_len]
theorem wrt_AG {disks : List Disk} (ha : AG disks) {data : List Int} (hl : data.length ≤ 64) (hb : Bs data) : ∀ k, AG (wrt disks data k)
 | 0 => ha
 | k + 1 => (wrt_AG ha hl hb k).set (dn_GD (by omega) (by omega) hl hb)
theorem srv_at {k : Nat} (h : k < 3) : idx ch0.servers (k : Int) = some (k : Int) := by
 have : k = 0 ∨ k = 1 ∨ k = 2 := by omega
 rcases this with rfl | rfl | rfl <;> rfl
theorem write_L {disks : List Disk} (ha : AG disks) (h3 : 3 ≤ disks.length) {data : List Int} (hl : data.length ≤ 64) (hb : Bs data) (u : Nat) : ∀ (m k : Nat), 3 < m + k → k ≤ 3 → k ≤ u →
  chain_Write_L1 ch0 (u : Int) data m (wrt disks data k) (k : Int) = some (wrt disks data (min u 3), decide (3 ≤ u)) := by
 intro m
 induction m with
 | zero => intro k h1 h2; omega
 | succ m ih =>
  intro k h1 h2 hu
  rw [chain_Write_L1, cond_d, show (ch0.servers.length : Int) = 3 from rfl]
  by_cases hk : k < 3
  ·rw [if_pos (by omega), srv_at hk, Option.bind_some, cond_d]
   by_cases hku : (u : Int) ≤ (k : Int)
   ·rw [if_pos hku]
    have : k = u := by omega
    subst this
    unfold chain_Write_J2
    rw [cond_true, show min k 3 = k by omega, decide_eq_false (by omega)]
   ·have hlen := wrt_len disks data k
    rw [if_neg hku, idx_nat (by omega), Option.bind_some, ((wrt_AG ha hl hb k).at (by omega)).down]
    unfold chain_Write_J2
    rw [cond_false, show ch0 = ⟨0, 1, [0, 1, 2]⟩ from rfl, lay_eq (wrt_AG ha hl hb k) (by omega) (by omega) (by omega) hl hb, Option.bind_some, chk_pos (by rw [List.length_set]), w64_succ (by omega)]
    exact ih (k + 1) (by omega) (by omega) (by omega)
  ·have : k = 3 := by omega
   subst this
   rw [if_neg (by omega)]
   unfold chain_Write_J1
   rw [show min u 3 = 3 by omega, decide_eq_true (by omega)]
theorem write_eq {disks : List Disk} (ha : AG disks) (h3 : 3 ≤ disks.length) (h6 : disks.length ≤ 1000) {data : List Int} (hl : data.length ≤ 64) (hb : Bs data) (u : Nat) : chain_Write_f ch0 disks data (u : Int) = some (wrt disks data (min u 3), decide (3 ≤ u)) := by
 unfold chain_Write_f
 rw [cond_d, if_neg (by omega), laying_eq h6, Option.bind_some]
 exact write_L ha h3 hl hb u BIG 0 (by rw [BIG_eq]; omega) (by omega) (by omega)
theorem rd_GD {d : Disk} (h : GD d) : Bs (rd d).1 ∧ (rd d).1.length ≤ 200 := by
 rcases h with rfl | ⟨b, rfl, hb, hl⟩
 ·exact ⟨Bs.nil, by simp [rd, dk0]⟩
 ·exact ⟨hb, hl⟩
theorem Read_eq {d : Disk} (h : GD d) : disk_Read_f d 0 = some (rd d) := by
 rcases h with rfl | ⟨b, rfl, hb, hl⟩
 ·exact Read_dk0 (by omega) (by omega)
 ·rw [Read_dk hl (by omega) (by omega), if_pos rfl]; rfl
theorem syncd {d d' : Disk} (h : disk_Sync_f d = some (d', 0)) : top_syncedR14_f d = some d' := by
 unfold top_syncedR14_f; rw [h, Option.bind_some]; rfl
theorem Rot_ex {b : List Int} (hb : Bs b) (hl : b.length ≤ 200) {n : Int} (h0 : 0 ≤ n) (h1 : n < 8 * b.length) : ∃ d, disk_Rot_f (dk b) 0 n = some d ∧ GD d := by
 unfold disk_Rot_f
 rw [show (dk b).synced = [⟨0, b⟩] from rfl, find_1 (b := true) rfl, Option.bind_some, if_pos rfl, show decide ((0 : Int) < 0) = false from rfl, cond_false, cond_d, if_neg (by omega), show idx [(⟨0, b⟩ : Page)] 0 = some ⟨0, b⟩ from rfl, Option.bind_some]
 simp only
 have hq : Int.tdiv n 8 = n / 8 := Int.tdiv_eq_ediv_of_nonneg h0
 have hr : Int.tmod n 8 = n % 8 := Int.tmod_eq_emod_of_nonneg h0
 rw [w64 (by omega) (by omega), decide_eq_false (by omega)]
 unfold disk_Rot_J1
 rw [cond_false, show (dk b).synced = [⟨0, b⟩] from rfl, show idx [(⟨0, b⟩ : Page)] 0 = some ⟨0, b⟩ from rfl, Option.bind_some]
 simp only
 rw [bclone (by omega), Option.bind_some, hq, w64 (by omega) (by omega)]
 obtain ⟨q, hqn⟩ := Int.eq_ofNat_of_zero_le (show 0 ≤ n / 8 by omega)
 rw [hqn, idx_nat (by omega), Option.bind_some, chk_pos (by rw [hr]; omega), pclone (by simp), Option.bind_some, show idx [(⟨0, b⟩ : Page)] 0 = some ⟨0, b⟩ from rfl, Option.bind_some]
 refine ⟨_, rfl, .inr ⟨_, rfl, fun x hx => ?_, ?_⟩⟩
 ·rcases List.mem_or_eq_of_mem_set hx with h | h
  ·exact hb x h
  ·rw [h, wu8]; simp only [okI]; omega
 ·rw [List.length_set]; exact hl
theorem hurt_ex {disks : List Disk} (ha : AG disks) (h3 : 3 ≤ disks.length) (h6 : disks.length ≤ 6) {h : HurtR14} (hok : HurtR14.ok h) : ∃ l, top_hurtR14_f disks h 1 = some l ∧ AG l ∧ l.length = disks.length := by
 obtain ⟨o1, o2, o3, o4⟩ := hok
 simp only [okI] at o1 o2 o3 o4
 unfold top_hurtR14_f
 rw [chk_pos (by omega), chk_pos (by omega), chk_pos (by omega)]
 have hid : Int.tmod (IntKind.wrap .i64 h.id) 1 = 0 := by rw [Int.tmod_one]
 have hsv : Int.tmod (IntKind.wrap .i64 h.server) ((disks.length : Nat) : Int) = ((h.server.toNat % disks.length : Nat) : Int) := by
  rw [w64 (by omega) (by omega), Int.tmod_eq_emod_of_nonneg o2.1, Int.natCast_emod, Int.toNat_of_nonneg o2.1]
 rw [hid, hsv]
 have hs : h.server.toNat % disks.length < disks.length := Nat.mod_lt _ (by omega)
 obtain ⟨s, hse⟩ : ∃ s, h.server.toNat % disks.length = s := ⟨_, rfl⟩
 rw [hse] at hs ⊢
 have hg := ha.at hs
 have hrl := (rd_GD hg).2
 rw [idx_nat hs, Option.bind_some, Option.bind_some, Option.bind_some, Option.bind_some, Int.toNat_natCast]
 have same : ∃ l, some disks = some l ∧ AG l ∧ l.length = disks.length := ⟨disks, rfl, ha, rfl⟩
 by_cases d0 : Int.tmod h.do_ 4 = 0
 ·rw [d0, show ((0 : Int) == 0) = true from rfl, cond_true, Read_eq hg, Option.bind_some, get_eq hg, Option.bind_some]
  unfold top_hurtR14_J2 top_hurtR14_J1
  cases hc : ((rd disks[s]).2 == 0 && ((gt disks[s]).2 == 0 && decide (0 < ((rd disks[s]).1.length : Int))))
  ·rw [cond_false]; exact same
  ·rw [cond_true, idx_nat hs, Option.bind_some]
   simp only [Bool.and_eq_true, decide_eq_true_eq] at hc
   have hpos := hc.2.2
   rw [w64 (x := 8 * ((rd disks[s]).1.length : Int)) (by omega) (by omega), chk_pos (by omega), w64 (x := h.bit) (by omega) (by omega), Int.tmod_eq_emod_of_nonneg o4.1]
   obtain hd | ⟨b, hd, hb, hl⟩ := hg
   ·rw [hd] at hpos; simp [rd, dk0] at hpos
   ·have e1 : (rd disks[s]).1 = b := by rw [hd]; rfl
    rw [e1] at hpos ⊢
    rw [hd]
    obtain ⟨d', hd', gd'⟩ := Rot_ex hb hl (n := h.bit % (8 * (b.length : Int))) (Int.emod_nonneg _ (by omega)) (Int.emod_lt_of_pos _ (by omega))
    rw [hd', Option.bind_some]
    exact ⟨_, rfl, ha.set gd', List.length_set ..⟩
 ·rw [show (Int.tmod h.do_ 4 == 0) = false by simp [d0], cond_false]
  by_cases d1 : Int.tmod h.do_ 4 = 1
  ·rw [d1, show ((1 : Int) == 1) = true from rfl, cond_true, Lose_eq hg, Option.bind_some]
   unfold top_hurtR14_J1
   by_cases he : (rd disks[s]).1 = []
   ·rw [if_pos he]; exact same
   ·rw [if_neg he, show (((0 : Int) == 0)) = true from rfl, cond_true, syncd (Sync_wr hg []), Option.bind_some]
    exact ⟨_, rfl, ha.set (.dk Bs.nil (by simp)), List.length_set ..⟩
  ·rw [show (Int.tmod h.do_ 4 == 1) = false by simp [d1], cond_false]
   by_cases d2 : Int.tmod h.do_ 4 = 2
   ·rw [d2, show ((2 : Int) == 2) = true from rfl, cond_true]
    unfold disk_Crash_f disk_Up_f top_hurtR14_J1
    rw [hg.loose]
    simp only [List.length_nil, List.take_nil, List.drop_nil]
    rw [chk_pos (by simp), laid_none hg, Option.bind_some, Option.bind_some, Option.bind_some]
    have : (⟨disks[s].synced, [], false⟩ : Disk) = disks[s] := by
     obtain hd | ⟨b, hd, hb, hl⟩ := hg <;> (rw [hd]; rfl)
    simp only [this]
    exact ⟨_, rfl, ha.set hg, List.length_set ..⟩
   ·rw [show (Int.tmod h.do_ 4 == 2) = false by simp [d2], cond_false]
    have d3 : Int.tmod h.do_ 4 = 3 := by
     rw [Int.tmod_eq_emod_of_nonneg o1.1] at d0 d1 d2 ⊢
     omega
    rw [d3, show ((3 : Int) == 3) = true from rfl, cond_true]
    have hb9 : Bs [9] := fun x hx => by simp at hx; subst hx; simp only [okI]; omega
    rw [New_eq hb9 (by simp), Option.bind_some, Put_may hg (nc_may (by omega) (by omega) (by simp)) hb9 rfl, Option.bind_some, show (((0 : Int) == 0)) = true from rfl, cond_true, syncd (Sync_wr hg _), Option.bind_some]
    exact ⟨_, rfl, ha.set (dn_GD (by omega) (by omega) (by simp) hb9), List.length_set ..⟩
end Go.Proofs.YtjflkcfafijhfaaGreat
/- What is intact, what is planned, and copying, as plain laws. -/
set_option linter.unusedSimpArgs false
set_option linter.unusedVariables false
namespace Go.Proofs.YtjflkcfafijhfaaGreat
open Go.Ab Go.RowKit
theorem L2_cmp {kk : List Find → Int → Option (List Find)} {cmp : Find → Find → Option Int} {cf : Find → Find → Int} (hc : ∀ a b, cmp a b = some (cf a b)) {i : Int} : ∀ (m : Nat) (A : List Find) (x : Find) (R : List Find), A.length < m → A.length + R.length ≤ 1000 →
  slices_insertionSortCmpFunc_L2 kk 0 cmp i m (A.reverse ++ x :: R) (A.length : Int) = slices_insertionSortCmpFunc_J1 kk i (insBack (fun a b => decide (cf a b < 0)) A x R) := by
 intro m
 induction m with
 | zero => intro A x R h; omega
 | succ m ih =>
  intro A x R h1 h2
  rw [slices_insertionSortCmpFunc_L2, cond_d]
  cases A with
  | nil =>
   rw [if_neg (by simp)]
   rfl
  | cons y A =>
   have e1 : IntKind.wrap .i64 (((y :: A).length : Int) - 1) = (A.reverse.length : Int) := by simp only [List.length_cons, List.length_reverse]; simp only [List.length_cons] at h2; rw [w64 (by omega) (by omega)]; omega
   have e0 : ((y :: A).length : Int) = ((A.reverse ++ [y]).length : Int) := by simp
   have e2 : (y :: A).reverse ++ x :: R = (A.reverse ++ [y]) ++ x :: R := by simp
   have e3 : (y :: A).reverse ++ x :: R = A.reverse ++ y :: x :: R := by simp
   have g1 : idx ((y :: A).reverse ++ x :: R) ((y :: A).length : Int) = some x := by rw [e2, e0]; exact at_mid _ _ _
   have g2 : idx ((y :: A).reverse ++ x :: R) (IntKind.wrap .i64 (((y :: A).length : Int) - 1)) = some y := by rw [e1, e3]; exact at_mid _ _ _
   rw [if_pos (by simp only [List.length_cons]; omega), g1, Option.bind_some, g2, Option.bind_some, hc, Option.bind_some]
   unfold slices_insertionSortCmpFunc_J2
   cases hlt : decide (cf x y < 0) with
   | true =>
    rw [cond_true, g2, Option.bind_some, g1, Option.bind_some]
    have g3 : ∃ z, idx (((y :: A).reverse ++ x :: R).set ((y :: A).length : Int).toNat y) (IntKind.wrap .i64 (((y :: A).length : Int) - 1)) = some z := by
     rw [e1, idx_nat (by simp)]; exact ⟨_, rfl⟩
    obtain ⟨z, hz⟩ := g3
    rw [hz, Option.bind_some, e1]
    have e4 : (((y :: A).reverse ++ x :: R).set ((y :: A).length : Int).toNat y).set ((A.reverse.length : Int)).toNat x = A.reverse ++ x :: y :: R := by
     rw [e3, Int.toNat_natCast, Int.toNat_natCast]
     simp
    rw [e4, List.length_reverse]
    have := ih A x (y :: R) (by simp only [List.length_cons] at h1; omega) (by simp only [List.length_cons] at h2 ⊢; omega)
    rw [this]
    conv => rhs; rw [insBack, if_pos hlt]
   | false =>
    rw [cond_false]
    conv => rhs; rw [insBack, if_neg (by rw [hlt]; decide)]
theorem L1_cmp {cmp : Find → Find → Option Int} {cf : Find → Find → Int} (hc : ∀ a b, cmp a b = some (cf a b)) {b : Int} : ∀ (m : Nat) (P C : List Find), C.length < m → P.length + C.length ≤ 1000 → b = ((P.length + C.length : Nat) : Int) →
  slices_insertionSortCmpFunc_L1 b 0 cmp m (P ++ C) (P.length : Int) = some (isort (fun a b => decide (cf a b < 0)) P C) := by
 intro m
 induction m with
 | zero => intro P C h; omega
 | succ m ih =>
  intro P C h1 h2 hb
  rw [slices_insertionSortCmpFunc_L1, cond_d]
  cases C with
  | nil => rw [if_neg (by simp at hb; omega)]; simp [isort]
  | cons x C =>
   rw [if_pos (by simp only [List.length_cons] at hb; omega)]
   have := L2_cmp (kk := slices_insertionSortCmpFunc_L1 b 0 cmp m) hc (i := (P.length : Int)) BIG P.reverse x C (by rw [BIG_eq]; simp only [List.length_cons] at h2; simp; omega) (by simp only [List.length_cons] at h2; simp; omega)
   rw [List.reverse_reverse, List.length_reverse] at this
   rw [this]
   unfold slices_insertionSortCmpFunc_J1
   rw [w64_succ (by omega)]
   have hi : insBack (fun a b => decide (cf a b < 0)) P.reverse x C = insBack (fun a b => decide (cf a b < 0)) P.reverse x [] ++ C := by simpa using insBack_app (fun a b => decide (cf a b < 0)) P.reverse x [] C
   have hl : (insBack (fun a b => decide (cf a b < 0)) P.reverse x []).length = P.length + 1 := by rw [insBack_len]; simp
   have h3 := ih (insBack (fun a b => decide (cf a b < 0)) P.reverse x []) C (by simp only [List.length_cons] at h1; omega) (by simp only [List.length_cons] at h2; omega) (by rw [hb, hl]; simp only [List.length_cons]; omega)
   rw [hl] at h3
   rw [hi, h3]
   rfl
theorem sort_cmp {cmp : Find → Find → Option Int} {cf : Find → Find → Int} (hc : ∀ a b, cmp a b = some (cf a b)) (l : List Find) (hl : l.length ≤ 12) : slices_SortFunc_f l cmp = some (isort (fun a b => decide (cf a b < 0)) [] l) := by
 unfold slices_SortFunc_f
 obtain ⟨r, hr⟩ := len_small (n := l.length) (by omega)
 rw [hr, Option.bind_some]
 unfold slices_pdqsortCmpFunc_f
 obtain ⟨m, hm⟩ := big_add 1 (by omega)
 have hs : slices_insertionSortCmpFunc_f l 0 (l.length : Int) cmp = some (isort (fun a b => decide (cf a b < 0)) [] l) := by
  unfold slices_insertionSortCmpFunc_f
  rw [show IntKind.wrap .i64 (0 + 1) = ((1 : Nat) : Int) by decide]
  cases l with
  | nil =>
   rw [hm, slices_insertionSortCmpFunc_L1, show decide (((1 : Nat) : Int) < (([] : List Find).length : Int)) = false by decide, cond_false]; rfl
  | cons x C =>
   have := L1_cmp hc (b := ((x :: C).length : Int)) BIG [x] C (by rw [BIG_eq]; simp only [List.length_cons] at hl; omega) (by simp only [List.length_cons] at hl; simp; omega) (by simp; omega)
   simpa [isort, insBack] using this
 have hlen : (isort (fun a b => decide (cf a b < 0)) [] l).length = l.length := by have := (isort_perm (fun a b => decide (cf a b < 0)) [] l).length_eq; simpa using this
 rw [hm, slices_pdqsortCmpFunc_L1, chk_pos (by rw [w64 (by omega) (by omega), decide_eq_true]; omega), hs, Option.bind_some, chk_pos hlen, Option.bind_some, chk_pos hlen]
theorem isort_id {α : Type} (lt : α → α → Bool) : ∀ (C P : List α), (P ++ C).Pairwise (fun a b => lt b a = false) → isort lt P C = P ++ C
 | [], P, _ => by simp [isort]
 | x :: C, P, h => by
  unfold isort
  have e : insBack lt P.reverse x [] = P ++ [x] := by
   rcases List.eq_nil_or_concat P with rfl | ⟨Q, y, rfl⟩
   ·simp [insBack]
   ·have hxy : lt x y = false := by
     rw [List.pairwise_append] at h
     exact h.2.2 y (by simp) x (by simp)
    simp [insBack, hxy]
  rw [e, isort_id lt C (P ++ [x]) (by simpa using h)]
  simp
theorem cmp_c (x y : Int) : cmp_Compare_f x y = some (if x < y then -1 else if y < x then 1 else 0) := by
 unfold cmp_Compare_f cmp_isNaN_f
 simp only [Option.bind_some, bne_self_eq_false, cond_false]
 rw [cond_d, cond_d]
 split
 ·rfl
 ·split <;> rfl
theorem sortF {l : List Find} (hl : l.length ≤ 12) (h : l.Pairwise (fun a b => a.server < b.server)) : slices_SortFunc_f l scrub_Plan_1_f = some l := by
 rw [sort_cmp (cf := fun a b => if a.server < b.server then -1 else if b.server < a.server then 1 else 0) (fun a b => by unfold scrub_Plan_1_f; rw [cmp_c, Option.bind_some]) l hl]
 rw [isort_id _ l [] ?_]
 ·rfl
 ·refine h.imp fun {a b} hab => ?_
  rw [decide_eq_false_iff_not, if_neg (by omega), if_pos hab]
  omega
def okd (v : Int) (d : Disk) : Prop := (gt d).2 = 0 ∧ (gt d).1.ver = v
noncomputable instance (v : Int) (d : Disk) : Decidable (okd v d) := by unfold okd; exact inferInstance
theorem okd_nc {v : Int} {d : Disk} (h : GD d) (ho : okd v d) : (gt d).1 = nc v (gt d).1.data ∧ mayB (gt d).1 = true ∧ Bs (gt d).1.data ∧ (gt d).1.data.length ≤ 64 := by
 obtain ⟨h1, h2, h3, h4⟩ := gt_spec h ho.1
 obtain ⟨_, _, _, _, h5, h6⟩ := mayB_iff.1 h1
 refine ⟨?_, h1, h3, h5⟩
 have hv := ho.2
 cases hc : (gt d).1 with
 | mk id ver data sums =>
  rw [hc] at h2 h6 hv
  simp only at h2 h6 hv
  subst h2; subst hv; subst h6
  rfl
noncomputable def stv (v : Int) (d : Disk) : Int := if (gt d).2 = 41 then 2 else if (gt d).2 ≠ 0 then 3 else if (gt d).1.ver < v then 4 else if v < (gt d).1.ver then 5 else 0
theorem stv_ok {v : Int} {d : Disk} : stv v d = 0 ↔ okd v d := by
 unfold stv okd
 split
 ·rename_i h; rw [h]; exact ⟨fun h => by omega, fun h => by omega⟩
 ·split
  ·rename_i h; exact ⟨fun h => by omega, fun k => absurd k.1 h⟩
  ·rename_i h
   have h0 : (gt d).2 = 0 := by omega
   split
   ·exact ⟨fun h => by omega, fun h => by omega⟩
   ·split
    ·exact ⟨fun h => by omega, fun h => by omega⟩
    ·exact ⟨fun _ => ⟨h0, by omega⟩, fun _ => rfl⟩
theorem stv_1 {v : Int} {d : Disk} : stv v d ≠ 1 := by
 unfold stv
 split
 ·omega
 ·split
  ·omega
  ·split
   ·omega
   ·split <;> omega
theorem stands_eq {disks : List Disk} (ha : AG disks) {s : Nat} (hs : s < disks.length) (v : Int) (sv : List Int) : scrub_stands_f disks ⟨0, v, sv⟩ (s : Int) = some (stv v disks[s]) := by
 unfold scrub_stands_f scrub_stands_J1
 rw [cond_d, if_neg (by omega), idx_nat hs, Option.bind_some, (ha.at hs).down, cond_false, Option.bind_some]
 simp only
 rw [get_eq (ha.at hs), Option.bind_some]
 unfold stv
 by_cases h1 : (gt disks[s]).2 = 41
 ·rw [if_pos h1, h1]; rfl
 ·rw [if_neg h1, show ((gt disks[s]).2 == 41) = false by simp [h1], cond_false]
  by_cases h2 : (gt disks[s]).2 = 0
  ·rw [if_neg (by omega), h2, show (((0 : Int) != 0) : Bool) = false from rfl, cond_false, cond_d, cond_d]
   split
   ·rfl
   ·split <;> rfl
  ·rw [if_pos h2, show (((gt disks[s]).2 != 0) : Bool) = true by simp [h2], cond_true]
theorem allL_eq {disks : List Disk} (ha : AG disks) (v : Int) (sv : List Int) : ∀ (l : List Nat), (∀ s ∈ l, s < disks.length) → allL ⟨0, v, sv⟩ disks (l.map fun s : Nat => (s : Int)) = some (l.map fun s : Nat => ((s : Int), stv v (disks.getD s dk0)))
 | [], _ => rfl
 | s :: l, h => by
  have hs := h s (List.mem_cons_self ..)
  rw [List.map_cons, allL, stands_eq ha hs, Option.bind_some, allL_eq ha v sv l (fun x hx => h x (List.mem_cons_of_mem _ hx)), Option.bind_some, List.map_cons]
  simp [List.getD_eq_getElem?_getD, hs]
theorem wholeL_eq {disks : List Disk} (ha : AG disks) (v : Int) (sv : List Int) : ∀ (l : List Nat), (∀ s ∈ l, s < disks.length) → wholeL ⟨0, v, sv⟩ disks (l.map fun s : Nat => (s : Int)) = some (l.filterMap fun s : Nat => if okd v (disks.getD s dk0) then some ((s : Int), (gt (disks.getD s dk0)).1.data) else none)
 | [], _ => rfl
 | s :: l, h => by
  have hs := h s (List.mem_cons_self ..)
  have e : disks.getD s dk0 = disks[s] := by simp [List.getD_eq_getElem?_getD, hs]
  rw [List.map_cons, wholeL, idx_nat hs, Option.bind_some]
  simp only
  rw [get_eq (ha.at hs), Option.bind_some, wholeL_eq ha v sv l (fun x hx => h x (List.mem_cons_of_mem _ hx)), Option.bind_some, List.filterMap_cons, e]
  by_cases ho : okd v disks[s]
  ·rw [if_pos ho]; exact congrArg some (if_pos ho)
  ·rw [if_neg ho]; exact congrArg some (if_neg ho)
theorem intact_L : ∀ (l : List (Int × Int)) (out : List Int), out.length + l.length ≤ 1000 → scrub_Intact_L1 l out = some (out ++ l.filterMap fun y => if y.2 = 0 then some y.1 else none)
 | [], out, _ => by simp [scrub_Intact_L1, scrub_Intact_J1]
 | y :: l, out, h => by
  simp only [List.length_cons] at h
  rw [scrub_Intact_L1]
  by_cases e : y.2 = 0
  ·rw [show (y.2 == 0) = true by simp [e], cond_true, chk_pos (by omega), intact_L l _ (by simp; omega), List.filterMap_cons, if_pos e]; simp
  ·rw [show (y.2 == 0) = false by simp [e], cond_false, intact_L l _ (by omega), List.filterMap_cons, if_neg e]
theorem look_L {c : Chain} : ∀ (l : List (Int × Int)) (out : List Find), out.length + l.length ≤ 1000 → scrub_Look_L1 c l out = some (out ++ l.filterMap fun y => if y.2 = 0 then none else some ⟨c.id, y.1, y.2⟩)
 | [], out, _ => by simp [scrub_Look_L1, scrub_Look_J1]
 | y :: l, out, h => by
  simp only [List.length_cons] at h
  rw [scrub_Look_L1]
  by_cases e : y.2 = 0
  ·rw [show (y.2 != 0) = false by simp [e], cond_false, look_L l _ (by omega), List.filterMap_cons, if_pos e]
  ·rw [show (y.2 != 0) = true by simp [e], cond_true, chk_pos (by omega), look_L l _ (by simp; omega), List.filterMap_cons, if_neg e]; simp
theorem cintact_L : ∀ (l : List (Int × List Int)) (out : List Int), out.length + l.length ≤ 1000 → chain_Intact_L1 l out = some (out ++ l.map (·.1))
 | [], out, _ => by simp [chain_Intact_L1, chain_Intact_J1]
 | y :: l, out, h => by
  simp only [List.length_cons] at h
  rw [chain_Intact_L1, chk_pos (by omega), cintact_L l _ (by simp; omega)]; simp
end Go.Proofs.YtjflkcfafijhfaaGreat
/- What a job copies, and what a chain patches, as plain laws. -/
set_option linter.unusedSimpArgs false
set_option linter.unusedVariables false
namespace Go.Proofs.YtjflkcfafijhfaaGreat
open Go.Ab Go.RowKit
theorem ix0 : slices_Index_f [0, 1, 2] 0 = some 0 := by rw [e_slices_Index_f, BIG_eq]; decide +kernel
theorem ix1 : slices_Index_f [0, 1, 2] 1 = some 1 := by rw [e_slices_Index_f, BIG_eq]; decide +kernel
theorem ix2 : slices_Index_f [0, 1, 2] 2 = some 2 := by rw [e_slices_Index_f, BIG_eq]; decide +kernel
theorem cf_false {f : Int → Option Bool} (h0 : f 0 = some false) (h1 : f 1 = some false) (h2 : f 2 = some false) : slices_ContainsFunc_68_f [0, 1, 2] f = some false := by
 unfold slices_ContainsFunc_68_f slices_IndexFunc_f
 obtain ⟨m, hm⟩ := big_add 4 (by omega)
 rw [hm]
 rw [slices_IndexFunc_L1, show decide ((0 : Int) < (([0, 1, 2] : List Int).length : Int)) = true from rfl, cond_true, show idx [0, 1, 2] (0 : Int) = some (0 : Int) from rfl, Option.bind_some, h0, Option.bind_some, cond_false, show IntKind.wrap .i64 (0 + 1) = 1 from rfl]
 rw [slices_IndexFunc_L1, show decide ((1 : Int) < (([0, 1, 2] : List Int).length : Int)) = true from rfl, cond_true, show idx [0, 1, 2] (1 : Int) = some (1 : Int) from rfl, Option.bind_some, h1, Option.bind_some, cond_false, show IntKind.wrap .i64 (1 + 1) = 2 from rfl]
 rw [slices_IndexFunc_L1, show decide ((2 : Int) < (([0, 1, 2] : List Int).length : Int)) = true from rfl, cond_true, show idx [0, 1, 2] (2 : Int) = some (2 : Int) from rfl, Option.bind_some, h2, Option.bind_some, cond_false, show IntKind.wrap .i64 (2 + 1) = 3 from rfl]
 rw [slices_IndexFunc_L1, show decide ((3 : Int) < (([0, 1, 2] : List Int).length : Int)) = false from rfl, cond_false]
 rfl
section
variable {disks : List Disk}
def dd (disks : List Disk) (k : Nat) : Disk := disks.getD k dk0
theorem dd_at {k : Nat} (h : k < disks.length) : disks[k] = dd disks k := by simp [dd, List.getD_eq_getElem?_getD, h]
theorem dd_GD (ha : AG disks) {k : Nat} (h : k < disks.length) : GD (dd disks k) := by rw [← dd_at h]; exact ha.at h
theorem idd {k : Nat} (h : k < disks.length) : idx disks (k : Int) = some (dd disks k) := by rw [idx_nat h, dd_at h]
noncomputable def dat (disks : List Disk) (k : Nat) : List Int := (gt (dd disks k)).1.data
noncomputable def whole3 (disks : List Disk) : List (Int × List Int) := (if okd 1 (dd disks 0) then [((0 : Int), dat disks 0)] else []) ++ ((if okd 1 (dd disks 1) then [((1 : Int), dat disks 1)] else []) ++ (if okd 1 (dd disks 2) then [((2 : Int), dat disks 2)] else []))
theorem whole_eq (ha : AG disks) (h3 : 3 ≤ disks.length) : wholeL ch0 disks ch0.servers = some (whole3 disks) := by
 have := wholeL_eq ha 1 [0, 1, 2] [0, 1, 2] (fun s hs => by simp at hs; omega)
 refine Eq.trans this ?_
 unfold whole3 dat
 show some (List.filterMap (fun s => if okd 1 (dd disks s) then some ((s : Int), (gt (dd disks s)).1.data) else none) [0, 1, 2]) = _
 simp only [List.filterMap_cons, List.filterMap_nil]
 by_cases a0 : okd 1 (dd disks 0) <;> by_cases a1 : okd 1 (dd disks 1) <;> by_cases a2 : okd 1 (dd disks 2) <;> simp [a0, a1, a2]
theorem lay3 (ha : AG disks) (h3 : 3 ≤ disks.length) {s : Nat} (hs : s < 3) {k : Nat} (hk : k < 3) (ho : okd 1 (dd disks k)) : chain_laying_1_f (s : Int) disks ch0 (dat disks k) = some (disks.set s (dn 1 (dat disks k))) := by
 obtain ⟨h1, h2, h4, h5⟩ := okd_nc (dd_GD ha (show k < disks.length by omega)) ho
 exact lay_eq ha (by omega) (by omega) (by omega) h5 h4
theorem patchJ (ha : AG disks) (h3 : 3 ≤ disks.length) (h6 : disks.length ≤ 1000) {s : Nat} (hs : s < 3) {k : Nat} (hk : k < 3) (ho : okd 1 (dd disks k)) : chain_Patch_J1 disks ch0 (s : Int) (dat disks k) true = some (disks.set s (dn 1 (dat disks k)), 0) := by
 unfold chain_Patch_J1
 rw [show (!true) = false from rfl, cond_false, laying_eq h6, Option.bind_some, lay3 ha h3 hs hk ho, Option.bind_some, chk_pos (by rw [List.length_set])]
theorem patch_pre (ha : AG disks) (h3 : 3 ≤ disks.length) {s : Nat} (hs : s < 3) : chain_Patch_f ch0 disks (s : Int) = chain_Patch_L1 ch0 (s : Int) disks (s : Int) (whole3 disks) [] false false := by
 unfold chain_Patch_f
 have hix : slices_Index_f ch0.servers (s : Int) = some (s : Int) := by
  have : s = 0 ∨ s = 1 ∨ s = 2 := by omega
  rcases this with rfl | rfl | rfl
  ·exact ix0
  ·exact ix1
  ·exact ix2
 have hdn : ∀ k : Nat, k < 3 → chain_Patch_1_f (k : Int) disks = some false := fun k hk => by
  unfold chain_Patch_1_f
  rw [idd (by omega), Option.bind_some, (dd_GD ha (by omega)).down]
 rw [hix, Option.bind_some, cond_d, if_neg (by omega)]
 rw [show slices_ContainsFunc_68_f ch0.servers (fun y0_ => chain_Patch_1_f y0_ disks) = some false from cf_false (hdn 0 (by omega)) (hdn 1 (by omega)) (hdn 2 (by omega)), Option.bind_some, cond_false]
 show (some ()).bind _ = _
 rw [Option.bind_some]
 unfold chain_whole_1_f
 rw [whole_eq ha h3, Option.bind_some]
theorem patch0 (ha : AG disks) (h3 : 3 ≤ disks.length) (h6 : disks.length ≤ 1000) : chain_Patch_f ch0 disks 0 = some (if okd 1 (dd disks 0) then (disks, 0) else if okd 1 (dd disks 1) then (disks.set 0 (dn 1 (dat disks 1)), 0) else if okd 1 (dd disks 2) then (disks.set 0 (dn 1 (dat disks 2)), 0) else (disks, 260)) := by
 refine (patch_pre ha h3 (s := 0) (by omega)).trans ?_
 show chain_Patch_L1 ch0 0 disks 0 (whole3 disks) [] false false = _
 have j1 := fun ho => patchJ ha h3 h6 (s := 0) (by omega) (k := 1) (by omega) ho
 have j2 := fun ho => patchJ ha h3 h6 (s := 0) (by omega) (k := 2) (by omega) ho
 unfold whole3
 by_cases a0 : okd 1 (dd disks 0) <;> by_cases a1 : okd 1 (dd disks 1) <;> by_cases a2 : okd 1 (dd disks 2) <;>
  simp only [a0, a1, a2, if_true, if_false, List.cons_append, List.nil_append, List.append_nil, chain_Patch_L1, show ch0.servers = [0, 1, 2] from rfl, ix0, ix1, ix2, Option.bind_some, chain_Patch_S1]
 all_goals first
  | rfl
  | exact j1 a1
  | exact j2 a2
theorem patch1 (ha : AG disks) (h3 : 3 ≤ disks.length) (h6 : disks.length ≤ 1000) : chain_Patch_f ch0 disks 1 = some (if okd 1 (dd disks 1) then (disks, 0) else if okd 1 (dd disks 2) then (disks.set 1 (dn 1 (dat disks 2)), 0) else if okd 1 (dd disks 0) then (disks.set 1 (dn 1 (dat disks 0)), 0) else (disks, 260)) := by
 refine (patch_pre ha h3 (s := 1) (by omega)).trans ?_
 show chain_Patch_L1 ch0 1 disks 1 (whole3 disks) [] false false = _
 have j1 := fun ho => patchJ ha h3 h6 (s := 1) (by omega) (k := 0) (by omega) ho
 have j2 := fun ho => patchJ ha h3 h6 (s := 1) (by omega) (k := 2) (by omega) ho
 unfold whole3
 by_cases a0 : okd 1 (dd disks 0) <;> by_cases a1 : okd 1 (dd disks 1) <;> by_cases a2 : okd 1 (dd disks 2) <;>
  simp only [a0, a1, a2, if_true, if_false, List.cons_append, List.nil_append, List.append_nil, chain_Patch_L1, show ch0.servers = [0, 1, 2] from rfl, ix0, ix1, ix2, Option.bind_some, chain_Patch_S1]
 all_goals first
  | rfl
  | exact j2 a2
  | exact j1 a0
theorem patch2 (ha : AG disks) (h3 : 3 ≤ disks.length) (h6 : disks.length ≤ 1000) : chain_Patch_f ch0 disks 2 = some (if okd 1 (dd disks 2) then (disks, 0) else if okd 1 (dd disks 1) then (disks.set 2 (dn 1 (dat disks 1)), 0) else if okd 1 (dd disks 0) then (disks.set 2 (dn 1 (dat disks 0)), 0) else (disks, 260)) := by
 refine (patch_pre ha h3 (s := 2) (by omega)).trans ?_
 show chain_Patch_L1 ch0 2 disks 2 (whole3 disks) [] false false = _
 have j1 := fun ho => patchJ ha h3 h6 (s := 2) (by omega) (k := 0) (by omega) ho
 have j2 := fun ho => patchJ ha h3 h6 (s := 2) (by omega) (k := 1) (by omega) ho
 unfold whole3
 by_cases a0 : okd 1 (dd disks 0) <;> by_cases a1 : okd 1 (dd disks 1) <;> by_cases a2 : okd 1 (dd disks 2) <;>
  simp only [a0, a1, a2, if_true, if_false, List.cons_append, List.nil_append, List.append_nil, chain_Patch_L1, show ch0.servers = [0, 1, 2] from rfl, ix0, ix1, ix2, Option.bind_some, chain_Patch_S1]
 all_goals first
  | rfl
  | exact j2 a1
  | exact j1 a0
theorem copy_eq (ha : AG disks) (h3 : 3 ≤ disks.length) (h6 : disks.length ≤ 1000) {s f : Nat} (hs : s < 3) (hf : f < 3) (ho : okd 1 (dd disks f)) (h l : Int) : scrub_Copy_f disks ⟨0, 1, (f : Int), (s : Int), h, l⟩ = some (disks.set s (dn 1 (dat disks f)), 0) := by
 have hg := dd_GD ha (show f < disks.length by omega)
 obtain ⟨h1, h2, h4, h5⟩ := okd_nc hg ho
 have hsg := dd_GD ha (show s < disks.length by omega)
 unfold scrub_Copy_f scrub_there_f
 simp only [Option.bind_some]
 rw [show (!(decide ((0 : Int) ≤ (f : Int)) && decide ((f : Int) < (disks.length : Int)))) = false by simp; omega, cond_false, show (!(decide ((0 : Int) ≤ (s : Int)) && decide ((s : Int) < (disks.length : Int)))) = false by simp; omega]
 unfold scrub_Copy_J1
 rw [cond_false]
 simp only
 rw [idd (by omega), Option.bind_some, get_eq hg, Option.bind_some, ho.1, ho.2]
 rw [show (((0 : Int) != 0) : Bool) = false from rfl, cond_false, show (((1 : Int) != 1) : Bool) = false from rfl, cond_false]
 unfold scrub_turn_f scrub_Copy_1_f
 rw [idd (by omega), Option.bind_some]
 show ((((chunk_Put_f (dd disks s) (gt (dd disks f)).1).bind fun r1 => some (r1.1, r1.2))).bind _).bind _ = _
 rw [Put_may hsg h2 h4 (by rw [h1]; rfl), Option.bind_some, Option.bind_some, show (((0 : Int) == 0)) = true from rfl, cond_true, Sync_wr hsg, Option.bind_some]
 unfold scrub_turn_J1
 rw [show (((0 : Int) != 0) : Bool) = false from rfl, cond_false, dclone (by omega), Option.bind_some, idd (by omega), Option.bind_some, Option.bind_some, Int.toNat_natCast]
 have : dk (pg (gt (dd disks f)).1) = dn 1 (dat disks f) := by
  unfold dn dat
  rw [← h1]
 rw [this]
end
end Go.Proofs.YtjflkcfafijhfaaGreat
/- What is planned, and whether disks are the same, as plain laws. -/
set_option linter.unusedSimpArgs false
set_option linter.unusedVariables false
namespace Go.Proofs.YtjflkcfafijhfaaGreat
open Go.Ab Go.RowKit
theorem bytes_L {a : List Int} (h : a.length ≤ 1000000) : ∀ m k, a.length < m + k → k ≤ a.length → ref02_Bytes_L1 a a m (k : Int) = some true := by
 intro m
 induction m with
 | zero => intro k h1 h2; omega
 | succ m ih =>
  intro k h1 h2
  rw [ref02_Bytes_L1, cond_d]
  by_cases hk : k < a.length
  ·rw [if_pos (by omega), idx_nat hk, Option.bind_some, Option.bind_some, show (a[k] != a[k]) = false by simp, cond_false, w64_succ (by omega)]
   exact ih (k + 1) (by omega) (by omega)
  ·rw [if_neg (by omega)]; rfl
theorem bytes_same {a : List Int} (h : a.length ≤ 1000000) : ref02_Bytes_f a a = some true := by
 unfold ref02_Bytes_f
 rw [show ((a.length : Int) != (a.length : Int)) = false by simp, cond_false]
 exact bytes_L h BIG 0 (by rw [BIG_eq]; omega) (Nat.zero_le _)
theorem ints_L {a : List Int} (h : a.length ≤ 1000000) : ∀ m k, a.length < m + k → k ≤ a.length → ref02_Ints_L1 a a m (k : Int) = some true := by
 intro m
 induction m with
 | zero => intro k h1 h2; omega
 | succ m ih =>
  intro k h1 h2
  rw [ref02_Ints_L1, cond_d]
  by_cases hk : k < a.length
  ·rw [if_pos (by omega), idx_nat hk, Option.bind_some, Option.bind_some, show (a[k] != a[k]) = false by simp, cond_false, w64_succ (by omega)]
   exact ih (k + 1) (by omega) (by omega)
  ·rw [if_neg (by omega)]; rfl
theorem ints_same {a : List Int} (h : a.length ≤ 1000000) : ref02_Ints_f a a = some true := by
 unfold ref02_Ints_f
 rw [show ((a.length : Int) != (a.length : Int)) = false by simp, cond_false]
 exact ints_L h BIG 0 (by rw [BIG_eq]; omega) (Nat.zero_le _)
theorem pages_0 : ref25_pages_f [] [] = some true := by
 unfold ref25_pages_f
 obtain ⟨m, hm⟩ := big_add 1 (by omega)
 rw [show (((([] : List Page).length : Nat) : Int) != ((([] : List Page).length : Nat) : Int)) = false from rfl, cond_false, hm, ref25_pages_L1, show decide ((0 : Int) < (([] : List Page).length : Int)) = false from rfl, cond_false]; rfl
theorem pages_1 {p : Page} (h : p.data.length ≤ 1000000) : ref25_pages_f [p] [p] = some true := by
 unfold ref25_pages_f
 obtain ⟨m, hm⟩ := big_add 2 (by omega)
 rw [show (((([p] : List Page).length : Nat) : Int) != ((([p] : List Page).length : Nat) : Int)) = false from rfl, cond_false, hm, ref25_pages_L1, show decide ((0 : Int) < (([p] : List Page).length : Int)) = true from rfl, cond_true, show idx [p] (0 : Int) = some p from rfl, Option.bind_some, Option.bind_some, show (p.at_ != p.at_) = false by simp, cond_false, bytes_same h, Option.bind_some]
 unfold ref25_pages_J2
 rw [show (!true) = false from rfl, cond_false, show IntKind.wrap .i64 (0 + 1) = 1 from rfl, ref25_pages_L1, show decide ((1 : Int) < (([p] : List Page).length : Int)) = false from rfl, cond_false]; rfl
theorem disk_same {d : Disk} (h : GD d) : ref25_SameDisk_f d d = some true := by
 unfold ref25_SameDisk_f
 rw [h.loose, pages_0, Option.bind_some, show (true && (d.down == d.down)) = true by simp]
 rcases h with rfl | ⟨b, rfl, hb, hl⟩
 ·rw [show dk0.synced = [] from rfl, pages_0, Option.bind_some]; rfl
 ·rw [show (dk b).synced = [⟨0, b⟩] from rfl, pages_1 (by show b.length ≤ _; omega), Option.bind_some]; rfl
theorem disks_same {l : List Disk} (ha : AG l) (h : l.length ≤ 1000) : ref27_SameDisks_f l l = some true := by
 unfold ref27_SameDisks_f
 rw [show ((l.length : Int) != (l.length : Int)) = false by simp, cond_false]
 have key : ∀ m k, l.length < m + k → k ≤ l.length → ref27_SameDisks_L1 l l m (k : Int) = some true := by
  intro m
  induction m with
  | zero => intro k h1 h2; omega
  | succ m ih =>
   intro k h1 h2
   rw [ref27_SameDisks_L1, cond_d]
   by_cases hk : k < l.length
   ·rw [if_pos (by omega), idx_nat hk, Option.bind_some, Option.bind_some, disk_same (ha.at hk), Option.bind_some, show (!true) = false from rfl, cond_false, w64_succ (by omega)]
    exact ih (k + 1) (by omega) (by omega)
   ·rw [if_neg (by omega)]; rfl
 exact key BIG 0 (by rw [BIG_eq]; omega) (Nat.zero_le _)
section
variable {disks : List Disk}
noncomputable def own3 (disks : List Disk) : List Int := (if okd 1 (dd disks 0) then [0] else []) ++ ((if okd 1 (dd disks 1) then [1] else []) ++ (if okd 1 (dd disks 2) then [2] else []))
noncomputable def look3 (disks : List Disk) : List Find := (if okd 1 (dd disks 0) then [] else [⟨0, 0, stv 1 (dd disks 0)⟩]) ++ ((if okd 1 (dd disks 1) then [] else [⟨0, 1, stv 1 (dd disks 1)⟩]) ++ (if okd 1 (dd disks 2) then [] else [⟨0, 2, stv 1 (dd disks 2)⟩]))
theorem all3 (ha : AG disks) (h3 : 3 ≤ disks.length) : allL ch0 disks ch0.servers = some [(0, stv 1 (dd disks 0)), (1, stv 1 (dd disks 1)), (2, stv 1 (dd disks 2))] :=
 allL_eq ha 1 [0, 1, 2] [0, 1, 2] (fun s hs => by simp at hs; omega)
theorem sintact_eq (ha : AG disks) (h3 : 3 ≤ disks.length) : scrub_Intact_f disks ch0 = some (own3 disks) := by
 unfold scrub_Intact_f scrub_all_f scrub_all_1_f
 rw [Option.bind_some, all3 ha h3, Option.bind_some, intact_L _ _ (by simp)]
 unfold own3
 simp only [List.filterMap_cons, List.filterMap_nil, stv_ok]
 by_cases a0 : okd 1 (dd disks 0) <;> by_cases a1 : okd 1 (dd disks 1) <;> by_cases a2 : okd 1 (dd disks 2) <;> simp [a0, a1, a2]
theorem slook_eq (ha : AG disks) (h3 : 3 ≤ disks.length) : scrub_Look_f disks ch0 = some (look3 disks) := by
 unfold scrub_Look_f scrub_all_f scrub_all_1_f
 rw [Option.bind_some, all3 ha h3, Option.bind_some, look_L _ _ (by simp)]
 unfold look3
 simp only [List.filterMap_cons, List.filterMap_nil, stv_ok]
 by_cases a0 : okd 1 (dd disks 0) <;> by_cases a1 : okd 1 (dd disks 1) <;> by_cases a2 : okd 1 (dd disks 2) <;> simp [a0, a1, a2, ch0]
theorem cintact_eq (ha : AG disks) (h3 : 3 ≤ disks.length) : chain_Intact_f ch0 disks = some (own3 disks) := by
 unfold chain_Intact_f chain_whole_f chain_whole_1_f
 rw [Option.bind_some, whole_eq ha h3, Option.bind_some, cintact_L _ _ (by unfold whole3; by_cases a0 : okd 1 (dd disks 0) <;> by_cases a1 : okd 1 (dd disks 1) <;> by_cases a2 : okd 1 (dd disks 2) <;> simp [a0, a1, a2])]
 unfold own3 whole3
 by_cases a0 : okd 1 (dd disks 0) <;> by_cases a1 : okd 1 (dd disks 1) <;> by_cases a2 : okd 1 (dd disks 2) <;> simp [a0, a1, a2]
noncomputable def job (disks : List Disk) (f s : Nat) (n : Nat) : Job := ⟨0, 1, f, s, n, ((dat disks f).length : Int) + 1⟩
theorem plan_L (ha : AG disks) (h3 : 3 ≤ disks.length) {own : List Int} {kk : List Job → List Int → Int → Option (List Job × List Int)} {v1 : Int} {lost : List Int} {fs : List Find} {nx : Find → Nat} (hn : ∀ f ∈ fs, f.what ≠ 1 ∧ nx f < 3 ∧ okd 1 (dd disks (nx f)) ∧ scrub_next_f ch0 own f.server = some (nx f : Int)) (hl : fs.length ≤ 1000) :
  ∀ (m k : Nat) (out : List Job), fs.length < m + k → k ≤ fs.length → out.length + (fs.length - k) ≤ 3000 → scrub_Plan_L2 kk fs ch0 own disks v1 lost m out ((fs.length : Nat) : Int) (k : Int) = scrub_Plan_J2 kk v1 (out ++ (fs.drop k).map fun f => ⟨0, 1, (nx f : Int), f.server, (own.length : Int), ((dat disks (nx f)).length : Int) + 1⟩) lost := by
 intro m
 induction m with
 | zero => intro k out h1 h2 h3'; omega
 | succ m ih =>
  intro k out h1 h2 h3'
  rw [scrub_Plan_L2, cond_d]
  by_cases hk : k < fs.length
  ·obtain ⟨q1, q2, q3, q4⟩ := hn fs[k] (List.getElem_mem hk)
   have hg := dd_GD ha (show nx fs[k] < disks.length by omega)
   obtain ⟨r1, r2, r3, r4⟩ := okd_nc hg q3
   rw [if_pos (by omega), idx_nat hk, Option.bind_some, show (fs[k].what != 1) = true by simp [q1], cond_true, q4, Option.bind_some, idd (by omega), Option.bind_some]
   rw [show ch0.id = 0 from rfl, get_eq hg, Option.bind_some]
   unfold dat at ih ⊢
   rw [chk_pos (by omega), w64 (by omega) (by omega)]
   unfold scrub_Plan_J3
   rw [w64_succ (by omega), ih (k + 1) _ (by omega) (by omega) (by simp; omega), drop_cons hk, List.map_cons, List.append_assoc]
   rfl
  ·have : k = fs.length := by omega
   subst this
   rw [if_neg (by omega), List.drop_length]; simp
end
end Go.Proofs.YtjflkcfafijhfaaGreat
/- TopPatched, as a plain law. -/
set_option linter.unusedSimpArgs false
set_option linter.unusedVariables false
namespace Go.Proofs.YtjflkcfafijhfaaGreat
open Go.Ab Go.RowKit
theorem nx01 : scrub_next_f ch0 [0] 1 = some 0 := by rw [e_scrub_next_f, BIG_eq]; decide +kernel
theorem nx02 : scrub_next_f ch0 [0] 2 = some 0 := by rw [e_scrub_next_f, BIG_eq]; decide +kernel
theorem nx10 : scrub_next_f ch0 [1] 0 = some 1 := by rw [e_scrub_next_f, BIG_eq]; decide +kernel
theorem nx12 : scrub_next_f ch0 [1] 2 = some 1 := by rw [e_scrub_next_f, BIG_eq]; decide +kernel
theorem nx20 : scrub_next_f ch0 [2] 0 = some 2 := by rw [e_scrub_next_f, BIG_eq]; decide +kernel
theorem nx21 : scrub_next_f ch0 [2] 1 = some 2 := by rw [e_scrub_next_f, BIG_eq]; decide +kernel
theorem nx012 : scrub_next_f ch0 [0, 1] 2 = some 1 := by rw [e_scrub_next_f, BIG_eq]; decide +kernel
theorem nx021 : scrub_next_f ch0 [0, 2] 1 = some 2 := by rw [e_scrub_next_f, BIG_eq]; decide +kernel
theorem nx120 : scrub_next_f ch0 [1, 2] 0 = some 1 := by rw [e_scrub_next_f, BIG_eq]; decide +kernel
theorem right_s : scrub_Right_f [ch0] = some true := by rw [e_scrub_Right_f, BIG_eq]; decide +kernel
theorem ct0 : slices_Contains_f [] 0 = some false := by rw [e_slices_Contains_f, BIG_eq]; decide +kernel
theorem ct1 : slices_Contains_f [0] 1 = some false := by rw [e_slices_Contains_f, BIG_eq]; decide +kernel
theorem ct2 : slices_Contains_f [0, 1] 2 = some false := by rw [e_slices_Contains_f, BIG_eq]; decide +kernel
section
variable {disks : List Disk}
theorem right_c (h3 : 3 ≤ disks.length) : chain_Right_f ch0 disks = some true := by
 unfold chain_Right_f
 obtain ⟨m, hm⟩ := big_add 4 (by omega)
 rw [hm]
 rw [chain_Right_L1, show decide ((0 : Int) < (ch0.servers.length : Int)) = true from rfl, cond_true, show idx ch0.servers (0 : Int) = some (0 : Int) from rfl, Option.bind_some, show decide ((0 : Int) < 0) = false from rfl, cond_false, cond_d, if_neg (by omega), chk_pos (by simp [ch0]), show ((ch0.servers.take (0 : Int).toNat).drop 0) = [] from rfl, ct0, Option.bind_some]
 unfold chain_Right_J2
 rw [cond_false, show IntKind.wrap .i64 (0 + 1) = 1 from rfl]
 rw [chain_Right_L1, show decide ((1 : Int) < (ch0.servers.length : Int)) = true from rfl, cond_true, show idx ch0.servers (1 : Int) = some (1 : Int) from rfl, Option.bind_some, show decide ((1 : Int) < 0) = false from rfl, cond_false, cond_d, if_neg (by omega), chk_pos (by simp [ch0]), show ((ch0.servers.take (1 : Int).toNat).drop 0) = [0] from rfl, ct1, Option.bind_some]
 unfold chain_Right_J2
 rw [cond_false, show IntKind.wrap .i64 (1 + 1) = 2 from rfl]
 rw [chain_Right_L1, show decide ((2 : Int) < (ch0.servers.length : Int)) = true from rfl, cond_true, show idx ch0.servers (2 : Int) = some (2 : Int) from rfl, Option.bind_some, show decide ((2 : Int) < 0) = false from rfl, cond_false, cond_d, if_neg (by omega), chk_pos (by simp [ch0]), show ((ch0.servers.take (2 : Int).toNat).drop 0) = [0, 1] from rfl, ct2, Option.bind_some]
 unfold chain_Right_J2
 rw [cond_false, show IntKind.wrap .i64 (2 + 1) = 3 from rfl]
 rw [chain_Right_L1, show decide ((3 : Int) < (ch0.servers.length : Int)) = false from rfl, cond_false]
 rfl
theorem job_ok (ha : AG disks) (h3 : 3 ≤ disks.length) (h6 : disks.length ≤ 1000) (hne : own3 disks ≠ []) : ∀ f ∈ look3 disks, ∃ k s : Nat, k < 3 ∧ s < 3 ∧ f.server = (s : Int) ∧ f.what ≠ 1 ∧ okd 1 (dd disks k) ∧ scrub_next_f ch0 (own3 disks) f.server = some (k : Int) ∧ chain_Patch_f ch0 disks (s : Int) = some (disks.set s (dn 1 (dat disks k)), 0) := by
 intro f hf
 have p0 := patch0 ha h3 h6
 have p1 := patch1 ha h3 h6
 have p2 := patch2 ha h3 h6
 unfold own3 at hne ⊢
 unfold look3 at hf
 by_cases a0 : okd 1 (dd disks 0) <;> by_cases a1 : okd 1 (dd disks 1) <;> by_cases a2 : okd 1 (dd disks 2) <;>
  simp only [a0, a1, a2, if_true, if_false, List.cons_append, List.nil_append, List.append_nil, List.mem_cons, List.not_mem_nil, or_false, ne_eq, not_true_eq_false] at hf hne p0 p1 p2 ⊢
 ·subst hf; exact ⟨1, 2, by omega, by omega, rfl, stv_1, a1, nx012, p2⟩
 ·subst hf; exact ⟨2, 1, by omega, by omega, rfl, stv_1, a2, nx021, p1⟩
 ·rcases hf with rfl | rfl
  ·exact ⟨0, 1, by omega, by omega, rfl, stv_1, a0, nx01, p1⟩
  ·exact ⟨0, 2, by omega, by omega, rfl, stv_1, a0, nx02, p2⟩
 ·subst hf; exact ⟨1, 0, by omega, by omega, rfl, stv_1, a1, nx120, p0⟩
 ·rcases hf with rfl | rfl
  ·exact ⟨1, 0, by omega, by omega, rfl, stv_1, a1, nx10, p0⟩
  ·exact ⟨1, 2, by omega, by omega, rfl, stv_1, a1, nx12, p2⟩
 ·rcases hf with rfl | rfl
  ·exact ⟨2, 0, by omega, by omega, rfl, stv_1, a2, nx20, p0⟩
  ·exact ⟨2, 1, by omega, by omega, rfl, stv_1, a2, nx21, p1⟩
theorem look_rise : (look3 disks).Pairwise (fun a b => a.server < b.server) ∧ (look3 disks).length ≤ 3 := by
 unfold look3
 by_cases a0 : okd 1 (dd disks 0) <;> by_cases a1 : okd 1 (dd disks 1) <;> by_cases a2 : okd 1 (dd disks 2) <;> simp [a0, a1, a2]
theorem plan_eq (ha : AG disks) (h3 : 3 ≤ disks.length) (h6 : disks.length ≤ 1000) : ∃ jobs lost, scrub_Plan_f disks [ch0] = some (jobs, lost) ∧ ((lost.length = 1 ∧ own3 disks = []) ∨ (lost = [] ∧ own3 disks ≠ [])) ∧ jobs.length ≤ 3 ∧
  ∀ j ∈ jobs, ∃ l, AG l ∧ l.length = disks.length ∧ scrub_Copy_f disks j = some (l, 0) ∧ chain_Patch_f ch0 disks j.to_ = some (l, 0) := by
 unfold scrub_Plan_f
 obtain ⟨m, hm⟩ := big_add 2 (by omega)
 rw [hm, scrub_Plan_L1, show decide ((0 : Int) < (([ch0] : List Chain).length : Int)) = true from rfl, cond_true, show idx [ch0] (0 : Int) = some ch0 from rfl, Option.bind_some, sintact_eq ha h3, Option.bind_some]
 by_cases hne : own3 disks = []
 ·rw [hne, show ((([] : List Int).length : Int) == 0) = true from rfl, cond_true, chk_pos (by simp)]
  unfold scrub_Plan_J2
  rw [show IntKind.wrap .i64 (0 + 1) = 1 from rfl, scrub_Plan_L1, show decide ((1 : Int) < (([ch0] : List Chain).length : Int)) = false from rfl, cond_false]
  exact ⟨_, _, rfl, .inl ⟨rfl, rfl⟩, by simp, fun j hj => by simp at hj⟩
 ·have hpos : ((own3 disks).length : Int) ≠ 0 := by
   have := List.length_pos_iff.2 hne; omega
  have hj := job_ok ha h3 h6 hne
  obtain ⟨hr, hlen⟩ := look_rise (disks := disks)
  rw [show (((own3 disks).length : Int) == 0) = false by simpa using hne, cond_false, slook_eq ha h3, Option.bind_some, sortF (by omega) hr, Option.bind_some, chk_pos rfl]
  classical
  let nx : Find → Nat := fun f => if h : f ∈ look3 disks then (hj f h).choose else 0
  have hn : ∀ f ∈ look3 disks, f.what ≠ 1 ∧ nx f < 3 ∧ okd 1 (dd disks (nx f)) ∧ scrub_next_f ch0 (own3 disks) f.server = some (nx f : Int) := fun f hf => by
   obtain ⟨s, k1, k2, k3, k4, k5, k6, k7⟩ := (hj f hf).choose_spec
   have e : nx f = (hj f hf).choose := dif_pos hf
   rw [e]
   exact ⟨k4, k1, k5, k6⟩
  have key := plan_L ha h3 (own := own3 disks) (kk := scrub_Plan_L1 [ch0] disks (m + 1)) (v1 := 0) (lost := []) (fs := look3 disks) (nx := nx) hn (by omega) BIG 0 [] (by rw [BIG_eq]; omega) (by omega) (by simp; omega)
  refine ⟨_, [], key.trans (?_ : _ = some ((look3 disks).map fun f => (⟨0, 1, (nx f : Int), f.server, ((own3 disks).length : Int), ((dat disks (nx f)).length : Int) + 1⟩ : Job), [])), .inr ⟨rfl, hne⟩, by rw [List.length_map]; exact hlen, fun j hj' => ?_⟩
  ·unfold scrub_Plan_J2
   rw [show IntKind.wrap .i64 (0 + 1) = 1 from rfl, scrub_Plan_L1, show decide ((1 : Int) < (([ch0] : List Chain).length : Int)) = false from rfl, cond_false]
   rfl
  ·obtain ⟨f, hf, rfl⟩ := List.mem_map.1 hj'
   obtain ⟨s, k1, k2, k3, k4, k5, k6, k7⟩ := (hj f hf).choose_spec
   have e : nx f = (hj f hf).choose := dif_pos hf
   rw [← e] at k1 k5 k6 k7
   have hg := okd_nc (dd_GD ha (show nx f < disks.length by omega)) k5
   refine ⟨disks.set s (dn 1 (dat disks (nx f))), ha.set (dn_GD (ver := 1) (by omega) (by omega) hg.2.2.2 hg.2.2.1), List.length_set .., ?_, ?_⟩
   ·rw [k3]; exact copy_eq ha h3 h6 k2 k1 k5 _ _
   ·show chain_Patch_f ch0 disks f.server = _
    rw [k3]; exact k7
theorem jobs_L (ha : AG disks) (h3 : 3 ≤ disks.length) (h6 : disks.length ≤ 1000) {jobs : List Job} {lost : List Int} {r : Bool} (hl : jobs.length ≤ 3) (hj : ∀ j ∈ jobs, ∃ l, AG l ∧ l.length = disks.length ∧ scrub_Copy_f disks j = some (l, 0) ∧ chain_Patch_f ch0 disks j.to_ = some (l, 0)) :
  ∀ m k, jobs.length < m + k → k ≤ jobs.length → top_TopPatched_L2 (jobs, lost) disks ch0 r m (k : Int) = top_TopPatched_J4 ch0 disks (jobs, lost) r := by
 intro m
 induction m with
 | zero => intro k h1 h2; omega
 | succ m ih =>
  intro k h1 h2
  rw [top_TopPatched_L2, cond_d]
  by_cases hk : k < jobs.length
  ·obtain ⟨l, l1, l2, l3, l4⟩ := hj jobs[k] (List.getElem_mem hk)
   rw [if_pos (by show (k : Int) < (jobs.length : Int); omega)]
   show (idx jobs (k : Int)).bind _ = _
   rw [idx_nat hk, Option.bind_some, l3, Option.bind_some, l4, Option.bind_some]
   simp only
   rw [show (((0 : Int) != 0) : Bool) = false from rfl, cond_false, cond_false, disks_same l1 (by omega), Option.bind_some]
   unfold top_TopPatched_J7
   rw [show (!true) = false from rfl, cond_false, w64_succ (by omega)]
   exact ih (k + 1) (by omega) (by omega)
  ·have : k = jobs.length := by omega
   subst this
   rw [if_neg (by show ¬ ((jobs.length : Int) < (jobs.length : Int)); omega)]
theorem last_L (ha : AG disks) (h3 : 3 ≤ disks.length) (h6 : disks.length ≤ 1000) {jobs : List Job} {lost : List Int} {r : Bool} (hl : (lost.length = 1 ∧ own3 disks = []) ∨ (lost = [] ∧ own3 disks ≠ [])) : top_TopPatched_J4 ch0 disks (jobs, lost) r = some r := by
 have hp : ∀ s : Nat, s < 3 → ∃ l e, chain_Patch_f ch0 disks (s : Int) = some (l, e) ∧ ((!((e == 260) == ((lost.length : Int) == 1))) || ((e != 0) && (e != 260))) = false := by
  intro s hs
  have p0 := patch0 ha h3 h6
  have p1 := patch1 ha h3 h6
  have p2 := patch2 ha h3 h6
  have hlo : lost.length = 1 ∧ own3 disks = [] ∨ lost.length = 0 ∧ own3 disks ≠ [] := hl.imp id fun h => ⟨by rw [h.1]; rfl, h.2⟩
  unfold own3 at hlo
  have hs' : s = 0 ∨ s = 1 ∨ s = 2 := by omega
  by_cases a0 : okd 1 (dd disks 0) <;> by_cases a1 : okd 1 (dd disks 1) <;> by_cases a2 : okd 1 (dd disks 2) <;>
   simp only [a0, a1, a2, if_true, if_false, List.cons_append, List.nil_append, List.append_nil, ne_eq, not_true_eq_false, and_false, or_false, false_or, and_true, reduceCtorEq, not_false_eq_true] at hlo p0 p1 p2 <;>
   rcases hs' with rfl | rfl | rfl <;> rw [hlo]
  all_goals first
   | exact ⟨_, _, p0, rfl⟩
   | exact ⟨_, _, p1, rfl⟩
   | exact ⟨_, _, p2, rfl⟩
 unfold top_TopPatched_J4
 have key : ∀ m k : Nat, 3 < m + k → k ≤ 3 → top_TopPatched_L1 ch0 disks (jobs, lost) r m (k : Int) = some r := by
  intro m
  induction m with
  | zero => intro k h1 h2; omega
  | succ m ih =>
   intro k h1 h2
   rw [top_TopPatched_L1, cond_d, show (ch0.servers.length : Int) = 3 from rfl]
   by_cases hk : k < 3
   ·obtain ⟨l, e, h4, h5⟩ := hp k hk
    rw [if_pos (by omega), srv_at hk, Option.bind_some, h4, Option.bind_some]
    unfold top_TopPatched_J6
    simp only
    rw [h5, cond_false, w64_succ (by omega)]
    exact ih (k + 1) (by omega) (by omega)
   ·rw [if_neg (by omega)]; rfl
 exact key BIG 0 (by rw [BIG_eq]; omega) (by omega)
theorem patched_J2 (ha : AG disks) (h3 : 3 ≤ disks.length) (h6 : disks.length ≤ 6) {r2 : List Disk × List Chain × Bool} (hr : r2.2.1 = [ch0]) : top_TopPatched_J2 ch0 r2 true disks = some true := by
 unfold top_TopPatched_J2
 rw [right_c h3, Option.bind_some, show (!true) = false from rfl, cond_false, hr, right_s, Option.bind_some, show (!true) = false from rfl, cond_false, cintact_eq ha h3, Option.bind_some, sintact_eq ha h3, Option.bind_some]
 have hol : (own3 disks).length ≤ 3 := by
  unfold own3
  by_cases a0 : okd 1 (dd disks 0) <;> by_cases a1 : okd 1 (dd disks 1) <;> by_cases a2 : okd 1 (dd disks 2) <;> simp [a0, a1, a2]
 rw [ints_same (by omega), Option.bind_some]
 unfold top_TopPatched_J3
 obtain ⟨jobs, lost, hp, hl, hjl, hj⟩ := plan_eq ha h3 (by omega)
 rw [show (!true) = false from rfl, cond_false, hr, hp, Option.bind_some]
 have := jobs_L ha h3 (by omega) (lost := lost) (r := true) hjl hj BIG 0 (by rw [BIG_eq]; omega) (Nat.zero_le _)
 exact this.trans (last_L ha h3 (by omega) hl)
end
theorem hurts_L {hurts : List HurtR14} (hh : ∀ h ∈ hurts, HurtR14.ok h) (hl : hurts.length ≤ 20) {r2 : List Disk × List Chain × Bool} (hr : r2.2.1 = [ch0]) : ∀ (m k : Nat) (disks : List Disk), AG disks → 3 ≤ disks.length → disks.length ≤ 6 → hurts.length < m + k → k ≤ hurts.length → top_TopPatched_L3 hurts ch0 r2 true m disks (k : Int) = some true := by
 intro m
 induction m with
 | zero => intro k disks _ _ _ h1 h2; omega
 | succ m ih =>
  intro k disks ha h3 h6 h1 h2
  rw [top_TopPatched_L3, cond_d]
  by_cases hk : k < hurts.length
  ·obtain ⟨l, l1, l2, l3⟩ := hurt_ex ha h3 h6 (hh hurts[k] (List.getElem_mem hk))
   rw [if_pos (by omega), idx_nat hk, Option.bind_some, l1, Option.bind_some, w64_succ (by omega)]
   exact ih (k + 1) l l2 (by omega) (by omega) (by omega) (by omega)
  ·rw [if_neg (by omega)]; exact patched_J2 ha h3 h6 hr
theorem P0_ok : Bs P0 ∧ P0.length ≤ 200 := by
 refine ⟨fun x hx => ?_, by decide⟩
 have : ∀ x ∈ P0, 0 ≤ x ∧ x < 256 := by decide
 exact this x hx
theorem farm_AG {n : Nat} : AG (farm n) := by
 intro d hd
 unfold farm at hd
 rcases List.mem_append.1 hd with h | h
 ·simp at h; subst h; exact .dk P0_ok.1 P0_ok.2
 ·rw [List.mem_replicate] at h; rw [h.2]; exact .inl rfl
theorem farm_len {n : Nat} (h : 3 ≤ n) : (farm n).length = n := by unfold farm; simp; omega
theorem many {x : Int} (h : okI .u8 x) : ∃ n : Nat, 3 ≤ n ∧ n ≤ 6 ∧ IntKind.wrap .i64 (3 + (Int.tmod (IntKind.wrap .i64 x) 4)) = (n : Int) := by
 simp only [okI] at h
 rw [w64 (x := x) (by omega) (by omega), Int.tmod_eq_emod_of_nonneg h.1, w64 (by omega) (by omega)]
 exact ⟨(3 + x % 4).toNat, by omega, by omega, by omega⟩
theorem TopPatched_true (y0 : Int) (o0 : okI .u8 y0) (y1 : List HurtR14) (o1 : ∀ y56 ∈ y1, HurtR14.ok y56) (y2 : List Int) (o2 : ∀ y22 ∈ y2, okI .u8 y22) (y3 : Int) (o3 : okI .u8 y3) : top_TopPatched_f y0 y1 y2 y3 = some true := by
 obtain ⟨n, h3, h6, hn⟩ := many o0
 unfold top_TopPatched_f
 rw [head_true, Option.bind_some, hn, farm_eq h3 h6, Option.bind_some]
 simp only
 unfold top_TopPatched_J1
 by_cases hc : ((decide (20 < (y1.length : Int))) || (decide (64 < (y2.length : Int)))) = true
 ·rw [hc, Bool.or_true, Bool.or_true, cond_true, cond_true]
 ·rw [Bool.not_eq_true] at hc
  rw [hc, show (!true || ((([ch0] : List Chain).length : Int) != 1 || false)) = false from rfl, cond_false]
  simp only [Bool.or_eq_false_iff, decide_eq_false_iff_not] at hc
  simp only
  rw [show idx [ch0] (0 : Int) = some ch0 from rfl, Option.bind_some]
  have hu : Int.tmod (IntKind.wrap .i64 y3) 4 = ((y3.toNat % 4 : Nat) : Int) := by
   simp only [okI] at o3
   rw [w64 (by omega) (by omega), Int.tmod_eq_emod_of_nonneg o3.1]
   omega
  have hfl := farm_len h3
  rw [hu, write_eq farm_AG (by omega) (by omega) (by omega) o2, Option.bind_some]
  have hwl := wrt_len (farm n) y2 (min (y3.toNat % 4) 3)
  simp only
  rw [show (((wrt (farm n) y2 (min (y3.toNat % 4) 3)).length : Int) != (n : Int)) = false by simp; omega, cond_false]
  exact hurts_L o1 (by omega) rfl BIG 0 _ (wrt_AG farm_AG (by omega) o2 _) (by omega) (by omega) (by rw [BIG_eq]; omega) (Nat.zero_le _)
end Go.Proofs.YtjflkcfafijhfaaGreat
/- TopPatched's call. -/
namespace Go.Proofs.YtjflkcfafijhfaaGreat
open Go.Ab Go.Kx Go.RowKit
theorem TopPatched_law (w : World) (x0 : Nat) (z0 : x0 < 256) (v1 : Value) (y1 : List HurtR14) (z1 : (Rep.slice rep60).rd w T [v1] y1) (v2 : Value) (y2 : List Int) (z2 : (Rep.slice (Rep.int .u8)).rd w T [v2] y2) (x3 : Nat) (z3 : x3 < 256) :
  Calls Tryz.prog 4 #[.int .u8 (x0 : Int), v1, v2, .int .u8 (x3 : Int)] w fun e W' => e = .returned (.bool true) ∧ Below w.heap.size w W' :=
 law_of (vs := [_, _, _, _]) (top_TopPatched_pc (TopPatched_true (x0 : Int) (by simp only [okI]; omega) y1 ((fun h => okr_slice h okr60) z1) y2 ((fun h => okr_slice h (fun h => okr_int h)) z2) (x3 : Int) (by simp only [okI]; omega))) trivial (rvs_cons (.int _ _) (rvs_cons (((brg_slice brg60)).val z1) (rvs_cons (((brg_slice (brg_int .u8))).val z2) (rvs_cons (.int _ _) rvs_nil))))
end Go.Proofs.YtjflkcfafijhfaaGreat

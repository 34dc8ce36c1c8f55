import Derived.Test.YtjflkcfafijhfaaGreatQ37
set_option linter.unusedSectionVars false
/- Disks of one page, and reading a copy, as plain laws. -/
set_option linter.unusedSimpArgs false
set_option linter.unusedVariables false
namespace Go.Proofs.YtjflkcfafijhfaaGreat
open Go.Ab Go.RowKit
def bl (data : List Int) : List Int := (blocks (data.map Int.toNat)).map fun n : Nat => (n : Int)
theorem blocksF_len : ∀ (k : Nat) (l : List Nat), (blocksF k l).length ≤ k
 | 0, _ => Nat.le_refl _
 | k + 1, l => by
  unfold blocksF
  split
  ·simp
  ·have := blocksF_len k (l.drop 16); simp; omega
theorem blocksF_16 : ∀ (k j : Nat) (l : List Nat), l.length ≤ 16 * j → (blocksF k l).length ≤ j
 | 0, j, _, _ => by simp [blocksF]
 | k + 1, j, l, h => by
  unfold blocksF
  split
  ·simp
  ·rename_i hne
   have hp : 0 < l.length := List.length_pos_iff.2 hne
   obtain ⟨j, rfl⟩ : ∃ j', j = j' + 1 := ⟨j - 1, by omega⟩
   have := blocksF_16 k j (l.drop 16) (by rw [List.length_drop]; omega)
   simp; omega
theorem blocksF_lt : ∀ (k : Nat) (l : List Nat), (∀ x ∈ l, x < 256) → ∀ n ∈ blocksF k l, n < 4294967296
 | 0, _, _, n, hn => by simp [blocksF] at hn
 | k + 1, l, h, n, hn => by
  unfold blocksF at hn
  split at hn
  ·simp at hn
  ·rcases List.mem_cons.1 hn with rfl | hn
   ·exact Plain.crc_lt (fun x hx => h x (List.mem_of_mem_take hx))
   ·exact blocksF_lt k (l.drop 16) (fun x hx => h x (List.mem_of_mem_drop hx)) n hn
theorem bl_len (data : List Int) : (bl data).length ≤ data.length := by
 unfold bl
 rw [List.length_map, blocksF_eq data.length _ (by simp)]
 exact blocksF_len _ _
theorem bl_16 {data : List Int} (h : data.length ≤ 64) : (bl data).length ≤ 4 := by
 unfold bl
 rw [List.length_map, blocksF_eq data.length _ (by simp)]
 exact blocksF_16 _ 4 _ (by simp; omega)
theorem bl_ok {data : List Int} (h : Bs data) : ∀ x ∈ bl data, okI .i64 x := by
 intro x hx
 unfold bl at hx
 rw [blocksF_eq data.length _ (by simp)] at hx
 obtain ⟨n, hn, rfl⟩ := List.mem_map.1 hx
 have := blocksF_lt _ _ (fun y hy => by
  obtain ⟨z, hz, rfl⟩ := List.mem_map.1 hy
  have := h z hz
  simp only [okI] at this
  omega) n hn
 simp only [okI]; omega
theorem blocks_eq {data : List Int} (h : Bs data) (hl : data.length ≤ 1000000) : sum_Blocks_f data = some (bl data) := by
 unfold sum_Blocks_f
 rw [chk_pos ⟨Bs_b8 h, hl⟩]; rfl
theorem check_L {r1 sums : List Int} (hr : r1.length ≤ 1000000) (hs : sums.length ≤ 1000000) : ∀ (m k : Nat), min r1.length sums.length < m + k → k ≤ min r1.length sums.length → r1.take k = sums.take k →
  ∃ r, sum_Check_L1 r1 sums m ((min r1.length sums.length : Nat) : Int) (k : Int) = some r ∧ (r = -1 ↔ sums = r1) := by
 intro m
 induction m with
 | zero => intro k h1 h2; omega
 | succ m ih =>
  intro k h1 h2 he
  rw [sum_Check_L1, cond_d]
  by_cases hk : k < min r1.length sums.length
  ·rw [if_pos (by omega), idx_nat (show k < r1.length by omega), Option.bind_some, idx_nat (show k < sums.length by omega), Option.bind_some]
   by_cases hx : r1[k] = sums[k]
   ·rw [show (r1[k] != sums[k]) = false by simp [hx], cond_false, w64_succ (by omega)]
    exact ih (k + 1) (by omega) (by omega) (by rw [take_snoc (by omega), take_snoc (by omega), he, hx])
   ·rw [show (r1[k] != sums[k]) = true by simp [hx], cond_true]
    refine ⟨_, rfl, ⟨fun h => by omega, fun h => ?_⟩⟩
    subst h
    exact absurd rfl hx
  ·have hk' : k = min r1.length sums.length := by omega
   rw [if_neg (by omega)]
   unfold sum_Check_J1
   by_cases hl : r1.length = sums.length
   ·rw [show ((r1.length : Int) != (sums.length : Int)) = false by simp [hl], cond_false]
    refine ⟨_, rfl, ⟨fun _ => ?_, fun _ => rfl⟩⟩
    rw [List.take_of_length_le (by omega), List.take_of_length_le (by omega)] at he
    exact he.symm
   ·rw [show ((r1.length : Int) != (sums.length : Int)) = true by simp; omega, cond_true]
    refine ⟨_, rfl, ⟨fun h => ?_, fun h => absurd (by rw [h]) hl⟩⟩
    split at h <;> omega
theorem check_eq {data sums : List Int} (h : Bs data) (hl : data.length ≤ 1000000) (hs : sums.length ≤ 1000000) : ∃ r, sum_Check_f data sums = some r ∧ (r = -1 ↔ sums = bl data) := by
 unfold sum_Check_f
 rw [blocks_eq h hl, Option.bind_some]
 have := bl_len data
 have key := check_L (r1 := bl data) (sums := sums) (by omega) hs BIG 0 (by rw [BIG_eq]; omega) (by omega) rfl
 have e : (if (sums.length : Int) < (((bl data).length : Nat) : Int) then (sums.length : Int) else (((bl data).length : Nat) : Int)) = ((min (bl data).length sums.length : Nat) : Int) := by split <;> omega
 rw [e]
 exact key
def mayB (c : Copy) : Bool := decide (0 ≤ c.id ∧ c.id < 200 ∧ 0 ≤ c.ver ∧ c.ver ≤ 1099511627776 ∧ c.data.length ≤ 64 ∧ c.sums = bl c.data)
theorem may_eq {c : Copy} (h : Bs c.data) (hl : c.data.length ≤ 1000000) (hs : c.sums.length ≤ 1000000) : chunk_may_f c = some (mayB c) := by
 unfold chunk_may_f chunk_within_f mayB
 rw [Option.bind_some]
 by_cases h1 : 0 ≤ c.id ∧ c.id < 200
 ·rw [show (decide (0 ≤ c.id) && decide (c.id < 200)) = true by simp [h1], cond_true, cond_d]
  by_cases h2 : 0 ≤ c.ver
  ·rw [if_pos h2, cond_d]
   by_cases h3 : c.ver ≤ 1099511627776
   ·rw [if_pos h3, cond_d]
    by_cases h4 : (c.data.length : Int) ≤ 64
    ·rw [if_pos h4]
     obtain ⟨r, hr, hi⟩ := check_eq h hl hs
     rw [hr, Option.bind_some]
     congr 1
     rw [Bool.eq_iff_iff, beq_iff_eq, hi, decide_eq_true_eq]
     exact ⟨fun e => ⟨h1.1, h1.2, h2, h3, by omega, e⟩, fun e => e.2.2.2.2.2⟩
    ·rw [if_neg h4]; congr 1; rw [eq_comm, decide_eq_false_iff_not]; rintro ⟨_, _, _, _, h, _⟩; omega
   ·rw [if_neg h3]; congr 1; rw [eq_comm, decide_eq_false_iff_not]; rintro ⟨_, _, _, h, _, _⟩; omega
  ·rw [if_neg h2]; congr 1; rw [eq_comm, decide_eq_false_iff_not]; rintro ⟨_, _, h, _, _, _⟩; omega
 ·rw [show (decide (0 ≤ c.id) && decide (c.id < 200)) = false by rw [Bool.eq_false_iff]; intro hh; simp at hh; exact h1 hh, cond_false]
  congr 1; rw [eq_comm, decide_eq_false_iff_not]; rintro ⟨ha, hb, _⟩; exact h1 ⟨ha, hb⟩
def nc (ver : Int) (data : List Int) : Copy := ⟨0, ver, data, bl data⟩
theorem mayB_iff {c : Copy} : mayB c = true ↔ 0 ≤ c.id ∧ c.id < 200 ∧ 0 ≤ c.ver ∧ c.ver ≤ 1099511627776 ∧ c.data.length ≤ 64 ∧ c.sums = bl c.data := by unfold mayB; rw [decide_eq_true_eq]
theorem may_SC {c : Copy} (h : mayB c = true) (hb : Bs c.data) : SC c := by
 obtain ⟨h1, h2, h3, h4, h5, h6⟩ := mayB_iff.1 h
 have := bl_16 h5
 exact ⟨by simp only [okI]; omega, by simp only [okI]; omega, hb, by omega, by rw [h6]; exact bl_ok hb, by rw [h6]; omega⟩
theorem may_len {c : Copy} (h : mayB c = true) (hb : Bs c.data) : 5 ≤ (pg c).length ∧ (pg c).length ≤ 200 := by
 have h0 := body_len (may_SC h hb)
 obtain ⟨h1, h2, h3, h4, h5, h6⟩ := mayB_iff.1 h
 have := bl_16 h5
 rw [h6] at h0
 unfold pg tailOf
 rw [List.length_append]
 simp only [List.length_cons, List.length_nil]
 omega
theorem nc_may {ver : Int} {data : List Int} (h0 : 0 ≤ ver) (h1 : ver ≤ 1099511627776) (hl : data.length ≤ 64) : mayB (nc ver data) = true := mayB_iff.2 ⟨by simp [nc], by simp [nc], h0, h1, hl, rfl⟩
theorem clone8 {l : List Int} (h : l.length ≤ 100000) : slices_Clone_108_f l = some l := by
 unfold slices_Clone_108_f
 exact nilq_of (fun e => by rw [e]) (chk_pos (by omega))
theorem bclone {l : List Int} (h : l.length ≤ 100000) : bytes_Clone_f l = some l := by
 unfold bytes_Clone_f
 exact nilq_of (fun e => by rw [e]) (chk_pos (by omega))
theorem pclone {l : List Page} (h : l.length ≤ 100000) : slices_Clone_74_f l = some l := by
 unfold slices_Clone_74_f
 exact nilq_of (fun e => by rw [e]) (chk_pos (by omega))
theorem dclone {l : List Disk} (h : l.length ≤ 100000) : slices_Clone_83_f l = some l := by
 unfold slices_Clone_83_f
 exact nilq_of (fun e => by rw [e]) (chk_pos (by omega))
theorem iclone {l : List Int} (h : l.length ≤ 100000) : slices_Clone_f l = some l := by
 unfold slices_Clone_f
 exact nilq_of (fun e => by rw [e]) (chk_pos (by omega))
theorem New_eq {ver : Int} {data : List Int} (h : Bs data) (hl : data.length ≤ 100000) : chunk_New_f 0 ver data = some (nc ver data) := by
 unfold chunk_New_f
 rw [clone8 hl, Option.bind_some, blocks_eq h (by omega), Option.bind_some]; rfl
def GD (d : Disk) : Prop := d = dk0 ∨ ∃ b, d = dk b ∧ Bs b ∧ b.length ≤ 200
theorem GD.dk {b : List Int} (h : Bs b) (hl : b.length ≤ 200) : GD (dk b) := .inr ⟨b, rfl, h, hl⟩
theorem GD.down {d : Disk} (h : GD d) : d.down = false := by rcases h with rfl | ⟨b, rfl, _⟩ <;> rfl
theorem GD.loose {d : Disk} (h : GD d) : d.loose = [] := by rcases h with rfl | ⟨b, rfl, _⟩ <;> rfl
def rd (d : Disk) : List Int × Int := match d.synced with
 | [] => ([], 41)
 | p :: _ => (p.data, 0)
theorem find_1 {p : Page} {f : Page → Option Bool} {b : Bool} (h : f p = some b) : disk_find_f [p] f = some (if b then 0 else -1) := by
 unfold disk_find_f slices_IndexFunc_119_f
 obtain ⟨m, hm⟩ := big_add 2 (by omega)
 rw [hm, slices_IndexFunc_119_L1, show decide ((0 : Int) < (([p] : List Page).length : Int)) = true from rfl, cond_true, show idx [p] 0 = some p from rfl, Option.bind_some, h, Option.bind_some]
 cases b
 ·rw [cond_false, show IntKind.wrap .i64 (0 + 1) = 1 from rfl, slices_IndexFunc_119_L1, show decide ((1 : Int) < (([p] : List Page).length : Int)) = false from rfl, cond_false]; rfl
 ·rw [cond_true]; rfl
theorem find_0 {f : Page → Option Bool} : disk_find_f [] f = some (-1) := by
 unfold disk_find_f slices_IndexFunc_119_f
 obtain ⟨m, hm⟩ := big_add 1 (by omega)
 rw [hm, slices_IndexFunc_119_L1, show decide ((0 : Int) < (([] : List Page).length : Int)) = false from rfl, cond_false]; rfl
theorem rev_1 {l : List Page} (h : l.length ≤ 1) : slices_Reverse_f l = some l := by
 unfold slices_Reverse_f
 obtain ⟨m, hm⟩ := big_add 1 (by omega)
 rw [w64 (by omega) (by omega), hm, slices_Reverse_L1, cond_d, if_neg (by omega)]
theorem may_page {at_ : Int} (h0 : 0 ≤ at_) (h1 : at_ < 1000) {data : List Int} : disk_may_f at_ data = some (decide (data.length ≤ 200)) := by
 unfold disk_may_f
 simp only [h0, h1, decide_true, Bool.true_and]
 congr 1
 rw [decide_eq_decide]; omega
theorem Read_dk0 {at_ : Int} (h0 : 0 ≤ at_) (h1 : at_ < 1000) : disk_Read_f dk0 at_ = some ([], 41) := by
 unfold disk_Read_f
 rw [show dk0.down = false from rfl, cond_false, may_page h0 h1, Option.bind_some, show (!decide (([] : List Int).length ≤ 200)) = false from rfl, cond_false]
 rw [show dk0.synced = [] from rfl, show dk0.loose = [] from rfl, catp2 (by simp), Option.bind_some, rev_1 (by simp), Option.bind_some, chk_pos rfl, show ([] : List Page) ++ [] = [] from rfl, find_0, Option.bind_some]
 rfl
theorem Read_dk {b : List Int} (hl : b.length ≤ 200) {at_ : Int} (h0 : 0 ≤ at_) (h1 : at_ < 1000) : disk_Read_f (dk b) at_ = some (if at_ = 0 then (b, 0) else ([], 41)) := by
 unfold disk_Read_f
 rw [show (dk b).down = false from rfl, cond_false, may_page h0 h1, Option.bind_some, show (!decide (([] : List Int).length ≤ 200)) = false from rfl, cond_false]
 rw [show (dk b).synced = [⟨0, b⟩] from rfl, show (dk b).loose = [] from rfl, catp2 (by simp), Option.bind_some, List.append_nil, rev_1 (by simp), Option.bind_some, chk_pos rfl, find_1 (b := (0 : Int) == at_) rfl, Option.bind_some]
 by_cases e : at_ = 0
 ·subst e
  rw [if_pos rfl, if_pos (by rfl), show decide ((0 : Int) < 0) = false from rfl, cond_false, show idx [(⟨0, b⟩ : Page)] 0 = some ⟨0, b⟩ from rfl, Option.bind_some]
  show (bytes_Clone_f b).bind _ = _
  rw [bclone (by omega)]; rfl
 ·rw [if_neg e, if_neg (by simp; omega)]; rfl
theorem there_eq {d : Disk} (h : GD d) : chunk_there_f d 0 = some (if (rd d).1 = [] then ([], 41) else ((rd d).1, 0)) := by
 unfold chunk_there_f chunk_within_f
 rw [Option.bind_some, show (!(decide ((0 : Int) ≤ 0) && decide ((0 : Int) < 200))) = false from rfl, cond_false]
 rcases h with rfl | ⟨b, rfl, hb, hl⟩
 ·rw [Read_dk0 (by omega) (by omega), Option.bind_some]; rfl
 ·rw [Read_dk hl (by omega) (by omega), Option.bind_some, if_pos rfl]
  unfold chunk_there_J1
  show (bif (((0 : Int) == 0) && ((b.length : Int) == 0)) then _ else _) = some (if b = [] then _ else (b, 0))
  cases b with
  | nil => rfl
  | cons x b => rw [show (((0 : Int) == 0) && (((x :: b).length : Int) == 0)) = false by simp; omega, cond_false, if_neg (by simp)]
theorem there_other {d : Disk} (h : GD d) {id : Int} (h0 : 0 < id) (h1 : id < 200) : chunk_there_f d id = some ([], 41) := by
 unfold chunk_there_f chunk_within_f
 rw [Option.bind_some, show (!(decide ((0 : Int) ≤ id) && decide (id < 200))) = false by simp; omega, cond_false]
 rcases h with rfl | ⟨b, rfl, hb, hl⟩
 ·rw [Read_dk0 (by omega) (by omega), Option.bind_some]; rfl
 ·rw [Read_dk hl (by omega) (by omega), Option.bind_some, if_neg (by omega)]; rfl
theorem Write_eq {d : Disk} (h : GD d) {data : List Int} (hl : data.length ≤ 200) : disk_Write_f d 0 data = some (⟨d.synced, [⟨0, data⟩], false⟩, 0) := by
 unfold disk_Write_f
 rw [h.down, cond_false, may_page (by omega) (by omega), Option.bind_some, show (!decide (data.length ≤ 200)) = false by simp [hl], cond_false, h.loose, pclone (by simp), Option.bind_some, bclone (by omega), Option.bind_some, chk_pos (by simp)]
 rfl
theorem laid_one {d : Disk} (h : GD d) (data : List Int) : disk_laid_f d.synced [⟨0, data⟩] = some [⟨0, data⟩] := by
 unfold disk_laid_f
 rcases h with rfl | ⟨b, rfl, hb, hl⟩
 ·rw [show dk0.synced = [] from rfl, catp2 (by simp), Option.bind_some, chk_pos ⟨by simp, rfl⟩]; rfl
 ·rw [show (dk b).synced = [⟨0, b⟩] from rfl, catp2 (by simp), Option.bind_some, chk_pos ⟨by simp, rfl⟩]; rfl
theorem Sync_wr {d : Disk} (h : GD d) (data : List Int) : disk_Sync_f ⟨d.synced, [⟨0, data⟩], false⟩ = some (dk data, 0) := by
 unfold disk_Sync_f
 show (bif false then _ else _) = _
 rw [cond_false, laid_one h, Option.bind_some]; rfl
theorem Put_may {d : Disk} (h : GD d) {c : Copy} (hm : mayB c = true) (hb : Bs c.data) (h0 : c.id = 0) : chunk_Put_f d c = some (⟨d.synced, [⟨0, pg c⟩], false⟩, 0) := by
 have hs := may_SC hm hb
 unfold chunk_Put_f
 rw [may_eq hb (by have := hs.dl; omega) (by have := hs.sl; omega), hm, Option.bind_some, show (!true) = false from rfl, cond_false, page_eq hs, Option.bind_some, h0, Write_eq h (may_len hm hb).2, Option.bind_some]
theorem Lose_eq {d : Disk} (h : GD d) : chunk_Lose_f d 0 = some (if (rd d).1 = [] then (d, 41) else (⟨d.synced, [⟨0, []⟩], false⟩, 0)) := by
 unfold chunk_Lose_f
 rw [there_eq h, Option.bind_some]
 by_cases e : (rd d).1 = []
 ·rw [if_pos e, if_pos e]; rfl
 ·rw [if_neg e, if_neg e, Write_eq h (by simp)]; rfl
end Go.Proofs.YtjflkcfafijhfaaGreat
/- Reading a copy of a disk, as a plain law. -/
set_option linter.unusedSimpArgs false
set_option linter.unusedVariables false
namespace Go.Proofs.YtjflkcfafijhfaaGreat
open Go.Ab Go.RowKit
theorem int_ex {b : List Int} (g : G b) (bad : Bool) : ∃ v b' bad', chunk_reader_int_f ⟨b, bad⟩ = some (v, ⟨b', bad'⟩) ∧ G b' ∧ b'.length ≤ b.length := by
 unfold chunk_reader_int_f chunk_take_132_f
 rw [pRead_eq g.1 g.2, Option.bind_some]
 unfold chunk_take_132_J1
 cases h : rI b with
 | ok v r =>
  have hg := rI_G g h
  simp only [T3]
  cases bad
  ·rw [show ((false || ((0 : Int) != 0)) : Bool) = false from rfl, cond_false]
   exact ⟨_, _, _, rfl, hg.1, by have := hg.2.1; omega⟩
  ·exact ⟨_, _, _, rfl, g, Nat.le_refl _⟩
 | no e =>
  have : (bad || ((T3 (0 : Int) (R.no e)).2.2 != 0)) = true := by simp only [T3, ne0 (rI_no h), Bool.or_true]
  rw [this, cond_true]
  exact ⟨_, _, _, rfl, g, Nat.le_refl _⟩
theorem str_ex {b : List Int} (g : G b) (bad : Bool) : ∃ v b' bad', chunk_take_f ⟨b, bad⟩ pack_ReadStr_f = some (v, ⟨b', bad'⟩) ∧ v.size ≤ b.length ∧ G b' ∧ b'.length ≤ b.length := by
 unfold chunk_take_f
 rw [pReadStr_eq g, Option.bind_some]
 unfold chunk_take_J1
 rcases str_c g with ⟨s, r, h1, h2, h3, h4, h5⟩ | ⟨e, x, h1, h2, h3⟩
 ·rw [h1]
  simp only [T3]
  cases bad
  ·rw [show ((false || ((0 : Int) != 0)) : Bool) = false from rfl, cond_false]
   exact ⟨_, _, _, rfl, h2, h3, by omega⟩
  ·exact ⟨_, _, _, rfl, Nat.zero_le _, g, Nat.le_refl _⟩
 ·rw [h1]
  have : (bad || ((T3 E0 (R.no e)).2.2 != 0)) = true := by simp only [T3, ne0 h2, Bool.or_true]
  rw [this, cond_true]
  exact ⟨_, _, _, rfl, Nat.zero_le _, g, Nat.le_refl _⟩
theorem pInts_c {b : List Int} (g : G b) : (∃ l r, pInts b = .ok l r ∧ l.length ≤ b.length ∧ G r) ∨ (∃ e, pInts b = .no e ∧ (e = 10 ∨ e = 11)) := by
 unfold pInts
 rcases cnt_c g with ⟨n, r, h1, h2, h3, h4, h5⟩ | ⟨e, x, h1, h2, h3⟩
 ·rw [h1]
  simp only [R.andThen]
  have no : ∀ (k : Nat) (b : List Int) e, pN rI k b = .no e → e = 10 ∨ e = 11 := by
   intro k
   induction k with
   | zero => intro b e h; cases h
   | succ k ih =>
    intro b e h
    unfold pN at h
    cases h1 : rI b with
    | no e' => rw [h1] at h; simp only [R.andThen] at h; injection h with h; subst h; exact rI_no h1
    | ok x r1 =>
     rw [h1] at h
     simp only [R.andThen] at h
     cases h2 : pN rI k r1 with
     | no e' => rw [h2] at h; simp only [R.andThen] at h; injection h with h; subst h; exact ih r1 _ h2
     | ok xs r2 => rw [h2] at h; cases h
  cases h : pN rI n r with
  | ok l r' =>
   have := pN_G (fun b v r hb h => (rI_G hb h).1) n r l r' h3 h
   exact .inl ⟨l, r', rfl, by omega, this.1⟩
  | no e => exact .inr ⟨e, rfl, no n r e h⟩
 ·rw [h1]
  exact .inr ⟨e, rfl, h2⟩
theorem ints_ex {b : List Int} (g : G b) (bad : Bool) : ∃ v b' bad', chunk_take_92_f ⟨b, bad⟩ pack_ReadInts_f = some (v, ⟨b', bad'⟩) ∧ v.length ≤ b.length := by
 unfold chunk_take_92_f
 rw [pReadInts_eq g, Option.bind_some]
 unfold chunk_take_92_J1
 rcases pInts_c g with ⟨s, r, h1, h2, h3⟩ | ⟨e, h1, h2⟩
 ·rw [h1]
  simp only [T3]
  cases bad
  ·rw [show ((false || ((0 : Int) != 0)) : Bool) = false from rfl, cond_false]
   exact ⟨_, _, _, rfl, h2⟩
  ·exact ⟨_, _, _, rfl, Nat.zero_le _⟩
 ·rw [h1]
  have : (bad || ((T3 ([] : List Int) (R.no e)).2.2 != 0)) = true := by simp only [T3, ne0 h2, Bool.or_true]
  rw [this, cond_true]
  exact ⟨_, _, _, rfl, Nat.zero_le _⟩
theorem copy_ex {b : List Int} (g : G b) : ∃ c ok r, chunk_reader_copy_f ⟨b, false⟩ = some (c, ok, r) ∧ Bs c.data ∧ c.data.length ≤ b.length ∧ c.sums.length ≤ b.length := by
 have hg := g.2
 unfold chunk_reader_copy_f
 obtain ⟨v1, b1, e1, h1, g1, l1⟩ := int_ex g false
 rw [h1, Option.bind_some]
 obtain ⟨v2, b2, e2, h2, g2, l2⟩ := int_ex g1 e1
 simp only
 rw [h2, Option.bind_some]
 obtain ⟨v3, b3, e3, h3, s3, g3, l3⟩ := str_ex g2 e2
 simp only
 rw [h3, Option.bind_some, chk_pos (by simp only; omega)]
 obtain ⟨v4, b4, e4, h4, s4⟩ := ints_ex g3 e3
 simp only
 rw [h4, Option.bind_some]
 cases e4
 ·exact ⟨_, _, _, rfl, strB_ok _, by simp only [strBytes_len]; omega, by simp only; omega⟩
 ·exact ⟨_, _, _, rfl, strB_ok _, by simp only [strBytes_len]; omega, by simp only; omega⟩
theorem copy_rt {c : Copy} (h : SC c) : chunk_reader_copy_f ⟨body c, false⟩ = some (c, true, ⟨[], false⟩) := by
 have hd := h.dl
 have hs := h.sl
 have hbl := body_len h
 have gb : G (body c) := ⟨body_ok h, by omega⟩
 unfold chunk_reader_copy_f chunk_reader_int_f chunk_take_132_f
 simp only
 have g1 : G (num c.ver ++ (str (strOfNums c.data) ++ ints c.sums)) := ⟨fun x hx => gb.1 x (by unfold body; rw [List.mem_append]; exact .inr hx), by have := gb.2; unfold body at this; rw [List.length_append] at this; omega⟩
 have g2 : G (str (strOfNums c.data) ++ ints c.sums) := ⟨fun x hx => g1.1 x (by rw [List.mem_append]; exact .inr hx), by have := g1.2; rw [List.length_append] at this; omega⟩
 have g3 : G (ints c.sums) := ⟨fun x hx => g2.1 x (by rw [List.mem_append]; exact .inr hx), by have := g2.2; rw [List.length_append] at this; omega⟩
 rw [pRead_eq gb.1 gb.2, Option.bind_some]
 unfold body
 rw [num_read h.id]
 simp only [T3, chunk_take_132_J1]
 rw [show ((false || ((0 : Int) != 0)) : Bool) = false from rfl, cond_false]
 simp only [Option.bind_some]
 rw [pRead_eq g1.1 g1.2, Option.bind_some, num_read h.ver]
 simp only [T3, chunk_take_132_J1]
 rw [show ((false || ((0 : Int) != 0)) : Bool) = false from rfl, cond_false, Option.bind_some, Option.bind_some]
 unfold chunk_take_f
 simp only
 rw [pReadStr_eq g2, Option.bind_some, (cod_str (by rw [nums_size]; omega)).rt]
 simp only [T3, chunk_take_J1]
 rw [show ((false || ((0 : Int) != 0)) : Bool) = false from rfl, cond_false, Option.bind_some, chk_pos (by simp only [nums_size]; omega)]
 unfold chunk_take_92_f
 simp only
 rw [pReadInts_eq g3, Option.bind_some, (cod_ints h.sums (by omega)).whole]
 simp only [T3, chunk_take_92_J1]
 rw [show ((false || ((0 : Int) != 0)) : Bool) = false from rfl, cond_false, Option.bind_some]
 simp only [strB_nums h.data]
 rfl
theorem beq_bytes {a b : List Int} (ha : Bs a) (hb : Bs b) : bytes_Equal_f a b = some (decide (a = b)) := by
 unfold bytes_Equal_f
 congr 1
 rw [tl_eq, decide_eq_decide]
 exact ⟨fun h => by rw [← strB_nums ha, ← strB_nums hb, h], fun h => by rw [h]⟩
theorem get_ex {d : Disk} (h : GD d) : ∃ x e, chunk_Get_f d 0 = some (x, e) ∧ (e = 0 → mayB x = true ∧ x.id = 0 ∧ Bs x.data ∧ d = dk (pg x)) := by
 unfold chunk_Get_f
 rw [there_eq h, Option.bind_some]
 by_cases he : (rd d).1 = []
 ·rw [if_pos he]
  exact ⟨_, _, rfl, fun e => by cases e⟩
 ·rw [if_neg he]
  rcases h with rfl | ⟨b, rfl, hb, hl⟩
  ·exact absurd rfl he
  ·have e1 : (rd (dk b)).1 = b := rfl
   rw [e1] at he ⊢
   simp only
   rw [show (((0 : Int) != 0) : Bool) = false from rfl, cond_false, cond_d]
   by_cases h4 : (b.length : Int) < 4
   ·rw [if_pos h4]; exact ⟨_, _, rfl, fun e => by cases e⟩
   ·rw [if_neg h4, w64 (by omega) (by omega), chk_pos (by omega), List.drop_zero]
    have gt : G (b.take ((b.length : Int) - 4).toNat) := ⟨hb.take _, by rw [List.length_take]; omega⟩
    obtain ⟨c, ok, r, hc, hcd, hcl, hcs⟩ := copy_ex gt
    rw [List.length_take] at hcl hcs
    rw [hc, Option.bind_some]
    simp only
    cases ok
    ·exact ⟨_, _, rfl, fun e => by cases e⟩
    ·rw [show (!true) = false from rfl, cond_false, may_eq hcd (by omega) (by omega), Option.bind_some]
     cases hm : mayB c
     ·exact ⟨_, _, rfl, fun e => by cases e⟩
     ·rw [show (!true) = false from rfl, cond_false]
      by_cases hi : c.id = 0
      ·rw [show (c.id != 0) = false by simp [hi], cond_false, page_eq (may_SC hm hcd), Option.bind_some, beq_bytes (pg_ok (may_SC hm hcd)) hb, Option.bind_some]
       by_cases hp : pg c = b
       ·rw [decide_eq_true hp]
        exact ⟨_, _, rfl, fun _ => ⟨hm, hi, hcd, by rw [hp]⟩⟩
       ·rw [decide_eq_false hp]
        exact ⟨_, _, rfl, fun e => by cases e⟩
      ·rw [show (c.id != 0) = true by simp [hi], cond_true]
       exact ⟨_, _, rfl, fun e => by cases e⟩
theorem get_pg {c : Copy} (hm : mayB c = true) (hb : Bs c.data) (hi : c.id = 0) : chunk_Get_f (dk (pg c)) 0 = some (c, 0) := by
 have hs := may_SC hm hb
 have hl := may_len hm hb
 have hd := hs.dl
 have hsl := hs.sl
 unfold chunk_Get_f
 rw [there_eq (.dk (pg_ok hs) hl.2), Option.bind_some]
 have e1 : (rd (dk (pg c))).1 = pg c := rfl
 rw [e1, if_neg (fun h => by rw [h] at hl; simp at hl)]
 simp only
 rw [show (((0 : Int) != 0) : Bool) = false from rfl, cond_false, cond_d, if_neg (by omega), w64 (by omega) (by omega), chk_pos (by omega), List.drop_zero]
 have e2 : (pg c).take (((pg c).length : Int) - 4).toNat = body c := by
  have : (((pg c).length : Int) - 4).toNat = (body c).length := by unfold pg tailOf; simp only [List.length_append, List.length_cons, List.length_nil]; omega
  rw [this]; unfold pg; exact List.take_left
 rw [e2, copy_rt hs, Option.bind_some]
 simp only
 rw [show (!true) = false from rfl, cond_false, may_eq hb (by omega) (by omega), hm, Option.bind_some, show (!true) = false from rfl, cond_false, show (c.id != 0) = false by simp [hi], cond_false, page_eq hs, Option.bind_some, beq_bytes (pg_ok hs) (pg_ok hs), Option.bind_some, decide_eq_true rfl]
 rfl
end Go.Proofs.YtjflkcfafijhfaaGreat

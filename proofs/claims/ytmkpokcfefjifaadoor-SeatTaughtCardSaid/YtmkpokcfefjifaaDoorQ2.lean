import Derived.Test.YtmkpokcfefjifaaDoorQ1
import Derived.Test.YtmkpokcfefjifaaDoorF4
set_option linter.unusedSectionVars false
/- What the seat's machine does, in plain words: what is sent, what is committed, who leads. -/
set_option linter.unusedSimpArgs false
set_option linter.unusedVariables false
namespace Go.Proofs.YtmkpokcfefjifaaDoor
open Go.Ab Go.RowKit
theorem bind_of {α β : Type} {x : Option α} {a : α} {f : α → Option β} {r : Option β} (h : x = some a) (k : f a = r) : x.bind f = r := by rw [h]; exact k
theorem idx_getD {β : Type} [Inhabited β] {l : List β} {k : Nat} (h : k < l.length) : idx l (k : Int) = some (l.getD k default) := by
  rw [idx_nat h]; congr 1; rw [List.getD_eq_getElem?_getD, List.getElem?_eq_getElem h]; rfl
theorem idx_i {l : List Int} {k : Nat} (h : k < l.length) : idx l (k : Int) = some (l.getD k 0) := idx_getD h
theorem index2_L {l : List Int} {x : Int} (hl : l.length ≤ 1000000) : ∀ m k, l.length < m + k → k ≤ l.length → slices_Index_L1 l x m (k : Int) = some (if x ∈ l.drop k then ((k + (l.drop k).idxOf x : Nat) : Int) else -1) := by
  intro m
  induction m with
  | zero => intro k h1 h2; omega
  | succ m ih =>
    intro k h1 h2
    rw [slices_Index_L1, cond_d]
    by_cases hk : k < l.length
    · rw [if_pos (by omega), idx_nat hk, Option.bind_some, w64_succ (by omega), drop_cons hk, ih (k + 1) (by omega) (by omega)]
      by_cases hx : x = l[k]
      · rw [← hx]; simp
      · have h' : (x == l[k]) = false := by simpa using hx
        rw [h', cond_false, List.idxOf_cons, show (l[k] == x) = false by simpa using fun e : l[k] = x => hx e.symm, cond_false]
        simp only [List.mem_cons, hx, false_or]
        split
        · congr 2; omega
        · rfl
    · rw [if_neg (by omega), List.drop_of_length_le (by omega)]
      simp [slices_Index_J1]
theorem index_eq {l : List Int} {x : Int} (hl : l.length ≤ 1000000) (hx : x ∈ l) : slices_Index_f l x = some ((l.idxOf x : Nat) : Int) := by
  unfold slices_Index_f
  have := index2_L (x := x) hl BIG 0 (by rw [BIG_eq]; omega) (by omega)
  rw [List.drop_zero, if_pos hx, Nat.zero_add] at this
  exact this
theorem own_eq {m : Machine} (hl : m.seat.peers.length ≤ 1000000) (hx : m.seat.id ∈ m.seat.peers) : seat_machine_own_f m = some ((m.seat.peers.idxOf m.seat.id : Nat) : Int) := by
  unfold seat_machine_own_f
  rw [index_eq hl hx]; rfl
theorem clone57_eq {l : List Int} (hl : l.length ≤ 1000000) : slices_Clone_57_f l = some l := by
  unfold slices_Clone_57_f
  rw [chk_pos (by omega), List.nil_append]
  exact nilq_of (fun h => by rw [h]) rfl
theorem clone56_eq {l : List Int} (hl : l.length ≤ 1000000) : slices_Clone_56_f l = some l := by
  unfold slices_Clone_56_f
  rw [chk_pos (by omega), List.nil_append]
  exact nilq_of (fun h => by rw [h]) rfl
theorem send_eq {m : Machine} {to kind : Int} {d n : List Int} (h : m.out.length ≤ 1000000) : seat_machine_send_f m to kind d n = some ⟨m.seat, m.out ++ [⟨m.seat.id, to, kind, n, d⟩]⟩ := by
  unfold seat_machine_send_f
  rw [chk_pos (by omega)]
theorem last_eq {m : Machine} (h : m.seat.log.length ≤ 1000) : seat_machine_last_f m = some (tm m.seat.log m.seat.log.length) := by
  unfold seat_machine_last_f
  rw [cond_d]
  by_cases h0 : m.seat.log.length = 0
  · rw [if_neg (by omega)]; simp [tm, h0]
  · rw [if_pos (by omega), idx_pred h0 (Nat.le_refl _) h, Option.bind_some]; simp [tm, h0]
/-! entries that are sent -/
def numsE (es : List Entry) : List Int := es.flatMap fun e => [e.term, (e.data.length : Int)]
def dataE (es : List Entry) : List Int := es.flatMap fun e => e.data
def sentE (s : Seat) (i : Nat) : List Entry := (s.log.drop (s.next.getD i 0 - 1).toNat).take 8
def putM (s : Seat) (i : Nat) : Msg :=
  ⟨s.id, s.peers.getD i 0, 3, [s.term, s.next.getD i 0 - 1, tm s.log (s.next.getD i 0 - 1).toNat, s.commit] ++ numsE (sentE s i), dataE (sentE s i)⟩
theorem put2_L {m : Machine} {i : Nat} (hi : i < m.seat.peers.length) (ho : m.out.length ≤ 1000000) {v : List Entry} (hv : v.length ≤ 8) (hd : ∀ e ∈ v, e.data.length ≤ 1000) :
    ∀ u k (nums data : List Int), v.length < u + k → k ≤ v.length → nums.length ≤ 4 + 2 * k → data.length ≤ 1000 * k →
    seat_machine_put_L1 m (i : Int) u nums data v (v.length : Int) (k : Int) = some ⟨m.seat, m.out ++ [⟨m.seat.id, m.seat.peers.getD i 0, 3, nums ++ numsE (v.drop k), data ++ dataE (v.drop k)⟩]⟩ := by
  intro u
  induction u with
  | zero => intro k nums data h1 h2; omega
  | succ u ih =>
    intro k nums data h1 h2 h3 h4
    rw [seat_machine_put_L1, cond_d]
    by_cases hk : k < v.length
    · have := hd _ (List.getElem_mem hk)
      rw [if_pos (by omega), idx_nat hk, Option.bind_some, chk_pos (by omega), chk_pos (by omega), w64_succ (by omega), ih (k + 1) _ _ (by omega) (by omega) (by simp; omega) (by simp; omega), drop_cons hk]
      simp only [numsE, dataE, List.flatMap_cons, List.append_assoc, List.cons_append, List.nil_append]
    · rw [if_neg (by omega), List.drop_of_length_le (by omega)]
      unfold seat_machine_put_J2
      rw [idx_i hi, Option.bind_some, send_eq ho]
      simp [numsE, dataE]
theorem mput_eq {m : Machine} {i : Nat} (hi : i < m.seat.peers.length) (hn : i < m.seat.next.length) (ho : m.out.length ≤ 1000000) (hl : m.seat.log.length ≤ 1000) (hd : ∀ e ∈ m.seat.log, e.data.length ≤ 1000)
    (h1 : 1 ≤ m.seat.next.getD i 0) (h2 : m.seat.next.getD i 0 ≤ m.seat.log.length + 1) : seat_machine_put_f m (i : Int) = some ⟨m.seat, m.out ++ [putM m.seat i]⟩ := by
  unfold seat_machine_put_f putM sentE
  rw [idx_i hn, Option.bind_some]
  generalize m.seat.next.getD i 0 = x at h1 h2
  obtain ⟨a, rfl⟩ : ∃ a : Nat, x = (a : Int) + 1 := ⟨(x - 1).toNat, by omega⟩
  have e1 : IntKind.wrap .i64 (((a : Int) + 1) - 1) = (a : Int) := by rw [w64 (by omega) (by omega)]; omega
  have e8 : IntKind.wrap .i64 ((a : Int) + 8) = (a : Int) + 8 := w64 (by omega) (by omega)
  have ea : ((a : Int) + 1 - 1).toNat = a := by omega
  have e0 : ((a : Int) + 1 - 1) = (a : Int) := by omega
  rw [e1, ea, e0, cond_d]
  have J : ∀ nums : List Int, nums.length = 4 → seat_machine_put_J1 m (i : Int) (a : Int) nums = some ⟨m.seat, m.out ++ [⟨m.seat.id, m.seat.peers.getD i 0, 3, nums ++ numsE ((m.seat.log.drop a).take 8), dataE ((m.seat.log.drop a).take 8)⟩]⟩ := by
    intro nums hnums
    unfold seat_machine_put_J1
    rw [e8]
    have es : (m.seat.log.take (if (m.seat.log.length : Int) < (a : Int) + 8 then (m.seat.log.length : Int) else (a : Int) + 8).toNat).drop (a : Int).toNat = (m.seat.log.drop a).take 8 := by
      rw [Int.toNat_natCast, List.drop_take]
      split
      · rw [Int.toNat_natCast, List.take_of_length_le (i := 8) (by simp; omega)]; exact List.take_of_length_le (by simp)
      · have : ((a : Int) + 8).toNat - a = 8 := by omega
        rw [this]
    rw [es, chk_pos (by split <;> omega)]
    have := put2_L (m := m) hi ho (v := (m.seat.log.drop a).take 8) (by simp; omega) (fun e he => hd e (List.mem_of_mem_drop (List.mem_of_mem_take he))) BIG 0 nums [] (by rw [BIG_eq]; simp; omega) (by omega) (by omega) (by simp)
    simpa using this
  by_cases h0 : a = 0
  · rw [if_neg (by omega), J _ rfl]
    simp [tm, h0]
  · rw [if_pos (by omega), idx_pred h0 (by omega) hl, Option.bind_some]
    show (idx _ ((2 : Nat) : Int)).bind _ = _
    rw [idx_nat (by simp), Option.bind_some, J _ (by simp)]
    simp [tm, h0]
/-- what a leader sends to all -/
def allFrom (s : Seat) (k : Nat) : List Msg := ((List.range' k (s.peers.length - k)).filter fun i => s.peers.getD i 0 != s.id).map (putM s)
def allM (s : Seat) : List Msg := allFrom s 0
theorem all_L {m : Machine} (hp : m.seat.peers.length ≤ 1000) (hn : m.seat.next.length = m.seat.peers.length) (hl : m.seat.log.length ≤ 1000) (hd : ∀ e ∈ m.seat.log, e.data.length ≤ 1000)
    (hx : ∀ i < m.seat.peers.length, 1 ≤ m.seat.next.getD i 0 ∧ m.seat.next.getD i 0 ≤ m.seat.log.length + 1) : ∀ u k out, m.seat.peers.length < u + k → k ≤ m.seat.peers.length → out.length ≤ 1000 + k →
    seat_machine_all_put_L1 m u m.seat.id m.seat.peers m.seat.term m.seat.voted m.seat.role m.seat.log m.seat.commit m.seat.votes m.seat.next m.seat.match_ out (k : Int) = some ⟨m.seat, out ++ allFrom m.seat k⟩ := by
  intro u
  induction u with
  | zero => intro k out h1 h2; omega
  | succ u ih =>
    intro k out h1 h2 h3
    rw [seat_machine_all_put_L1, cond_d]
    by_cases hk : k < m.seat.peers.length
    · rw [if_pos (by omega), idx_i hk, Option.bind_some]
      have ex : allFrom m.seat k = if m.seat.peers.getD k 0 != m.seat.id then putM m.seat k :: allFrom m.seat (k + 1) else allFrom m.seat (k + 1) := by
        unfold allFrom
        rw [show m.seat.peers.length - k = (m.seat.peers.length - (k + 1)) + 1 by omega, List.range'_succ, List.filter_cons]
        split <;> simp_all
      rw [ex]
      unfold seat_machine_all_put_J1
      cases hc : (m.seat.peers.getD k 0 != m.seat.id)
      · rw [cond_false, w64_succ (by omega), ih (k + 1) out (by omega) (by omega) (by omega)]; rfl
      · rw [cond_true]
        have hs : (⟨(⟨m.seat.id, m.seat.peers, m.seat.term, m.seat.voted, m.seat.role, m.seat.log, m.seat.commit, m.seat.votes, m.seat.next, m.seat.match_⟩ : Seat), out⟩ : Machine) = ⟨m.seat, out⟩ := rfl
        rw [hs, mput_eq (m := ⟨m.seat, out⟩) hk (by show k < m.seat.next.length; omega) (by show out.length ≤ 1000000; omega) hl hd (hx k hk).1 (hx k hk).2, Option.bind_some, w64_succ (by omega)]
        show seat_machine_all_put_L1 m u m.seat.id m.seat.peers m.seat.term m.seat.voted m.seat.role m.seat.log m.seat.commit m.seat.votes m.seat.next m.seat.match_ (out ++ [putM m.seat k]) ((k + 1 : Nat) : Int) = _
        rw [ih (k + 1) _ (by omega) (by omega) (by simp; omega)]
        simp
    · rw [if_neg (by omega)]
      have : allFrom m.seat k = [] := by unfold allFrom; rw [show m.seat.peers.length - k = 0 by omega]; rfl
      rw [this, List.append_nil]
theorem all_eq {m : Machine} {f : Int → Option Unit} (hp : m.seat.peers.length ≤ 1000) (hn : m.seat.next.length = m.seat.peers.length) (hl : m.seat.log.length ≤ 1000) (hd : ∀ e ∈ m.seat.log, e.data.length ≤ 1000)
    (hx : ∀ i < m.seat.peers.length, 1 ≤ m.seat.next.getD i 0 ∧ m.seat.next.getD i 0 ≤ m.seat.log.length + 1) (ho : m.out.length ≤ 1000) : seat_machine_all_put_f m f = some ⟨m.seat, m.out ++ allM m.seat⟩ :=
  all_L hp hn hl hd hx BIG 0 m.out (by rw [BIG_eq]; omega) (by omega) (by omega)
def comS (s : Seat) : Seat := { s with commit := cm s.log s.term s.match_ s.commit s.log.length }
theorem mcommit_eq {m : Machine} (hl : m.seat.log.length ≤ 1000) (hm : m.seat.match_.length ≤ 1000) : seat_machine_commit_f m = some ⟨comS m.seat, m.out⟩ := by
  unfold seat_machine_commit_f
  rw [commit_eq hl hm]; rfl
/-- a seat that begins to lead -/
def led (s : Seat) : Seat := comS { s with role := 3, votes := [], next := List.replicate s.peers.length ((s.log.length : Int) + 1), match_ := (List.replicate s.peers.length (0 : Int)).set (s.peers.idxOf s.id) s.log.length }
theorem lead_L {m : Machine} (hp : m.seat.peers.length ≤ 1000) (hi : m.seat.id ∈ m.seat.peers) (hl : m.seat.log.length ≤ 1000) (hd : ∀ e ∈ m.seat.log, e.data.length ≤ 1000) (ho : m.out.length ≤ 1000) :
    ∀ u k, m.seat.peers.length < u + k → k ≤ m.seat.peers.length → seat_machine_lead_L1 m u (List.replicate k ((m.seat.log.length : Int) + 1)) (List.replicate k 0) (k : Int) = some (true, ⟨led m.seat, m.out ++ allM (led m.seat)⟩) := by
  intro u
  induction u with
  | zero => intro k h1 h2; omega
  | succ u ih =>
    intro k h1 h2
    rw [seat_machine_lead_L1, cond_d]
    by_cases hk : k < m.seat.peers.length
    · rw [if_pos (by omega), chk_pos (by simp; omega), chk_pos (by simp; omega), w64 (by omega) (by omega), w64_succ (by omega), ← List.replicate_succ', ← List.replicate_succ', ih (k + 1) (by omega) (by omega)]
    · rw [if_neg (by omega)]
      obtain rfl : k = m.seat.peers.length := by omega
      unfold seat_machine_lead_J1
      have ho' : m.seat.peers.idxOf m.seat.id < m.seat.peers.length := List.idxOf_lt_length_iff.2 hi
      have o := own_eq (m := (⟨⟨m.seat.id, m.seat.peers, m.seat.term, m.seat.voted, 3, m.seat.log, m.seat.commit, [], List.replicate m.seat.peers.length ((m.seat.log.length : Int) + 1), List.replicate m.seat.peers.length 0⟩, m.out⟩ : Machine)) (by show m.seat.peers.length ≤ 1000000; omega) hi
      rw [o, Option.bind_some]
      rw [idx_nat (by simp; exact ho'), Option.bind_some]
      refine bind_of (mcommit_eq ?_ ?_) ?_
      · exact hl
      · show ((List.replicate _ _).set _ _).length ≤ 1000
        simp; omega
      have hs : comS (⟨m.seat.id, m.seat.peers, m.seat.term, m.seat.voted, 3, m.seat.log, m.seat.commit, [], List.replicate m.seat.peers.length ((m.seat.log.length : Int) + 1), (List.replicate m.seat.peers.length (0 : Int)).set ((m.seat.peers.idxOf m.seat.id : Nat) : Int).toNat m.seat.log.length⟩ : Seat) = led m.seat := by
        rw [Int.toNat_natCast]; rfl
      rw [hs, all_eq (m := ⟨led m.seat, m.out⟩) hp (by show (List.replicate _ _).length = _; simp; rfl) hl hd (fun i hi' => ?_) ho, Option.bind_some]
      have : (led m.seat).next = List.replicate m.seat.peers.length ((m.seat.log.length : Int) + 1) := rfl
      have h2 : (led m.seat).log = m.seat.log := rfl
      have h3 : (led m.seat).peers = m.seat.peers := rfl
      simp only [this, h2]
      have hi'' : i < m.seat.peers.length := hi'
      rw [List.getD_eq_getElem?_getD, List.getElem?_replicate, if_pos hi'']
      simp; omega
theorem lead_eq {m : Machine} (hp : m.seat.peers.length ≤ 1000) (hv : m.seat.votes.length ≤ 1000) (hi : m.seat.id ∈ m.seat.peers) (hl : m.seat.log.length ≤ 1000) (hd : ∀ e ∈ m.seat.log, e.data.length ≤ 1000) (ho : m.out.length ≤ 1000) :
    seat_machine_lead_f m = some (if won m.seat.votes m.seat.peers = true then (true, ⟨led m.seat, m.out ++ allM (led m.seat)⟩) else (false, m)) := by
  unfold seat_machine_lead_f
  rw [vWon_eq (by omega) (by omega), Option.bind_some]
  cases won m.seat.votes m.seat.peers
  · rfl
  · have := lead_L hp hi hl hd ho BIG 0 (by rw [BIG_eq]; omega) (by omega)
    rw [Bool.not_true, cond_false, if_pos rfl]
    exact this
end Go.Proofs.YtmkpokcfefjifaaDoor

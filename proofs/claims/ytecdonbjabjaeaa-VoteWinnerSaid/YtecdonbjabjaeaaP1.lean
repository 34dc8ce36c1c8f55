/- What the functions of layers 13 and 14 compute, as plain laws (no program in sight but its functional forms). -/
import Derived.Test.YtecdonbjabjaeaaF3
import Derived.Test.YtecdonbjabjaeaaB7
set_option linter.unusedSimpArgs false
set_option linter.unusedVariables false
namespace Go.Proofs.Ytecdonbjabjaeaa
open Go.Ab
theorem has_L {l : List Int} {x : Int} (hl : l.length ≤ 1000000) : ∀ m k, l.length < m + k → k ≤ l.length → ref14_Has_L1 l x m (k : Int) = some ((l.drop k).contains x) := by
  intro m
  induction m with
  | zero => intro k h1 h2; omega
  | succ m ih =>
    intro k h1 h2
    rw [ref14_Has_L1, cond_d]
    by_cases hk : k < l.length
    · rw [if_pos (by omega), idx_nat hk, Option.bind_some, w64_succ (by omega), ih (k + 1) (by omega) (by omega), drop_cons hk, List.contains_cons]
      by_cases hx : l[k] = x
      · simp [hx]
      · have : (l[k] == x) = false := by simpa using hx
        have h' : (x == l[k]) = false := by simpa using fun e : x = l[k] => hx e.symm
        rw [this, h']; simp
    · rw [if_neg (by omega), List.drop_of_length_le (by omega)]
      simp [ref14_Has_J1]
theorem has_eq {l : List Int} {x : Int} (hl : l.length ≤ 1000000) : ref14_Has_f l x = some (l.contains x) := by
  unfold ref14_Has_f
  exact has_L hl BIG 0 (by rw [BIG_eq]; omega) (by omega)
theorem index_L {l : List Int} {x : Int} (hl : l.length ≤ 1000000) : ∀ m k, l.length < m + k → k ≤ l.length → ∃ r, slices_Index_L1 l x m (k : Int) = some r ∧ (0 ≤ r ↔ (l.drop k).contains x = true) := by
  intro m
  induction m with
  | zero => intro k h1 h2; omega
  | succ m ih =>
    intro k h1 h2
    rw [slices_Index_L1, cond_d]
    by_cases hk : k < l.length
    · rw [if_pos (by omega), idx_nat hk, Option.bind_some, w64_succ (by omega), drop_cons hk, List.contains_cons]
      obtain ⟨r, e, h⟩ := ih (k + 1) (by omega) (by omega)
      by_cases hx : x = l[k]
      · refine ⟨k, ?_, ?_⟩
        · have : (x == l[k]) = true := by simpa using hx
          rw [this]; rfl
        · have : (x == l[k]) = true := by simpa using hx
          rw [this]; simp
      · have h' : (x == l[k]) = false := by simpa using hx
        rw [h']
        exact ⟨r, e, by simpa using h⟩
    · rw [if_neg (by omega), List.drop_of_length_le (by omega)]
      exact ⟨-1, rfl, by simp⟩
theorem contains_eq {l : List Int} {x : Int} (hl : l.length ≤ 1000000) : slices_Contains_f l x = some (l.contains x) := by
  unfold slices_Contains_f slices_Index_f
  obtain ⟨r, e, h⟩ := index_L (x := x) hl BIG 0 (by rw [BIG_eq]; omega) (by omega)
  have e' : slices_Index_L1 l x BIG 0 = some r := e
  rw [e', Option.bind_some]
  rw [List.drop_zero] at h
  congr 1
  rw [Bool.eq_iff_iff, decide_eq_true_eq]; exact h
theorem ints_L {a b : List Int} (ha : a.length ≤ 1000000) (hab : a.length = b.length) : ∀ m k, a.length < m + k → k ≤ a.length → ref14_Ints_L1 a b m (k : Int) = some (decide (a.drop k = b.drop k)) := by
  intro m
  induction m with
  | zero => intro k h1 h2; omega
  | succ m ih =>
    intro k h1 h2
    rw [ref14_Ints_L1, cond_d]
    by_cases hk : k < a.length
    · have hk' : k < b.length := by omega
      rw [if_pos (by omega), idx_nat hk, Option.bind_some, idx_nat hk', Option.bind_some, w64_succ (by omega), ih (k + 1) (by omega) (by omega), drop_cons hk, drop_cons hk']
      by_cases hx : a[k] = b[k]
      · have : (a[k] != b[k]) = false := by simpa using hx
        rw [this, cond_false]; congr 1; rw [Bool.eq_iff_iff, decide_eq_true_eq, decide_eq_true_eq, List.cons.injEq]; exact ⟨fun h => ⟨hx, h⟩, fun h => h.2⟩
      · have : (a[k] != b[k]) = true := by simpa using hx
        rw [this, cond_true]; congr 1; symm; rw [decide_eq_false_iff_not, List.cons.injEq]; exact fun h => hx h.1
    · rw [if_neg (by omega), List.drop_of_length_le (by omega), List.drop_of_length_le (by omega)]
      simp [ref14_Ints_J1]
theorem ints_eq {a b : List Int} (ha : a.length ≤ 1000000) : ref14_Ints_f a b = some (decide (a = b)) := by
  unfold ref14_Ints_f
  by_cases h : a.length = b.length
  · have : ((a.length : Int) != b.length) = false := by rw [bne_eq_false_iff_eq]; omega
    rw [this]
    have := ints_L ha h BIG 0 (by rw [BIG_eq]; omega) (by omega)
    simpa using this
  · have : ((a.length : Int) != b.length) = true := by rw [bne_iff_ne]; omega
    have h2 : a ≠ b := fun e => h (by rw [e])
    rw [this]; simp [h2]
theorem log_L2 {a b : List Entry} {i : Nat} (K : Int → Option Bool) (hi : i < a.length) (hi' : i < b.length) (hd : (a[i]).data.length ≤ 1000000) (hab : (a[i]).data.length = (b[i]).data.length) : ∀ m k, (a[i]).data.length < m + k → k ≤ (a[i]).data.length →
    ref14_Log_L2 K a i b m (k : Int) = if (a[i]).data.drop k = (b[i]).data.drop k then K (IntKind.wrap .i64 (i + 1)) else some false := by
  intro m
  induction m with
  | zero => intro k h1 h2; omega
  | succ m ih =>
    intro k h1 h2
    rw [ref14_Log_L2, idx_nat hi, Option.bind_some, cond_d]
    by_cases hk : k < (a[i]).data.length
    · have hk' : k < (b[i]).data.length := by omega
      rw [if_pos (by omega), idx_nat hk, Option.bind_some, idx_nat hi', Option.bind_some, idx_nat hk', Option.bind_some, w64_succ (by omega), ih (k + 1) (by omega) (by omega), drop_cons hk, drop_cons hk']
      by_cases hx : (a[i]).data[k] = (b[i]).data[k]
      · have : ((a[i]).data[k] != (b[i]).data[k]) = false := by simpa using hx
        rw [this, cond_false]
        by_cases h : List.drop (k + 1) (a[i]).data = List.drop (k + 1) (b[i]).data
        · rw [if_pos h, if_pos (by rw [List.cons.injEq]; exact ⟨hx, h⟩)]
        · rw [if_neg h, if_neg (by rw [List.cons.injEq]; exact fun q => h q.2)]
      · have : ((a[i]).data[k] != (b[i]).data[k]) = true := by simpa using hx
        rw [this, cond_true, if_neg (by rw [List.cons.injEq]; exact fun q => hx q.1)]
    · rw [if_neg (by omega), List.drop_of_length_le (by omega), List.drop_of_length_le (by omega), if_pos rfl, ref14_Log_J2]
theorem log_L1 {a b : List Entry} (ha : a.length ≤ 1000000) (hd : ∀ e ∈ a, e.data.length ≤ 1000000) (hab : a.length = b.length) : ∀ m k, a.length < m + k → k ≤ a.length → ref14_Log_L1 a b m (k : Int) = some (decide (a.drop k = b.drop k)) := by
  intro m
  induction m with
  | zero => intro k h1 h2; omega
  | succ m ih =>
    intro k h1 h2
    rw [ref14_Log_L1, cond_d]
    by_cases hk : k < a.length
    · have hk' : k < b.length := by omega
      rw [if_pos (by omega), idx_nat hk, Option.bind_some, idx_nat hk', Option.bind_some, ref14_Log_J3]
      rw [drop_cons hk, drop_cons hk']
      have hdk := hd a[k] (List.getElem_mem hk)
      by_cases ht : a[k].term = b[k].term
      · by_cases hl : a[k].data.length = b[k].data.length
        · have : ((a[k].term != b[k].term) || ((a[k].data.length : Int) != b[k].data.length)) = false := by simp [ht, hl]
          rw [this]
          have h3 := log_L2 (ref14_Log_L1 a b m) hk hk' hdk hl BIG 0 (by rw [BIG_eq]; omega) (by omega)
          rw [w64_succ (by omega), ih (k + 1) (by omega) (by omega)] at h3
          show ref14_Log_L2 (ref14_Log_L1 a b m) a k b BIG ((0 : Nat) : Int) = _
          rw [h3]
          simp only [List.drop_zero]
          by_cases he : a[k].data = b[k].data
          · have e : a[k] = b[k] := by cases ha' : a[k]; cases hb' : b[k]; simp_all
            rw [if_pos he]; congr 1; rw [Bool.eq_iff_iff, decide_eq_true_eq, decide_eq_true_eq, List.cons.injEq]; exact ⟨fun h => ⟨e, h⟩, fun h => h.2⟩
          · have e : a[k] ≠ b[k] := fun e => he (by rw [e])
            rw [if_neg he]; congr 1; symm; rw [decide_eq_false_iff_not, List.cons.injEq]; exact fun h => e h.1
        · have : ((a[k].term != b[k].term) || ((a[k].data.length : Int) != b[k].data.length)) = true := by simp; right; omega
          have e : a[k] ≠ b[k] := fun e => hl (by rw [e])
          rw [this, cond_true]; congr 1; symm; rw [decide_eq_false_iff_not, List.cons.injEq]; exact fun h => e h.1
      · have : ((a[k].term != b[k].term) || ((a[k].data.length : Int) != b[k].data.length)) = true := by simp [ht]
        have e : a[k] ≠ b[k] := fun e => ht (by rw [e])
        rw [this, cond_true]; congr 1; symm; rw [decide_eq_false_iff_not, List.cons.injEq]; exact fun h => e h.1
    · rw [if_neg (by omega), List.drop_of_length_le (by omega), List.drop_of_length_le (by omega)]
      simp [ref14_Log_J1]
theorem log_eq {a b : List Entry} (ha : a.length ≤ 1000000) (hd : ∀ e ∈ a, e.data.length ≤ 1000000) : ref14_Log_f a b = some (decide (a = b)) := by
  unfold ref14_Log_f
  by_cases h : a.length = b.length
  · have : ((a.length : Int) != b.length) = false := by rw [bne_eq_false_iff_eq]; omega
    rw [this]
    have := log_L1 ha hd h BIG 0 (by rw [BIG_eq]; omega) (by omega)
    simpa using this
  · have : ((a.length : Int) != b.length) = true := by rw [bne_iff_ne]; omega
    have h2 : a ≠ b := fun e => h (by rw [e])
    rw [this]; simp [h2]
/-- of a seat whose lists are not long -/
def Sml (s : Seat) : Prop := s.peers.length ≤ 1000 ∧ s.log.length ≤ 1000 ∧ (∀ e ∈ s.log, e.data.length ≤ 1000) ∧ s.votes.length ≤ 1000 ∧ s.next.length ≤ 1000 ∧ s.match_.length ≤ 1000
theorem same_eq {a b : Seat} (h : Sml a) : ref14_Same_f a b = some (decide (a = b)) := by
  obtain ⟨h1, h2, h3, h4, h5, h6⟩ := h
  unfold ref14_Same_f
  rw [ints_eq (by omega), Option.bind_some, log_eq (by omega) (fun e he => Nat.le_trans (h3 e he) (by omega)), Option.bind_some, ints_eq (by omega), Option.bind_some, ints_eq (by omega), Option.bind_some, ints_eq (by omega), Option.bind_some]
  congr 1
  rw [Bool.eq_iff_iff]
  simp only [Bool.and_eq_true, decide_eq_true_eq, beq_iff_eq]
  constructor
  · rintro ⟨q1, q2, q3, q4, q5, q6, q7, q8, q9, q10⟩
    cases a; cases b; simp_all
  · rintro rfl; simp
def lastT (l : List Entry) : Int := if l.length = 0 then 0 else (l.getD (l.length - 1) default).term
def newer (l : List Entry) (term many : Int) : Bool := decide (lastT l < term) || (term == lastT l && decide ((l.length : Int) ≤ many))
theorem lastT_of {l : List Entry} (h : 0 < l.length) : lastT l = (l[l.length - 1]'(by omega)).term := by
  unfold lastT; rw [if_neg (by omega)]
  rw [List.getD_eq_getElem?_getD, List.getElem?_eq_getElem (by omega)]; rfl
theorem idx_last {l : List Entry} (h : 0 < l.length) (hl : l.length ≤ 1000000) : idx l (IntKind.wrap .i64 ((l.length : Int) - 1)) = some (l[l.length - 1]'(by omega)) := by
  rw [w64 (by omega) (by omega), show ((l.length : Int) - 1) = ((l.length - 1 : Nat) : Int) by omega, idx_nat (by omega)]
theorem rNewer_eq {l : List Entry} {t m : Int} (hl : l.length ≤ 1000000) : ref13_Newer_f l t m = some (newer l t m) := by
  unfold ref13_Newer_f ref13_Term_f
  by_cases h : l.length = 0
  · have : ((l.length : Int) == 0) = true := by simp [h]
    rw [this]; simp [newer, lastT, h]
  · have : ((l.length : Int) == 0) = false := by simp; intro e; simp [e] at h
    rw [this]
    simp only [cond_false]
    rw [idx_last (by omega) hl]
    simp [newer, lastT_of (show 0 < l.length by omega)]
theorem newer_eq {l : List Entry} {t m : Int} (hl : l.length ≤ 1000000) : log_Newer_f l t m = some (newer l t m) := by
  unfold log_Newer_f log_Newer_J1
  rw [cond_d]
  by_cases h : l.length = 0
  · rw [if_neg (by omega)]; simp [newer, lastT, h]
  · rw [if_pos (by omega), idx_last (by omega) hl]
    simp [newer, lastT_of (show 0 < l.length by omega)]
theorem end_eq {l : List Entry} (hl : l.length ≤ 1000000) : law14_end_f l = some (lastT l) := by
  unfold law14_end_f
  by_cases h : l.length = 0
  · have : ((l.length : Int) == 0) = true := by simp [h]
    rw [this]; simp [lastT, h]
  · have : ((l.length : Int) == 0) = false := by simp; intro e; simp [e] at h
    rw [this]; simp only [cond_false]; rw [idx_last (by omega) hl]; simp [lastT_of (show 0 < l.length by omega)]
def down (s : Seat) (term : Int) : Seat := ⟨s.id, s.peers, term, -1, 1, s.log, s.commit, [], [], []⟩
def begin_ (s : Seat) : Seat := ⟨s.id, s.peers, s.term + 1, s.id, 2, s.log, s.commit, [s.id], [], []⟩
theorem vDown_eq (s : Seat) (t : Int) : vote_Down_f s t = some (down s t) := rfl
theorem rDown_eq (s : Seat) (t : Int) : ref14_Down_f s t = some (down s t) := rfl
theorem vBegin_eq {s : Seat} (h1 : -10 ≤ s.term) (h2 : s.term ≤ 2000000) : vote_Begin_f s = some (begin_ s) := by
  unfold vote_Begin_f; rw [w64 (by omega) (by omega), vDown_eq]; rfl
theorem rBegin_eq {s : Seat} (h1 : -10 ≤ s.term) (h2 : s.term ≤ 2000000) : ref14_Begin_f s = some (begin_ s) := by
  unfold ref14_Begin_f; rw [w64 (by omega) (by omega)]; rfl
def free (s : Seat) (who : Int) : Bool := s.voted == -1 || s.voted == who
def ask1 (o : Seat) (who last many : Int) : Seat × Bool := if (free o who && newer o.log last many) = true then ({ o with voted := who }, true) else (o, false)
def ask (s : Seat) (term who last many : Int) : Seat × Bool :=
  if term < s.term then (s, false) else if s.term < term then ask1 (down s term) who last many else ask1 s who last many
theorem vAsk1 {o : Seat} {w l m : Int} (hl : o.log.length ≤ 1000000) : vote_Ask_J1 w l m o = some (ask1 o w l m) := by
  unfold vote_Ask_J1 vote_Ask_1_f vote_Ask_2_f vote_Ask_J2 ask1 free
  rw [Option.bind_some]
  simp only [newer_eq hl, Option.bind_some]
  cases (o.voted == -1 || o.voted == w) <;> cases newer o.log l m <;> rfl
theorem vAsk_eq {s : Seat} {t w l m : Int} (hl : s.log.length ≤ 1000000) : vote_Ask_f s t w l m = some (ask s t w l m) := by
  unfold vote_Ask_f ask
  rw [cond_d, cond_d, vDown_eq, Option.bind_some, vAsk1 (o := down s t) hl, vAsk1 hl]
  split
  · rfl
  · split <;> rfl
theorem rAsk_eq {s : Seat} {t w l m : Int} (hl : s.log.length ≤ 1000000) : ref14_Ask_f s t w l m = some (ask s t w l m) := by
  unfold ref14_Ask_f ask ref14_Ask_J1
  rw [cond_d, cond_d, rDown_eq, Option.bind_some, rNewer_eq hl, Option.bind_some, Option.bind_some]
  split
  · rfl
  · unfold ref14_Ask_J2 ask1 free
    have e : (down s t).log = s.log := rfl
    split
    · rw [e]; cases newer s.log l m <;> cases ((down s t).voted == -1 || (down s t).voted == w) <;> rfl
    · cases newer s.log l m <;> cases (s.voted == -1 || s.voted == w) <;> rfl
def won (votes peers : List Int) : Bool := decide (peers.length < 2 * peers.countP (fun p => votes.contains p))
theorem count_L {l : List Int} {f : Int → Option Bool} {p : Int → Bool} (hf : ∀ x, f x = some (p x)) (hl : l.length ≤ 1000000) : ∀ m k n, l.length < m + k → k ≤ l.length → n ≤ k → vote_count_L1 l f m (n : Nat) (k : Nat) = some ((n + (l.drop k).countP p : Nat) : Int) := by
  intro m
  induction m with
  | zero => intro k n h1 h2; omega
  | succ m ih =>
    intro k n h1 h2 h3
    rw [vote_count_L1, cond_d]
    by_cases hk : k < l.length
    · rw [if_pos (by omega), idx_nat hk, Option.bind_some, hf, Option.bind_some, vote_count_J2, vote_count_J2, w64_succ (by omega), w64_succ (by omega), drop_cons hk, List.countP_cons]
      cases p l[k] with
      | true => rw [cond_true, ih (k + 1) (n + 1) (by omega) (by omega) (by omega)]; simp; omega
      | false => rw [cond_false, ih (k + 1) n (by omega) (by omega) (by omega)]; simp
    · rw [if_neg (by omega), List.drop_of_length_le (by omega)]; simp [vote_count_J1]
theorem vWon_eq {v p : List Int} (hv : v.length ≤ 1000000) (hp : p.length ≤ 1000000) : vote_Won_f v p = some (won v p) := by
  unfold vote_Won_f vote_count_f vote_Won_1_f
  have h := count_L (l := p) (f := fun y => (slices_Contains_f v y).bind fun r1 => some r1) (p := fun x => v.contains x) (fun x => by rw [contains_eq hv]; rfl) hp BIG 0 0 (by rw [BIG_eq]; omega) (by omega) (by omega)
  have h' : vote_count_L1 p (fun y0_ => (slices_Contains_f v y0_).bind fun r1 => some r1) BIG 0 0 = _ := h
  rw [h', Option.bind_some]
  have hc : p.countP (fun x => v.contains x) ≤ p.length := List.countP_le_length
  rw [List.drop_zero, Nat.zero_add, w64 (by omega) (by omega)]
  unfold won
  congr 1
  rw [Bool.eq_iff_iff]; simp only [decide_eq_true_eq]; omega
theorem rWon_L {v p : List Int} (hv : v.length ≤ 1000000) (hp : p.length ≤ 1000000) : ∀ m k (n : Int), p.length < m + k → k ≤ p.length → -(k : Int) ≤ n → n ≤ k → ref14_Won_L1 p v m n (k : Nat) = some (decide (0 < n + 2 * ((p.drop k).countP (fun x => v.contains x) : Nat) - ((p.drop k).length : Nat))) := by
  intro m
  induction m with
  | zero => intro k n h1 h2; omega
  | succ m ih =>
    intro k n h1 h2 h3 h4
    rw [ref14_Won_L1, cond_d]
    by_cases hk : k < p.length
    · rw [if_pos (by omega), idx_nat hk, Option.bind_some, has_eq hv, Option.bind_some, ref14_Won_J2, ref14_Won_J2, w64_succ (by omega), w64 (by omega) (by omega), w64 (by omega) (by omega), drop_cons hk, List.countP_cons]
      cases hb : v.contains p[k] with
      | true =>
        rw [cond_true, ih (k + 1) (n + 1) (by omega) (by omega) (by omega) (by omega)]
        congr 1; rw [Bool.eq_iff_iff]; simp only [decide_eq_true_eq, List.length_cons]; simp; omega
      | false =>
        rw [cond_false, ih (k + 1) (n - 1) (by omega) (by omega) (by omega) (by omega)]
        congr 1; rw [Bool.eq_iff_iff]; simp only [decide_eq_true_eq, List.length_cons]; simp; omega
    · rw [if_neg (by omega), List.drop_of_length_le (by omega)]; simp [ref14_Won_J1]
theorem rWon_eq {v p : List Int} (hv : v.length ≤ 1000000) (hp : p.length ≤ 1000000) : ref14_Won_f v p = some (won v p) := by
  unfold ref14_Won_f
  have h := rWon_L hv hp BIG 0 0 (by rw [BIG_eq]; omega) (by omega) (by simp) (by simp)
  have h' : ref14_Won_L1 p v BIG 0 0 = _ := h
  rw [h', List.drop_zero]
  unfold won
  congr 1; rw [Bool.eq_iff_iff]; simp only [decide_eq_true_eq]; omega
theorem seat_eq : law14_seat_f = some ⟨2, [1, 2, 3], 4, -1, 1, [⟨1, []⟩, ⟨3, []⟩], 1, [], [], []⟩ := rfl
end Go.Proofs.Ytecdonbjabjaeaa

import Derived.Test.YtmkpokcfefjifaaDoorQ3
set_option linter.unusedSectionVars false
/- What a seat hears: each kind of message, in plain words. -/
set_option linter.unusedSimpArgs false
set_option linter.unusedVariables false
namespace Go.Proofs.YtmkpokcfefjifaaDoor
open Go.Ab Go.RowKit
/-! what is carried -/
def parse : List Int → List Int → List Entry
  | t :: n :: r, d => ⟨t, d.take n.toNat⟩ :: parse r (d.drop n.toNat)
  | _, _ => []
theorem parse_carL {x : Msg} (hn : x.nums.length ≤ 60) (h4 : 4 ≤ x.nums.length) : ∀ m i (l : List Entry) (d : List Int) (last : Int), x.nums.length < m + i → i ≤ x.nums.length → 2 * l.length + 4 = i → d.length ≤ 2400 →
    okW (x.nums.getD 0 0) (x.nums.drop i) last d = true → ∃ b, seat_carried_L1 x m l d last (i : Int) = some (l ++ parse (x.nums.drop i) d, b) := by
  intro m
  induction m with
  | zero => intro i l d last h1 h2 h3 hd; omega
  | succ m ih =>
    intro i l d last h1 h2 h3 hd ok
    rw [seat_carried_L1, cond_d, w64_succ (by omega)]
    by_cases hk : i + 1 < x.nums.length
    · rw [if_pos (by omega), idx_get (by omega), Option.bind_some, idx_get hk, Option.bind_some]
      rw [drop_get (show i < x.nums.length by omega), drop_get (show i + 1 < x.nums.length by omega)] at ok ⊢
      generalize x.nums.getD i 0 = t at ok ⊢
      generalize x.nums.getD (i + 1) 0 = n at ok ⊢
      have i0 : idx x.nums 0 = some (x.nums.getD 0 0) := idx_get (k := 0) (by omega)
      rw [okW] at ok
      split at ok
      · cases ok
      rename_i c
      rw [i0, decide_eq_false (by omega), cond_false, Option.bind_some]
      have : (decide (x.nums.getD 0 0 < t) || (decide (n < 0) || (decide ((d.length : Int) < n) || decide (200 < n)))) = false := by
        simp only [Bool.or_eq_false_iff, decide_eq_false_iff_not]; omega
      rw [this, seat_carried_J2, cond_false, chk_pos (by omega), List.drop_zero, clone_tot _ (by rw [List.length_take]; omega), Option.bind_some, chk_pos (by omega), chk_pos (by omega), w64 (by omega) (by omega), show (i : Int) + 2 = ((i + 2 : Nat) : Int) by omega]
      obtain ⟨b, e⟩ := ih (i + 2) (l ++ [⟨t, d.take n.toNat⟩]) (d.drop n.toNat) t (by omega) (by omega) (by rw [List.length_append]; simp; omega) (by rw [List.length_drop]; omega) ok
      refine ⟨b, ?_⟩
      rw [e, parse]; simp
    · rw [if_neg (by omega)]
      unfold seat_carried_J1
      have hp : parse (x.nums.drop i) d = [] := by
        by_cases hi : i < x.nums.length
        · rw [drop_get hi, List.drop_of_length_le (by omega)]; rfl
        · rw [List.drop_of_length_le (by omega)]; rfl
      rw [hp, List.append_nil]
      cases ((d.length : Int) == 0)
      · exact ⟨_, rfl⟩
      · cases (Int.tmod (x.nums.length : Int) 2 == 0)
        · exact ⟨_, rfl⟩
        · exact ⟨_, rfl⟩
theorem parse_car {x : Msg} (hn : x.nums.length ≤ 60) (h4 : 4 ≤ x.nums.length) (hd : x.data.length ≤ 2400) (ok : okW (x.nums.getD 0 0) (x.nums.drop 4) (if 1 > x.nums.getD 2 0 then 1 else x.nums.getD 2 0) x.data = true) :
    ∃ b, seat_carried_f x = some (parse (x.nums.drop 4) x.data, b) := by
  unfold seat_carried_f
  rw [show idx x.nums 2 = some (x.nums.getD 2 0) from idx_get (k := 2) (by omega), Option.bind_some]
  obtain ⟨b, e⟩ := parse_carL hn h4 BIG 4 [] x.data _ (by rw [BIG_eq]; omega) (by omega) (by simp) hd ok
  exact ⟨b, e⟩
theorem parse_ok {top : Int} : ∀ {nums d : List Int} {last : Int}, (∀ n ∈ nums, okI .i64 n) → (∀ n ∈ d, okI .u8 n) → okW top nums last d = true → (∀ e ∈ parse nums d, Entry.ok e ∧ e.data.length ≤ 200) ∧ 2 * (parse nums d).length ≤ nums.length
  | t :: n :: r, d, last, h1, h2, ok => by
    rw [okW] at ok
    split at ok
    · cases ok
    rename_i c
    have := parse_ok (nums := r) (d := d.drop n.toNat) (last := t) (fun x hx => h1 x (by simp [hx])) (fun x hx => h2 x (List.mem_of_mem_drop hx)) ok
    refine ⟨fun e he => ?_, ?_⟩
    · rcases List.mem_cons.1 he with rfl | he
      · exact ⟨⟨h1 t (by simp), fun x hx => h2 x (List.mem_of_mem_take hx)⟩, by simp; omega⟩
      · exact this.1 e he
    · simp only [parse, List.length_cons]; omega
  | [x], d, last, h1, h2, ok => ⟨fun e he => by simp [parse] at he, by simp [parse]⟩
  | [], d, last, h1, h2, ok => ⟨fun e he => by simp [parse] at he, by simp [parse]⟩
/-- a message that is gone through -/
structure MOk (x : Msg) : Prop where
  n : x.nums.length ≤ 60
  d : x.data.length ≤ 2400
  ok : Msg.ok x
/-- a message that is for a seat -/
structure IsFor (s : Seat) (x : Msg) : Prop where
  to : x.to_ = s.id
  ne : x.from_ ≠ s.id
  pe : x.from_ ∈ s.peers
  kd : x.kind = 1 ∨ x.kind = 2 ∨ x.kind = 3 ∨ x.kind = 4
  top : x.nums.getD 0 0 ≤ 1099511627776
  nn : ∀ n ∈ x.nums, 0 ≤ n
  n2 : 2 ≤ x.nums.length
  len : x.kind ≠ 3 → x.nums.length = (if x.kind = 2 then 2 else 3)
  n1 : x.kind = 2 ∨ x.kind = 4 → x.nums.getD 1 0 ≤ 1
  l4 : x.kind = 3 → 4 ≤ x.nums.length ∧ x.nums.length ≤ 20
  ow : x.kind = 3 → okW (x.nums.getD 0 0) (x.nums.drop 4) (if 1 > x.nums.getD 2 0 then 1 else x.nums.getD 2 0) x.data = true
theorem isFor_of {s : Seat} {x : Msg} (h : forB s x = true) : IsFor s x := by
  unfold forB at h
  split at h
  · rename_i q
    obtain ⟨h1, h2, h3, h4, h5, h6, h7, h8⟩ := q
    have hn : ∀ n ∈ x.nums, 0 ≤ n := fun n hn => by
      have := List.any_eq_false.1 h8 n hn
      simpa [neg] using this
    unfold tailB at h
    refine ⟨h1, h2, by simpa using h3, by omega, h7, hn, h6, fun k => ?_, fun k => ?_, fun k => ?_, fun k => ?_⟩
    · rw [if_neg k] at h; simp only [Bool.and_eq_true, decide_eq_true_eq] at h; exact h.1
    · rw [if_neg (by omega)] at h; simp only [Bool.and_eq_true, Bool.or_eq_true, decide_eq_true_eq] at h; omega
    · rw [if_pos k] at h; simp only [Bool.and_eq_true, decide_eq_true_eq] at h; exact ⟨h.1, h.2.2⟩
    · rw [if_pos k] at h; simp only [Bool.and_eq_true, decide_eq_true_eq] at h; exact h.2.1
  · cases h
theorem getD_mem {l : List Int} {k : Nat} (h : k < l.length) : l.getD k 0 ∈ l := by
  rw [List.getD_eq_getElem?_getD, List.getElem?_eq_getElem h]; exact List.getElem_mem h
theorem IsFor.nk {s : Seat} {x : Msg} (h : IsFor s x) (k : Nat) : 0 ≤ x.nums.getD k 0 := by
  by_cases hk : k < x.nums.length
  · exact h.nn _ (getD_mem hk)
  · rw [List.getD_eq_getElem?_getD, List.getElem?_eq_none (by omega)]; exact Int.le_refl _
theorem MOk.nk {x : Msg} (h : MOk x) (k : Nat) : x.nums.getD k 0 ≤ 9223372036854775807 := by
  by_cases hk : k < x.nums.length
  · have := h.ok.2.2.2.1 _ (getD_mem hk)
    simp only [okI] at this; exact this.2
  · rw [List.getD_eq_getElem?_getD, List.getElem?_eq_none (by omega)]; decide
/-! each kind -/
def askM (s : Seat) (x : Msg) : Seat × List Msg :=
  ((ask s (x.nums.getD 0 0) x.from_ (x.nums.getD 1 0) (x.nums.getD 2 0)).1, [⟨s.id, x.from_, 2, [(ask s (x.nums.getD 0 0) x.from_ (x.nums.getD 1 0) (x.nums.getD 2 0)).1.term, if (ask s (x.nums.getD 0 0) x.from_ (x.nums.getD 1 0) (x.nums.getD 2 0)).2 = true then 1 else 0], []⟩])
theorem ask_eq {s : Seat} {x : Msg} (hl : s.log.length ≤ 1000) (h3 : 3 ≤ x.nums.length) : seat_machine_ask_f ⟨s, []⟩ x = some ⟨(askM s x).1, (askM s x).2⟩ := by
  unfold seat_machine_ask_f askM
  have i0 : idx x.nums 0 = some (x.nums.getD 0 0) := idx_get (k := 0) (by omega)
  have i1 : idx x.nums 1 = some (x.nums.getD 1 0) := idx_get (k := 1) (by omega)
  have i2 : idx x.nums 2 = some (x.nums.getD 2 0) := idx_get (k := 2) (by omega)
  rw [i0, Option.bind_some, i1, Option.bind_some, i2, Option.bind_some, vAsk_eq hl, Option.bind_some]
  have hk := (ask_keeps s (x.nums.getD 0 0) x.from_ (x.nums.getD 1 0) (x.nums.getD 2 0)).2.2.2
  generalize ask s (x.nums.getD 0 0) x.from_ (x.nums.getD 1 0) (x.nums.getD 2 0) = r at hk
  have J : ∀ y, seat_machine_ask_J1 r ⟨s, []⟩ x y = some ⟨r.1, [⟨s.id, x.from_, 2, [r.1.term, y], []⟩]⟩ := fun y => by
    unfold seat_machine_ask_J1
    rw [send_eq (by simp)]
    simp [hk]
  rw [J, J]
  cases r.2 <;> rfl
def ins (l : List Int) (x : Int) : List Int := isort (fun a b : Int => decide (a < b)) [] (l ++ [x])
theorem ins_perm (l : List Int) (x : Int) : (ins l x).Perm (l ++ [x]) := by
  have := isort_perm (fun a b : Int => decide (a < b)) [] (l ++ [x])
  simpa [ins] using this
def votedM (s : Seat) (x : Msg) : Seat × List Msg :=
  if x.nums.getD 0 0 ≠ s.term ∨ s.role ≠ 2 ∨ x.nums.getD 1 0 = 0 ∨ x.from_ ∈ s.votes then (s, []) else
    if won (ins s.votes x.from_) s.peers = true then (led { s with votes := ins s.votes x.from_ }, allM (led { s with votes := ins s.votes x.from_ })) else ({ s with votes := ins s.votes x.from_ }, [])
theorem voted_eq {s : Seat} {x : Msg} (h : Ok s) (h2 : 2 ≤ x.nums.length) : seat_machine_voted_f ⟨s, []⟩ x = some ⟨(votedM s x).1, (votedM s x).2⟩ := by
  unfold seat_machine_voted_f votedM
  have v7 := h.v7
  have i0 : idx x.nums 0 = some (x.nums.getD 0 0) := idx_get (k := 0) (by omega)
  have i1 : idx x.nums 1 = some (x.nums.getD 1 0) := idx_get (k := 1) (by omega)
  have no : seat_machine_voted_J1 (⟨s, []⟩ : Machine) x true = some ⟨s, []⟩ := rfl
  rw [i0, Option.bind_some]
  by_cases a : x.nums.getD 0 0 = s.term
  case neg => rw [if_pos (.inl a), show (x.nums.getD 0 0 != s.term) = true by simpa using a, cond_true, no]
  rw [show (x.nums.getD 0 0 != s.term) = false by simpa using a, cond_false]
  by_cases b : s.role = 2
  case neg => rw [if_pos (.inr (.inl b)), show (s.role != 2) = true by simpa using b, cond_true, no]
  rw [show (s.role != 2) = false by simpa using b, cond_false, i1, Option.bind_some]
  by_cases c : x.nums.getD 1 0 = 0
  case pos => rw [if_pos (.inr (.inr (.inl c))), show (x.nums.getD 1 0 == 0) = true by simpa using c, cond_true, no]
  rw [show (x.nums.getD 1 0 == 0) = false by simpa using c, cond_false, contains_eq (by show s.votes.length ≤ 1000000; omega), Option.bind_some]
  by_cases d : x.from_ ∈ s.votes
  case pos => rw [if_pos (.inr (.inr (.inr d))), show s.votes.contains x.from_ = true by simpa using d, no]
  rw [if_neg (fun q => by rcases q with q | q | q | q; exact q a; exact q b; exact c q; exact d q), show s.votes.contains x.from_ = false by simpa using d]
  unfold seat_machine_voted_J1
  have hlen : (ins s.votes x.from_).length = s.votes.length + 1 := by have := (ins_perm s.votes x.from_).length_eq; simpa using this
  rw [cond_false, clone57_eq (by show s.votes.length ≤ 1000000; omega), Option.bind_some, chk_pos (by show (s.votes.length + 1) * 8 ≤ 140737488355328; omega), sort_int _ (by show (s.votes ++ [x.from_]).length ≤ 12; simp; omega), Option.bind_some]
  show chk ((ins s.votes x.from_).length = s.votes.length + 1) ((seat_machine_lead_f (⟨{ s with votes := ins s.votes x.from_ }, []⟩ : Machine)).bind fun r3 => some r3.2) = _
  rw [chk_pos hlen]
  have hp := h.p7; have hg := h.lg.1
  have L := lead_eq (m := ⟨{ s with votes := ins s.votes x.from_ }, []⟩) (by show s.peers.length ≤ 1000; omega) (by show (ins s.votes x.from_).length ≤ 1000; omega) h.me h.lg.1 (fun e he => by have := (h.lg.2 e he).2; omega) (by simp)
  rw [L, Option.bind_some]
  show some (if won (ins s.votes x.from_) s.peers = true then (true, (⟨led { s with votes := ins s.votes x.from_ }, [] ++ allM (led { s with votes := ins s.votes x.from_ })⟩ : Machine)) else (false, (⟨{ s with votes := ins s.votes x.from_ }, []⟩ : Machine))).2 = _
  by_cases hw : won (ins s.votes x.from_) s.peers = true
  · rw [if_pos hw, if_pos hw]; rfl
  · rw [if_neg hw, if_neg hw]
/-- what an answer to entries that don't fit tells -/
def backN (s : Seat) (x : Msg) : Int := if (if x.nums.getD 1 0 - 1 < (s.log.length : Int) then x.nums.getD 1 0 - 1 else (s.log.length : Int)) > 0 then (if x.nums.getD 1 0 - 1 < (s.log.length : Int) then x.nums.getD 1 0 - 1 else (s.log.length : Int)) else 0
def car (x : Msg) : List Entry := parse (x.nums.drop 4) x.data
def putP (s : Seat) (x : Msg) : List Entry × Bool := putR s.log (x.nums.getD 1 0) (x.nums.getD 2 0) (car x)
def putC (s : Seat) (x : Msg) : Int := if (if x.nums.getD 1 0 + (car x).length < x.nums.getD 3 0 then x.nums.getD 1 0 + (car x).length else x.nums.getD 3 0) > s.commit then (if x.nums.getD 1 0 + (car x).length < x.nums.getD 3 0 then x.nums.getD 1 0 + (car x).length else x.nums.getD 3 0) else s.commit
def putBad (s : Seat) (x : Msg) : Prop := (putP s x).2 = false ∨ ((putP s x).1.length : Int) < s.commit ∨ (putP s x).1.take s.commit.toNat ≠ s.log.take s.commit.toNat
instance (s : Seat) (x : Msg) : Decidable (putBad s x) := by unfold putBad; infer_instance
def putsM (s : Seat) (x : Msg) : Seat × List Msg :=
  if x.nums.getD 0 0 < s.term then (s, [⟨s.id, x.from_, 4, [s.term, 0, 0], []⟩]) else if s.role = 3 then (s, []) else
    if putBad s x then ({ s with role := 1, votes := [] }, [⟨s.id, x.from_, 4, [s.term, 0, backN s x], []⟩])
    else ({ s with role := 1, votes := [], log := (putP s x).1, commit := putC s x }, [⟨s.id, x.from_, 4, [s.term, 1, x.nums.getD 1 0 + (car x).length], []⟩])
theorem puts_eq {s : Seat} {x : Msg} {s0 : Seat} (h : Ok s) (hx : MOk x) (hf : IsFor s0 x) (k3 : x.kind = 3) : seat_machine_puts_f ⟨s, []⟩ x = some ⟨(putsM s x).1, (putsM s x).2⟩ := by
  unfold seat_machine_puts_f putsM
  have l4 := (hf.l4 k3).1
  have i0 : idx x.nums 0 = some (x.nums.getD 0 0) := idx_get (k := 0) (by omega)
  have i1 : idx x.nums 1 = some (x.nums.getD 1 0) := idx_get (k := 1) (by omega)
  have i2 : idx x.nums 2 = some (x.nums.getD 2 0) := idx_get (k := 2) (by omega)
  have i3 : idx x.nums 3 = some (x.nums.getD 3 0) := idx_get (k := 3) (by omega)
  rw [i0, Option.bind_some, cond_d]
  by_cases a : x.nums.getD 0 0 < s.term
  · rw [if_pos a, if_pos a, send_eq (by simp)]; rfl
  rw [if_neg a, if_neg a]
  by_cases b : s.role = 3
  · rw [if_pos b, show (s.role == 3) = true by simpa using b, cond_true]
  rw [if_neg b, show (s.role == 3) = false by simpa using b, cond_false]
  obtain ⟨w, e⟩ := parse_car hx.n l4 hx.d (hf.ow k3)
  have po := parse_ok (fun n hn => hx.ok.2.2.2.1 n (List.mem_of_mem_drop hn)) hx.ok.2.2.2.2 (hf.ow k3)
  have gm : Good (car x) := ⟨by have := po.2; have := hx.n; rw [List.length_drop] at po; unfold car; omega, fun e he => po.1 e he⟩
  have pl : (car x).length ≤ 30 := by have := po.2; have := hx.n; rw [List.length_drop] at po; unfold car; omega
  rw [e, Option.bind_some, i1, Option.bind_some, i2, Option.bind_some]
  show (log_Put_f s.log (x.nums.getD 1 0) (x.nums.getD 2 0) (car x)).bind _ = _
  have pe : log_Put_f s.log (x.nums.getD 1 0) (x.nums.getD 2 0) (car x) = some (putP s x) := put_eq h.lg gm
  rw [pe, Option.bind_some]
  have gp : Good (putP s x).1 := putR_good h.lg gm (by have := h.ll; omega)
  have n1 := hf.nk 1; have m1 := hx.nk 1
  have hc0 := h.c0; have hc1 := h.c1; have hll := h.ll
  have bad : seat_machine_puts_J1 ⟨s, []⟩ x (x.nums.getD 1 0) (putP s x) (parse (x.nums.drop 4) x.data, w) true = some ⟨{ s with role := 1, votes := [] }, [⟨s.id, x.from_, 4, [s.term, 0, backN s x], []⟩]⟩ := by
    unfold seat_machine_puts_J1
    rw [cond_true, send_eq (by simp), w64 (by omega) (by omega)]; rfl
  rw [bad]
  by_cases c1 : (putP s x).2 = false
  · rw [if_pos (.inl c1), c1]; rfl
  rw [show (!(putP s x).2) = false by simpa using c1, cond_false, cond_d]
  by_cases c2 : ((putP s x).1.length : Int) < s.commit
  · rw [if_pos c2, if_pos (.inr (.inl c2))]
  rw [if_neg c2, chk_pos (by show (0 : Nat) ≤ 0 ∧ 0 ≤ s.commit ∧ s.commit ≤ ((putP s x).1.length : Int); omega), chk_pos (by show (0 : Nat) ≤ 0 ∧ 0 ≤ s.commit ∧ s.commit ≤ (s.log.length : Int); omega), List.drop_zero, List.drop_zero, same_eq (gp.take _) (h.lg.take _), Option.bind_some]
  by_cases c3 : (putP s x).1.take s.commit.toNat = s.log.take s.commit.toNat
  · have nb : ¬ putBad s x := fun q => by
      rcases q with q | q | q
      · exact c1 q
      · exact c2 q
      · exact q c3
    rw [if_neg nb, show (!decide ((putP s x).1.take s.commit.toNat = s.log.take s.commit.toNat)) = false by simp [c3]]
    unfold seat_machine_puts_J1
    have hfit : x.nums.getD 1 0 ≤ s.log.length := by
      have : (putP s x).2 = true := by simpa using c1
      unfold putP putR at this
      split at this
      · rename_i q; simp only [fits, decide_eq_true_eq] at q; omega
      · cases this
    rw [cond_false, i3, Option.bind_some]
    show (seat_machine_send_f (⟨(⟨s.id, s.peers, s.term, s.voted, 1, (putP s x).1, (if (if (IntKind.wrap .i64 (x.nums.getD 1 0 + ((car x).length : Int))) < x.nums.getD 3 0 then (IntKind.wrap .i64 (x.nums.getD 1 0 + ((car x).length : Int))) else x.nums.getD 3 0) > s.commit then (if (IntKind.wrap .i64 (x.nums.getD 1 0 + ((car x).length : Int))) < x.nums.getD 3 0 then (IntKind.wrap .i64 (x.nums.getD 1 0 + ((car x).length : Int))) else x.nums.getD 3 0) else s.commit), [], s.next, s.match_⟩ : Seat), []⟩ : Machine) x.from_ 4 [] [s.term, 1, (IntKind.wrap .i64 (x.nums.getD 1 0 + ((car x).length : Int)))]).bind _ = _
    rw [w64 (by omega) (by omega), send_eq (by simp)]; rfl
  · rw [if_pos (.inr (.inr c3)), show (!decide ((putP s x).1.take s.commit.toNat = s.log.take s.commit.toNat)) = true by simp [c3], bad]
def tI (s : Seat) (x : Msg) : Nat := s.peers.idxOf x.from_
def toldN (s : Seat) (x : Msg) : Seat :=
  { s with next := s.next.set (tI s x) (if (if x.nums.getD 2 0 + 1 < s.next.getD (tI s x) 0 then x.nums.getD 2 0 + 1 else s.next.getD (tI s x) 0) > s.match_.getD (tI s x) 0 + 1 then (if x.nums.getD 2 0 + 1 < s.next.getD (tI s x) 0 then x.nums.getD 2 0 + 1 else s.next.getD (tI s x) 0) else s.match_.getD (tI s x) 0 + 1) }
def tM (s : Seat) (x : Msg) : Int := if x.nums.getD 2 0 > s.match_.getD (tI s x) 0 then x.nums.getD 2 0 else s.match_.getD (tI s x) 0
def toldY (s : Seat) (x : Msg) : Seat := comS { s with next := s.next.set (tI s x) (tM s x + 1), match_ := s.match_.set (tI s x) (tM s x) }
def toldM (s : Seat) (x : Msg) : Seat × List Msg :=
  if x.nums.getD 0 0 ≠ s.term ∨ s.role ≠ 3 ∨ (s.log.length : Int) < x.nums.getD 2 0 then (s, []) else
    if x.nums.getD 1 0 = 0 then (toldN s x, [putM (toldN s x) (tI s x)])
    else (toldY s x, if tM s x < s.log.length then [putM (toldY s x) (tI s x)] else [])
theorem getD_set {l : List Int} {i : Nat} {v : Int} (h : i < l.length) : (l.set i v).getD i 0 = v := by
  rw [List.getD_eq_getElem?_getD, List.getElem?_set_self h]; rfl
theorem told_eq {s : Seat} {x : Msg} {s0 : Seat} (h : Ok s) (hx : MOk x) (hf : IsFor s0 x) (hp : s0.peers = s.peers) (h3 : 3 ≤ x.nums.length) : seat_machine_told_f ⟨s, []⟩ x = some ⟨(toldM s x).1, (toldM s x).2⟩ := by
  unfold seat_machine_told_f toldM
  have i0 : idx x.nums 0 = some (x.nums.getD 0 0) := idx_get (k := 0) (by omega)
  have i1 : idx x.nums 1 = some (x.nums.getD 1 0) := idx_get (k := 1) (by omega)
  have i2 : idx x.nums 2 = some (x.nums.getD 2 0) := idx_get (k := 2) (by omega)
  have no : seat_machine_told_J1 ⟨s, []⟩ x (x.nums.getD 2 0) true = some ⟨s, []⟩ := rfl
  rw [i2, Option.bind_some, i0, Option.bind_some]
  by_cases q : x.nums.getD 0 0 ≠ s.term ∨ s.role ≠ 3 ∨ (s.log.length : Int) < x.nums.getD 2 0
  · have : ((x.nums.getD 0 0 != s.term) || ((s.role != 3) || (decide ((s.log.length : Int) < x.nums.getD 2 0)))) = true := by
      simp only [Bool.or_eq_true, bne_iff_ne, decide_eq_true_eq]; exact q
    rw [if_pos q]
    show seat_machine_told_J1 ⟨s, []⟩ x (x.nums.getD 2 0) ((x.nums.getD 0 0 != s.term) || ((s.role != 3) || (decide ((s.log.length : Int) < x.nums.getD 2 0)))) = _
    rw [this, no]
  have : ((x.nums.getD 0 0 != s.term) || ((s.role != 3) || (decide ((s.log.length : Int) < x.nums.getD 2 0)))) = false := by
    simp only [Bool.or_eq_false_iff, bne_eq_false_iff_eq, decide_eq_false_iff_not]; omega
  rw [if_neg q]
  show seat_machine_told_J1 ⟨s, []⟩ x (x.nums.getD 2 0) ((x.nums.getD 0 0 != s.term) || ((s.role != 3) || (decide ((s.log.length : Int) < x.nums.getD 2 0)))) = _
  rw [this]
  have r3 : s.role = 3 := by omega
  obtain ⟨ln, lm⟩ := h.rl.ln r3
  have hI : x.from_ ∈ s.peers := hp ▸ hf.pe
  have tl : tI s x < s.peers.length := List.idxOf_lt_length_iff.2 hI
  obtain ⟨q1, q2, q3, q4, q5⟩ := h.rl.lm r3 _ tl
  have n2 := hf.nk 2; have m2 := hx.nk 2
  have p7 := h.p7; have ll := h.ll
  have hd : ∀ e ∈ s.log, e.data.length ≤ 1000 := fun e he => by have := (h.lg.2 e he).2; omega
  have t2 : ((tI s x : Nat) : Int).toNat = tI s x := Int.toNat_natCast _
  unfold seat_machine_told_J1
  have ix : slices_Index_f s.peers x.from_ = some ((tI s x : Nat) : Int) := index_eq (by omega) hI
  rw [cond_false]
  show (slices_Index_f s.peers x.from_).bind _ = _
  rw [ix, Option.bind_some]
  show (slices_Clone_57_f s.next).bind _ = _
  rw [clone57_eq (by omega), Option.bind_some]
  show (slices_Clone_57_f s.match_).bind _ = _
  rw [clone57_eq (by omega), Option.bind_some, i1, Option.bind_some, idx_i (by omega), Option.bind_some, idx_i (by omega), t2]
  have e1 : IntKind.wrap .i64 (s.match_.getD (tI s x) 0 + 1) = s.match_.getD (tI s x) 0 + 1 := w64 (by omega) (by omega)
  have e2 : IntKind.wrap .i64 (x.nums.getD 2 0 + 1) = x.nums.getD 2 0 + 1 := w64 (by omega) (by omega)
  by_cases a : x.nums.getD 1 0 = 0
  · rw [if_pos a, show (x.nums.getD 1 0 == 0) = true by simpa using a, cond_true, Option.bind_some, e1, e2]
    show (seat_machine_put_f (⟨toldN s x, []⟩ : Machine) ((tI s x : Nat) : Int)).bind _ = _
    have hv : (toldN s x).next.getD (tI s x) 0 = (if (if x.nums.getD 2 0 + 1 < s.next.getD (tI s x) 0 then x.nums.getD 2 0 + 1 else s.next.getD (tI s x) 0) > s.match_.getD (tI s x) 0 + 1 then (if x.nums.getD 2 0 + 1 < s.next.getD (tI s x) 0 then x.nums.getD 2 0 + 1 else s.next.getD (tI s x) 0) else s.match_.getD (tI s x) 0 + 1) := getD_set (by omega)
    rw [mput_eq (m := ⟨toldN s x, []⟩) tl (by show tI s x < (s.next.set _ _).length; rw [List.length_set]; omega) (by simp) h.lg.1 hd (by show 1 ≤ (toldN s x).next.getD (tI s x) 0; rw [hv]; split <;> omega) (by show (toldN s x).next.getD (tI s x) 0 ≤ s.log.length + 1; rw [hv]; split <;> (try split) <;> omega)]
    rfl
  · rw [if_neg a, show (x.nums.getD 1 0 == 0) = false by simpa using a, cond_false]
    show (idx (s.match_.set (tI s x) (tM s x)) ((tI s x : Nat) : Int)).bind _ = _
    have htm : tM s x ≤ s.log.length := by unfold tM; split <;> omega
    have htm0 : 0 ≤ tM s x := by unfold tM; split <;> omega
    rw [idx_i (by rw [List.length_set]; omega), Option.bind_some, getD_set (by omega)]
    rw [Option.bind_some]
    rw [w64 (by omega) (by omega)]
    refine bind_of (mcommit_eq ?_ ?_) ?_
    · exact h.lg.1
    · show (s.match_.set _ _).length ≤ 1000
      rw [List.length_set]; omega
    show (idx (s.match_.set (tI s x) (tM s x)) ((tI s x : Nat) : Int)).bind _ = _
    rw [idx_i (by rw [List.length_set]; omega), Option.bind_some, getD_set (by omega)]
    show cond (decide (tM s x < (s.log.length : Int))) ((seat_machine_put_f (⟨toldY s x, []⟩ : Machine) ((tI s x : Nat) : Int)).bind _) (some (⟨toldY s x, []⟩ : Machine)) = _
    rw [cond_d]
    have hv : (toldY s x).next.getD (tI s x) 0 = tM s x + 1 := getD_set (by omega)
    by_cases b : tM s x < s.log.length
    · rw [if_pos b, if_pos b, mput_eq (m := ⟨toldY s x, []⟩) tl (by show tI s x < (s.next.set _ _).length; rw [List.length_set]; omega) (by simp) h.lg.1 hd (by show 1 ≤ (toldY s x).next.getD (tI s x) 0; rw [hv]; omega) (by show (toldY s x).next.getD (tI s x) 0 ≤ s.log.length + 1; rw [hv]; omega)]
      rfl
    · rw [if_neg b, if_neg b]
end Go.Proofs.YtmkpokcfefjifaaDoor

import Derived.Test.YtmkpokcfefjifaaDoorQ5
set_option linter.unusedSectionVars false
/- Heard twice is heard once. -/
set_option linter.unusedSimpArgs false
set_option linter.unusedVariables false
namespace Go.Proofs.YtmkpokcfefjifaaDoor
open Go.Ab Go.RowKit
theorem mx3 {n m k V : Int} (hV : V = if (if k + 1 < n then k + 1 else n) > m + 1 then (if k + 1 < n then k + 1 else n) else m + 1) : (if (if k + 1 < V then k + 1 else V) > m + 1 then (if k + 1 < V then k + 1 else V) else m + 1) = V := by
  have h1 : V ≤ k + 1 ∨ V = m + 1 := by
    rw [hV]; by_cases a : k + 1 < n <;> simp only [a, if_true, if_false] <;> split <;> omega
  have h2 : m + 1 ≤ V := by
    rw [hV]; by_cases a : k + 1 < n <;> simp only [a, if_true, if_false] <;> split <;> omega
  by_cases a : k + 1 < V <;> simp only [a, if_true, if_false] <;> split <;> omega
theorem mx2 {v c : Int} : (if v > (if v > c then v else c) then v else (if v > c then v else c)) = if v > c then v else c := by
  by_cases h : v > c <;> simp [h]
theorem votedM_keeps (s : Seat) (x : Msg) : (votedM s x).1.term = s.term ∧ (votedM s x).1.id = s.id ∧ (votedM s x).1.peers = s.peers := by
  unfold votedM; split
  · exact ⟨rfl, rfl, rfl⟩
  · split <;> exact ⟨rfl, rfl, rfl⟩
theorem putsM_keeps (s : Seat) (x : Msg) : (putsM s x).1.term = s.term ∧ (putsM s x).1.id = s.id ∧ (putsM s x).1.peers = s.peers := by
  unfold putsM; split
  · exact ⟨rfl, rfl, rfl⟩
  · split
    · exact ⟨rfl, rfl, rfl⟩
    · split <;> exact ⟨rfl, rfl, rfl⟩
theorem toldM_keeps (s : Seat) (x : Msg) : (toldM s x).1.term = s.term ∧ (toldM s x).1.id = s.id ∧ (toldM s x).1.peers = s.peers := by
  unfold toldM; split
  · exact ⟨rfl, rfl, rfl⟩
  · split <;> exact ⟨rfl, rfl, rfl⟩
theorem forB_congr {s t : Seat} {x : Msg} (h1 : t.id = s.id) (h2 : t.peers = s.peers) : forB t x = forB s x := by
  unfold forB; rw [h1, h2]
theorem upS_same {s : Seat} {x : Msg} (h : x.nums.getD 0 0 ≤ s.term) : upS s x = s := by
  unfold upS; rw [if_neg (by omega)]
theorem upS_term (s : Seat) (x : Msg) : x.nums.getD 0 0 ≤ (upS s x).term := by
  unfold upS
  split
  · exact Int.le_refl _
  · omega
theorem voted_twice (s : Seat) (x : Msg) : (votedM (votedM s x).1 x).1 = (votedM s x).1 := by
  by_cases q : x.nums.getD 0 0 ≠ s.term ∨ s.role ≠ 2 ∨ x.nums.getD 1 0 = 0 ∨ x.from_ ∈ s.votes
  · have e : (votedM s x).1 = s := by unfold votedM; rw [if_pos q]
    rw [e, e]
  · by_cases w : won (ins s.votes x.from_) s.peers = true
    · have e : (votedM s x).1 = led { s with votes := ins s.votes x.from_ } := by unfold votedM; rw [if_neg q, if_pos w]
      rw [e]
      have r : ∀ u : Seat, u.role = 3 → (votedM u x).1 = u := fun u hu => by unfold votedM; rw [if_pos (.inr (.inl (by omega)))]
      exact r _ rfl
    · have e : (votedM s x).1 = { s with votes := ins s.votes x.from_ } := by unfold votedM; rw [if_neg q, if_neg w]
      rw [e]
      have r : ∀ u : Seat, x.from_ ∈ u.votes → (votedM u x).1 = u := fun u hu => by unfold votedM; rw [if_pos (.inr (.inr (.inr hu)))]
      exact r _ ((ins_perm s.votes x.from_).mem_iff.2 (by simp))
theorem puts_twice {s : Seat} (h : Ok s) {x : Msg} (hx : MOk x) {s0 : Seat} (hf : IsFor s0 x) (k3 : x.kind = 3) : (putsM (putsM s x).1 x).1 = (putsM s x).1 := by
  by_cases a : x.nums.getD 0 0 < s.term
  · have e : (putsM s x).1 = s := by unfold putsM; rw [if_pos a]
    rw [e, e]
  by_cases b : s.role = 3
  · have e : (putsM s x).1 = s := by unfold putsM; rw [if_neg a, if_pos b]
    rw [e, e]
  by_cases c : putBad s x
  · have e : (putsM s x).1 = { s with role := 1, votes := [] } := by unfold putsM; rw [if_neg a, if_neg b, if_pos c]
    rw [e]
    unfold putsM
    rw [if_neg a, if_neg (show ¬ (1 : Int) = 3 by decide), if_pos (show putBad { s with role := 1, votes := [] } x from c)]
  · have e : (putsM s x).1 = { s with role := 1, votes := [], log := (putP s x).1, commit := putC s x } := by unfold putsM; rw [if_neg a, if_neg b, if_neg c]
    rw [e]
    obtain ⟨b1, b2, b3⟩ := notBad c
    obtain ⟨f1, f2, f3⟩ := putP_yes b1
    obtain ⟨e1, e2, e3⟩ := fits_d2 f1
    have c0 := h.c0
    have pg := put_ge (l := s.log) (more := car x) (p := (x.nums.getD 1 0).toNat) (by omega)
    rw [← f2] at pg
    generalize hu : ({ s with role := 1, votes := [], log := (putP s x).1, commit := putC s x } : Seat) = u
    have u1 : u.log = put s.log (x.nums.getD 1 0).toNat (car x) := by rw [← hu, ← f2]
    have u2 : u.commit = putC s x := by rw [← hu]
    have u3 : u.role = 1 := by rw [← hu]
    have u4 : u.votes = [] := by rw [← hu]
    have u5 : u.term = s.term := by rw [← hu]
    have u6 : (u.log.length : Int) = (putP s x).1.length := by rw [← hu]
    have cc : 0 ≤ putC s x ∧ putC s x ≤ ((putP s x).1.length : Int) := by
      unfold putC; constructor
      · split <;> omega
      · split <;> (try split) <;> omega
    have pp : putP u x = (u.log, true) := by
      unfold putP putR
      have ff : fits u.log (x.nums.getD 1 0) (x.nums.getD 2 0) = true := by
        simp only [fits, decide_eq_true_eq]
        refine ⟨e1, by omega, ?_⟩
        rw [u1, put_tm (by omega)]; exact e3
      rw [if_pos ff]
      have fx : put u.log (x.nums.getD 1 0).toNat (car x) = u.log := by
        rw [u1]; exact put_put (by omega) (by rw [List.take_length])
      rw [fx, if_neg (by omega)]
    have nb : ¬ putBad u x := by
      unfold putBad
      rw [pp]
      intro q
      rcases q with q | q | q
      · cases q
      · rw [u2] at q; have q : (u.log.length : Int) < putC s x := q; omega
      · exact q rfl
    have pc : putC u x = u.commit := by
      unfold putC; rw [u2]; unfold putC
      exact mx2
    have hputs : (putsM u x).1 = { u with role := 1, votes := [], log := (putP u x).1, commit := putC u x } := by
      unfold putsM; rw [if_neg (by omega), if_neg (by omega), if_neg nb]
    rw [hputs, pp, pc]
    obtain ⟨i1, i2, i3, i4, i5, i6, i7, i8, i9, i10⟩ := u
    simp only at u3 u4
    rw [u3, u4]
theorem told_twice {s : Seat} (h : Ok s) {x : Msg} {s0 : Seat} (hf : IsFor s0 x) (hp : s0.peers = s.peers) : (toldM (toldM s x).1 x).1 = (toldM s x).1 := by
  by_cases q : x.nums.getD 0 0 ≠ s.term ∨ s.role ≠ 3 ∨ (s.log.length : Int) < x.nums.getD 2 0
  · have e : (toldM s x).1 = s := by unfold toldM; rw [if_pos q]
    rw [e, e]
  have r3 : s.role = 3 := by omega
  obtain ⟨ln, lm⟩ := h.rl.ln r3
  have hI : x.from_ ∈ s.peers := hp ▸ hf.pe
  have tl : tI s x < s.peers.length := List.idxOf_lt_length_iff.2 hI
  by_cases a : x.nums.getD 1 0 = 0
  · have e : (toldM s x).1 = toldN s x := by unfold toldM; rw [if_neg q, if_pos a]
    rw [e]
    have gen : ∀ u : Seat, ¬ (x.nums.getD 0 0 ≠ u.term ∨ u.role ≠ 3 ∨ (u.log.length : Int) < x.nums.getD 2 0) → (toldM u x).1 = toldN u x := fun u hu => by unfold toldM; rw [if_neg hu, if_pos a]
    have e2 : (toldM (toldN s x) x).1 = toldN (toldN s x) x := gen _ q
    rw [e2]
    have i : tI (toldN s x) x = tI s x := rfl
    have hv : (toldN s x).next.getD (tI s x) 0 = (if (if x.nums.getD 2 0 + 1 < s.next.getD (tI s x) 0 then x.nums.getD 2 0 + 1 else s.next.getD (tI s x) 0) > s.match_.getD (tI s x) 0 + 1 then (if x.nums.getD 2 0 + 1 < s.next.getD (tI s x) 0 then x.nums.getD 2 0 + 1 else s.next.getD (tI s x) 0) else s.match_.getD (tI s x) 0 + 1) := getD_set (by omega)
    have hm : (toldN s x).match_ = s.match_ := rfl
    have hn : (toldN s x).next = s.next.set (tI s x) (if (if x.nums.getD 2 0 + 1 < s.next.getD (tI s x) 0 then x.nums.getD 2 0 + 1 else s.next.getD (tI s x) 0) > s.match_.getD (tI s x) 0 + 1 then (if x.nums.getD 2 0 + 1 < s.next.getD (tI s x) 0 then x.nums.getD 2 0 + 1 else s.next.getD (tI s x) 0) else s.match_.getD (tI s x) 0 + 1) := rfl
    show ({ toldN s x with next := (toldN s x).next.set (tI s x) _ } : Seat) = toldN s x
    rw [i, hv, hm, hn, List.set_set]
    rw [mx3 (n := s.next.getD (tI s x) 0) (m := s.match_.getD (tI s x) 0) (k := x.nums.getD 2 0) rfl]
    rfl
  · have e : (toldM s x).1 = toldY s x := by unfold toldM; rw [if_neg q, if_neg a]
    rw [e]
    have gen : ∀ u : Seat, ¬ (x.nums.getD 0 0 ≠ u.term ∨ u.role ≠ 3 ∨ (u.log.length : Int) < x.nums.getD 2 0) → (toldM u x).1 = toldY u x := fun u hu => by unfold toldM; rw [if_neg hu, if_neg a]
    have e2 : (toldM (toldY s x) x).1 = toldY (toldY s x) x := gen _ q
    rw [e2]
    have tm2 : tM (toldY s x) x = tM s x := by
      have hv : (toldY s x).match_.getD (tI s x) 0 = tM s x := getD_set (by omega)
      have : tM (toldY s x) x = if x.nums.getD 2 0 > (toldY s x).match_.getD (tI s x) 0 then x.nums.getD 2 0 else (toldY s x).match_.getD (tI s x) 0 := rfl
      rw [this, hv]
      have : tM s x ≥ x.nums.getD 2 0 := by unfold tM; split <;> omega
      rw [if_neg (by omega)]
    have n2 : (toldY s x).next = s.next.set (tI s x) (tM s x + 1) := rfl
    have m2 : (toldY s x).match_ = s.match_.set (tI s x) (tM s x) := rfl
    have c2 : (toldY s x).commit = cm s.log s.term (s.match_.set (tI s x) (tM s x)) s.commit s.log.length := rfl
    have y2 : toldY (toldY s x) x = { toldY s x with next := (toldY s x).next.set (tI s x) (tM (toldY s x) x + 1), match_ := (toldY s x).match_.set (tI s x) (tM (toldY s x) x), commit := cm s.log s.term ((toldY s x).match_.set (tI s x) (tM (toldY s x) x)) (toldY s x).commit s.log.length } := rfl
    rw [y2, tm2, n2, m2, List.set_set, List.set_set, c2]
    have : cm s.log s.term (s.match_.set (tI s x) (tM s x)) (cm s.log s.term (s.match_.set (tI s x) (tM s x)) s.commit s.log.length) s.log.length = cm s.log s.term (s.match_.set (tI s x) (tM s x)) s.commit s.log.length := by
      rcases cm_spec (l := s.log) (t := s.term) (mt := s.match_.set (tI s x) (tM s x)) (was := s.commit) s.log.length with e | ⟨p, _, _, e, w, _⟩
      · rw [e, e]
      · rw [e]; exact cm_again _ p e w
    rw [this]
    rfl
theorem hear_twice {s : Seat} (h : Ok s) {x : Msg} (hx : MOk x) : (hearM (hearM s x).1 x).1 = (hearM s x).1 := by
  cases q : forB s x
  · have e : (hearM s x).1 = s := by unfold hearM; rw [q]; rfl
    rw [e, e]
  have hf := isFor_of q
  have uo := upS_ok h hf
  obtain ⟨u1, u2, u3, u4⟩ := upS_keeps s x
  have ut := upS_term s x
  by_cases k1 : x.kind = 1
  · have e : ∀ t : Seat, forB t x = true → (hearM t x).1 = (ask t (x.nums.getD 0 0) x.from_ (x.nums.getD 1 0) (x.nums.getD 2 0)).1 := fun t ht => by unfold hearM; rw [if_pos ht, if_pos k1]; rfl
    rw [e s q]
    have hk := ask_keeps s (x.nums.getD 0 0) x.from_ (x.nums.getD 1 0) (x.nums.getD 2 0)
    rw [e _ (by rw [forB_congr hk.2.2.2 hk.2.2.1]; exact q), ask_twice]
  by_cases k2 : x.kind = 2
  · have e : ∀ t : Seat, forB t x = true → (hearM t x).1 = (votedM (upS t x) x).1 := fun t ht => by unfold hearM; rw [if_pos ht, if_neg k1, if_pos k2]
    rw [e s q]
    obtain ⟨w1, w2, w3⟩ := votedM_keeps (upS s x) x
    rw [e _ (by rw [forB_congr (w2.trans u2) (w3.trans u1)]; exact q), upS_same (by omega), voted_twice]
  by_cases k3 : x.kind = 3
  · have e : ∀ t : Seat, forB t x = true → (hearM t x).1 = (putsM (upS t x) x).1 := fun t ht => by unfold hearM; rw [if_pos ht, if_neg k1, if_neg k2, if_pos k3]
    rw [e s q]
    obtain ⟨w1, w2, w3⟩ := putsM_keeps (upS s x) x
    rw [e _ (by rw [forB_congr (w2.trans u2) (w3.trans u1)]; exact q), upS_same (by omega), puts_twice uo hx hf k3]
  · have e : ∀ t : Seat, forB t x = true → (hearM t x).1 = (toldM (upS t x) x).1 := fun t ht => by unfold hearM; rw [if_pos ht, if_neg k1, if_neg k2, if_neg k3]
    rw [e s q]
    obtain ⟨w1, w2, w3⟩ := toldM_keeps (upS s x) x
    rw [e _ (by rw [forB_congr (w2.trans u2) (w3.trans u1)]; exact q), upS_same (by omega), told_twice uo hf u1.symm]
end Go.Proofs.YtmkpokcfefjifaaDoor

/- VoteWinner, the plain law: in one term at most one has the votes of more than half. -/
import Derived.Test.YtecdonbjabjaeaaG6
import Derived.Test.YtecdonbjabjaeaaP2
import Derived.Test.YtecdonbjabjaeaaW
set_option linter.unusedSimpArgs false
set_option linter.unusedVariables false
namespace Go.Proofs.Ytecdonbjabjaeaa
open Go.Ab
def Good (P : List Int) (j : Nat) (s : Seat) : Prop := s.id = j ∧ s.peers = P ∧ s.term = 4 ∧ s.voted = -1 ∧ s.role = 1 ∧ s.log.length ≤ 30 ∧ s.votes = []
theorem group_L2 {K : List Seat → Int → Option (List Seat)} {logs : List (List Int)} {i : Nat} {out : List Seat} {P : List Int} (hi : i < logs.length) (hl : (logs[i]).length ≤ 30) : ∀ m k lg last, (logs[i]).length < m + k → k ≤ (logs[i]).length → lg.length = k →
    ∃ lg', lg'.length ≤ 30 ∧ law14_Group_L2 K logs i out P m lg last (k : Int) = law14_Group_J4 K out i P lg' := by
  intro m
  induction m with
  | zero => intro k lg last h1 h2; omega
  | succ m ih =>
    intro k lg last h1 h2 h3
    rw [law14_Group_L2, idx_nat hi, Option.bind_some, cond_d]
    by_cases hk : k < (logs[i]).length
    · rw [if_pos (by omega), idx_nat hk, Option.bind_some, chk_pos (by omega), w64_succ (by omega)]
      exact ih (k + 1) _ _ (by omega) (by omega) (by simp [h3])
    · rw [if_neg (by omega)]
      exact ⟨lg, by omega, rfl⟩
theorem group_L1 {logs : List (List Int)} {P : List Int} (hn : logs.length ≤ 7) (hl : ∀ l ∈ logs, l.length ≤ 30) : ∀ m k out, logs.length < m + k → k ≤ logs.length → out.length = k → (∀ j (h : j < out.length), Good P j out[j]) →
    ∃ r, law14_Group_L1 logs P m out (k : Int) = some r ∧ r.length = logs.length ∧ ∀ j (h : j < r.length), Good P j r[j] := by
  intro m
  induction m with
  | zero => intro k out h1 h2; omega
  | succ m ih =>
    intro k out h1 h2 h3 h4
    rw [law14_Group_L1, cond_d]
    by_cases hk : k < logs.length
    · have hlk := hl _ (List.getElem_mem hk)
      rw [if_pos (by omega)]
      obtain ⟨lg, e1, e2⟩ := group_L2 (K := law14_Group_L1 logs P m) (out := out) (P := P) hk hlk BIG 0 [] 0 (by rw [BIG_eq]; omega) (by omega) rfl
      have e2' : law14_Group_L2 (law14_Group_L1 logs P m) logs (k : Int) out P BIG [] 0 0 = _ := e2
      rw [e2', law14_Group_J4, chk_pos (by omega), law14_Group_J3, w64_succ (by omega)]
      refine ih (k + 1) _ (by omega) (by omega) (by simp [h3]) (fun j hj => ?_)
      by_cases hjk : j < out.length
      · rw [List.getElem_append_left hjk]; exact h4 j hjk
      · have hj' : j < out.length + 1 := by simpa using hj
        have : j = k := by omega
        subst this
        rw [List.getElem_append_right (by omega)]
        simp only [h3, Nat.sub_self, List.getElem_cons_zero]
        exact ⟨rfl, rfl, rfl, rfl, rfl, e1, rfl⟩
    · rw [if_neg (by omega), law14_Group_J2]
      exact ⟨out, rfl, by omega, h4⟩
theorem group_eq {logs : List (List Int)} (hn : logs.length ≤ 7) (hl : ∀ l ∈ logs, l.length ≤ 30) : ∃ r P, law14_Group_f logs = some r ∧ P.length = logs.length ∧ r.length = logs.length ∧ ∀ j (h : j < r.length), Good P j r[j] := by
  have L3 : ∀ m k p, logs.length < m + k → k ≤ logs.length → p.length = k → ∃ r P, law14_Group_L3 logs m p (k : Int) = some r ∧ P.length = logs.length ∧ r.length = logs.length ∧ ∀ j (h : j < r.length), Good P j r[j] := by
    intro m
    induction m with
    | zero => intro k p h1 h2; omega
    | succ m ih =>
      intro k p h1 h2 h3
      rw [law14_Group_L3, cond_d]
      by_cases hk : k < logs.length
      · rw [if_pos (by omega), chk_pos (by omega), w64_succ (by omega)]
        exact ih (k + 1) _ (by omega) (by omega) (by simp [h3])
      · rw [if_neg (by omega), law14_Group_J1]
        obtain ⟨r, e1, e2, e3⟩ := group_L1 (P := p) hn hl BIG 0 [] (by rw [BIG_eq]; omega) (by omega) rfl (fun j h => by simp at h)
        exact ⟨r, p, e1, by omega, e2, e3⟩
  exact L3 BIG 0 [] (by rw [BIG_eq]; omega) (by omega) rfl
abbrev Gh := Nat → Int → Option Nat
def updG (g : Gh) (a : Nat) (t : Int) (c : Nat) : Gh := fun q u => if q = a ∧ u = t then some c else g q u
structure SOK (P : List Int) (T : Nat) (g : Gh) (i : Nat) (s : Seat) : Prop where
  id : s.id = i
  peers : s.peers = P
  log : s.log.length ≤ 30
  t0 : 0 ≤ s.term
  t1 : s.term ≤ 4 + T
  vl : s.votes.length ≤ 1 + T
  i1 : ∀ t c, g i t = some c → t ≤ s.term ∧ (t = s.term → s.voted = (c : Int))
  i2 : s.role = 2 → ∀ p ∈ s.votes, ∃ q : Nat, p = q ∧ g q s.term = some i
def LeG (g g' : Gh) : Prop := ∀ q t c, g q t = some c → g' q t = some c
def WOK (P : List Int) (g : Gh) (w : Seat) : Prop := won w.votes P = true ∧ ∃ i : Nat, w.id = i ∧ ∀ p ∈ w.votes, ∃ q : Nat, p = q ∧ g q w.term = some i
theorem WOK.mono {P : List Int} {g g' : Gh} {w : Seat} (h : WOK P g w) (hg : LeG g g') : WOK P g' w := by
  obtain ⟨h1, i, h2, h3⟩ := h
  exact ⟨h1, i, h2, fun p hp => by obtain ⟨q, e, hq⟩ := h3 p hp; exact ⟨q, e, hg _ _ _ hq⟩⟩
theorem SOK.mono {P : List Int} {T T' : Nat} {g g' : Gh} {i : Nat} {s : Seat} (h : SOK P T g i s) (hT : T ≤ T') (hi : ∀ t, g' i t = g i t) (hg : LeG g g') : SOK P T' g' i s :=
  ⟨h.id, h.peers, h.log, h.t0, by have := h.t1; omega, by have := h.vl; omega, fun t c e => h.i1 t c (by rw [← hi]; exact e), fun hr p hp => by obtain ⟨q, e, hq⟩ := h.i2 hr p hp; exact ⟨q, e, hg _ _ _ hq⟩⟩
theorem updG_le {g : Gh} {a : Nat} {t : Int} {c : Nat} (h : ∀ d, g a t = some d → d = c) : LeG g (updG g a t c) := fun q u d e => by
  unfold updG
  by_cases hq : q = a ∧ u = t
  · obtain ⟨rfl, rfl⟩ := hq; rw [if_pos ⟨rfl, rfl⟩, h d e]
  · rw [if_neg hq]; exact e
theorem updG_ne {g : Gh} {a : Nat} {t : Int} {c i : Nat} (h : i ≠ a) (u : Int) : updG g a t c i u = g i u := by unfold updG; rw [if_neg (fun e => h e.1)]
theorem count_two' {p q : Int → Bool} : ∀ l : List Int, l.countP p + l.countP q ≤ l.length + l.countP (fun x => p x && q x)
  | [] => by simp
  | a :: l => by
    have := count_two' (p := p) (q := q) l
    simp only [List.countP_cons, List.length_cons]
    cases p a <;> cases q a <;> simp <;> omega
/-- two that win in one term are one -/
theorem won_one {P : List Int} {g : Gh} {v w : List Int} {t : Int} {i j : Nat} (h1 : won v P = true) (h2 : won w P = true) (hv : ∀ p ∈ v, ∃ q : Nat, p = q ∧ g q t = some i) (hw : ∀ p ∈ w, ∃ q : Nat, p = q ∧ g q t = some j) : i = j := by
  unfold won at h1 h2
  simp only [decide_eq_true_eq] at h1 h2
  have := count_two' (p := fun p => v.contains p) (q := fun p => w.contains p) P
  have hpos : 0 < P.countP (fun x => v.contains x && w.contains x) := by omega
  obtain ⟨x, hx, hx2⟩ := List.countP_pos_iff.1 hpos
  simp only [Bool.and_eq_true, List.contains_eq_mem, decide_eq_true_eq] at hx2
  obtain ⟨q1, e1, g1⟩ := hv x hx2.1
  obtain ⟨q2, e2, g2⟩ := hw x hx2.2
  have : q1 = q2 := by omega
  subst this
  rw [g1] at g2
  injection g2
/-- what becomes of one that is asked -/
theorem ask_sok {P : List Int} {T : Nat} {g : Gh} {i who : Nat} {s : Seat} {t l m : Int} (h : SOK P T g i s) (hw : i ≠ who) (ht : t ≤ 4 + T) :
    let r := ask s t who l m
    ((r.2 = true → (∀ d, g i t = some d → d = who) ∧ SOK P T (updG g i t who) i r.1) ∧ (r.2 = false → SOK P T g i r.1)) := by
  intro r
  have hr : r = ask s t who l m := rfl
  have hi2 : ∀ (g' : Gh), LeG g g' → s.role = 2 → ∀ p ∈ s.votes, ∃ q : Nat, p = q ∧ g' q s.term = some i := fun g' hg hro p hp => by
    obtain ⟨q, e, hq⟩ := h.i2 hro p hp; exact ⟨q, e, hg _ _ _ hq⟩
  unfold ask ask1 at hr
  split at hr
  · rw [hr]; exact ⟨fun e => (by cases e), fun _ => h⟩
  · split at hr
    · rename_i hlt hgt
      have nog : ∀ d, g i t = some d → False := fun d e => by have := (h.i1 t d e).1; omega
      split at hr
      · rw [hr]
        refine ⟨fun _ => ⟨fun d e => (nog d e).elim, ?_⟩, fun e => (by cases e)⟩
        refine ⟨h.id, h.peers, h.log, by show (0 : Int) ≤ t; have := h.t0; omega, ht, by show ([] : List Int).length ≤ _; simp, fun u c e => ?_, fun e => (by cases (show (1 : Int) = 2 from e))⟩
        unfold updG at e
        by_cases hu : u = t
        · subst hu; rw [if_pos ⟨rfl, rfl⟩] at e; injection e with e; subst e
          exact ⟨Int.le_refl _, fun _ => rfl⟩
        · rw [if_neg (fun q => hu q.2)] at e
          have := (h.i1 u c e).1
          exact ⟨by show u ≤ t; omega, fun q => absurd q hu⟩
      · rw [hr]
        refine ⟨fun e => (by cases e), fun _ => ?_⟩
        refine ⟨h.id, h.peers, h.log, by show (0 : Int) ≤ t; have := h.t0; omega, ht, by show ([] : List Int).length ≤ _; simp, fun u c e => ?_, fun e => (by cases (show (1 : Int) = 2 from e))⟩
        have := (h.i1 u c e).1
        exact ⟨by show u ≤ t; omega, fun q => (by exfalso; have q : u = t := q; omega)⟩
    · rename_i hlt hgt
      have hts : t = s.term := by omega
      split at hr
      · rename_i hfree
        rw [hr]
        simp only [free, Bool.and_eq_true, Bool.or_eq_true, beq_iff_eq] at hfree
        have only : ∀ d, g i t = some d → d = who := fun d e => by
          have := (h.i1 t d e).2 hts
          have hf := hfree.1
          omega
        refine ⟨fun _ => ⟨only, ?_⟩, fun e => (by cases e)⟩
        refine ⟨h.id, h.peers, h.log, h.t0, h.t1, h.vl, fun u c e => ?_, hi2 _ (updG_le only)⟩
        unfold updG at e
        by_cases hu : u = t
        · subst hu; rw [if_pos ⟨rfl, rfl⟩] at e; injection e with e; subst e
          exact ⟨by show u ≤ s.term; omega, fun _ => rfl⟩
        · rw [if_neg (fun q => hu q.2)] at e
          exact ⟨(h.i1 u c e).1, fun q => absurd (q.trans hts.symm) hu⟩
      · rw [hr]; exact ⟨fun e => (by cases e), fun _ => h⟩
theorem begin_sok {P : List Int} {T : Nat} {g : Gh} {i : Nat} {s : Seat} (h : SOK P T g i s) : (∀ d, g i (s.term + 1) = some d → d = i) ∧ SOK P (T + 1) (updG g i (s.term + 1) i) i (begin_ s) := by
  have nog : ∀ d, g i (s.term + 1) = some d → False := fun d e => by have := (h.i1 _ d e).1; omega
  refine ⟨fun d e => (nog d e).elim, h.id, h.peers, h.log, by show (0 : Int) ≤ s.term + 1; have := h.t0; omega, by show s.term + 1 ≤ _; have := h.t1; omega, by simp [begin_], fun u c e => ?_, fun _ p hp => ?_⟩
  · unfold updG at e
    by_cases hu : u = s.term + 1
    · subst hu; rw [if_pos ⟨rfl, rfl⟩] at e; injection e with e; subst e
      exact ⟨Int.le_refl _, fun _ => h.id⟩
    · rw [if_neg (fun q => hu q.2)] at e
      have := (h.i1 u c e).1
      exact ⟨by show u ≤ s.term + 1; omega, fun q => absurd q hu⟩
  · have : p = s.id := by simpa [begin_] using hp
    refine ⟨i, by rw [this, h.id], ?_⟩
    show updG g i (s.term + 1) i i (s.term + 1) = some i
    unfold updG; rw [if_pos ⟨rfl, rfl⟩]
def Inv (P : List Int) (n T : Nat) (g : Gh) (seats won : List Seat) : Prop := seats.length = n ∧ (∀ i (h : i < seats.length), SOK P T g i seats[i]) ∧ won.length ≤ T ∧ ∀ w ∈ won, WOK P g w
theorem loop_won {K : List Seat → List Seat → Int → Option Bool} {won' : List Seat} {x : Seat} {i : Int} {seats : List Seat} {votes : List Int} (hl : won'.length ≤ 1000) (h : ∀ w ∈ won', w.term = x.term → w.id = x.id) : ∀ m k, won'.length < m + k → k ≤ won'.length →
    law14_VoteWinner_L2 K won' x i seats votes m (k : Int) = law14_VoteWinner_J7 K won' i seats x votes := by
  intro m
  induction m with
  | zero => intro k h1 h2; omega
  | succ m ih =>
    intro k h1 h2
    rw [law14_VoteWinner_L2, cond_d]
    by_cases hk : k < won'.length
    · rw [if_pos (by omega), idx_nat hk, Option.bind_some, law14_VoteWinner_J8, w64_succ (by omega)]
      have : ((won'[k].term == x.term) && (won'[k].id != x.id)) = false := by
        by_cases e : won'[k].term = x.term
        · have := h _ (List.getElem_mem hk) e
          simp [this]
        · have : (won'[k].term == x.term) = false := by simpa using e
          rw [this]; rfl
      rw [this, cond_false]
      exact ih (k + 1) (by omega) (by omega)
    · rw [if_neg (by omega)]
theorem inv_set {P : List Int} {n T T' : Nat} {g g' : Gh} {seats won' : List Seat} (h : Inv P n T g seats won') (hT : T ≤ T') {a : Nat} {s : Seat} (hs : SOK P T' g' a s) (hg : LeG g g') (ho : ∀ i, i ≠ a → ∀ t, g' i t = g i t) : Inv P n T' g' (seats.set a s) won' := by
  obtain ⟨h1, h2, h3, h4⟩ := h
  refine ⟨by simp [h1], fun i hi => ?_, by omega, fun w hw => (h4 w hw).mono hg⟩
  rw [List.getElem_set]
  by_cases e : a = i
  · subst e; rw [if_pos rfl]; exact hs
  · rw [if_neg e]
    exact (h2 i (by simpa using hi)).mono hT (ho i (fun q => e q.symm)) hg
theorem winner_L1 {acts : List Int} {r2 : List Seat} {P : List Int} (hn : 0 < r2.length ∧ r2.length ≤ 7) (hP : P.length = r2.length) (ha : acts.length ≤ 60) (hact : ∀ y ∈ acts, okI .u16 y) : ∀ m k seats won' g, acts.length < m + k → k ≤ acts.length → Inv P r2.length k g seats won' →
    law14_VoteWinner_L1 acts r2 true m seats won' (k : Int) = some true := by
  intro m
  induction m with
  | zero => intro k seats won' g h1 h2; omega
  | succ m ih =>
    intro k seats won' g h1 h2 hI
    rw [law14_VoteWinner_L1, cond_d]
    by_cases hk : k < acts.length
    · have hx := hact _ (List.getElem_mem hk)
      obtain ⟨a, haa⟩ : ∃ a : Nat, acts[k] = (a : Int) := ⟨acts[k].toNat, by have := hx.1; omega⟩
      have ha2 : a < 65536 := by have := hx.2; rw [haa] at this; omega
      obtain ⟨n, hnn⟩ : ∃ n, r2.length = n := ⟨_, rfl⟩
      rw [hnn] at hn hP hI
      rw [if_pos (by omega), idx_nat hk, Option.bind_some, haa, hnn]
      have hnz : ((n : Nat) : Int) ≠ 0 := by omega
      have e0 : IntKind.wrap .i64 ((a : Nat) : Int) = (a : Int) := w64 (by omega) (by omega)
      have hnn49 : n * n ≤ 49 := Nat.mul_le_mul hn.2 hn.2
      have hnnpos : 0 < n * n := Nat.mul_pos hn.1 hn.1
      have e1 : IntKind.wrap .i64 (((n : Nat) : Int) * (n : Int)) = ((n * n : Nat) : Int) := by rw [w64 (by push_cast; omega) (by push_cast; omega)]; push_cast; rfl
      have hdiv : a / n < 65536 := Nat.lt_of_le_of_lt (Nat.div_le_self _ _) ha2
      have hdiv2 : a / (n * n) < 65536 := Nat.lt_of_le_of_lt (Nat.div_le_self _ _) ha2
      have e2 : Int.tmod ((a : Nat) : Int) (n : Int) = ((a % n : Nat) : Int) := by rw [Int.tmod_eq_emod_of_nonneg (by omega)]; rfl
      have e3 : IntKind.wrap .i64 (Int.tdiv ((a : Nat) : Int) (n : Int)) = ((a / n : Nat) : Int) := by rw [Int.tdiv_eq_ediv_of_nonneg (by omega), show ((a : Int) / (n : Int)) = ((a / n : Nat) : Int) from rfl, w64 (Int.le_trans (by decide) (Int.natCast_nonneg _)) (by generalize a / n = q at hdiv; omega)]
      have e4 : Int.tmod ((a / n : Nat) : Int) (n : Int) = ((a / n % n : Nat) : Int) := by rw [Int.tmod_eq_emod_of_nonneg (Int.natCast_nonneg _)]; rfl
      have e5 : IntKind.wrap .i64 (Int.tdiv ((a : Nat) : Int) ((n * n : Nat) : Int)) = ((a / (n * n) : Nat) : Int) := by rw [Int.tdiv_eq_ediv_of_nonneg (by omega), show ((a : Int) / ((n * n : Nat) : Int)) = ((a / (n * n) : Nat) : Int) from rfl, w64 (Int.le_trans (by decide) (Int.natCast_nonneg _)) (by generalize a / (n * n) = q at hdiv2; omega)]
      rw [chk_pos hnz, chk_pos hnz, chk_pos hnz, e1, chk_pos (by omega), e0, e5, e2, e3, e4]
      obtain ⟨who, hwho⟩ : ∃ w, a % n = w := ⟨_, rfl⟩
      obtain ⟨whom, hwhom⟩ : ∃ w, a / n % n = w := ⟨_, rfl⟩
      have hw1 : who < n := by rw [← hwho]; exact Nat.mod_lt _ hn.1
      have hw2 : whom < n := by rw [← hwhom]; exact Nat.mod_lt _ hn.1
      have hlen := hI.1
      have next : ∀ seats2 won2 g2, Inv P n (k + 1) g2 seats2 won2 → law14_VoteWinner_J4 (law14_VoteWinner_L1 acts r2 true m) k seats2 won2 = some true := by
        intro seats2 won2 g2 h
        unfold law14_VoteWinner_J4
        rw [w64_succ (by omega)]
        exact ih (k + 1) seats2 won2 g2 (by omega) (by omega) (by rw [hnn]; exact h)
      have grow : ∀ {seats2 won2 g2}, Inv P n k g2 seats2 won2 → Inv P n (k + 1) g2 seats2 won2 := fun h =>
        ⟨h.1, fun i hi => (h.2.1 i hi).mono (by omega) (fun _ => rfl) (fun _ _ _ e => e), by have := h.2.2.1; omega, h.2.2.2⟩
      rw [hwho, hwhom, idx_nat (show who < seats.length by omega), Option.bind_some, Option.bind_some]
      have hsw := hI.2.1 who (by omega)
      have hst : seats[who].term ≤ 64 := by have := hsw.t1; omega
      rw [vBegin_eq (by have := hsw.t0; omega) (by omega), Option.bind_some, Int.toNat_natCast]
      cases hc : (Int.tmod ((a / (n * n) : Nat) : Int) 4 == 0) with
      | true =>
        rw [cond_true]
        obtain ⟨b1, b2⟩ := begin_sok hsw
        exact next _ _ _ (inv_set hI (by omega) b2 (updG_le b1) (fun i hi t => updG_ne hi t))
      | false =>
        rw [cond_false, law14_VoteWinner_J5]
        cases hv : ((seats[who].role != 2) || ((who : Int) == (whom : Int))) with
        | true => rw [cond_true]; exact next _ _ _ (grow hI)
        | false =>
          simp only [Bool.or_eq_false_iff, bne_eq_false_iff_eq, beq_eq_false_iff_ne] at hv
          obtain ⟨hrole, hne⟩ := hv
          have hne' : whom ≠ who := fun e => hne (by rw [e])
          have hsm := hI.2.1 whom (by omega)
          have e0' := e0
          rw [cond_false, hnn, e0, e3, e4, e2, hwho, hwhom]
          rw [idx_nat (show whom < seats.length by omega), Option.bind_some, end_eq (by have := hsw.log; omega), Option.bind_some, vAsk_eq (by have := hsm.log; omega), Option.bind_some]
          have hask := ask_sok (l := lastT seats[who].log) (m := (seats[who].log.length : Int)) (t := seats[who].term) hsm hne' (by have := hsw.t1; omega)
          have hkeep := ask_keeps seats[whom] seats[who].term who (lastT seats[who].log) (seats[who].log.length : Int)
          have hnew : (ask seats[whom] seats[who].term who (lastT seats[who].log) (seats[who].log.length : Int)).2 = true → newer seats[whom].log (lastT seats[who].log) (seats[who].log.length : Int) = true := ask_newer
          generalize ask seats[whom] seats[who].term who (lastT seats[who].log) (seats[who].log.length : Int) = A at *
          obtain ⟨o, is⟩ := A
          simp only at hask hkeep hnew
          simp only [Int.toNat_natCast, hwho, hwhom]
          -- behind it: does it win?
          have fin : ∀ (seats2 : List Seat) (g2 : Gh) (votes : List Int), LeG g g2 → Inv P n (k + 1) g2 seats2 won' → votes.length ≤ 2 + k → (∀ p ∈ votes, ∃ q : Nat, p = q ∧ g2 q seats[who].term = some who) →
              law14_VoteWinner_J6 (law14_VoteWinner_L1 acts r2 true m) seats[who] won' k seats2 votes = some true := by
            intro seats2 g2 votes hle hI2 hvl hvo
            unfold law14_VoteWinner_J6
            rw [hsw.peers, vWon_eq (by omega) (by omega), Option.bind_some]
            cases hwn : won votes P with
            | false => rw [cond_false]; exact next _ _ _ hI2
            | true =>
              have hone : ∀ w ∈ won', w.term = seats[who].term → w.id = seats[who].id := fun w hw ht => by
                obtain ⟨q1, i, q2, q3⟩ := hI2.2.2.2 w hw
                have := won_one q1 hwn (t := seats[who].term) (fun p hp => by obtain ⟨q, e, hq⟩ := q3 p hp; exact ⟨q, e, by rw [← ht]; exact hq⟩) hvo
                rw [q2, this, hsw.id]
              have hwl := hI.2.2.1
              rw [cond_true]
              have := loop_won (K := law14_VoteWinner_L1 acts r2 true m) (i := (k : Int)) (seats := seats2) (votes := votes) (by omega) hone BIG 0 (by rw [BIG_eq]; omega) (by omega)
              have this' : law14_VoteWinner_L2 (law14_VoteWinner_L1 acts r2 true m) won' seats[who] k seats2 votes BIG 0 = _ := this
              rw [this', law14_VoteWinner_J7, chk_pos (by omega)]
              refine next _ _ g2 ⟨hI2.1, hI2.2.1, by simp; omega, fun w hw => ?_⟩
              rcases List.mem_append.1 hw with hw | hw
              · exact hI2.2.2.2 w hw
              · rw [List.mem_singleton] at hw
                subst hw
                exact ⟨hwn, who, hsw.id, hvo⟩
          cases is with
          | false =>
            rw [cond_false]
            have hs := (hask.2 rfl)
            exact fin _ g _ (fun _ _ _ e => e) (grow (inv_set hI (Nat.le_refl _) hs (fun _ _ _ e => e) (fun _ _ _ => rfl))) (by have := hsw.vl; omega) (fun p hp => hsw.i2 hrole p hp)
          | true =>
            obtain ⟨honly, hs⟩ := hask.1 rfl
            rw [cond_true, Option.bind_some, rNewer_eq (by rw [hkeep.1]; have := hsm.log; omega), Option.bind_some, hkeep.1, hnew rfl]
            have hvl := hsw.vl
            rw [Bool.not_true, cond_false, chk_pos (by omega), chk_pos (by omega), idx_nat (by simp; omega), Option.bind_some]
            have hI2 := inv_set hI (Nat.le_refl _) hs (updG_le honly) (fun i hi t => updG_ne hi t)
            have hvo : ∀ p ∈ (([] : List Int) ++ seats[who].votes) ++ [(whom : Int)], ∃ q : Nat, p = q ∧ updG g whom seats[who].term who q seats[who].term = some who := fun p hp => by
              rcases List.mem_append.1 hp with hp | hp
              · obtain ⟨q, e, hq⟩ := hsw.i2 hrole p (by simpa using hp)
                exact ⟨q, e, updG_le honly _ _ _ hq⟩
              · exact ⟨whom, by simpa using hp, by unfold updG; rw [if_pos ⟨rfl, rfl⟩]⟩
            have hsok2 : SOK P (k + 1) (updG g whom seats[who].term who) who ⟨seats[who].id, seats[who].peers, seats[who].term, seats[who].voted, seats[who].role, seats[who].log, seats[who].commit, (([] : List Int) ++ seats[who].votes) ++ [(whom : Int)], seats[who].next, seats[who].match_⟩ :=
              ⟨hsw.id, hsw.peers, hsw.log, hsw.t0, by show seats[who].term ≤ _; have := hsw.t1; omega, by simp; omega, fun t c e => by rw [updG_ne (fun q => hne' q.symm)] at e; exact hsw.i1 t c e, fun _ p hp => hvo p hp⟩
            exact fin _ _ _ (updG_le honly) (inv_set hI2 (by omega) hsok2 (fun _ _ _ e => e) (fun _ _ _ => rfl)) (by simp; omega) hvo
    · rw [if_neg (by omega), law14_VoteWinner_J3]
theorem winner_L3 {logs : List (List Int)} {acts : List Int} (hn : 0 < logs.length ∧ logs.length ≤ 7) (ha : acts.length ≤ 60) (hact : ∀ y ∈ acts, okI .u16 y) : ∀ m k, logs.length < m + k → k ≤ logs.length → (∀ j (h : j < logs.length), j < k → logs[j].length ≤ 30) →
    law14_VoteWinner_L3 logs true acts m (k : Int) = some true := by
  intro m
  induction m with
  | zero => intro k h1 h2; omega
  | succ m ih =>
    intro k h1 h2 h3
    rw [law14_VoteWinner_L3, cond_d]
    by_cases hk : k < logs.length
    · rw [if_pos (by omega), idx_nat hk, Option.bind_some, cond_d]
      split
      · rfl
      · rw [w64_succ (by omega)]
        refine ih (k + 1) (by omega) (by omega) (fun j hj hjk => ?_)
        by_cases e : j = k
        · subst e; omega
        · exact h3 j hj (by omega)
    · rw [if_neg (by omega), law14_VoteWinner_J2]
      obtain ⟨r, P, e1, e2, e3, e4⟩ := group_eq hn.2 (fun l hl => by obtain ⟨j, hj, rfl⟩ := List.mem_iff_getElem.1 hl; exact h3 j hj (by omega))
      rw [e1, Option.bind_some]
      refine winner_L1 (k := 0) (P := P) (by omega) (by omega) ha hact BIG r [] (fun _ _ => none) (by rw [BIG_eq]; omega) (by omega) ⟨rfl, fun i hi => ?_, by simp, fun w hw => by cases hw⟩
      obtain ⟨g1, g2, g3, g4, g5, g6, g7⟩ := e4 i hi
      exact ⟨g1, g2, g6, by omega, by omega, by rw [g7]; simp, fun t c e => (by cases e), fun h => by omega⟩
theorem VoteWinner_true (y0 : List (List Int)) (o0 : ∀ y44 ∈ y0, ∀ y41 ∈ y44, okI .u8 y41) (y1 : List Int) (o1 : ∀ y45 ∈ y1, okI .u16 y45) : law14_VoteWinner_f y0 y1 = some true := by
  unfold law14_VoteWinner_f law14_VoteWinner_J1
  rw [head_eq, Option.bind_some]
  cases h : ((decide (7 < (y0.length : Int))) || (((y0.length : Int) == 0) || (decide (60 < (y1.length : Int))))) with
  | true => rfl
  | false =>
    simp only [Bool.or_eq_false_iff, decide_eq_false_iff_not, beq_eq_false_iff_ne] at h
    obtain ⟨h1, h2, h3⟩ := h
    exact winner_L3 (k := 0) (by omega) (by omega) o1 BIG (by rw [BIG_eq]; omega) (by omega) (fun j hj hjk => by omega)
end Go.Proofs.Ytecdonbjabjaeaa

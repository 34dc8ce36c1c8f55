import Derived.Test.YtmkpokcfefjifaaDoorQ7
import Derived.Test.YtmkpokcfefjifaaDoorQ8
import Derived.Test.YtmkpokcfefjifaaDoorQ6
import Derived.Test.YtmkpokcfefjifaaDoorG4
import Derived.Test.YtmkpokcfefjifaaDoorP0
set_option linter.unusedSectionVars false
/- SeatWins as a plain law. -/
set_option linter.unusedSimpArgs false
set_option linter.unusedVariables false
namespace Go.Proofs.YtmkpokcfefjifaaDoor
open Go.Ab Go.Kx
def Lw (n : Nat) : List Int := (List.range n).map fun i => ((3 * i : Nat) : Int)
theorem Lw_succ (n : Nat) : Lw (n + 1) = Lw n ++ [((3 * n : Nat) : Int)] := by unfold Lw; rw [List.range_succ, List.map_append]; rfl
theorem Lw_len (n : Nat) : (Lw n).length = n := by simp [Lw]
theorem Lw_nodup (n : Nat) : (Lw n).Nodup := by
  unfold Lw
  rw [List.nodup_iff_pairwise_ne, List.pairwise_map]
  exact List.nodup_range.imp (fun h e => h (by omega))
theorem Lw_get {n i : Nat} (h : i < n) : idx (Lw n) (i : Int) = some ((3 * i : Nat) : Int) := by
  rw [idx_nat (by rw [Lw_len]; exact h)]; simp [Lw]
def fresh (id : Int) (P : List Int) : Seat := ⟨id, P, 0, -1, 1, [], 0, [], [], []⟩
set_option maxRecDepth 100000 in
theorem g_new : ∀ n < 8, ∀ i < n, g_seat_New_f 1000000000000000000 ((3 * i : Nat) : Int) (Lw n) = some (fresh ((3 * i : Nat) : Int) (Lw n)) := by decide +kernel
theorem new_eq {n i : Nat} (hn : n < 8) (hi : i < n) : seat_New_f ((3 * i : Nat) : Int) (Lw n) = some (fresh ((3 * i : Nat) : Int) (Lw n)) := by rw [e_seat_New_f, BIG_eq]; exact g_new n hn i hi
theorem fresh_ok {n i : Nat} (hn : n < 8) (hi : i < n) : Ok (fresh ((3 * i : Nat) : Int) (Lw n)) :=
  ⟨by show (Lw n).length ≤ 7; rw [Lw_len]; omega, Lw_nodup n, by show _ ∈ Lw n; unfold Lw; exact List.mem_map.2 ⟨i, List.mem_range.2 hi, rfl⟩, by show (0 : Int) ≤ ((3 * i : Nat) : Int); omega, Int.le_refl _, by show (0 : Int) ≤ _; decide, Good.nil, Nat.zero_le _, Int.le_refl _, Int.le_refl _, List.nodup_nil, fun v hv => (List.not_mem_nil hv).elim,
    ⟨.inl rfl, fun _ => ⟨rfl, rfl⟩, fun _ => rfl, fun n => absurd (show (1 : Int) = 2 from n) (by decide), fun n => absurd (show (1 : Int) = 3 from n) (by decide), fun n => absurd (show (1 : Int) = 3 from n) (by decide), fun n => absurd (show (1 : Int) = 3 from n) (by decide)⟩⟩
/-- votes of peers, each once: how many -/
theorem count_votes {v P : List Int} (hv : v.Nodup) (hP : P.Nodup) (hs : ∀ x ∈ v, x ∈ P) : P.countP (fun p => v.contains p) = v.length := by
  rw [List.countP_eq_length_filter]
  refine List.Perm.length_eq ?_
  rw [List.perm_ext_iff_of_nodup (hP.filter _) hv]
  intro a
  rw [List.mem_filter]
  simp only [List.contains_iff_mem]
  exact ⟨fun h => h.2, fun h => ⟨hs a h, h⟩⟩
theorem won_len {v P : List Int} (hv : v.Nodup) (hP : P.Nodup) (hs : ∀ x ∈ v, x ∈ P) : won v P = decide (P.length < 2 * v.length) := by
  unfold won; rw [count_votes hv hP hs]
structure Win (n : Nat) (id : Int) (s : Seat) (got : List Int) : Prop where
  ok : Ok s
  id : s.id = id
  pe : s.peers = Lw n
  t1 : s.term = 1
  gn : got.Nodup
  gs : ∀ x ∈ got, x ∈ Lw n
  r3 : s.role = 3 → n < 2 * got.length
  r2 : s.role ≠ 3 → s.role = 2 ∧ s.votes.Perm got ∧ ¬ n < 2 * got.length
theorem Win.iff {n : Nat} {id : Int} {s : Seat} {got : List Int} (h : Win n id s got) : ((s.role == 3) == (decide ((n : Int) < (2 * (got.length : Int))))) = true := by
  by_cases r : s.role = 3
  · have := h.r3 r
    rw [show (s.role == 3) = true by simpa using r, decide_eq_true (by omega)]; rfl
  · have := (h.r2 r).2.2
    rw [show (s.role == 3) = false by simpa using r, decide_eq_false (by omega)]; rfl
theorem win_start {n i : Nat} (hn : n < 8) (hi : i < n) : Win n ((3 * i : Nat) : Int) (lateM (fresh ((3 * i : Nat) : Int) (Lw n))) [((3 * i : Nat) : Int)] := by
  have fo := fresh_ok hn hi
  have lo := late_ok fo
  have me := fo.me
  have hw : won [((3 * i : Nat) : Int)] (Lw n) = decide (n < 2 * 1) := by
    rw [won_len (by simp) (Lw_nodup n) (fun x hx => by simp at hx; subst hx; exact me), Lw_len]; rfl
  have np : ¬ ((fresh ((3 * i : Nat) : Int) (Lw n)).role = 3 ∨ (fresh ((3 * i : Nat) : Int) (Lw n)).term = 1099511627776) := fun q => by
    rcases q with q | q
    · exact absurd (show (1 : Int) = 3 from q) (by decide)
    · exact absurd (show (0 : Int) = 1099511627776 from q) (by decide)
  unfold lateM at lo ⊢
  rw [if_neg np] at lo ⊢
  have e : won [(fresh ((3 * i : Nat) : Int) (Lw n)).id] (fresh ((3 * i : Nat) : Int) (Lw n)).peers = decide (n < 2 * 1) := hw
  rw [e] at lo ⊢
  by_cases c : n < 2 * 1
  · rw [if_pos (decide_eq_true c)] at lo ⊢
    exact ⟨lo, rfl, rfl, rfl, by simp, fun x hx => by simp at hx; subst hx; exact me, fun _ => by simpa using c, fun r => absurd rfl r⟩
  · rw [if_neg (by simpa using c)] at lo ⊢
    exact ⟨lo, rfl, rfl, rfl, by simp, fun x hx => by simp at hx; subst hx; exact me, fun r => absurd (show (2 : Int) = 3 from r) (by decide), fun _ => ⟨rfl, .refl _, by simpa using c⟩⟩
def vm (from_ id t v : Int) : Msg := ⟨from_, id, 2, [t, v], []⟩
theorem vm_ok {n : Nat} (hn : n < 8) {f id t v : Int} (hf : f ∈ Lw n) (hid : id ∈ Lw n) (ht : t = 0 ∨ t = 1) (hv : v = 0 ∨ v = 1) : MOk (vm f id t v) := by
  have big : ∀ x ∈ Lw n, okI .i64 x := fun x hx => by
    unfold Lw at hx
    obtain ⟨j, hj, rfl⟩ := List.mem_map.1 hx
    have := List.mem_range.1 hj
    show _ ∧ _; omega
  refine ⟨by show 2 ≤ 60; omega, by show 0 ≤ 2400; omega, big _ hf, big _ hid, by show okI .i64 2; show _ ∧ _; decide, fun y hy => ?_, fun y hy => by cases hy⟩
  have hy : y ∈ [t, v] := hy
  simp at hy
  show _ ∧ _; omega
theorem vm_for {s : Seat} {f t v : Int} (hf : f ∈ s.peers) (hne : f ≠ s.id) (ht : t = 0 ∨ t = 1) (hv : v = 0 ∨ v = 1) : forB s (vm f s.id t v) = true := by
  unfold forB vm
  have an : ([t, v].any neg) = false := by
    simp only [List.any_cons, List.any_nil, neg, Bool.or_false, Bool.or_eq_false_iff, decide_eq_false_iff_not]; omega
  have g0 : [t, v].getD 0 0 = t := rfl
  have g1 : [t, v].getD 1 0 = v := rfl
  rw [if_pos ⟨rfl, hne, by simpa using hf, by show (1 : Int) ≤ 2; decide, by show (2 : Int) ≤ 4; decide, by show 2 ≤ 2; decide, by rw [g0]; omega, an⟩]
  unfold tailB
  show (if (2 : Int) = 3 then _ else (decide ([t, v].length = (if (2 : Int) = 2 then 2 else 3)) && (decide (([] : List Int).length = 0) && (decide ((2 : Int) = 1) || decide ([t, v].getD 1 0 ≤ 1))))) = true
  rw [if_neg (by decide), if_pos rfl, g1]
  rw [show decide (v ≤ 1) = true by rw [decide_eq_true_eq]; omega]
  rfl
theorem vm_not {s : Seat} {id t v : Int} (h : s.id = id) : (hearM s (vm id id t v)).1 = s := by
  unfold hearM forB vm
  rw [if_neg (fun q => ?_)]
  split at q
  · rename_i w; exact w.2.1 h.symm
  · cases q
/-- what hearing a vote makes of the seat and of those who voted -/
theorem win_step {n : Nat} (hn : n < 8) {id : Int} {s : Seat} {got : List Int} (h : Win n id s got) {f t v : Int} (hf : f ∈ Lw n) (ht : t = 0 ∨ t = 1) (hv : v = 0 ∨ v = 1) :
    Win n id (hearM s (vm f id t v)).1 (if f ≠ id ∧ t = 1 ∧ v = 1 ∧ f ∉ got then got ++ [f] else got) := by
  have hidm : id ∈ Lw n := h.id ▸ h.pe ▸ h.ok.me
  have mo := vm_ok hn hf hidm ht hv
  have ho := hear_ok h.ok mo
  by_cases e : f = id
  · subst e
    rw [if_neg (fun q => q.1 rfl), vm_not h.id]; exact h
  have hforB : forB s (vm f id t v) = true := by have := vm_for (s := s) (by rw [h.pe]; exact hf) (by rw [h.id]; exact e) ht hv; rwa [h.id] at this
  have up : upS s (vm f id t v) = s := upS_same (by show t ≤ s.term; rw [h.t1]; omega)
  have eh : (hearM s (vm f id t v)).1 = (votedM s (vm f id t v)).1 := by
    unfold hearM
    have kd : (vm f id t v).kind = 2 := rfl
    rw [if_pos hforB, if_neg (by rw [kd]; decide), if_pos kd, up]
  rw [eh] at ho ⊢
  by_cases r : s.role = 3
  · have es : (votedM s (vm f id t v)).1 = s := by unfold votedM; rw [if_pos (.inr (.inl (by omega)))]
    rw [es]
    split
    · rename_i q
      exact ⟨h.ok, h.id, h.pe, h.t1, by rw [List.nodup_append]; exact ⟨h.gn, by simp, fun a ha b hb z => by simp at hb; subst hb; exact q.2.2.2 (z ▸ ha)⟩, fun x hx => by
        rcases List.mem_append.1 hx with hx | hx
        · exact h.gs x hx
        · simp at hx; subst hx; exact hf, fun _ => by have := h.r3 r; simp; omega, fun z => absurd r z⟩
    · exact h
  obtain ⟨r2, pv, nw⟩ := h.r2 r
  by_cases q : f ≠ id ∧ t = 1 ∧ v = 1 ∧ f ∉ got
  · rw [if_pos q]
    have nq : ¬ ((vm f id t v).nums.getD 0 0 ≠ s.term ∨ s.role ≠ 2 ∨ (vm f id t v).nums.getD 1 0 = 0 ∨ (vm f id t v).from_ ∈ s.votes) := fun z => by
      rcases z with z | z | z | z
      · exact z (by rw [h.t1]; exact q.2.1)
      · exact z r2
      · have z : v = 0 := z; omega
      · exact q.2.2.2 (pv.mem_iff.1 z)
    have pm := ins_perm s.votes f
    have pg : (ins s.votes f).Perm (got ++ [f]) := pm.trans (pv.append_right _)
    have gn : (got ++ [f]).Nodup := by rw [List.nodup_append]; exact ⟨h.gn, by simp, fun a ha b hb z => by simp at hb; subst hb; exact q.2.2.2 (z ▸ ha)⟩
    have gs : ∀ x ∈ got ++ [f], x ∈ Lw n := fun x hx => by
        rcases List.mem_append.1 hx with hx | hx
        · exact h.gs x hx
        · simp at hx; subst hx; exact hf
    have hw : won (ins s.votes f) s.peers = decide (n < 2 * (got ++ [f]).length) := by
      rw [h.pe, won_len (pg.nodup_iff.2 gn) (Lw_nodup n) (fun x hx => gs x (pg.mem_iff.1 hx)), Lw_len, pg.length_eq]
    unfold votedM at ho ⊢
    rw [if_neg nq] at ho ⊢
    have hw' : won (ins s.votes (vm f id t v).from_) s.peers = decide (n < 2 * (got ++ [f]).length) := hw
    rw [hw'] at ho ⊢
    by_cases c : n < 2 * (got ++ [f]).length
    · rw [if_pos (decide_eq_true c)] at ho ⊢
      exact ⟨ho, h.id, h.pe, h.t1, gn, gs, fun _ => c, fun z => absurd rfl z⟩
    · rw [if_neg (by simpa using c)] at ho ⊢
      exact ⟨ho, h.id, h.pe, h.t1, gn, gs, fun z => absurd r2 (by have : s.role = 3 := z; omega), fun _ => ⟨r2, pg, c⟩⟩
  · rw [if_neg q]
    have es : (votedM s (vm f id t v)).1 = s := by
      unfold votedM
      rw [if_pos ?_]
      show t ≠ s.term ∨ s.role ≠ 2 ∨ v = 0 ∨ f ∈ s.votes
      rw [h.t1]
      by_cases t1 : t = 1
      · by_cases v1 : v = 1
        · refine .inr (.inr (.inr ?_))
          rw [pv.mem_iff]
          exact Classical.byContradiction fun z => q ⟨e, t1, v1, z⟩
        · exact .inr (.inr (.inl (by omega)))
      · exact .inl t1
    rw [es]; exact h
theorem wins_L {n i : Nat} (hn : n < 8) (hi : i < n) {votes terms : List Int} (hvo : ∀ x ∈ votes, okI .u8 x) (hte : ∀ x ∈ terms, okI .u8 x) (hl : votes.length ≤ 40) :
    ∀ u k s got, votes.length < u + k → k ≤ votes.length → got.length ≤ 1 + k → Win n ((3 * i : Nat) : Int) s got → law15_SeatWins_L1 votes terms (n : Int) (Lw n) ((3 * i : Nat) : Int) true u s got (k : Int) = some true := by
  intro u
  induction u with
  | zero => intro k s got h1 h2; omega
  | succ u ih =>
    intro k s got h1 h2 h3 h
    rw [law15_SeatWins_L1, cond_d]
    by_cases hk : k < votes.length
    · rw [if_pos (by omega)]
      have key : ∀ t : Int, t = 0 ∨ t = 1 → law15_SeatWins_J3 (law15_SeatWins_L1 votes terms (n : Int) (Lw n) ((3 * i : Nat) : Int) true u) votes (k : Int) (n : Int) (Lw n) s got ((3 * i : Nat) : Int) t = some true := by
        intro t ht
        unfold law15_SeatWins_J3
        have ox := hvo _ (List.getElem_mem hk)
        simp only [okI] at ox
        rw [idx_nat hk, Option.bind_some, chk_pos (by omega)]
        generalize votes[k] = x at ox
        obtain ⟨y, rfl⟩ : ∃ y : Nat, x = (y : Int) := ⟨x.toNat, by omega⟩
        have e1 : Int.tdiv (y : Int) 2 = ((y / 2 : Nat) : Int) := rfl
        have e2 : IntKind.wrap .u8 ((y / 2 : Nat) : Int) = ((y / 2 : Nat) : Int) := by show ((y / 2 : Nat) : Int) % 256 = _; omega
        have e3 : IntKind.wrap .i64 ((y / 2 : Nat) : Int) = ((y / 2 : Nat) : Int) := w64 (by omega) (by omega)
        have e4 : Int.tmod ((y / 2 : Nat) : Int) (n : Int) = ((y / 2 % n : Nat) : Int) := rfl
        have e5 : Int.tmod (y : Int) 2 = ((y % 2 : Nat) : Int) := rfl
        have e6 : IntKind.wrap .i64 ((y % 2 : Nat) : Int) = ((y % 2 : Nat) : Int) := w64 (by omega) (by omega)
        have hj : y / 2 % n < n := Nat.mod_lt _ (by omega)
        rw [e1, e2, e3, e4, Lw_get hj, Option.bind_some, e5, e6]
        have hm : ((3 * (y / 2 % n) : Nat) : Int) ∈ Lw n := by unfold Lw; exact List.mem_map.2 ⟨_, List.mem_range.2 hj, rfl⟩
        generalize ((3 * (y / 2 % n) : Nat) : Int) = f at hm
        have hv : ((y % 2 : Nat) : Int) = 0 ∨ ((y % 2 : Nat) : Int) = 1 := by omega
        generalize ((y % 2 : Nat) : Int) = v at hv
        have w2 : IntKind.wrap .i64 (2 * (((got.length : Nat)) : Int)) = 2 * (got.length : Int) := w64 (by omega) (by omega)
        rw [w2, h.iff, Bool.not_true, cond_false]
        have hidm : ((3 * i : Nat) : Int) ∈ Lw n := h.id ▸ h.pe ▸ h.ok.me
        show (seat_Hear_f s (vm f ((3 * i : Nat) : Int) t v)).bind _ = _
        rw [hear_eq h.ok (vm_ok hn hm hidm ht hv), Option.bind_some]
        have ws := win_step hn h hm ht hv
        have J4 : ∀ g : List Int, g.length ≤ 1 + (k + 1) → Win n ((3 * i : Nat) : Int) (hearM s (vm f ((3 * i : Nat) : Int) t v)).1 g → law15_SeatWins_J4 (law15_SeatWins_L1 votes terms (n : Int) (Lw n) ((3 * i : Nat) : Int) true u) (hearM s (vm f ((3 * i : Nat) : Int) t v)) (k : Int) g = some true := fun g hg hW => by
          unfold law15_SeatWins_J4
          rw [w64_succ (by omega)]
          exact ih (k + 1) _ g (by omega) (by omega) hg hW
        have stay : Win n ((3 * i : Nat) : Int) (hearM s (vm f ((3 * i : Nat) : Int) t v)).1 got → law15_SeatWins_J5 (law15_SeatWins_L1 votes terms (n : Int) (Lw n) ((3 * i : Nat) : Int) true u) got (hearM s (vm f ((3 * i : Nat) : Int) t v)) (k : Int) f false = some true := fun hW => by
          unfold law15_SeatWins_J5
          rw [cond_false]; exact J4 got (by omega) hW
        by_cases a : f = ((3 * i : Nat) : Int)
        · rw [show (f != ((3 * i : Nat) : Int)) = false by simpa using a, cond_false]
          exact stay (by rwa [if_neg (fun q => q.1 a)] at ws)
        rw [show (f != ((3 * i : Nat) : Int)) = true by simpa using a, cond_true]
        by_cases b : t = 1
        case neg =>
          rw [show (t == 1) = false by simpa using b, cond_false]
          exact stay (by rwa [if_neg (fun q => b q.2.1)] at ws)
        rw [show (t == 1) = true by simpa using b, cond_true]
        by_cases c : v = 1
        case neg =>
          rw [show (v == 1) = false by simpa using c, cond_false]
          exact stay (by rwa [if_neg (fun q => c q.2.2.1)] at ws)
        rw [show (v == 1) = true by simpa using c, cond_true, has_eq (by omega), Option.bind_some]
        by_cases d : f ∈ got
        · rw [show got.contains f = true by simpa using d, Bool.not_true]
          exact stay (by rwa [if_neg (fun q => q.2.2.2 d)] at ws)
        · rw [show got.contains f = false by simpa using d, Bool.not_false]
          unfold law15_SeatWins_J5
          rw [cond_true, chk_pos (by omega)]
          exact J4 _ (by simp; omega) (by rwa [if_pos ⟨a, b, c, d⟩] at ws)
      rw [cond_d]
      split
      · rename_i w
        have hw : k < terms.length := by omega
        have ot := hte _ (List.getElem_mem hw)
        simp only [okI] at ot
        rw [idx_nat hw, Option.bind_some]
        generalize terms[k] = x at ot
        obtain ⟨y, rfl⟩ : ∃ y : Nat, x = (y : Int) := ⟨x.toNat, by omega⟩
        rw [w64 (by omega) (by omega)]
        have e5 : Int.tmod (y : Int) 2 = ((y % 2 : Nat) : Int) := rfl
        rw [e5]
        exact key _ (by omega)
      · exact key 1 (.inr rfl)
    · rw [if_neg (by omega)]
      unfold law15_SeatWins_J2
      have w2 : IntKind.wrap .i64 (2 * (((got.length : Nat)) : Int)) = 2 * (got.length : Int) := w64 (by omega) (by omega)
      rw [w2, h.iff, h.t1]; rfl
theorem wins_J1 {n : Nat} (h0 : 0 < n) (hn : n < 8) {me : Int} (hme : okI .u8 me) {votes terms : List Int} (hvo : ∀ x ∈ votes, okI .u8 x) (hte : ∀ x ∈ terms, okI .u8 x) : law15_SeatWins_J1 me votes true terms (n : Int) (Lw n) = some true := by
  unfold law15_SeatWins_J1
  simp only [okI] at hme
  obtain ⟨y, rfl⟩ : ∃ y : Nat, me = (y : Int) := ⟨me.toNat, by omega⟩
  rw [chk_pos (by omega), w64 (by omega) (by omega)]
  have e4 : Int.tmod (y : Int) (n : Int) = ((y % n : Nat) : Int) := rfl
  have hj : y % n < n := Nat.mod_lt _ h0
  rw [e4, Lw_get hj, Option.bind_some, new_eq hn hj, Option.bind_some]
  obtain ⟨o, e⟩ := late_eq (fresh_ok hn hj)
  rw [e, Option.bind_some, cond_d]
  split
  · rfl
  · exact wins_L hn hj hvo hte (by omega) BIG 0 _ _ (by rw [BIG_eq]; omega) (by omega) (by simp) (win_start hn hj)
theorem wins_L2 {n : Nat} (h0 : 0 < n) (hn : n < 8) {me : Int} (hme : okI .u8 me) {votes terms : List Int} (hvo : ∀ x ∈ votes, okI .u8 x) (hte : ∀ x ∈ terms, okI .u8 x) : ∀ u k, n < u + k → k ≤ n → law15_SeatWins_L2 me votes true terms u (n : Int) (Lw k) (k : Int) = some true := by
  intro u
  induction u with
  | zero => intro k h1 h2; omega
  | succ u ih =>
    intro k h1 h2
    rw [law15_SeatWins_L2, cond_d]
    by_cases hk : k < n
    · rw [if_pos (by omega), chk_pos (by rw [Lw_len]; omega), w64 (by omega) (by omega), w64_succ (by omega)]
      have : Lw k ++ [3 * (k : Int)] = Lw (k + 1) := by rw [Lw_succ]; congr 2
      rw [this]
      exact ih (k + 1) (by omega) (by omega)
    · rw [if_neg (by omega)]
      obtain rfl : k = n := by omega
      exact wins_J1 h0 hn hme hvo hte
theorem SeatWins_true (y0 : Int) (o0 : okI .u8 y0) (y1 : Int) (o1 : okI .u8 y1) (y2 : List Int) (o2 : ∀ y26 ∈ y2, okI .u8 y26) (y3 : List Int) (o3 : ∀ y26 ∈ y3, okI .u8 y26) : law15_SeatWins_f y0 y1 y2 y3 = some true := by
  unfold law15_SeatWins_f
  simp only [okI] at o0
  obtain ⟨y, rfl⟩ : ∃ y : Nat, y0 = (y : Int) := ⟨y0.toNat, by omega⟩
  have e4 : Int.tmod (y : Int) 7 = ((y % 7 : Nat) : Int) := rfl
  have e5 : IntKind.wrap .i64 (1 + ((y % 7 : Nat) : Int)) = ((1 + y % 7 : Nat) : Int) := by rw [w64 (by omega) (by omega)]; omega
  have e3 : IntKind.wrap .i64 (y : Int) = (y : Int) := w64 (by omega) (by omega)
  rw [head_true, Option.bind_some, e3, e4, e5]
  exact wins_L2 (by omega) (by omega) o1 o2 o3 BIG 0 (by rw [BIG_eq]; omega) (by omega)
end Go.Proofs.YtmkpokcfefjifaaDoor

import Derived.Test.YtmkpokcfefjifaaDoorQ4
set_option linter.unusedSectionVars false
/- Hear, in plain words; what is right stays right. -/
set_option linter.unusedSimpArgs false
set_option linter.unusedVariables false
namespace Go.Proofs.YtmkpokcfefjifaaDoor
open Go.Ab Go.RowKit
theorem down_ok {s : Seat} (h : Ok s) {t : Int} (h1 : 0 ≤ t) (h2 : t ≤ 1099511627776) : Ok (down s t) :=
  ⟨h.p7, h.ps, h.me, h.i0, h1, h2, h.lg, h.ll, h.c0, h.c1, List.nodup_nil, fun v hv => (List.not_mem_nil hv).elim,
    ⟨.inl rfl, fun _ => ⟨rfl, rfl⟩, fun _ => rfl, fun n => absurd (show (1 : Int) = 2 from n) (by decide), fun n => absurd (show (1 : Int) = 3 from n) (by decide), fun n => absurd (show (1 : Int) = 3 from n) (by decide), fun n => absurd (show (1 : Int) = 3 from n) (by decide)⟩⟩
theorem ask1_ok {s : Seat} (h : Ok s) (w l m : Int) : Ok (ask1 s w l m).1 := by
  unfold ask1
  split
  · rename_i q
    have hw : s.role ≠ 1 → w = s.id := fun hr => by
      have hv : s.voted = s.id := by
        rcases h.rl.r1 with r | r | r
        · exact absurd r hr
        · exact (h.rl.st r).1
        · exact h.rl.lv r
      have := h.i0
      simp only [Bool.and_eq_true, free, Bool.or_eq_true, beq_iff_eq] at q
      omega
    exact ⟨h.p7, h.ps, h.me, h.i0, h.t0, h.tm, h.lg, h.ll, h.c0, h.c1, h.vs, h.vp,
      ⟨h.rl.r1, h.rl.nl, h.rl.nv, fun r => ⟨hw (by show s.role ≠ 1; have : s.role = 2 := r; omega), (h.rl.st r).2⟩, h.rl.ln, fun r => hw (by show s.role ≠ 1; have : s.role = 3 := r; omega), h.rl.lm⟩⟩
  · exact h
theorem ask_ok {s : Seat} (h : Ok s) {t w l m : Int} (h2 : t ≤ 1099511627776) : Ok (ask s t w l m).1 := by
  unfold ask
  split
  · exact h
  · split
    · exact ask1_ok (down_ok h (by have := h.t0; omega) h2) _ _ _
    · exact ask1_ok h _ _ _
theorem cm_le {l : List Entry} {t : Int} {mt : List Int} {was : Int} (h : was ≤ l.length) : cm l t mt was l.length ≤ l.length := by
  rcases cm_spec (l := l) (t := t) (mt := mt) (was := was) l.length with e | ⟨p, h0, h1, e, _⟩
  · rw [e]; exact h
  · rw [e]; omega
theorem comS_ok {s : Seat} (h : Ok s) : Ok (comS s) :=
  ⟨h.p7, h.ps, h.me, h.i0, h.t0, h.tm, h.lg, h.ll, by have := cm_ge (l := s.log) (t := s.term) (mt := s.match_) (was := s.commit) s.log.length; have := h.c0; show 0 ≤ cm _ _ _ _ _; omega, cm_le h.c1, h.vs, h.vp,
    ⟨h.rl.r1, h.rl.nl, h.rl.nv, h.rl.st, h.rl.ln, h.rl.lv, h.rl.lm⟩⟩
theorem getD_eq {l : List Int} {i : Nat} (h : i < l.length) : l.getD i 0 = l[i] := by
  rw [List.getD_eq_getElem?_getD, List.getElem?_eq_getElem h]; rfl
theorem idx_own {l : List Int} (hn : l.Nodup) {i : Nat} (h : i < l.length) {x : Int} (e : l.getD i 0 = x) : l.idxOf x = i := by
  rw [getD_eq h] at e
  rw [← e]; exact hn.idxOf_getElem i h
theorem getD_set_ne {l : List Int} {i j : Nat} {v : Int} (h : i ≠ j) : (l.set i v).getD j 0 = l.getD j 0 := by
  rw [List.getD_eq_getElem?_getD, List.getD_eq_getElem?_getD, List.getElem?_set_ne h]
theorem led_ok {s : Seat} (h : Ok s) (hv : s.voted = s.id) : Ok (led s) := by
  refine comS_ok ⟨h.p7, h.ps, h.me, h.i0, h.t0, h.tm, h.lg, h.ll, h.c0, h.c1, List.nodup_nil, fun v hv => (List.not_mem_nil hv).elim,
    ⟨.inr (.inr rfl), fun n => absurd rfl n, fun _ => rfl, fun n => absurd (show (3 : Int) = 2 from n) (by decide), fun _ => ⟨by simp, by simp⟩, fun _ => hv, fun _ i hi => ?_⟩⟩
  have hi : i < s.peers.length := hi
  have ho : s.peers.idxOf s.id < s.peers.length := List.idxOf_lt_length_iff.2 h.me
  have e1 : (List.replicate s.peers.length ((s.log.length : Int) + 1)).getD i 0 = s.log.length + 1 := by
    rw [List.getD_eq_getElem?_getD, List.getElem?_replicate, if_pos hi]; rfl
  show 0 ≤ ((List.replicate s.peers.length (0 : Int)).set (s.peers.idxOf s.id) s.log.length).getD i 0 ∧ ((List.replicate s.peers.length (0 : Int)).set (s.peers.idxOf s.id) s.log.length).getD i 0 ≤ s.log.length ∧ ((List.replicate s.peers.length (0 : Int)).set (s.peers.idxOf s.id) s.log.length).getD i 0 < (List.replicate s.peers.length ((s.log.length : Int) + 1)).getD i 0 ∧ (List.replicate s.peers.length ((s.log.length : Int) + 1)).getD i 0 ≤ s.log.length + 1 ∧ (s.peers.getD i 0 = s.id → ((List.replicate s.peers.length (0 : Int)).set (s.peers.idxOf s.id) s.log.length).getD i 0 = s.log.length)
  rw [e1]
  by_cases e : s.peers.idxOf s.id = i
  · rw [e, getD_set (by simpa using hi)]
    exact ⟨by omega, by omega, by omega, by omega, fun _ => rfl⟩
  · rw [getD_set_ne e]
    have e2 : (List.replicate s.peers.length (0 : Int)).getD i 0 = 0 := by
      rw [List.getD_eq_getElem?_getD, List.getElem?_replicate, if_pos hi]; rfl
    rw [e2]
    exact ⟨by omega, by omega, by omega, by omega, fun q => absurd (idx_own h.ps hi q) e⟩
theorem voted_ok {s : Seat} (h : Ok s) {x : Msg} (hf : x.from_ ∈ s.peers) : Ok (votedM s x).1 := by
  unfold votedM
  split
  · exact h
  · rename_i q
    have r2 : s.role = 2 := by
      by_cases r : s.role = 2
      · exact r
      · exact absurd (.inr (.inl r)) q
    have hn : x.from_ ∉ s.votes := fun n => q (.inr (.inr (.inr n)))
    have pm := ins_perm s.votes x.from_
    have u : Ok { s with votes := ins s.votes x.from_ } :=
      ⟨h.p7, h.ps, h.me, h.i0, h.t0, h.tm, h.lg, h.ll, h.c0, h.c1, pm.nodup_iff.2 (by rw [List.nodup_append]; exact ⟨h.vs, by simp, fun a ha b hb e => by simp at hb; subst hb; exact hn (e ▸ ha)⟩),
        fun v hv => by
          rcases List.mem_append.1 (pm.mem_iff.1 hv) with m | m
          · exact h.vp v m
          · simp at m; exact m ▸ hf,
        ⟨h.rl.r1, h.rl.nl, fun n => absurd r2 n, fun r => ⟨(h.rl.st r).1, pm.mem_iff.2 (by simp [(h.rl.st r).2])⟩, h.rl.ln, h.rl.lv, h.rl.lm⟩⟩
    split
    · exact led_ok u (h.rl.st r2).1
    · exact u
theorem putP_good {s : Seat} (h : Ok s) {x : Msg} (hx : MOk x) {s0 : Seat} (hf : IsFor s0 x) (k3 : x.kind = 3) : Good (car x) ∧ Good (putP s x).1 ∧ (car x).length ≤ 8 := by
  have po := parse_ok (fun n hn => hx.ok.2.2.2.1 n (List.mem_of_mem_drop hn)) hx.ok.2.2.2.2 (hf.ow k3)
  have l4 := hf.l4 k3
  rw [List.length_drop] at po
  have hl : (car x).length ≤ 8 := by have := po.2; unfold car; omega
  have gm : Good (car x) := ⟨by omega, fun e he => po.1 e he⟩
  exact ⟨gm, putR_good h.lg gm (by have := h.ll; omega), hl⟩
theorem putP_yes {s : Seat} {x : Msg} (h : (putP s x).2 = true) : fits s.log (x.nums.getD 1 0) (x.nums.getD 2 0) = true ∧ (putP s x).1 = put s.log (x.nums.getD 1 0).toNat (car x) ∧ (putP s x).1.length ≤ 500 := by
  unfold putP putR at h ⊢
  split at h
  · rename_i q
    split at h
    · cases h
    · rename_i q2
      rw [if_pos q, if_neg q2]
      exact ⟨q, rfl, Nat.le_of_not_lt q2⟩
  · cases h
theorem fits_d2 {l : List Entry} {p t : Int} (h : fits l p t = true) : 0 ≤ p ∧ p ≤ l.length ∧ tm l p.toNat = t := by
  simpa only [fits, decide_eq_true_eq] using h
theorem put_ge {l more : List Entry} {p : Nat} (hp : p ≤ l.length) : p + more.length ≤ (put l p more).length := by
  rw [put_len hp]; have := mrg_ge (l.drop p) more; omega
theorem notBad {s : Seat} {x : Msg} (h : ¬ putBad s x) : (putP s x).2 = true ∧ s.commit ≤ (putP s x).1.length ∧ (putP s x).1.take s.commit.toNat = s.log.take s.commit.toNat := by
  unfold putBad at h
  refine ⟨?_, ?_, ?_⟩
  · cases e : (putP s x).2
    · exact absurd (.inl e) h
    · rfl
  · have : ¬ ((putP s x).1.length : Int) < s.commit := fun q => h (.inr (.inl q))
    omega
  · by_cases e : (putP s x).1.take s.commit.toNat = s.log.take s.commit.toNat
    · exact e
    · exact absurd (.inr (.inr e)) h
theorem puts_ok {s : Seat} (h : Ok s) {x : Msg} (hx : MOk x) {s0 : Seat} (hf : IsFor s0 x) (k3 : x.kind = 3) : Ok (putsM s x).1 := by
  unfold putsM
  split
  · exact h
  split
  · exact h
  rename_i r3
  have R : Role { s with role := 1, votes := [] } := ⟨.inl rfl, fun _ => h.rl.nl r3, fun _ => rfl, fun n => absurd (show (1 : Int) = 2 from n) (by decide), fun n => absurd (show (1 : Int) = 3 from n) (by decide), fun n => absurd (show (1 : Int) = 3 from n) (by decide), fun n => absurd (show (1 : Int) = 3 from n) (by decide)⟩
  split
  · exact ⟨h.p7, h.ps, h.me, h.i0, h.t0, h.tm, h.lg, h.ll, h.c0, h.c1, List.nodup_nil, fun v hv => (List.not_mem_nil hv).elim, R⟩
  · rename_i nb
    obtain ⟨b1, b2, b3⟩ := notBad nb
    obtain ⟨f1, f2, f3⟩ := putP_yes b1
    obtain ⟨g1, g2, g3⟩ := putP_good h hx hf k3
    obtain ⟨e1, e2, e3⟩ := fits_d2 f1
    have pg := put_ge (l := s.log) (more := car x) (p := (x.nums.getD 1 0).toNat) (by omega)
    rw [← f2] at pg
    have c0 := h.c0
    refine ⟨h.p7, h.ps, h.me, h.i0, h.t0, h.tm, g2, f3, ?_, ?_, List.nodup_nil, fun v hv => (List.not_mem_nil hv).elim, ⟨R.r1, R.nl, R.nv, R.st, R.ln, R.lv, fun n => absurd (show (1 : Int) = 3 from n) (by decide)⟩⟩
    · show 0 ≤ putC s x
      unfold putC; split <;> omega
    · show putC s x ≤ ((putP s x).1.length : Int)
      unfold putC
      split <;> (try split) <;> omega
theorem told_ok {s : Seat} (h : Ok s) {x : Msg} {s0 : Seat} (hf : IsFor s0 x) (hp : s0.peers = s.peers) (hid : s0.id = s.id) : Ok (toldM s x).1 := by
  unfold toldM
  split
  · exact h
  rename_i q
  have r3 : s.role = 3 := by
    by_cases r : s.role = 3
    · exact r
    · exact absurd (.inr (.inl r)) q
  have ll : x.nums.getD 2 0 ≤ s.log.length := by
    by_cases r : (s.log.length : Int) < x.nums.getD 2 0
    · exact absurd (.inr (.inr r)) q
    · omega
  obtain ⟨ln, lm⟩ := h.rl.ln r3
  have hI : x.from_ ∈ s.peers := hp ▸ hf.pe
  have tl : tI s x < s.peers.length := List.idxOf_lt_length_iff.2 hI
  obtain ⟨q1, q2, q3, q4, q5⟩ := h.rl.lm r3 _ tl
  have n2 := hf.nk 2
  have me : s.peers.getD (tI s x) 0 = x.from_ := by rw [getD_eq tl]; exact List.getElem_idxOf tl
  have nid : x.from_ ≠ s.id := hid ▸ hf.ne
  split
  · refine ⟨h.p7, h.ps, h.me, h.i0, h.t0, h.tm, h.lg, h.ll, h.c0, h.c1, h.vs, h.vp, ⟨h.rl.r1, fun n => absurd r3 n, h.rl.nv, h.rl.st, fun _ => ⟨by show (s.next.set _ _).length = _; rw [List.length_set]; exact ln, lm⟩, h.rl.lv, fun _ i hi => ?_⟩⟩
    have hi : i < s.peers.length := hi
    by_cases e : tI s x = i
    · show 0 ≤ s.match_.getD i 0 ∧ s.match_.getD i 0 ≤ s.log.length ∧ s.match_.getD i 0 < (toldN s x).next.getD i 0 ∧ (toldN s x).next.getD i 0 ≤ s.log.length + 1 ∧ (s.peers.getD i 0 = s.id → s.match_.getD i 0 = s.log.length)
      have hv : (toldN s x).next.getD (tI s x) 0 = (if (if x.nums.getD 2 0 + 1 < s.next.getD (tI s x) 0 then x.nums.getD 2 0 + 1 else s.next.getD (tI s x) 0) > s.match_.getD (tI s x) 0 + 1 then (if x.nums.getD 2 0 + 1 < s.next.getD (tI s x) 0 then x.nums.getD 2 0 + 1 else s.next.getD (tI s x) 0) else s.match_.getD (tI s x) 0 + 1) := getD_set (by omega)
      rw [← e, hv]
      exact ⟨q1, q2, by split <;> omega, by split <;> (try split) <;> omega, q5⟩
    · obtain ⟨w1, w2, w3, w4, w5⟩ := h.rl.lm r3 _ hi
      have : (toldN s x).next.getD i 0 = s.next.getD i 0 := getD_set_ne e
      exact ⟨w1, w2, by rw [this]; exact w3, by rw [this]; exact w4, w5⟩
  · refine comS_ok ⟨h.p7, h.ps, h.me, h.i0, h.t0, h.tm, h.lg, h.ll, h.c0, h.c1, h.vs, h.vp, ⟨h.rl.r1, fun n => absurd r3 n, h.rl.nv, h.rl.st, fun _ => ⟨by show (s.next.set _ _).length = _; rw [List.length_set]; exact ln, by show (s.match_.set _ _).length = _; rw [List.length_set]; exact lm⟩, h.rl.lv, fun _ i hi => ?_⟩⟩
    have hi : i < s.peers.length := hi
    show 0 ≤ (s.match_.set (tI s x) (tM s x)).getD i 0 ∧ (s.match_.set (tI s x) (tM s x)).getD i 0 ≤ s.log.length ∧ (s.match_.set (tI s x) (tM s x)).getD i 0 < (s.next.set (tI s x) (tM s x + 1)).getD i 0 ∧ (s.next.set (tI s x) (tM s x + 1)).getD i 0 ≤ s.log.length + 1 ∧ (s.peers.getD i 0 = s.id → (s.match_.set (tI s x) (tM s x)).getD i 0 = s.log.length)
    have t1 : tM s x ≤ s.log.length := by unfold tM; split <;> omega
    have t2 : 0 ≤ tM s x := by unfold tM; split <;> omega
    by_cases e : tI s x = i
    · rw [← e, getD_set (by omega), getD_set (by omega)]
      exact ⟨t2, t1, by omega, by omega, fun z => absurd (me.symm.trans z) nid⟩
    · rw [getD_set_ne e, getD_set_ne e]
      exact h.rl.lm r3 _ hi
/-- the seat, once its term is the message's -/
def upS (s : Seat) (x : Msg) : Seat := if s.term < x.nums.getD 0 0 then down s (x.nums.getD 0 0) else s
def hearM (s : Seat) (x : Msg) : Seat × List Msg :=
  if forB s x = true then
    if x.kind = 1 then askM s x else if x.kind = 2 then votedM (upS s x) x else if x.kind = 3 then putsM (upS s x) x else toldM (upS s x) x
  else (s, [])
theorem upS_ok {s : Seat} (h : Ok s) {x : Msg} (hf : IsFor s x) : Ok (upS s x) := by
  unfold upS
  split
  · exact down_ok h (hf.nk 0) hf.top
  · exact h
theorem upS_keeps (s : Seat) (x : Msg) : (upS s x).peers = s.peers ∧ (upS s x).id = s.id ∧ (upS s x).log = s.log ∧ (upS s x).commit = s.commit := by
  unfold upS; split <;> exact ⟨rfl, rfl, rfl, rfl⟩
theorem hear_ok {s : Seat} (h : Ok s) {x : Msg} (hx : MOk x) : Ok (hearM s x).1 := by
  unfold hearM
  split
  · rename_i q
    have hf := isFor_of q
    have uo := upS_ok h hf
    obtain ⟨u1, u2, u3, u4⟩ := upS_keeps s x
    split
    · exact ask_ok h hf.top
    split
    · exact voted_ok uo (by rw [u1]; exact hf.pe)
    split
    · rename_i k3; exact puts_ok uo hx hf k3
    · exact told_ok uo hf u1.symm u2.symm
  · exact h
theorem hear_eq {s : Seat} (h : Ok s) {x : Msg} (hx : MOk x) : seat_Hear_f s x = some (hearM s x) := by
  have p7 := h.p7
  have kk : -9223372036854775808 ≤ x.kind ∧ x.kind ≤ 9223372036854775807 := by
    have := hx.ok.2.2.1
    simp only [okI] at this
    omega
  unfold seat_Hear_f hearM
  rw [isFor_eq (by omega) hx.n hx.d kk, Option.bind_some]
  cases q : forB s x
  · rfl
  rw [Bool.not_true, cond_false, if_pos rfl]
  have hf := isFor_of q
  have uo := upS_ok h hf
  obtain ⟨u1, u2, u3, u4⟩ := upS_keeps s x
  have n2 := hf.n2
  have i0 : idx x.nums 0 = some (x.nums.getD 0 0) := idx_get (k := 0) (by omega)
  have len := hf.len
  have J : ∀ u : Seat, seat_Hear_J1 x u.id u.peers u.term u.voted u.role u.log u.commit u.votes u.next u.match_ = four x.kind ((seat_machine_ask_f ⟨u, []⟩ x).bind fun r2 => some (r2.seat, r2.out)) ((seat_machine_voted_f ⟨u, []⟩ x).bind fun r2 => some (r2.seat, r2.out)) ((seat_machine_puts_f ⟨u, []⟩ x).bind fun r2 => some (r2.seat, r2.out)) ((seat_machine_told_f ⟨u, []⟩ x).bind fun r2 => some (r2.seat, r2.out)) := fun u => rfl
  by_cases k1 : x.kind = 1
  · rw [if_pos k1, show (x.kind != 1) = false by simp [k1], cond_false]
    show seat_Hear_J1 x s.id s.peers s.term s.voted s.role s.log s.commit s.votes s.next s.match_ = _
    rw [J, four, if_pos k1, ask_eq h.lg.1 (by have := len (by omega); rw [if_neg (by omega)] at this; omega)]
    rfl
  rw [if_neg k1, show (x.kind != 1) = true by simpa using k1, cond_true, i0, Option.bind_some]
  have U : seat_Hear_J2 x s (decide (s.term < x.nums.getD 0 0)) = seat_Hear_J1 x (upS s x).id (upS s x).peers (upS s x).term (upS s x).voted (upS s x).role (upS s x).log (upS s x).commit (upS s x).votes (upS s x).next (upS s x).match_ := by
    unfold seat_Hear_J2 upS
    rw [cond_d]
    split
    · rw [i0, Option.bind_some]; rfl
    · rfl
  rw [U, J, four, if_neg k1]
  by_cases k2 : x.kind = 2
  · rw [if_pos k2, if_pos k2, voted_eq uo n2]; rfl
  rw [if_neg k2, if_neg k2]
  by_cases k3 : x.kind = 3
  · rw [if_pos k3, if_pos k3, puts_eq uo hx hf k3]; rfl
  have k4 : x.kind = 4 := by have := hf.kd; omega
  rw [if_neg k3, if_neg k3, if_pos k4, told_eq uo hx hf u1.symm (by have := len k3; rw [if_neg k2] at this; omega)]
  rfl
end Go.Proofs.YtmkpokcfefjifaaDoor

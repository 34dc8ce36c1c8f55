/- wire.To: a range over a function of the program's own (places): by hand. -/
import Derived.RangeFuncNested
import Derived.RangeFuncBound
import Derived.RangeFuncBox
import Derived.RangeFuncCalls
import Derived.RangeFuncLeaves
import Derived.Shelf.Abstract
import Derived.Shelf.RegionOpen
import Derived.WalkKit
import Derived.OwnWalkIn
import Derived.TacticsInMore
import Derived.LoopNIn
import Derived.LoopIn
import Derived.Maps.AppendAt
import Derived.Test.YteebeajhoemdpaaF1
set_option linter.unusedSimpArgs false
set_option linter.unusedVariables false
namespace Go.Proofs.Yteebeajhoemdpaa
open Go.Ab Go.RowKit Go.Shelf Go.Proofs

attribute [local go_sem] Oper.semAt_some

/-- the places, from the k-th on, of messages to who -/
def toI (who : Int) : Nat → List Msg → List Int
  | _, [] => []
  | k, m :: r => if m.to_ = who then (k : Int) :: toI who (k + 1) r else toI who (k + 1) r
theorem toI_len (who : Int) : ∀ (k : Nat) (l : List Msg), (toI who k l).length ≤ l.length
  | _, [] => Nat.le_refl _
  | k, m :: r => by
    unfold toI
    have := toI_len who (k + 1) r
    split <;> simp <;> omega
theorem toI_snoc (who : Int) (m : Msg) : ∀ (k : Nat) (l : List Msg), toI who k (l ++ [m]) = toI who k l ++ (if m.to_ = who then [((k + l.length : Nat) : Int)] else [])
  | k, [] => by simp [toI]
  | k, a :: r => by
    have := toI_snoc who m (k + 1) r
    simp only [List.cons_append, toI, this, List.length_cons, Nat.add_right_comm k 1 r.length, Nat.add_assoc]
    split <;> simp [Nat.add_comm 1]

theorem alloc_l {W : World} {a : Addr} {v : Value} (o : Obj) (h : W.cell? a = some v) : (W.alloc o).cell? a = some v := cell_kept h (World.grownBy_alloc W o none) (fun r e => by cases e)

/-- the messages lie from off on in block b -/
def Lie (w : World) (D : Nat → Prop) (b off : Nat) (ms : List Msg) : Prop :=
  ∀ (i : Nat) m, ms[i]? = some m → ∃ v0 v1 v2 v3 v4, w.rangeAt b (off + i * 5) [v0, v1, v2, v3, v4] ∧ (∀ u ∈ [v0, v1, v2, v3, v4], u.oneCell' = true) ∧ RVs NP D w [v0, v1, v2, v3, v4] (Msg.c m)

theorem lie_of {w : World} {D : Nat → Prop} {v : Value} {ms : List Msg} (h : RV NP D w v (.list 5 (ms.map Msg.c))) :
    ∃ A c, v = .slice A ms.length c ∧ (ms = [] ∨ ∃ b o, A = some ⟨b, o, none⟩ ∧ D b ∧ b < w.heap.size ∧ Lie w D b o ms) := by
  obtain ⟨A, c, rfl, -, -, h3⟩ := h.list_inv
  refine ⟨A, c, by simp, ?_⟩
  cases ms with
  | nil => exact .inl rfl
  | cons m0 r =>
    obtain ⟨b, o, cs, hA, hD, hb, -⟩ := h3 0 (Msg.c m0) (by simp)
    refine .inr ⟨b, o, hA, hD, hb, fun i m hm => ?_⟩
    obtain ⟨b', o', cs, hA', hD', hb', hr, hl, h1, hv⟩ := h3 i (Msg.c m) (by rw [List.getElem?_map, hm]; rfl)
    rw [hA] at hA'
    injection hA' with hA'
    injection hA' with e1 e2
    subst e1; subst e2
    match cs, hl with
    | [v0, v1, v2, v3, v4], _ => exact ⟨v0, v1, v2, v3, v4, hr, h1, hv⟩

/-- what a reading without places wants of the world -/
theorem RV.keepN {D : Nat → Prop} {w w' : World} (hs : w.heap.size ≤ w'.heap.size) (hk : ∀ b, D b → w'.heap[b]? = w.heap[b]?) {v : Value} {d : Dat} (h : RV NP D w v d) : RV NP D w' v d := by
  have hrg : ∀ {b o : Nat} {cs : List Value}, D b → w.rangeAt b o cs → w'.rangeAt b o cs := fun hd hr j v hv => (World.cell?_of_block (a := ⟨_, _, none⟩) (hk _ hd)).trans (hr j v hv)
  induction h with
  | bool b => exact .bool b
  | int k n => exact .int k n
  | str s => exact .str s
  | agg cs ds hl _ ih => exact .agg cs ds hl ih
  | tup cs ds hl _ ih => exact .tup cs ds hl ih
  | nil => exact .nil
  | list0 A c st hc => exact .list0 A c st hc
  | list b o c st es cs hl hc hc2 hd hb hr hs' hes h1 _ ih =>
    exact .list b o c st es cs hl hc hc2 hd (Nat.lt_of_lt_of_le hb hs) (fun i x hx => hrg hd (hr i x hx)) hs' hes h1 ih
  | ref i g off len c st hp hlen hc hsz => cases hp
  | ref0 i off st A h0 => exact .ref0 i off st A h0
  | refv i st hp => cases hp
  | ptr i g k j st hp => cases hp
  | rop b o j st ds cs hl hst hd hb hr h1 _ ih => exact .rop b o j st ds cs hl hst hd (Nat.lt_of_lt_of_le hb hs) (hrg hd hr) h1 ih
  | fn f cs1 cs2 ds1 ds2 hl1 hl2 _ _ ih1 ih2 => exact .fn f cs1 cs2 ds1 ds2 hl1 hl2 ih1 ih2
  | oth v => exact .oth v
  | junk v h h2 => exact .junk v h h2

/-- what lay below N, but for block X, lies as it lay -/
structure Kp (N X : Nat) (A B : World) : Prop where
  size : A.heap.size ≤ B.heap.size
  same : ∀ k, k < N → k ≠ X → B.heap[k]? = A.heap[k]?
theorem Kp.refl (N X : Nat) (A : World) : Kp N X A A := ⟨Nat.le_refl _, fun _ _ _ => rfl⟩
theorem Kp.trans {N X : Nat} {A B C : World} (h : Kp N X A B) (k : Kp N X B C) : Kp N X A C := ⟨Nat.le_trans h.size k.size, fun i h1 h2 => (k.same i h1 h2).trans (h.same i h1 h2)⟩
theorem Kp.of_below {N X : Nat} {A B : World} (hN : N ≤ A.heap.size) (h : Below A.heap.size A B) : Kp N X A B := ⟨h.size, fun k hk _ => h.block k (by omega)⟩

set_option maxRecDepth 100000 in
set_option maxHeartbeats 2000000 in
/-- **wire.places**: both are boxed; the function value captures the boxes. -/
theorem places_in (F : Fence) (n : Nat) (h5 : F.fn 29) (hro : F.round = none) (a : Option Addr) (len cap : Nat) (g : Value) (w : World) (hg : ∃ f x y, g = .func f x y) :
    CallsIn F n Try.prog 29 #[.slice a len cap, g] w fun e w' => e = .returned (.func (.func 34) #[] #[.pointer (some ⟨w.heap.size, 0, none⟩), .pointer (some ⟨w.heap.size + 1, 0, none⟩)]) ∧ w' = (w.alloc (.cells #[.slice a len cap] 22)).alloc (.cells #[g] 54) := by
  obtain ⟨f, x, y, rfl⟩ := hg
  refine callsIn_of_wp Try.func29 rfl h5 ?_ hro
  simp only [Try.ntmps29, List.size_toArray, List.length_cons, List.length_nil, Nat.reduceAdd, Nat.reduceSub, Array.replicate_succ, Array.replicate_zero, List.push_toArray, List.append_toArray, List.nil_append, List.cons_append]
  gi_wp2
  go_ret
  simp

set_option maxRecDepth 100000 in
set_option maxHeartbeats 2000000 in
theorem places1_in (n : Nat) (hn : 1 ≤ n) (l Bs Bf Bw b off len cap : Nat) (who : Int) (ms : List Msg) (hlen : ms.length = len) (hreach : len * 72 ≤ 140737488351232) (D : Nat → Prop) (N X : Nat)
    (J Jx : List Int → World → Prop) (hJ : ∀ (s : List Int) (A B : World), J s A → Below A.heap.size A B → J s B)
    (hY : ∀ pre x W, J pre W → pre.length < ms.length → YieldAt Fence.wide (n - 1) Try.prog l #[.int .i64 x] W fun e W' =>
      (e = .returned (.bool true) ∧ J (pre ++ [x]) W' ∧ Kp N X W W') ∨ (e = .returned (.bool false) ∧ Jx (pre ++ [x]) W'))
    (W : World) (hBs : W.cell? ⟨Bs, 0, none⟩ = some (.slice (some ⟨b, off, none⟩) len cap)) (hBf : W.cell? ⟨Bf, 0, none⟩ = some (.func (.func 30) #[] #[.pointer (some ⟨Bw, 0, none⟩)])) (hBw : W.cell? ⟨Bw, 0, none⟩ = some (.int .i64 who))
    (hN : N ≤ W.heap.size) (hD : ∀ k, D k → k < N ∧ k ≠ X) (hb : D b) (hw : Bw < N ∧ Bw ≠ X) (hf : Bf < N ∧ Bf ≠ X) (hc : Lie W D b off ms) (h0 : J [] W) :
    CallsIn Fence.wide n Try.prog 34 #[.func (.yield l) #[] #[], .pointer (some ⟨Bs, 0, none⟩), .pointer (some ⟨Bf, 0, none⟩)] W fun e W' => (∃ v, e = .returned v) ∧
      ((∃ ys, ys = toI who 0 ms ∧ J ys W') ∨ (∃ pre, True ∧ Jx pre W')) := by
  refine callsIn_of_wp Try.func34 rfl trivial ?_ rfl
  simp only [Try.ntmps34, List.size_toArray, List.length_cons, List.length_nil, Nat.reduceAdd, Nat.reduceSub, Array.replicate_succ, Array.replicate_zero, List.push_toArray, List.append_toArray, List.nil_append, List.cons_append]
  gi_wp2
  gi_loopw [8] (fun i wr => ∃ k : Nat, k ≤ len ∧ i = .int .i64 k ∧ J (toI who 0 (ms.take k)) wr ∧ Kp N X W wr)
    (fun i _ => len - (intOf i).toNat)
  case atStart => exact ⟨0, Nat.zero_le _, rfl, h0, Kp.refl _ _ _⟩
  case round =>
    obtain ⟨k, hk, rfl, hJs, hnx⟩ := hrel
    by_cases hlt : k < len
    · have hnw : N ≤ wr.heap.size := Nat.le_trans hN hnx.size
      obtain ⟨m, hm⟩ : ∃ m, ms[k]? = some m := ⟨_, List.getElem?_eq_getElem (by omega)⟩
      obtain ⟨v0, v1, v2, v3, v4, hr0, hone, hrv⟩ := hc k m hm
      have hr : wr.rangeAt b (off + k * 5) [v0, v1, v2, v3, v4] := fun j v hv => (World.cell?_of_block (a := ⟨b, _, none⟩) (hnx.same b (hD b hb).1 (hD b hb).2)).trans (hr0 j v hv)
      have hrw : RVs NP D wr [v0, v1, v2, v3, v4] (Msg.c m) := ⟨hrv.1, fun i c d h1 h2 => RV.keepN hnx.size (fun q hq => hnx.same q (hD q hq).1 (hD q hq).2) (hrv.2 i c d h1 h2)⟩
      have q0 : wr.cell? ⟨b, off + k * 5, none⟩ = some v0 := hr 0 v0 rfl
      have q1 : wr.cell? ⟨b, off + k * 5 + 1, none⟩ = some v1 := hr 1 v1 rfl
      have q2 : wr.cell? ⟨b, off + k * 5 + 2, none⟩ = some v2 := hr 2 v2 rfl
      have q3 : wr.cell? ⟨b, off + k * 5 + 3, none⟩ = some v3 := hr 3 v3 rfl
      have q4 : wr.cell? ⟨b, off + k * 5 + 4, none⟩ = some v4 := hr 4 v4 rfl
      have hcf : wr.cell? ⟨Bf, 0, none⟩ = some (.func (.func 30) #[] #[.pointer (some ⟨Bw, 0, none⟩)]) := (World.cell?_of_block (a := ⟨Bf, 0, none⟩) (hnx.same _ hf.1 hf.2)).trans hBf
      have hcw : wr.cell? ⟨Bw, 0, none⟩ = some (.int .i64 who) := (World.cell?_of_block (a := ⟨Bw, 0, none⟩) (hnx.same _ hw.1 hw.2)).trans hBw
      have s0 : ∀ (a : Addr) (w : World), (store a v0).run Try.prog w = stored Try.prog w a v0 .plain := fun a w => run_store _ _ _ _ _ (hone _ (by simp))
      have s1 : ∀ (a : Addr) (w : World), (store a v1).run Try.prog w = stored Try.prog w a v1 .plain := fun a w => run_store _ _ _ _ _ (hone _ (by simp))
      have s2 : ∀ (a : Addr) (w : World), (store a v2).run Try.prog w = stored Try.prog w a v2 .plain := fun a w => run_store _ _ _ _ _ (hone _ (by simp))
      have s3 : ∀ (a : Addr) (w : World), (store a v3).run Try.prog w = stored Try.prog w a v3 .plain := fun a w => run_store _ _ _ _ _ (hone _ (by simp))
      have s4 : ∀ (a : Addr) (w : World), (store a v4).run Try.prog w = stored Try.prog w a v4 .plain := fun a w => run_store _ _ _ _ _ (hone _ (by simp))
      have hcf1 : (wr.alloc (Obj.cells #[v0, v1, v2, v3, v4] 26)).cell? ⟨Bf, 0, none⟩ = some (.func (.func 30) #[] #[.pointer (some ⟨Bw, 0, none⟩)]) := alloc_l _ hcf
      have hB1 : Below wr.heap.size wr (wr.alloc (Obj.cells #[v0, v1, v2, v3, v4] 26)) := (Below.refl _ wr).alloc (Nat.le_refl _) _
      have hwr : Bw < wr.heap.size := by have := hw.1; omega
      have hcw1 : (wr.alloc (Obj.cells #[v0, v1, v2, v3, v4] 26)).cell? ⟨Bw, 0, none⟩ = some (.int .i64 who) := alloc_l _ hcw
      have hs1 := hB1.size
      have hlt1 : ∀ q, (D q ∨ q = Bw) → q < (wr.alloc (Obj.cells #[v0, v1, v2, v3, v4] 26)).heap.size := fun q hq => by
        rcases hq with hq | rfl
        · have := (hD q hq).1; omega
        · have := hw.1; omega
      have hm1 : RV NP (fun q => D q ∨ q = Bw) (wr.alloc (Obj.cells #[v0, v1, v2, v3, v4] 26)) (.agg #[v0, v1, v2, v3, v4]) (.agg (Msg.c m)) :=
        RV.keep (NP_le _) (fun q hq _ => Or.inl hq) (Ext.of_below hB1) (RV.agg _ _ hrw.1 hrw.2)
      have hw1 : RV NP (fun q => D q ∨ q = Bw) (wr.alloc (Obj.cells #[v0, v1, v2, v3, v4] 26)) (.pointer (some ⟨Bw, 0, none⟩)) (.rop (ci .i64 who) 0 1) :=
        .rop Bw 0 0 1 (ci .i64 who) [.int .i64 who] rfl rfl (.inr rfl) (hlt1 _ (.inr rfl)) (fun j v hv => by
          match j, hv with
          | 0, hv => injection hv with hv; subst hv; exact hcw1) (fun u hu => by simp at hu; subst hu; rfl) (RVs.cons (.int _ _) RVs.nil).2
      have hrun := (wire_To_1_pc (m1 := m) (v1 := who) (r := (m.to_ == who)) rfl).run _ _ _ hlt1 (RVs.cons hm1 (RVs.cons hw1 RVs.nil))
      have hcall := (callsIn_wide (n := n - 1)).2 hrun
      have htk : ms.take (k + 1) = ms.take k ++ [m] := by rw [List.take_add_one, hm]; rfl
      have hkl : ((0 + (ms.take k).length : Nat) : Int) = (k : Int) := by simp; omega
      by_cases hto : m.to_ = who
      · rw [show (m.to_ == who) = true from beq_iff_eq.2 hto] at hcall
        gi_wp2_with (refine ⟨trivial, ?_⟩; gi_at_call 30; refine hcall.mono ?_; clear hcall; rintro e w2 ⟨v, rfl, hv2, hb2⟩; obtain rfl := hv2.bool_inv; obtain ⟨fn, tmps, assign, body, hy, hR⟩ := hY _ (k : Int) w2 (hJ _ _ _ hJs (hB1.trans (hb2.mono (by simp)))) (by have := toI_len who 0 (ms.take k); simp at this; omega))
        refine hR.mono ?_
        rintro e W3 (⟨rfl, hJ3, hk3⟩ | ⟨rfl, hJx3⟩)
        · gi_wp2
          go_roundw
          case rel => exact ⟨k + 1, by omega, by simp, by rw [htk, toI_snoc, if_pos hto, hkl]; exact hJ3, ((hnx.trans (Kp.of_below hnw hB1)).trans (Kp.of_below (by have := hB1.size; omega) hb2)).trans hk3⟩
          case measure => simp [intOf]; omega
        · gi_wp2
          refine bodyPost_ret (results_none rfl _ _ _) rfl ?_
          exact ⟨⟨_, rfl⟩, .inr ⟨_, trivial, hJx3⟩⟩
      · rw [show (m.to_ == who) = false from beq_eq_false_iff_ne.2 hto] at hcall
        gi_wp2_with (refine ⟨trivial, ?_⟩; gi_at_call 30; refine hcall.mono ?_; clear hcall; rintro e w2 ⟨v, rfl, hv2, hb2⟩; obtain rfl := hv2.bool_inv)
        refine ⟨fun _ h => (by cases h), ?_⟩
        gi_wp2
        go_roundw
        case rel => exact ⟨k + 1, by omega, by simp, by rw [htk, toI_snoc, if_neg hto, List.append_nil]; exact hJ _ _ _ hJs (hB1.trans (hb2.mono (by simp))), (hnx.trans (Kp.of_below hnw hB1)).trans (Kp.of_below (by have := hB1.size; omega) hb2)⟩
        case measure => simp [intOf]; omega
    · obtain rfl : k = len := by omega
      gi_wp2
      go_end0
      exact ⟨⟨_, rfl⟩, .inl ⟨_, rfl, by rw [← hlen, List.take_length] at hJs; exact hJs⟩⟩

set_option maxRecDepth 100000 in
set_option maxHeartbeats 1000000 in
theorem places1_nil_in (n : Nat) (l Bs Bf : Nat) (A : Option Addr) (cap : Nat) (J : List Int → World → Prop)
    (W : World) (hBs : W.cell? ⟨Bs, 0, none⟩ = some (.slice A 0 cap)) (h0 : J [] W) :
    CallsIn Fence.wide n Try.prog 34 #[.func (.yield l) #[] #[], .pointer (some ⟨Bs, 0, none⟩), .pointer (some ⟨Bf, 0, none⟩)] W fun e W' => (∃ v, e = .returned v) ∧ J [] W' := by
  refine callsIn_of_wp Try.func34 rfl trivial ?_ rfl
  simp only [Try.ntmps34, List.size_toArray, List.length_cons, List.length_nil, Nat.reduceAdd, Nat.reduceSub, Array.replicate_succ, Array.replicate_zero, List.push_toArray, List.append_toArray, List.nil_append, List.cons_append]
  gi_wp2
  gi_loopw [8] (fun i wr => i = .int .i64 0 ∧ J [] wr) (fun _ _ => 0)
  case atStart => exact ⟨rfl, h0⟩
  case round =>
    obtain ⟨rfl, hJs⟩ := hrel
    gi_wp2
    go_end0
    exact ⟨⟨_, rfl⟩, hJs⟩

theorem abides_below {B : Nat} {J : List Int → World → Prop} (h : AbidesFrom B J) (s : List Int) (X Y : World) (hs : J s X) (hb : Below X.heap.size X Y) : J s Y :=
  h s X Y none hs ⟨hb.os, hb.tape, hb.output, hb.size, fun k hk _ => hb.block k hk⟩ (fun r e => by cases e)

/-- the value that places hands back -/
theorem places_stops (n : Nat) (hn : 1 ≤ n) (Bs Bf Bw N X cap : Nat) (A : Option Addr) (who : Int) (ms : List Msg) (hreach : ms.length * 72 ≤ 140737488351232) (D : Nat → Prop) (w : World) (hN : N ≤ w.heap.size)
    (hD : ∀ k, D k → k < N ∧ k ≠ X) (hw : Bw < N ∧ Bw ≠ X) (hf : Bf < N ∧ Bf ≠ X) (hs : Bs < N ∧ Bs ≠ X)
    (hBs : w.cell? ⟨Bs, 0, none⟩ = some (.slice A ms.length cap)) (hBf : w.cell? ⟨Bf, 0, none⟩ = some (.func (.func 30) #[] #[.pointer (some ⟨Bw, 0, none⟩)])) (hBw : w.cell? ⟨Bw, 0, none⟩ = some (.int .i64 who))
    (hc : ms = [] ∨ ∃ b o, A = some ⟨b, o, none⟩ ∧ D b ∧ b < w.heap.size ∧ Lie w D b o ms) :
    SeqStopsK Fence.wide n Try.prog 34 #[.pointer (some ⟨Bs, 0, none⟩), .pointer (some ⟨Bf, 0, none⟩)] (fun x : Int => #[Value.int .i64 x]) (Kp N X) (fun ys => ys = toI who 0 ms) (fun _ => True) ms.length w := fun l J Jx W hW hJ hJx hY h0 => by
  have c1 := (hW.cell (p := ⟨Bs, 0, none⟩) (Nat.lt_of_lt_of_le hs.1 hN)).trans hBs
  have c2 := (hW.cell (p := ⟨Bf, 0, none⟩) (Nat.lt_of_lt_of_le hf.1 hN)).trans hBf
  have c3 := (hW.cell (p := ⟨Bw, 0, none⟩) (Nat.lt_of_lt_of_le hw.1 hN)).trans hBw
  rcases hc with rfl | ⟨b, o, rfl, hb, hbl, hl⟩
  · exact (places1_nil_in n l Bs Bf A cap J W c1 h0).mono fun e W' ⟨he, hj⟩ => ⟨he, .inl ⟨_, rfl, hj⟩⟩
  · refine places1_in n hn l Bs Bf Bw b o ms.length cap who ms rfl hreach D N X J Jx (abides_below hJ) hY W c1 c2 c3 (Nat.le_trans hN hW.size) hD hb hw hf ?_ h0
    intro i m hm
    obtain ⟨v0, v1, v2, v3, v4, h1, h2, h3⟩ := hl i m hm
    have hDs : ∀ q, D q → W.heap[q]? = w.heap[q]? := fun q hq => hW.block q (by have := (hD q hq).1; omega)
    exact ⟨v0, v1, v2, v3, v4, fun j v hv => (World.cell?_of_block (a := ⟨b, _, none⟩) (hDs b hb)).trans (h1 j v hv), h2, h3.1, fun i c d e1 e2 => RV.keepN hW.size hDs (h3.2 i c d e1 e2)⟩

theorem owns_weak {W : World} {N n : Nat} {e : TypeId} {size : Nat} {v : Value} {k : Nat} {xs : List Value} (h : W.ownsRow N e size v k xs) (hle : n ≤ N) : W.ownsRow n e size v k xs := by
  refine ⟨h.1, ?_⟩
  rcases h.2 with h2 | ⟨g, cap, cur, h1, h2, h3⟩
  · exact .inl h2
  · exact .inr ⟨g, cap, cur, h1, Nat.le_trans hle h2, h3⟩

/-- append to what a box holds, the row lying beyond N, the box below it -/
theorem appended' {W w1 : World} {N X : Nat} {t e : TypeId} {size : Nat} {v v' : Value} {k m : Nat} {xs ys : List Value} {tmp : Obj}
    (hv : Boxed W X t v) (hte : t ≠ e) (hrow : W.ownsRow N e size v k xs) (hN : N ≤ W.heap.size) (hX : X < N)
    (hown' : w1.ownsRow N e size v' m ys) (hgrow : (W.alloc tmp).grownBy w1 v.ownBlock) :
    Boxed w1 X t v ∧ Boxed (w1.setCell ⟨X, 0, none⟩ v') X t v' ∧ (w1.setCell ⟨X, 0, none⟩ v').ownsRow N e size v' m ys ∧ KeepsOthers W (w1.setCell ⟨X, 0, none⟩ v') ∧ Kp N X W (w1.setCell ⟨X, 0, none⟩ v') ∧ Below X W (w1.setCell ⟨X, 0, none⟩ v') := by
  obtain ⟨hv1, h2, h3, h4, h5⟩ := hv.appended hte (owns_weak hrow (Nat.le_of_lt hX)) (by omega) (Nat.le_refl X) (owns_weak hown' (Nat.le_of_lt hX)) hgrow
  refine ⟨hv1, h2, hown'.kept (grownBy_setCell' w1 X v') (.inr (hv1.not_row hte hown').symm), h4, ⟨h5.size, fun q hq hx => ?_⟩, h5⟩
  refine ((grownBy_setCell' w1 X v').block q ?_ (fun e' => hx (by injection e'))).trans ((hgrow.block q (by simp; omega) ?_).trans (Below.heap_alloc W tmp q (by omega)))
  · have := hgrow.size; simp at this; omega
  · rcases hrow.2 with ⟨rfl, _⟩ | ⟨g, cap, cur, rfl, hb, _, _⟩
    · simp [Value.ownBlock]
    · intro e'
      obtain rfl : q = g := by simpa [Value.ownBlock] using e'
      omega

theorem info3 : (Try.prog.info? 3).map (fun i => (i.zero, i.size, i.bytes)) = some (some (.int .i64 0), 1, 8) := by kernel_rfl

set_option maxRecDepth 100000 in
set_option maxHeartbeats 2000000 in
theorem To_in (A : Option Addr) (cap : Nat) (who : Int) (ms : List Msg) (hreach : ms.length * 72 ≤ 140737488351232) (D : Nat → Prop) (w : World) (hD : ∀ k, D k → k < w.heap.size)
    (hc : ms = [] ∨ ∃ b o, A = some ⟨b, o, none⟩ ∧ D b ∧ b < w.heap.size ∧ Lie w D b o ms) :
    CallsIn Fence.wide 9 Try.prog 18 #[.slice A ms.length cap, .int .i64 who] w fun e W' => ∃ v, e = .returned v ∧ W'.ownsRow w.heap.size 3 1 v (toI who 0 ms).length ((toI who 0 ms).map (Value.int .i64)) ∧ Below w.heap.size w W' := by
  obtain ⟨i0, hi, hz0, hz1, hz2⟩ := info_parts info3
  refine callsIn_of_wp_marks Try.func18 rfl trivial ?_ rfl
  simp only [Try.ntmps18, List.size_toArray, List.length_cons, List.length_nil, Nat.reduceAdd, Nat.reduceSub, Array.replicate_succ, Array.replicate_zero, List.push_toArray, List.append_toArray, List.nil_append, List.cons_append]
  gi_wp2_with (refine ⟨trivial, ?_⟩; gi_at_call 29; refine (places_in Fence.wide _ trivial rfl _ _ _ _ _ ⟨_, _, _, rfl⟩).mono ?_; rintro e w' ⟨rfl, rfl⟩)
  obtain ⟨s, hs⟩ : ∃ s, w.heap.size = s := ⟨_, rfl⟩
  rw [hs]
  obtain ⟨W0, hW0⟩ : ∃ W0, (((w.alloc (Obj.cells #[Value.int IntKind.i64 who] 3)).alloc (Obj.cells #[Value.slice none 0 0] 23)).alloc (Obj.cells #[Value.slice A ms.length cap] 22)).alloc
      (Obj.cells #[Value.func (Fn.func 30) #[] #[Value.pointer (some { block := s, off := 0 })]] 54) = W0 := ⟨_, rfl⟩
  rw [hW0]
  have b0 := Boxed.new w 3 (.int .i64 who)
  have b1 := Boxed.new (w.alloc (Obj.cells #[Value.int IntKind.i64 who] 3)) 23 (.slice none 0 0)
  have b2 := Boxed.new ((w.alloc (Obj.cells #[Value.int IntKind.i64 who] 3)).alloc (Obj.cells #[Value.slice none 0 0] 23)) 22 (.slice A ms.length cap)
  have b3 := Boxed.new (((w.alloc (Obj.cells #[Value.int IntKind.i64 who] 3)).alloc (Obj.cells #[Value.slice none 0 0] 23)).alloc (Obj.cells #[Value.slice A ms.length cap] 22)) 54 (.func (.func 30) #[] #[.pointer (some ⟨s, 0, none⟩)])
  simp only [World.size_alloc, hs] at b0 b1 b2 b3
  have B0 : Boxed W0 s 3 (.int .i64 who) := by rw [← hW0]; exact ((b0.alloc _).alloc _).alloc _
  have B1 : Boxed W0 (s + 1) 23 (.slice none 0 0) := by rw [← hW0]; exact (b1.alloc _).alloc _
  have B2 : Boxed W0 (s + 2) 22 (.slice A ms.length cap) := by rw [← hW0]; exact b2.alloc _
  have B3 : Boxed W0 (s + 3) 54 (.func (.func 30) #[] #[.pointer (some ⟨s, 0, none⟩)]) := by rw [← hW0]; exact b3
  have hsz : W0.heap.size = s + 4 := by rw [← hW0]; simp [hs]
  have hB0 : Below s w W0 := by
    rw [← hW0]
    exact ((((Below.refl _ w).alloc (by omega) _).alloc (by simp; omega) _).alloc (by simp; omega) _).alloc (by simp; omega) _
  refine wpIn_rangeFunc_ownG rfl (by omega) (gf := 34) (lb := #[.pointer (some ⟨s + 2, 0, none⟩), .pointer (some ⟨s + 3, 0, none⟩)]) rfl trivial (enters_of Try.func34 (by kernel_rfl) rfl)
    (places_stops 8 (by omega) (s + 2) (s + 3) s (s + 4) (s + 1) cap A who ms hreach D W0 (by omega) (fun k hk => by have := hD k hk; omega) (by omega) (by omega) (by omega) B2.cell B3.cell B0.cell ?hlie)
    (fun h k => Kp.trans h k) (fun W l o o' hl _ _ _ => ⟨by simp, fun k h1 h2 => World.putObj_heap_other (by omega)⟩) (Below.refl _ _) (fun _ => rfl)
    (fun pre W => (∃ v, Boxed W (s + 1) 23 v ∧ W.ownsRow (s + 4) 3 1 v pre.length (pre.map (Value.int .i64)) ∧ True) ∧ (Below s w W ∧ s + 4 ≤ W.heap.size))
    (fun _ _ _ => False)
    (OwnFrom.and (Own.from (holdsRow_own (s + 4) (s + 1) 23 3 1 (fun pre : List Int => pre.length) (fun pre : List Int => pre.map (Value.int .i64)) (fun pre v => True)) _) (OwnFrom.and (ownFrom_below (by omega) (by omega)) (fun _ _ _ _ hs hg _ => Nat.le_trans hs hg.size)))
    (fun _ _ _ _ _ hs _ _ => hs)
    ⟨⟨_, B1, World.ownsRow_nil _ _ _ _, trivial⟩, hB0, by omega⟩
    (fun x => { tmps := #[.slice A ms.length cap, .int .i64 who, undef, .pointer (some ⟨s, 0, none⟩), .slice none 0 0, .pointer (some ⟨s + 1, 0, none⟩), .int .i64 x, .slice A ms.length cap, .func (.func 30) #[] #[.pointer (some ⟨s, 0, none⟩)], .func (.func 34) #[] #[.pointer (some ⟨s + 2, 0, none⟩), .pointer (some ⟨s + 3, 0, none⟩)], .int .i64 x, undef, undef, undef, undef, undef], defers := [] }) ?assign ?body ?done ?stop
  case hlie =>
    rcases hc with h | ⟨b, o, h1, h2, h3, h4⟩
    · exact .inl h
    · refine .inr ⟨b, o, h1, h2, by omega, fun i m hm => ?_⟩
      obtain ⟨v0, v1, v2, v3, v4, e1, e2, e3⟩ := h4 i m hm
      have hbl : ∀ q, D q → W0.heap[q]? = w.heap[q]? := fun q hq => hB0.block q (by have := hD q hq; omega)
      exact ⟨v0, v1, v2, v3, v4, fun j v hv => (World.cell?_of_block (a := ⟨b, _, none⟩) (hbl b h2)).trans (e1 j v hv), e2, e3.1, fun i c d e4 e5 => RV.keepN hB0.size hbl (e3.2 i c d e4 e5)⟩
  case assign =>
    intro l x W K hK
    gi_wp2
    exact hK
  case body =>
    rintro l pre x W ⟨⟨v, hv, hrow, -⟩, hB, hWs⟩ hlt
    have hc := hv.cell
    have hml : pre.length + 1 ≤ maxLen := by have : maxLen = 9223372036854775807 := rfl; omega
    have hby : (pre.length + 1) * 8 ≤ 140737488355328 := by omega
    have hws1 : s + 4 ≤ (W.alloc (Obj.cells #[Value.int IntKind.i64 x] 3)).heap.size := by simp; omega
    gi_wp2_with (gi_at_builtin; refine wpListIn_append_own _ rfl _ _ 23 rfl (s + 4) 3 i0 (.int .i64 0) 1 8 Try.underlying23 hi hz0 hz1 hz2 rfl (by decide) _ _ _ rfl (hrow.alloc _) ⟨W.heap.size, 0, none⟩ 1 1 [.int .i64 x] rfl rfl (cell_one_new _ _ _) (by simp [Value.oneCell']) hml hby hws1 ?_; intro v' w1 hown' hgrow _; obtain ⟨g', cap', rfl⟩ := ownsRow_succ hown'; obtain ⟨hv1, hv2, hr2, hk2, hb2, hb3⟩ := appended' hv (by decide) hrow hWs (by omega) hown' hgrow; have hc1 := hv1.cell; have hf1 := hv1.frozen)
    exact ⟨hk2.from _, hb2, ⟨_, hv2, by simpa using hr2, trivial⟩, hB.trans (hb3.mono (by omega)), Nat.le_trans hWs hb2.size⟩
  case done =>
    rintro D' ys W hD' rfl ⟨⟨v, hv, hrow, -⟩, hB, -⟩ hK
    have hc := hv.cell
    gi_wp2
    refine ⟨by simp, .inl ⟨_, _, rfl, run_takeDeferred hK, ?_⟩⟩
    exact ⟨_, results_tmp rfl _ _ _, v, rfl, owns_weak (ownsRow_putObj hrow _ hK rfl) (by omega), by rw [hs]; exact hB.trans (belowK_b (w := w) (Nat.le_refl _) W D' _ _ (by omega) hK rfl rfl |>.mono (by omega))⟩
  case stop =>
    rintro D' c pre W _ _ h _
    exact h.elim

theorem rv_row {w : World} {N : Nat} {v : Value} {l : List Int} {D : Nat → Prop} (h : w.ownsRow N 3 1 v l.length (l.map (Value.int .i64))) (hD : ∀ b, N ≤ b → D b) : RV NP D w v (.list 1 (l.map (ci .i64))) := by
  rcases h.2 with ⟨rfl, h0⟩ | ⟨g, cap, cur, rfl, hg, hb, hk, hm, hcs, ht⟩
  · obtain rfl : l = [] := List.eq_nil_of_length_eq_zero h0
    exact .list0 none 0 1 (Nat.zero_le _)
  · refine RV.list_mk (by simp) (by simpa using hk) hm fun i e he => ?_
    rw [List.getElem?_map] at he
    obtain ⟨n, hn, rfl⟩ := Option.map_eq_some_iff.1 he
    refine ⟨g, 0, [.int .i64 n], rfl, hD g hg, (Array.getElem?_eq_some_iff.1 hb).1, fun j u hu => ?_, rfl, fun u hu => by simp at hu; subst hu; rfl, RVs.cons (.int _ _) RVs.nil⟩
    match j, hu with
    | 0, hu =>
      injection hu with hu
      subst hu
      have hi : i < l.length := (List.getElem?_eq_some_iff.1 hn).1
      have h1 : (cur.toList.take (l.length * 1))[i]? = some (.int .i64 n) := by rw [ht, List.getElem?_map, hn]; rfl
      rw [List.getElem?_take] at h1
      rw [if_pos (by omega)] at h1
      simp only [World.cell?, hb]
      simpa using h1

def wire_To_f (w1 : List Msg) (who1 : Int) : Option (List Int) := chk (w1.length * 72 ≤ 140737488351232) (some (toI who1 0 w1))

theorem wire_To_pc {w1 : List Msg} {who1 : Int} {r : List Int} (H : wire_To_f w1 who1 = some r) : PC Try.prog 18 [.list 5 (w1.map Msg.c), .int .i64 who1] (.list 1 (r.map (ci .i64))) := by
  unfold wire_To_f at H
  obtain ⟨hle, H⟩ := chk_some H
  injection H with H
  subst H
  refine ⟨⟨Try.f18, _, Try.func18, rfl, by decide⟩, fun w D vs hD hv => ?_⟩
  match vs, hv with
  | [va, vb], hv =>
    have ha := hv.2 0 va _ rfl rfl
    have hb := hv.2 1 vb _ rfl rfl
    obtain rfl := hb.int_inv
    obtain ⟨A, c, rfl, hc⟩ := lie_of ha
    have := callsIn_wide.1 (To_in A c who1 w1 hle D w hD hc)
    refine this.mono ?_
    rintro e w' ⟨v, rfl, hr, hbel⟩
    exact ⟨v, rfl, rv_row hr (fun b hb => .inr hb), hbel⟩
  | [], hv => exact absurd hv.1 (by simp)
  | [_], hv => exact absurd hv.1 (by simp)
  | _ :: _ :: _ :: _, hv => exact absurd hv.1 (by simp)
end Go.Proofs.Yteebeajhoemdpaa

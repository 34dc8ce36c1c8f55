import Derived.Test.YtjflkcfafijhfaaGreatQ23
import Derived.Test.YtjflkcfafijhfaaGreatQ28
set_option linter.unusedSectionVars false
/- disk.laid, by hand. -/
set_option linter.unusedSimpArgs false
set_option linter.unusedVariables false
namespace Go.Proofs.YtjflkcfafijhfaaGreat
open Go.Ab Go.RowKit Go.Maps
def RH (v : Value) : Option (DataW Value × List MemPlace) := some (.held v, [])
def MapsPg (D1 : Nat → Prop) (w1 : World) (Dm : DataW Value) (l : List Page) : Prop :=
 IsMap Dm ∧ ∀ x, (Maps.has Dm (.int .i64 x) = (lastP l x).isSome) ∧ ∀ p, lastP l x = some p → ∃ v, RV NP D1 w1 v (.agg (Page.c p)) ∧ ∀ z, Dm.atKey (.int .i64 x) z = .held v
theorem MapsPg.nil (D1 : Nat → Prop) (w1 : World) : MapsPg D1 w1 (.map []) [] := ⟨⟨_, rfl⟩, fun x => ⟨rfl, fun p h => by cases h⟩⟩
theorem MapsPg.step {D1 : Nat → Prop} {w1 : World} {Dm : DataW Value} {all : List Page} {k : Nat} {p : Page} (h : MapsPg D1 w1 Dm (all.take k)) (hp : all[k]? = some p) {v : Value} (hv : RV NP D1 w1 v (.agg (Page.c p))) : MapsPg D1 w1 (Dm.put (.int .i64 p.at_) (.held v)) (all.take (k + 1)) := by
 refine ⟨?_, fun x => ?_⟩
 ·obtain ⟨es, rfl⟩ := h.1
  exact ⟨_, rfl⟩
 ·rw [lastP_take hp x]
  by_cases e : p.at_ = x
  ·subst e
   rw [if_pos rfl]
   refine ⟨by rw [has_put_same h.1 (by trivial)]; rfl, fun q hq => ?_⟩
   injection hq with hq; subst hq
   exact ⟨v, hv, fun z => atKey_put_same h.1 (by trivial) _ _⟩
  ·rw [if_neg e]
   have hne : (Lit.int .i64 x) ≠ Lit.int .i64 p.at_ := fun h => by injection h with _ h; exact e h.symm
   rw [has_put_other hne]
   refine ⟨(h.2 x).1, fun q hq => ?_⟩
   obtain ⟨u, hu, hz⟩ := (h.2 x).2 q hq
   exact ⟨u, hu, fun z => by rw [atKey_put_other hne]; exact hz z⟩
theorem flat2 : ∀ {cells : List (List Value)} (h2 : ∀ x ∈ cells, x.length = 2) {i : Nat} {x : List Value} (hx : cells[i]? = some x) (j : Nat) {v : Value} (hv : x[j]? = some v), cells.flatten[i * 2 + j]? = some v
 | [], _, i, x, hx, _, _, _ => by simp at hx
 | c :: cs, h2, 0, x, hx, j, v, hv => by
  simp at hx; subst hx
  rw [List.flatten_cons, List.getElem?_append_left (by have := (List.getElem?_eq_some_iff.1 hv).1; omega)]
  simpa using hv
 | c :: cs, h2, i + 1, x, hx, j, v, hv => by
  have hc := h2 c (List.mem_cons_self ..)
  rw [List.flatten_cons, List.getElem?_append_right (by omega), show (i + 1) * 2 + j - c.length = i * 2 + j by omega]
  exact flat2 (fun x hx => h2 x (List.mem_cons_of_mem _ hx)) (by simpa using hx) j hv
def zOf : Value → Int
 | .int _ a => a
 | _ => 0
theorem law3 : Keyed Tryz.prog 3 := int_keyed Tryz.underlying3
theorem zero130 (w : World) : (zeroValue 130).run Tryz.prog w = .ok (.agg #[.int .i64 0, .slice none 0 0]) w := by kernel_rfl
theorem wpList_lookup_held {P : Program} (w : World) {ops : Array Oper} {rest : List Oper} {o : Oper} {a : Act} {Q : Exit → Act → World → Prop}
  (hg : o.guard = none) (m x : Operand) (t : TypeId) (hop : o.op = Op.lookup t m x false)
  (k e : TypeId) (K : Keyed P k) (ht : P.underlying t = some (.map k e)) {z : Value} (hz : (zeroValue e).run P w = .ok z w) (b n : Nat) (D : DataW Value)
  (hm : a.eval m = .map (some b)) (hown : w.ownsMap P k RH b n D) (key : Value) (kl : Lit) (hx : a.eval x = key) (hkey : keyOf P k key = some kl)
  (u : Value) (hat : D.atKey kl (.held z) = .held u)
  (hK : wpList P ops Q rest (a.put o.dst u) w) :
  wpList P ops Q (o :: rest) a w := by
 refine wpList_plain hg fun K' hK' => ?_
 obtain ⟨v, ps, hrun, hv⟩ := hown.lookup K ht hz (zd := .held z) (zp := []) rfl hkey
 obtain rfl : v = u := by
  unfold RH at hv
  injection hv with hv
  injection hv with hv _
  rw [hat] at hv
  injection hv
 unfold Oper.wp
 simp [execOp, hop, hm, hx, hrun, Result.andThen]
 exact hK' _ _ hK
theorem two_rows {D : Nat → Prop} {W : World} {g : Nat} {Aa Ab : Option Addr} {ca cb : Nat} {l over : List Page} (hgD : D g) (hgl : g < W.heap.size) (hg : W.heap[g]? = some (.cells #[.slice Aa l.length ca, .slice Ab over.length cb] 42))
  (ha : RV NP D W (.slice Aa l.length ca) (.list 2 (l.map Page.c))) (hb : RV NP D W (.slice Ab over.length cb) (.list 2 (over.map Page.c))) : RV NP D W (.slice (some ⟨g, 0, none⟩) 2 2) (.list 1 ([l, over].map (cl 2 Page.c))) := by
 refine .list g 0 2 1 ([l, over].map (cl 2 Page.c)) [[.slice Aa l.length ca], [.slice Ab over.length cb]] rfl (Nat.le_refl _) (by decide) hgD hgl ?_ ?_ ?_ ?_ ?_
 ·intro i x hx j v hv
  match i, hx with
  | 0, hx =>
   simp at hx; subst hx
   match j, hv with
   | 0, hv => simp at hv; subst hv; simp [World.cell?, hg]
   | _ + 1, hv => simp at hv
  | 1, hx =>
   simp at hx; subst hx
   match j, hv with
   | 0, hv => simp at hv; subst hv; simp [World.cell?, hg]
   | _ + 1, hv => simp at hv
  | _ + 2, hx => simp at hx
 ·intro x hx; simp at hx; rcases hx with rfl | rfl <;> rfl
 ·intro x hx; simp at hx; rcases hx with rfl | rfl <;> simp [cl_eq]
 ·intro i x hx v hv
  have := List.mem_of_getElem? hx
  simp at this
  rcases this with rfl | rfl <;> (simp at hv; subst hv; rfl)
 ·intro i x e hx he j c d hc hd
  match i, hx with
  | 0, hx =>
   simp at hx he; subst hx; subst he
   match j, hc with
   | 0, hc => simp [cl_eq] at hc hd; subst hc; subst hd; exact ha
   | _ + 1, hc => simp at hc
  | 1, hx =>
   simp at hx he; subst hx; subst he
   match j, hc with
   | 0, hc => simp [cl_eq] at hc hd; subst hc; subst hd; exact hb
   | _ + 1, hc => simp at hc
  | _ + 2, hx => simp at hx
theorem ext_mapgrow {P : Program} {kt : TypeId} {D1 : Nat → Prop} {W2 W3 : World} {R : Value → Option (DataW Value × List MemPlace)} {s n n' : Nat} {Da Db : DataW Value} (h2 : W2.ownsMap P kt R s n Da) (h3 : W3.ownsMap P kt R s n' Db) (hg : W2.grownBy W3 (some s)) (hs : ¬ D1 s) : Ext D1 W2 W3 := by
 obtain ⟨es2, c2, e2, -⟩ := h2
 obtain ⟨es3, c3, e3, -⟩ := h3
 refine ⟨hg.size, fun b hb => ?_, fun b hd hb => hg.block b hb (fun e => hs (by injection e with e; rwa [← e]))⟩
 by_cases e : b = s
 ·subst e
  simp [World.shape?, e2, e3]
 ·exact shape_of_heap (hg.block b hb (fun e' => e (by injection e')))
theorem cell_two_new (w : World) (x y : Value) (t : TypeId) : ∀ j u, [x, y][j]? = some u → (w.alloc (.cells #[x, y] t)).cell? ((⟨w.heap.size, 0, none⟩ : Addr).add j) = some u := by
 intro j u hj
 have hb := World.alloc_heap_new w (.cells #[x, y] t)
 have key : ∀ k, (w.alloc (.cells #[x, y] t)).cell? ⟨w.heap.size, k, none⟩ = (#[x, y] : Array Value)[k]? := fun k => by
  show (match (w.alloc (.cells #[x, y] t)).heap[w.heap.size]? with | some (.cells c _ _) => c[k]? | _ => none) = _
  rw [hb]
 match j, hj with
 | 0, hj => simp at hj; subst hj; exact key 0
 | 1, hj => simp at hj; subst hj; exact key 1
 | _ + 2, hj => simp at hj
theorem ownsRow_ge {W : World} {n0 e sz n : Nat} {v : Value} {xs : List Value} (h : W.ownsRow n0 e sz v n xs) : ∀ g, v.ownBlock = some g → n0 ≤ g := by
 intro g hg
 obtain ⟨_, ⟨rfl, -⟩ | ⟨g', cap, cur, rfl, hge, -⟩⟩ := h
 ·simp [Value.ownBlock] at hg
 ·simp [Value.ownBlock] at hg; omega
theorem row_list {W w1 : World} {D1 DD : Nat → Prop} {n0 : Nat} {v : Value} {cells : List (List Value)} {ps : List Page} (hrow : W.ownsRow n0 130 2 v ps.length cells.flatten) (hcl : cells.length = ps.length) (h2 : ∀ x ∈ cells, x.length = 2) (h1 : ∀ x ∈ cells, ∀ u ∈ x, u.oneCell' = true)
  (hv : ∀ (j : Nat) cs p, cells[j]? = some cs → ps[j]? = some p → RVs NP D1 w1 cs (Page.c p)) (hE : Ext D1 w1 W) (hD : ∀ b, D1 b → b < w1.heap.size → DD b) (hn : ∀ b, n0 ≤ b → DD b) : RV NP DD W v (.list 2 (ps.map Page.c)) := by
 have hcells := fun g hg => hrow.cells (g := g) hg
 obtain ⟨_, ⟨rfl, hz⟩ | ⟨g, cap, cur, rfl, hg, hgb, hk, hm, hcs, ht⟩⟩ := hrow
 ·have : ps = [] := List.eq_nil_of_length_eq_zero hz
  subst this
  exact .list0 none 0 2 (Nat.zero_le _)
 ·have hc := hcells g rfl
  have key := RV.list (φ := NP) (D := DD) (w := W) g 0 cap 2 (ps.map Page.c) cells (by simpa using hcl) (by simpa using hk) hm (hn g hg) (Array.getElem?_eq_some_iff.1 hgb).1 (fun i x hx j u hu => ?_) h2 (fun e he => ?_) (fun i x hx u hu => h1 x (List.mem_of_getElem? hx) u hu) (fun i x e hx he j c d hcj hd => ?_)
  ·rw [List.length_map] at key; exact key
  ·have := hc _ _ (flat2 h2 hx j hu)
   have e : ((⟨g, 0, none⟩ : Addr).add (i * 2 + j)) = ⟨g, 0 + i * 2 + j, none⟩ := by
    unfold Addr.add
    split
    ·rename_i h0; rw [show 0 + i * 2 + j = 0 by omega]
    ·simp
   rw [e] at this; exact this
  ·obtain ⟨p, _, rfl⟩ := List.mem_map.1 he; rfl
  ·rw [List.getElem?_map] at he
   obtain ⟨p, hp, rfl⟩ := Option.map_eq_some_iff.1 he
   exact ((hv i x p hx hp).2 j c d hcj hd).keep (PlLe.refl _) hD hE
theorem ownsRow_ints {W : World} {n0 : Nat} {v : Value} {rs : List Int} (h : W.ownsRow n0 3 1 v rs.length (rs.map (Value.int .i64))) : ∃ A c, v = .slice A rs.length c ∧ ∀ (j : Nat) x, rs[j]? = some x → ∃ g, A = some ⟨g, 0, none⟩ ∧ n0 ≤ g ∧ g < W.heap.size ∧ W.cell? ⟨g, j, none⟩ = some (.int .i64 x) := by
 have h' := h
 obtain ⟨_, ⟨rfl, hz⟩ | ⟨g, cap, cur, rfl, hg, hgb, hk, hm, hcs, ht⟩⟩ := h
 ·have : rs = [] := List.eq_nil_of_length_eq_zero hz
  subst this
  exact ⟨none, 0, rfl, fun j x hx => by simp at hx⟩
 ·refine ⟨_, cap, rfl, fun j x hx => ⟨g, rfl, hg, (Array.getElem?_eq_some_iff.1 hgb).1, ?_⟩⟩
  have := h'.cells (g := g) rfl j (.int .i64 x) (by rw [List.getElem?_map, hx]; rfl)
  cases j <;> simpa [Addr.add] using this
theorem size_intKeys {P : Program} {kt : TypeId} {R : Value → Option (DataW Value × List MemPlace)} {W : World} {s n : Nat} {Dm : DataW Value} (h : W.ownsMap P kt R s n Dm) : Maps.size Dm ≤ n := by
 obtain ⟨es, clock, hb, F, hs, rfl⟩ := h
 show ((es.toList.map (WideElems.rg P kt R)).foldr DataW.insert []).length ≤ n
 rw [length_sorted]
 simpa using hs
theorem keys_perm {W : World} {s n : Nat} {Dm : DataW Value} {D1 : Nat → Prop} {w1 : World} {all : List Page} (h : W.ownsMap Tryz.prog 3 RH s n Dm) (hm : MapsPg D1 w1 Dm all) : (intKeys Dm).Perm ((laidP all).map Page.at_) := by
 have hi := laid_inv all
 refine (CollectedI.perm (left := fun _ => false) ⟨hi.rise.imp (fun h => by omega), fun x => ?_⟩ h law3 Tryz.underlying3 (fun _ => rfl)).symm
 rw [hi.keys, (hm.2 x).1]
 simp
set_option maxRecDepth 100000 in
set_option maxHeartbeats 2000000 in
theorem laid_in {l over all : List Page} (hcat : slices_Concat_104_f [l, over] = some all) (hlen : all.length ≤ 12) (hwf : ∀ p ∈ all, (Lit.int .i64 p.at_).wf = true) (w : World) (D : Nat → Prop) (hD : ∀ b, D b → b < w.heap.size) (va vb : Value)
  (ha : RV NP D w va (.list 2 (l.map Page.c))) (hb : RV NP D w vb (.list 2 (over.map Page.c))) :
  Calls Tryz.prog 107 #[va, vb] w fun e w' => ∃ v, e = .returned v ∧ RV NP (fun b => D b ∨ w.heap.size ≤ b) w' v (.list 2 ((laidP all).map Page.c)) ∧ Below w.heap.size w w' := by
 obtain ⟨Aa, ca, rfl, -⟩ := id ha.list_inv
 obtain ⟨Ab, cb, rfl, -⟩ := id hb.list_inv
 rw [List.length_map] at ha hb ⊢
 rw [List.length_map]
 obtain ⟨s, hs⟩ : ∃ s, w.heap.size = s := ⟨_, rfl⟩
 rw [hs]
 obtain ⟨w0, hw0⟩ : ∃ w0, (w.alloc (Obj.map #[] 0)).alloc (Obj.cells #[Value.slice Aa l.length ca, Value.slice Ab over.length cb] 42) = w0 := ⟨_, rfl⟩
 have hs0 : w0.heap.size = s + 2 := by rw [← hw0]; simp [hs]
 have hB0 : Below s w w0 := by rw [← hw0]; exact ((Below.refl _ w).alloc (by omega) _).alloc (by simp; omega) _
 have hown0 : w0.ownsMap Tryz.prog 3 RH s 0 (.map []) := by
  have := (World.ownsMap_made w Tryz.prog 3 RH).alloc (Obj.cells #[Value.slice Aa l.length ca, Value.slice Ab over.length cb] 42)
  rw [hs, hw0] at this; exact this
 have hg0 : w0.heap[s + 1]? = some (.cells #[.slice Aa l.length ca, .slice Ab over.length cb] 42) := by
  have h1 : (w.alloc (Obj.map #[] 0)).heap.size = s + 1 := by simp [hs]
  rw [← hw0, ← h1]; exact World.alloc_heap_new _ _
 have hD0 : ∀ b, (D b ∨ b = s + 1) → b < w0.heap.size := fun b hb => by
  rcases hb with hb | hb
  ·have := hD b hb; omega
  ·omega
 have hE0 : Ext D w w0 := by rw [← hs] at hB0; exact Ext.of_below hB0
 have hargs : RVs NP (fun b => D b ∨ b = s + 1) w0 [.slice (some ⟨s + 1, 0, none⟩) 2 2] [.list 1 ([l, over].map (cl 2 Page.c))] :=
  .cons (two_rows (.inr rfl) (by omega) hg0 (ha.keep (PlLe.refl _) (fun _ h _ => .inl h) hE0) (hb.keep (PlLe.refl _) (fun _ h _ => .inl h) hE0)) .nil
 have hcall := (slices_Concat_104_pc hcat).run w0 _ _ hD0 trivial hargs
 have hmm := @run_makeMap Tryz.prog
 go_enter Tryz.func107, Tryz.ntmps107
 go_wp2_with (go_at_call 104; refine hcall.mono ?_; rintro e w1 ⟨vc, rfl, hvc, hb1⟩; obtain ⟨An, cn, rfl, hle, hmx, hel⟩ := id hvc.list_inv; rw [List.length_map] at hvc hle ⊢)
 go_loopw [17] (fun i wr => ∃ (k : Nat) (Dm : DataW Value), k ≤ all.length ∧ i = .int .i64 k ∧ wr.ownsMap Tryz.prog 3 RH s k Dm ∧ MapsPg (fun b => D b ∨ (s + 1 ≤ b ∧ b < w1.heap.size)) w1 Dm (all.take k) ∧ Below s w wr ∧ Ext (fun b => D b ∨ (s + 1 ≤ b ∧ b < w1.heap.size)) w1 wr)
  (fun i _ => all.length - (zOf i).toNat)
 case atStart =>
  refine ⟨0, _, Nat.zero_le _, rfl, ?_, MapsPg.nil _ _, hB0.trans (hb1.mono (by omega)), Ext.refl _ _⟩
  have hbl : s < w0.heap.size := by omega
  obtain ⟨es, clock, hbk, Ft, hss, hDd⟩ := hown0
  exact ⟨es, clock, (hb1.block s hbl).trans hbk, Ft, hss, hDd⟩
 case round =>
  obtain ⟨k, Dm, hk, rfl, hown, hmp, hB, hE⟩ := hrel
  have hs1 : s + 2 ≤ w1.heap.size := by have := hb1.size; omega
  by_cases hlt : k < all.length
  ·obtain ⟨p, hp⟩ : ∃ p, all[k]? = some p := ⟨_, List.getElem?_eq_getElem hlt⟩
   obtain ⟨b, o, cs, rfl, hDb, hbl, hr, hl2, h1, hcs⟩ := hel k (Page.c p) (by rw [List.getElem?_map, hp]; rfl)
   match cs, hl2 with
   | [u1, u2], _ =>
    have q1 := hcs.2 0 u1 _ rfl rfl
    obtain rfl := q1.int_inv
    have q2 := hcs.2 1 u2 _ rfl rfl
    obtain ⟨A2, c2, rfl, -⟩ := id q2.list_inv
    have c0 : w1.cell? ⟨b, o + k * 2, none⟩ = some (.int .i64 p.at_) := by simpa using hr 0 _ rfl
    have c1 : w1.cell? ⟨b, o + k * 2 + 1, none⟩ = some (.slice A2 (p.data.map (ci .u8)).length c2) := hr 1 _ rfl
    rw [List.length_map] at c1 q2 hcs
    have hD1 : D b ∨ (s + 1 ≤ b ∧ b < w1.heap.size) := by
     rcases hDb with (h | h) | h
     ·exact .inl h
     ·exact .inr ⟨by omega, hbl⟩
     ·exact .inr ⟨by omega, hbl⟩
    have d0 := hE.cell hD1 c0
    have d1 := hE.cell hD1 c1
    have hvp : RV NP (fun b => D b ∨ (s + 1 ≤ b ∧ b < w1.heap.size)) w1 (.agg #[.int .i64 p.at_, .slice A2 p.data.length c2]) (.agg (Page.c p)) :=
     (RV.agg [_, _] _ hcs.1 hcs.2).keep (PlLe.refl _) (fun b hb hl => by
      rcases hb with (h | h) | h
      ·exact .inl h
      ·exact .inr ⟨by omega, hl⟩
      ·exact .inr ⟨by omega, hl⟩) (Ext.refl _ _)
    have hkey : keyOf Tryz.prog 3 (.int .i64 p.at_) = some (.int .i64 p.at_) := keyOf_int_mk Tryz.underlying3 (hwf p (List.mem_of_getElem? hp))
    go_wp2_with (first
     | (at_mapUpdate; refine wpList_mapUpdate_own _ rfl _ _ _ 209 rfl 3 130 law3 Tryz.underlying209 _ s k _ rfl (hown.alloc _) (by unfold maxLen; omega) _ _ _ rfl rfl hkey (.held (.agg #[.int .i64 p.at_, .slice A2 p.data.length c2])) [] rfl ?_; intro w2 hown2 hgrow2)
     | go_in)
    go_roundw
    case rel =>
     refine ⟨k + 1, _, by omega, by simp, hown2, hmp.step hp hvp, ((hB.alloc (by have := hB.size; omega) _).grown hgrow2 (by have := hB.size; simp; omega) (fun j hj => by cases hj; exact Nat.le_refl _)), (hE.trans (Ext.alloc _ _ _)).trans (ext_mapgrow (hown.alloc _) hown2 hgrow2 ?_)⟩
     ·rintro (h | h)
      ·have := hD s h; omega
      ·omega
    case measure => simp [zOf]; omega
  ·obtain rfl : k = all.length := by omega
   rw [List.take_length] at hmp
   obtain ⟨rs, hrs⟩ : ∃ rs, (laidP all).map Page.at_ = rs := ⟨_, rfl⟩
   have hperm := keys_perm hown hmp
   have hinv := laid_inv all
   have hrise := hinv.rise
   rw [hrs] at hperm hrise
   have hrl : rs.length ≤ 12 := by rw [← hrs, List.length_map]; have := laidP_len all; omega
   have hkr := Keys142_run (some s) wr
   have hm2 : (wr.alloc (.cells #[.map (some s)] 209)).cell? ⟨wr.heap.size, 0, none⟩ = some (.map (some s)) := cell_one_new wr (.map (some s)) 209 0 _ rfl
   have hsz := size_intKeys hown
   have hsr := sortedKeys161_run Dm s all.length wr.heap.size (wr.alloc (.cells #[.map (some s)] 209)) hm2 (hown.alloc _) (by omega) rs (fun zs hz => sort_perm (hz.trans hperm) hrise hrl)
   go_wp2_with (first
    | (go_at_call 142; refine hkr.mono ?_; rintro e w2 ⟨rfl, rfl⟩)
    | (go_at_call 58; refine hsr.mono ?_; rintro e w2 ⟨v2, rfl, hrow, hb2⟩; obtain ⟨Ar, cr, rfl, hrc⟩ := ownsRow_ints hrow)
    | go_in)
   have hs2 : wr.heap.size + 1 ≤ w2.heap.size := by have := hb2.size; simpa using this
   have hE2 : Ext (fun b => D b ∨ (s + 1 ≤ b ∧ b < w1.heap.size)) w1 w2 := (hE.trans (Ext.alloc _ _ _)).trans (Ext.of_below hb2)
   have hB2 : Below s w w2 := (hB.alloc (by have := hB.size; omega) _).trans (hb2.mono (by have := hB.size; simp; omega))
   have hsw : s < wr.heap.size := hown.lt
   have hown2 : w2.ownsMap Tryz.prog 3 RH s all.length Dm := by
    obtain ⟨es, clock, hbk, Ft, hss, hDd⟩ := hown.alloc (.cells #[.map (some s)] 209)
    exact ⟨es, clock, (hb2.block s (by simp; omega)).trans hbk, Ft, hss, hDd⟩
   obtain ⟨i0, hi, hz0, hz1, hz2⟩ := info_parts info130'
   go_loopw [30, 8] (fun i v wr2 => ∃ (k : Nat) (cells : List (List Value)), k ≤ rs.length ∧ i = .int .i64 k ∧ cells.length = k ∧ (∀ x ∈ cells, x.length = 2) ∧ (∀ x ∈ cells, ∀ u ∈ x, u.oneCell' = true) ∧ wr2.ownsRow w2.heap.size 130 2 v k cells.flatten ∧
     (∀ (j : Nat) cs p, cells[j]? = some cs → (laidP all)[j]? = some p → RVs NP (fun b => D b ∨ (s + 1 ≤ b ∧ b < w1.heap.size)) w1 cs (Page.c p)) ∧ Below w2.heap.size w2 wr2)
    (fun i _ _ => rs.length - (zOf i).toNat)
   case atStart => exact ⟨0, [], Nat.zero_le _, rfl, rfl, by simp, by simp, World.ownsRow_nil _ _ _ _, by simp, Below.refl _ _⟩
   case round =>
    obtain ⟨k, cells, hk, rfl, hcl, hc2, hone, hrow2, hvs, hB3⟩ := hrel
    by_cases hlt : k < rs.length
    ·obtain ⟨x, hx⟩ : ∃ x, rs[k]? = some x := ⟨_, List.getElem?_eq_getElem hlt⟩
     obtain ⟨p, hp, rfl⟩ : ∃ p, (laidP all)[k]? = some p ∧ p.at_ = x := by
      rw [← hrs, List.getElem?_map] at hx
      obtain ⟨p, hp, e⟩ := Option.map_eq_some_iff.1 hx
      exact ⟨p, hp, e⟩
     obtain ⟨v, hv, hat⟩ := (hmp.2 p.at_).2 p (hinv.val p (List.mem_of_getElem? hp))
     obtain ⟨cs, rfl, hcs⟩ := hv.agg_inv
     match cs, hcs with
     | [], hcs => exact absurd hcs.1 (by simp [Page.c])
     | [_], hcs => exact absurd hcs.1 (by simp [Page.c])
     | _ :: _ :: _ :: _, hcs => exact absurd hcs.1 (by simp [Page.c])
     | [u1, u2], hcs =>
      have q1 := hcs.2 0 u1 _ rfl rfl
      obtain rfl := q1.int_inv
      have q2 := hcs.2 1 u2 _ rfl rfl
      obtain ⟨A2, c2, rfl, -⟩ := id q2.list_inv
      rw [List.length_map] at q2 hcs hat
      obtain ⟨g, rfl, hgn, hgl, hgc⟩ := hrc k p.at_ hx
      have hgc' : wr.cell? ⟨g, k, none⟩ = some (.int .i64 p.at_) := (hB3.cell (p := ⟨g, k, none⟩) hgl).trans hgc
      have hown3 : wr.ownsMap Tryz.prog 3 RH s all.length Dm := by
       obtain ⟨es, clock, hbk, Ft, hss, hDd⟩ := hown2
       exact ⟨es, clock, (hB3.block s (by omega)).trans hbk, Ft, hss, hDd⟩
      have hpw : (Lit.int .i64 p.at_).wf = true := intKeys_wf hown3 Tryz.underlying3 p.at_ (hperm.mem_iff.2 (List.mem_of_getElem? hx))
      have hkey : keyOf Tryz.prog 3 (.int .i64 p.at_) = some (.int .i64 p.at_) := keyOf_int_mk Tryz.underlying3 hpw
      have hml : k + 1 ≤ maxLen := by have : maxLen = 9223372036854775807 := rfl; omega
      have hws : w2.heap.size ≤ (wr.alloc (Obj.cells #[.int .i64 p.at_, .slice A2 p.data.length c2] 130)).heap.size := by have := hB3.size; simp; omega
      go_wp2_with (first
       | (at_lookup; refine wpList_lookup_held _ rfl _ _ 209 rfl 3 130 law3 Tryz.underlying209 (zero130 _) s all.length Dm rfl hown3 _ _ rfl hkey _ (hat _) ?_)
       | (at_builtin; refine wpList_append_own _ rfl _ _ 42 rfl w2.heap.size 130 i0 (.agg #[.int .i64 0, .slice none 0 0]) 2 32 Tryz.underlying42 hi hz0 hz1 hz2 rfl (by decide) _ _ _ rfl (hrow2.alloc _) ⟨wr.heap.size, 0, none⟩ 1 1 [.int .i64 p.at_, .slice A2 p.data.length c2] rfl rfl (cell_two_new _ _ _ _) (by simp [Value.oneCell']) hml (by omega) hws ?_; intro v' w3 hown' hgrow _)
       | go_in)
      go_roundw
      case rel =>
       refine ⟨k + 1, cells ++ [[.int .i64 p.at_, .slice A2 p.data.length c2]], by omega, by simp, by simp [hcl], ?_, ?_, by simpa using hown', ?_, (hB3.alloc (by have := hB3.size; omega) _).grown hgrow hws (fun j hj => ownsRow_ge hrow2 j hj)⟩
       ·intro x hx
        rcases List.mem_append.1 hx with h | h
        ·exact hc2 x h
        ·simp at h; subst h; rfl
       ·intro x hx
        rcases List.mem_append.1 hx with h | h
        ·exact hone x h
        ·simp at h; subst h; simp [Value.oneCell']
       ·intro j cs p' hj hp'
        rcases Nat.lt_or_ge j cells.length with hl | hl
        ·rw [List.getElem?_append_left hl] at hj; exact hvs j cs p' hj hp'
        ·rw [List.getElem?_append_right hl] at hj
         have := (List.getElem?_eq_some_iff.1 hj).1
         simp at this
         have : j = k := by omega
         subst this
         rw [hcl, Nat.sub_self] at hj
         simp at hj; subst hj
         rw [hp] at hp'; injection hp' with hp'; subst hp'
         exact hcs
      case measure => simp [zOf]; omega
    ·have hk2 : k = (laidP all).length := by
      have : rs.length = (laidP all).length := by rw [← hrs, List.length_map]
      omega
     subst hk2
     go_wp2
     go_ret
     refine ⟨_, rfl, row_list hrow2 hcl hc2 hone hvs (hE2.trans (Ext.of_below hB3)) (fun b hb _ => hb.imp_right fun h => by omega) (fun b hb => .inr (by omega)), hB2.trans (hB3.mono (by omega))⟩
noncomputable def disk_laid_f (l1 over1 : List Page) : Option (List Page) := (slices_Concat_104_f [l1, over1]).bind fun all => chk (all.length ≤ 12 ∧ (all.all fun p => (Lit.int .i64 p.at_).wf) = true) (some (laidP all))
theorem disk_laid_pc {l1 over1 r : List Page} (H : disk_laid_f l1 over1 = some r) : PC Tryz.prog 107 [.list 2 (l1.map Page.c), .list 2 (over1.map Page.c)] (.list 2 (r.map Page.c)) := by
 unfold disk_laid_f at H
 obtain ⟨all, h1, H⟩ := bind_some H
 obtain ⟨⟨h2, h3⟩, H⟩ := chk_some H
 injection H with H
 subst H
 refine ⟨⟨_, _, Tryz.func107, rfl, by decide⟩, fun w D vs hD hG hv => ?_⟩
 match vs, hv with
 | [va, vb], hv =>
  exact laid_in h1 h2 (fun p hp => by simpa using List.all_eq_true.1 h3 p hp) w D hD va vb (hv.2 0 va _ rfl rfl) (hv.2 1 vb _ rfl rfl)
 | [], hv => exact absurd hv.1 (by simp)
 | [_], hv => exact absurd hv.1 (by simp)
 | _ :: _ :: _ :: _, hv => exact absurd hv.1 (by simp)
end Go.Proofs.YtjflkcfafijhfaaGreat

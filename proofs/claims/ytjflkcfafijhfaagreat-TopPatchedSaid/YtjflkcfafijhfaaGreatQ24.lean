import Derived.Test.YtjflkcfafijhfaaGreatQ11
import Derived.Test.YtjflkcfafijhfaaGreatQ02
set_option linter.unusedSectionVars false
/- DERIVED. From the readings of Frame to the readings of A1. No program here. -/
namespace Go.Ab
open Go.RowKit Go.Kx
variable [Lay]
def Brg {α : Type} (R : Rep α) (e : α → List Dat) : Prop :=
 (∀ y, (e y).length = R.size) ∧ ∀ (w : World) (cs : List Value) (y : α), R.rd w T cs y → RVs NP (fun b => b < w.heap.size) w cs (e y)
theorem RVs.one' {φ : Pl} {D : Nat → Prop} {w : World} {v : Value} {d : Dat} (h : RV φ D w v d) : RVs φ D w [v] [d] := by
 refine ⟨rfl, fun i c d' hc hd => ?_⟩
 cases i with
 | zero => simp at hc hd; subst hc; subst hd; exact h
 | succ i => simp at hc
theorem brg_int (k : IntKind) : Brg (Rep.int k) (fun n => [.int k n]) :=
 ⟨fun _ => rfl, fun w cs y h => by rw [h.1]; exact RVs.one' (.int _ _)⟩
theorem brg_pair {α β : Type} {R : Rep α} {S : Rep β} {e : α → List Dat} {f : β → List Dat} (h1 : Brg R e) (h2 : Brg S f) : Brg (Rep.pair R S) (fun x => e x.1 ++ f x.2) :=
 ⟨fun y => by rw [List.length_append, h1.1, h2.1]; rfl, fun w cs y h => by
  obtain ⟨c1, c2, rfl, h3, h4⟩ := h
  exact (h1.2 w c1 _ h3).append (h2.2 w c2 _ h4)⟩
theorem brg_map {α β : Type} {R : Rep α} {e : α → List Dat} (h : Brg R e) (f : β → α) : Brg (Rep.map R f) (fun x => e (f x)) :=
 ⟨fun y => h.1 _, fun w cs y hy => h.2 w cs _ hy⟩
theorem brg_slice {α : Type} {R : Rep α} {e : α → List Dat} (h : Brg R e) : Brg (Rep.slice R) (fun l => [.list R.size (l.map e)]) :=
 ⟨fun _ => rfl, fun w cs l hl => by
  obtain ⟨A, c, rfl, hc, hm, hx⟩ := hl
  refine RVs.one' ?_
  by_cases h0 : l = []
  ·subst h0; exact .list0 A c _ hm
  ·have hpos : 0 < l.length := by cases l <;> simp_all
   obtain ⟨b, o, es0, rfl, _, hb, _, _⟩ := hx 0 l[0] (by simp [hpos])
   obtain ⟨ls, hlen, hp⟩ := choose_lt' l.length (fun i (es : List Value) => ∀ x, l[i]? = some x → w.rangeAt b (o + i * R.size) es ∧ R.rd w T es x) (fun i hi => by
    obtain ⟨b', o', es, hA, _, _, h4, h5⟩ := hx i l[i] (by simp [hi])
    cases hA
    exact ⟨es, fun x hx' => by rw [List.getElem?_eq_getElem hi] at hx'; cases hx'; exact ⟨h4, h5⟩⟩)
   have hat : ∀ (i : Nat) es, ls[i]? = some es → ∃ x, l[i]? = some x ∧ w.rangeAt b (o + i * R.size) es ∧ R.rd w T es x := fun i es he => by
    have hi : i < l.length := by rw [← hlen]; exact (List.getElem?_eq_some_iff.1 he).1
    exact ⟨l[i], by simp [hi], hp i es he l[i] (by simp [hi])⟩
   have := RV.list (φ := NP) (D := fun b => b < w.heap.size) (w := w) b o c R.size (l.map e) ls (by simp [hlen]) (by simpa using hc) hm hb hb
    (fun i x hi => (hat i x hi).choose_spec.2.1)
    (fun x hm' => by
     obtain ⟨i, hi, rfl⟩ := List.mem_iff_getElem.1 hm'
     obtain ⟨y, _, _, h5⟩ := hat i ls[i] (by simp [hi])
     exact R.len h5)
    (fun d hd => by obtain ⟨y, _, rfl⟩ := List.mem_map.1 hd; exact h.1 y)
    (fun i x hi => by
     obtain ⟨y, _, _, h5⟩ := hat i x hi
     exact R.one h5)
    (fun i x d hi hd j cc dd hj hdd => by
     obtain ⟨y, h4, _, h5⟩ := hat i x hi
     rw [List.getElem?_map, h4] at hd
     simp at hd; subst hd
     exact (h.2 w x y h5).2 j cc dd hj hdd)
   rw [List.length_map] at this
   exact this⟩
theorem Brg.agg {α : Type} {R : Rep α} {e : α → List Dat} (h : Brg R e) {w : World} {cs : List Value} {y : α} (hy : R.rd w T cs y) : RV NP (fun b => b < w.heap.size) w (.agg cs.toArray) (.agg (e y)) :=
 .agg cs (e y) (h.2 w cs y hy).1 (h.2 w cs y hy).2
theorem Brg.val {α : Type} {R : Rep α} {e : α → Dat} (h : Brg R (fun y => [e y])) {w : World} {v : Value} {y : α} (hy : R.rd w T [v] y) : RV NP (fun b => b < w.heap.size) w v (e y) :=
 (h.2 w [v] y hy).2 0 v (e y) rfl rfl
theorem law_of {P : Program} {F : FuncId} {ds : List Dat} (pc : PC P F ds (.bool true)) {w : World} {vs : List Value} (hG : Lay.gp w (fun b => b < w.heap.size)) (h : RVs NP (fun b => b < w.heap.size) w vs ds) :
  Calls P F vs.toArray w fun e W' => e = .returned (.bool true) ∧ Below w.heap.size w W' :=
 (pc.run w _ vs (fun b hb => hb) hG h).mono fun e W' ⟨v, he, hv, hb⟩ => ⟨by rw [he, hv.bool_inv], hb⟩
theorem rvs_nil {φ : Pl} {D : Nat → Prop} {w : World} : RVs φ D w [] [] := ⟨rfl, fun i c d hc => by simp at hc⟩
theorem rvs_cons {φ : Pl} {D : Nat → Prop} {w : World} {v : Value} {d : Dat} {vs : List Value} {ds : List Dat} (h : RV φ D w v d) (h2 : RVs φ D w vs ds) : RVs φ D w (v :: vs) (d :: ds) := (RVs.one' h).append h2
end Go.Ab

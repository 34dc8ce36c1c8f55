import Derived.Test.YtjflkcfafijhfaaGreatQ01
import Derived.ProofKit
import Derived.OpenShut
import Derived.ShutString
import Derived.ChangeOld
import Derived.ChangeSame
import Derived.Deep.Slices
set_option linter.unusedSectionVars false
/- DERIVED. From the row's readings of arguments to my own readings. No program here. -/
namespace Go.Kx
open Go.RowKit Go.WideShapes
def Opens {α : Type} (P : Program) (t : TypeId) (R : Rep α) : Prop :=
 ∀ {H : Type} (enc : TypeId × Value → H) (w : World) (base : Nat) (spare : Nat → Bool) (held : Bool) (fuel : Nat) (cs : List Value) (x : DataW H × List MemPlace),
  DataW.trod enc P w base spare held fuel t cs = some x → ∃ y, R.rd w T cs y
section
variable {P : Program} {α β : Type} {R : Rep α} {S : Rep β} {t e : TypeId}
theorem opens_int {k : IntKind} (ht : P.underlying t = some (.int k)) : Opens P t (Rep.int k) := fun _ _ _ _ _ _ _ _ h => by
 obtain ⟨n, rfl, _, hw⟩ := DataW.trod_int ht h
 exact ⟨n, rfl, hw⟩
theorem opens_nat {k : IntKind} {b : Nat} (ht : P.underlying t = some (.int k)) (hb : ∀ n : Int, (Lit.int k n).wf = true → 0 ≤ n ∧ n < (b : Int)) : Opens P t (Rep.nat k b) := fun _ _ _ _ _ _ _ _ h => by
 obtain ⟨n, rfl, _, hw⟩ := DataW.trod_int ht h
 have := hb n hw
 exact ⟨n.toNat, by simp only [List.cons.injEq, and_true]; congr 1; omega, by omega⟩
theorem wf_u8 (n : Int) (h : (Lit.int .u8 n).wf = true) : 0 ≤ n ∧ n < ((256 : Nat) : Int) := by
 simp [Lit.wf, IntKind.min, IntKind.max, IntKind.signed, IntKind.bits] at h; omega
theorem wf_u16 (n : Int) (h : (Lit.int .u16 n).wf = true) : 0 ≤ n ∧ n < ((65536 : Nat) : Int) := by
 simp [Lit.wf, IntKind.min, IntKind.max, IntKind.signed, IntKind.bits] at h; omega
theorem wf_u32 (n : Int) (h : (Lit.int .u32 n).wf = true) : 0 ≤ n ∧ n < ((4294967296 : Nat) : Int) := by
 simp [Lit.wf, IntKind.min, IntKind.max, IntKind.signed, IntKind.bits] at h; omega
theorem wf_u64 (n : Int) (h : (Lit.int .u64 n).wf = true) : 0 ≤ n ∧ n < ((18446744073709551616 : Nat) : Int) := by
 simp [Lit.wf, IntKind.min, IntKind.max, IntKind.signed, IntKind.bits] at h; omega
theorem wf_i64' (n : Int) (h : (Lit.int .i64 n).wf = true) : -9223372036854775808 ≤ n ∧ n ≤ 9223372036854775807 := by
 simp [Lit.wf, IntKind.min, IntKind.max, IntKind.signed, IntKind.bits] at h; omega
theorem choose_lt' {β : Type} (n : Nat) (p : Nat → β → Prop) (h : ∀ i, i < n → ∃ y, p i y) : ∃ l : List β, l.length = n ∧ ∀ (i : Nat) x, l[i]? = some x → p i x := by
 induction n with
 | zero => exact ⟨[], rfl, fun i x h => by simp at h⟩
 | succ n ih =>
  obtain ⟨l, hl, hp⟩ := ih (fun i hi => h i (by omega))
  obtain ⟨y, hy⟩ := h n (by omega)
  refine ⟨l ++ [y], by simp [hl], fun i x hx => ?_⟩
  rcases Nat.lt_or_ge i n with h1 | h1
  ·rw [List.getElem?_append_left (by omega)] at hx; exact hp i x hx
  ·rw [List.getElem?_append_right (by omega)] at hx
   have h0 := (List.getElem?_eq_some_iff.1 hx).1
   simp at h0
   have : i = n := by omega
   subst this
   rw [hl, Nat.sub_self] at hx
   simp at hx
   subst hx; exact hy
theorem opens_slice (ht : P.underlying t = some (.slice e)) (hc : P.cellsOf e = R.size) (hpos : 0 < R.size) (ho : Opens P e R) : Opens P t (Rep.slice R) := fun enc w base spare held fuel cs x h => by
 rcases Go.Deep.open_slice ht h with ⟨rfl, _⟩ | ⟨a, len, cap, m, n, D, Pl, rfl, hb, hl, hm, hmm, _, hx⟩
 ·exact ⟨[], Rep.slice_nil R w T⟩
 ·have hle : len ≤ m := by rw [hmm]; split <;> omega
  obtain ⟨l, hlen, hp⟩ := choose_lt' len (fun i y => ∃ cs', w.cells? base (a.add (i * R.size)) R.size = some cs' ∧ R.rd w T cs' y) (fun i hi => by
   obtain ⟨cs', h1, h2⟩ := hx i (by omega)
   rw [hc] at h1
   obtain ⟨y, hy⟩ := ho enc w base spare held n cs' _ h2
   exact ⟨y, cs', h1, hy⟩)
  have hm' : cap ≤ 9223372036854775807 := hm
  refine ⟨l, some a, cap, by rw [hlen], by omega, hm', fun i y hy => ?_⟩
  obtain ⟨cs', h1, h2⟩ := hp i y hy
  obtain ⟨b, o, s⟩ := a
  cases s with
  | none =>
   rw [Addr.add_mid] at h1
   obtain ⟨_, hlen', hcell⟩ := World.cells?_some h1
   have hr : w.rangeAt b (o + i * R.size) cs' := fun j v hv => by
    have hj : j < cs'.length := (List.getElem?_eq_some_iff.1 hv).1
    have := hcell j (by omega)
    rw [Addr.add_mid] at this
    rw [this, hv]
   refine ⟨b, o, cs', rfl, trivial, ?_, hr, h2⟩
   have h0 : 0 < cs'.length := by rw [hlen']; exact hpos
   exact World.block_lt_of_cell? w _ (hr 0 cs'[0] (by simp [h0]))
  | some s =>
   exfalso
   obtain ⟨cs0, h3, _⟩ := hx 0 (by have := (List.getElem?_eq_some_iff.1 hy).1; omega)
   rw [hc, Nat.zero_mul] at h3
   obtain ⟨_, hlen', hcell⟩ := World.cells?_some h3
   have := hcell 0 hpos
   have he : w.cell? ((((⟨b, o, some s⟩ : Addr).add 0)).add 0) = none := by
    simp only [Addr.add, if_true, World.cell?]
    split <;> simp
   rw [he] at this
   have h0 : 0 < cs0.length := by rw [hlen']; exact hpos
   rw [List.getElem?_eq_getElem h0] at this
   cases this
def OpensFs (P : Program) (fs : List Field) (o : Nat) (R : Rep α) : Prop :=
 ∀ {H : Type} (enc : TypeId × Value → H) (w : World) (base : Nat) (spare : Nat → Bool) (held : Bool) (n : Nat) (cs : List Value),
  cs.length = o + R.size → (∀ f ∈ fs, ∃ x, DataW.trod enc P w base spare held n f.type ((cs.drop f.offset).take (P.cellsOf f.type)) = some x) → ∃ y, R.rd w T (cs.drop o) y
theorem opens_last {f : Field} {o : Nat} (hf : f.offset = o) (hc : P.cellsOf f.type = R.size) (h : Opens P f.type R) : OpensFs P [f] o R := fun enc w base spare held n cs hl hx => by
 obtain ⟨x, hx⟩ := hx f (by simp)
 rw [hf, hc, List.take_of_length_le (by rw [List.length_drop]; omega)] at hx
 exact h enc w base spare held n _ x hx
theorem opens_field {f : Field} {fs : List Field} {o : Nat} (hf : f.offset = o) (hc : P.cellsOf f.type = R.size) (h : Opens P f.type R) (h2 : OpensFs P fs (o + R.size) S) : OpensFs P (f :: fs) o (Rep.pair R S) := fun enc w base spare held n cs hl hx => by
 obtain ⟨x, hx1⟩ := hx f (by simp)
 rw [hf, hc] at hx1
 obtain ⟨y, hy⟩ := h enc w base spare held n _ x hx1
 obtain ⟨z, hz⟩ := h2 enc w base spare held n cs (by rw [hl]; simp [Rep.pair]; omega) (fun f hf => hx f (by simp [hf]))
 refine ⟨(y, z), (cs.drop o).take R.size, cs.drop (o + R.size), ?_, hy, hz⟩
 rw [← List.drop_drop]; exact (List.take_append_drop _ _).symm
theorem opens_struct {fs : Array Field} (ht : P.underlying t = some (.struct fs)) (hc : P.cellsOf t = R.size) (h : OpensFs P fs.toList 0 R) : Opens P t R := fun enc w base spare held fuel cs x hx => by
 obtain ⟨xs, n, _, _, hl, hlen, hf⟩ := DataW.trod_struct ht hx
 have := h enc w base spare held n cs (by rw [hl, hc]; omega) (fun f hf' => by
  obtain ⟨i, hi, rfl⟩ := List.mem_iff_getElem.1 hf'
  have hi' : i < fs.size := by simpa using hi
  have := hf i fs[i] (by simp [hi'])
  have hx : i < xs.length := by rw [hlen]; exact hi'
  rw [List.getElem?_eq_getElem hx] at this
  exact ⟨xs[i], by simpa using this⟩)
 simpa using this
theorem opens_map {f : β → α} {g : α → β} (hg : ∀ a, f (g a) = a) (h : Opens P t R) : Opens P t (Rep.map R f) := fun enc w base spare held fuel cs x hx => by
 obtain ⟨y, hy⟩ := h enc w base spare held fuel cs x hx
 exact ⟨g y, by show R.rd w T cs (f (g y)); rw [hg]; exact hy⟩
theorem arg_slice {H : Type} {enc : TypeId × Value → H} {w : World} {base b0 : Nat} {spare : Nat → Bool} {held : Bool} {r : Reach} {v : Value} {d : DataW H} {p : List MemPlace} (ht : P.underlying t = some (.slice e)) (ho : Opens P t R)
  (hv : Value.okWide P w r b0 t v) (h : DataW.Trod enc P w base spare held t v d p) : ∃ y, R.rd w T [v] y := by
 obtain ⟨a, len, cap, rfl⟩ := okWide_slice ht hv
 obtain ⟨fuel, hf⟩ := h
 exact ho enc w base spare held fuel _ _ hf
theorem arg_nat {H : Type} {enc : TypeId × Value → H} {w : World} {base b0 : Nat} {spare : Nat → Bool} {held : Bool} {r : Reach} {v : Value} {d : DataW H} {p : List MemPlace} {k : IntKind} {b : Nat} (ht : P.underlying t = some (.int k)) (hb : ∀ n : Int, (Lit.int k n).wf = true → 0 ≤ n ∧ n < (b : Int))
  (hv : Value.okWide P w r b0 t v) (h : DataW.Trod enc P w base spare held t v d p) : ∃ x : Nat, v = .int k (x : Int) ∧ x < b := by
 obtain ⟨n, rfl⟩ := okWide_int ht hv
 obtain ⟨fuel, hf⟩ := h
 obtain ⟨y, hy, hlt⟩ := opens_nat ht hb enc w base spare held fuel _ _ hf
 simp [Value.cells] at hy
 exact ⟨y, by rw [hy], hlt⟩
end
end Go.Kx

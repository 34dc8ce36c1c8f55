/- Strings among the arguments that are read. No program here. -/
import Derived.Test.YtogickapcbibbaaB8
import Derived.ChangeArms
namespace Go.Kx
open Go.RowKit Go.WideShapes
def Rep.str : Rep ByteArray where
  size := 1
  rd _ _ cs x := cs = [.string x] ∧ x.size ≤ 9223372036854775807
  len h := by rw [h.1]; rfl
  one h := by rw [h.1]; intro v hv; simp at hv; subst hv; rfl
  keep _ h := h
  more _ h := h
theorem opens_str {P : Program} {t : TypeId} (ht : P.underlying t = some .string) : Opens P t Rep.str := fun _ _ _ _ _ _ _ _ h => by
  obtain ⟨s, rfl, _, hs⟩ := DataW.trod_string ht h
  exact ⟨s, rfl, hs⟩
theorem arg_str {P : Program} {t : TypeId} {H : Type} {enc : TypeId × Value → H} {w : World} {base b0 : Nat} {spare : Nat → Bool} {held : Bool} {r : Reach} {v : Value} {d : DataW H} {p : List MemPlace} (ht : P.underlying t = some .string)
    (hv : Value.okWide P w r b0 t v) (h : DataW.Trod enc P w base spare held t v d p) : ∃ x : ByteArray, v = .string x ∧ x.size ≤ 9223372036854775807 := by
  obtain ⟨s, rfl⟩ := okWide_string ht hv
  obtain ⟨fuel, hf⟩ := h
  obtain ⟨y, hy, hw⟩ := opens_str ht enc w base spare held fuel _ _ hf
  simp [Value.cells] at hy
  exact ⟨y, by rw [hy], hw⟩
end Go.Kx
namespace Go.Ab
open Go.RowKit Go.Kx
theorem brg_str : Brg Rep.str (fun b => [.str b]) := ⟨fun _ => rfl, fun w cs y h => by have h : cs = _ := h.1; rw [h]; exact RVs.one' (.str _)⟩
def okS (s : ByteArray) : Prop := s.size ≤ 9223372036854775807
theorem okr_str {w : World} {D : Nat → Prop} {cs : List Value} {y : ByteArray} (h : Rep.str.rd w D cs y) : okS y := h.2
end Go.Ab

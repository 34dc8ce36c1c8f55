import Derived.Test.YtjflkcfafijhfaaGreatQ13
import Derived.Test.YtjflkcfafijhfaaGreatQ14
set_option linter.unusedSectionVars false
/- What the evaluator does not know of itself: a string's bytes. No program here. -/
namespace Go.Ab
open Go.RowKit
variable [Lay]
def strBytes (s : ByteArray) : List Int := s.data.toList.map fun b => (b.toNat : Int)
theorem strCells_eq (s : ByteArray) : strCells s = (strBytes s).map (ci .u8) := by
 unfold strCells strBytes; rw [List.map_map]; rfl
theorem strBytes_len (s : ByteArray) : (strBytes s).length = s.size := by rw [strBytes, List.length_map, Array.length_toList]; rfl
def othE (o : Option Ef) (dst : Option Tmp) (σ : St) (K : St → Prop) : Prop := match o with | some e => e.side ∧ K (σ.app dst e) | none => False
section
variable {P : Program} {σ : St} {i : Nat} {o : Oper} {K : St → Prop}
theorem oth_appstr {s x : Operand} {t1 t2 : TypeId} {str : ByteArray} (ho : o.op = .call { callee := .builtin .append, args := #[s, x], argTypes := #[t1, t2] }) (hxs : σ.ev x = .str str) (h2 : P.underlying t2 = some .string)
  (h : othE (evAppStr P σ i t1 t2 (σ.ev s) str) o.dst σ K) : OthR P σ i o K := by
 right
 cases he : evAppStr P σ i t1 t2 (σ.ev s) str with
 | none => rw [he] at h; exact h.elim
 | some e => rw [he] at h; exact ⟨e, ⟨(fun c hc => by rw [ho] at hc; cases hc), eff_appstr ho hxs h2 he h.1⟩, h.2⟩
theorem oth_strbytes {src dst el : TypeId} {x : Operand} {str : ByteArray} (ho : o.op = .convert src dst x) (hxs : σ.ev x = .str str) (h1 : P.underlying src = some .string) (h2 : P.underlying dst = some (.slice el)) (h3 : P.underlying el = some (.int .u8)) (hb : str.size ≤ 140737488355328)
  (hK : K (σ.put o.dst (.list 1 ((strBytes str).map (ci .u8))))) : OthR P σ i o K := by
 right
 refine ⟨{ val := .list 1 (strCells str) }, ⟨(fun c hc => by rw [ho] at hc; cases hc), eff_strbytes ho hxs h1 h2 h3 hb⟩, ?_⟩
 rw [St.app_nil rfl]
 show K (σ.put o.dst (.list 1 (strCells str)))
 rw [strCells_eq]
 exact hK
end
theorem tk_garb {α β : Type} (f : α → β) (A : List α) {E R T : List β} {k : Nat} (hk : A.length = k) (h : E = A.map f) : ((E ++ R ++ T).drop 0).take k = A.map f := by
 rw [List.drop_zero, List.append_assoc, List.take_append_of_le_length (by rw [h, List.length_map, hk]; exact Nat.le_refl _), List.take_of_length_le (by rw [h, List.length_map, hk]; exact Nat.le_refl _), h]
theorem tk_dr {α : Type} (l : List α) (j : Nat) : (l.drop j).take (l.length - j) = l.drop j := List.take_of_length_le (by simp)
theorem rc_pc {P : Program} {F : FuncId} {ds : List Dat} {r r' : Dat} {hb' : List (Option Blk)} (rc : RC P F ds [] 0 r hb') (hp : PurR (hh hb') false r r') : PC P F ds r' where
 enter := rc.enter
 run := fun w D vs hD hG hv => by
  have e1 : XC w [] 0 NP D = (cx w (fun _ => False) D NP) := by
   unfold XC
   congr 1
   funext g; apply propext; exact ⟨fun ⟨i, B, h, _⟩ => by simp at h, fun h => h.elim⟩
  have e2 : hl [] = fun _ => none := by funext i; rfl
  have h0 : HS (XC w [] 0 NP D) S0 (hl []) ([] : List Blk).length w NP D := by rw [e1, e2]; exact HS.start hD hG
  refine (rc.run w NP D vs h0 hv).mono ?_
  rintro e w' ⟨v, φ', D', n', he, hrv, hH⟩
  rw [e1] at hH
  refine ⟨v, he, hp.rv hH (fun b hb => ?_) (fun i B g hi _ hφ => ?_) hrv, hH.fr.below⟩
  ·rcases hH.Dsub b hb with h | h | h
   ·exact .inl h
   ·exact h.elim
   ·exact .inr h
  ·rcases hH.live i B hi with ⟨q, _⟩ | ⟨g', q, q2, q3, q4⟩
   ·rw [hφ] at q; cases q
   ·rw [hφ] at q; injection q with q; injection q with q; subst q
    cases hfz : B.fz with
    | true =>
     rcases hH.Dsub g (q3 hfz) with h | h | h
     ·exact .inl h
     ·exact h.elim
     ·exact .inr h
    | false =>
     rcases (q4 hfz).2 with h | h
     ·exact h.elim
     ·exact .inr h
end Go.Ab

import Derived.Test.YtjflkcfafijhfaaGreatQ07
import Derived.Orders
set_option linter.unusedSectionVars false
/- DERIVED. All operations together; code; a call's body. No program here. -/
namespace Go.Ab
open Go.RowKit
variable [Lay]
theorem St.app_nil {σ : St} {dst : Option Tmp} {e : Ef} (h : e.wr = []) : σ.app dst e = σ.put dst e.val := by
 unfold St.app
 rw [h]
 simp only [wrs]
 have := St.put_h σ dst e.val
 cases hq : σ.put dst e.val
 rw [hq] at this
 simp at this
 simp [this]
section
variable {P : Program} {X : Cx} {S S' : Nat → Prop} {σ : St} {i : Nat}
theorem goes_of {o : Oper} {e : Ef} (h : Goes P X S S' o σ (σ.put o.dst e.val) ∧ e.wr = []) : Goes P X S S' o σ (σ.app o.dst e) := by
 rw [St.app_nil h.2]; exact h.1
theorem goes_ofv {o : Oper} {d : Dat} (h : Goes P X S S' o σ (σ.put o.dst d)) : Goes P X S S' o σ (σ.app o.dst { val := d }) := by
 rw [St.app_nil rfl]; exact h
theorem goes_len {o : Oper} {t : TypeId} {x : Operand} (ho : o.op = .call { callee := .builtin .len, args := #[x], argTypes := #[t] }) {e : Ef} (he : evBuiltin P σ i .len #[t] [σ.ev x] = some e) (hS : ∀ j, S j → S' j) :
  Goes P X S S' o σ (σ.put o.dst e.val) ∧ e.wr = [] := by
 simp only [evBuiltin] at he
 have run : ∀ (a : Act) (w : World) (v r : Value), a.eval x = v → (Builtin.len_ #[t] o.type #[v]).run P w = .ok r w → (execOp a.eval o).run P w = .ok (.value r) w := fun a w v r hv hr => by
  unfold execOp
  simp only [ho, resolve, invoke, builtin, Sem.run_bind, Sem.run_pure, Result.andThen_ok, List.map_toArray, List.map_cons, List.map_nil, hv, hr]
 split at he
 ·rename_i n el ht
  obtain ⟨it, u, z, h1, h2, h3, h4, h5, h6, h7, h8⟩ := ti_some ht
  obtain rfl := tk_array h7
  injection he with he
  subst he
  exact ⟨goes_val hS fun a w φ D hsim => ⟨.int .i64 n, run a w _ _ rfl (by simp [Builtin.len_, run_underlying h2 w, goInt]), .int _ _⟩, rfl⟩
 ·rename_i el ht hev
  obtain ⟨it, u, z, h1, h2, h3, h4, h5, h6, h7, h8⟩ := ti_some ht
  obtain rfl := tk_slice h7
  injection he with he
  subst he
  refine ⟨goes_val hS fun a w φ D hsim => ?_, rfl⟩
  have hv := hsim.ev x
  rw [hev] at hv
  exact ⟨.int .i64 0, run a w _ _ hv.nil_inv (by simp [Builtin.len_, run_underlying h2 w, goInt]), .int _ _⟩
 ·rename_i el st es ht hev
  obtain ⟨it, u, z, h1, h2, h3, h4, h5, h6, h7, h8⟩ := ti_some ht
  obtain rfl := tk_slice h7
  injection he with he
  subst he
  refine ⟨goes_val hS fun a w φ D hsim => ?_, rfl⟩
  have hv := hsim.ev x
  rw [hev] at hv
  obtain ⟨A, c, hA, _⟩ := hv.list_inv
  exact ⟨.int .i64 es.length, run a w _ _ hA (by simp [Builtin.len_, run_underlying h2 w, goInt]), .int _ _⟩
 ·rename_i el q off len st ht hev
  obtain ⟨it, u, z, h1, h2, h3, h4, h5, h6, h7, h8⟩ := ti_some ht
  obtain rfl := tk_slice h7
  injection he with he
  subst he
  refine ⟨goes_val hS fun a w φ D hsim => ?_, rfl⟩
  have hv := hsim.ev x
  rw [hev] at hv
  have : ∃ A c, a.eval x = .slice A len c := by
   generalize a.eval x = va at hv
   cases hv with
   | ref => exact ⟨_, _, rfl⟩
   | ref0 => exact ⟨_, _, rfl⟩
   | refv => exact ⟨_, _, rfl⟩
  obtain ⟨A, c, hA⟩ := this
  exact ⟨.int .i64 len, run a w _ _ hA (by simp [Builtin.len_, run_underlying h2 w, goInt]), .int _ _⟩
 ·rename_i s ht hev
  obtain ⟨it, u, z, h1, h2, h3, h4, h5, h6, h7, h8⟩ := ti_some ht
  obtain rfl := tk_str h7
  injection he with he
  subst he
  refine ⟨goes_val hS fun a w φ D hsim => ?_, rfl⟩
  have hv := hsim.ev x
  rw [hev] at hv
  exact ⟨.int .i64 s.size, run a w _ _ hv.str_inv (by simp [Builtin.len_, run_underlying h2 w, goInt]), .int _ _⟩
 ·cases he
theorem arr_of_toList {α : Type} {a : Array α} {l : List α} (h : a.toList = l) : a = l.toArray := by rw [← h]
theorem evOp_sound {o : Oper} {e : Ef} (he : evOp P σ i o.op = some e) (hs : e.side) (hn : ¬ S i) (hS : ∀ j, S j → S' j) (hS' : S' i) : Goes P X S S' o σ (σ.app o.dst e) := by
 have he0 := he
 unfold evOp at he
 split at he
 ·rename_i x ho
  injection he with he
  subst he
  exact goes_ofv (goes_val hS fun a w φ D hsim => ⟨a.eval x, by simp [execOp, ho], hsim.ev x⟩)
 ·rename_i x ho
  injection he with he
  subst he
  exact goes_ofv (goes_val hS fun a w φ D hsim => ⟨a.eval x, by simp [execOp, ho], hsim.ev x⟩)
 ·rename_i c x y ho
  split at he
  ·rename_i p hc
   injection he with he
   subst he
   exact goes_ofv (goes_pick ho hc hS)
  ·cases he
 ·rename_i t ho
  split at he
  ·rename_i x ht
   injection he with he
   subst he
   exact goes_alloc ho ht hs.1 hs.2 hn hS hS'
  ·cases he
 ·rename_i t v ho
  split at he
  ·rename_i x ht
   injection he with he
   subst he
   exact goes_box ho hs.1 hs.2 hn hS hS'
  ·cases he
 ·rename_i t parts ho
  exact goes_of (goes_build ho he0 hs hS)
 ·rename_i t len parts ho
  exact goes_buildSlice ho he0 hs hn hS hS'
 ·rename_i t a ho
  split at he
  ·rename_i x ht
   exact goes_of (goes_load ho ht he hs hS)
  ·cases he
 ·rename_i t a v ho
  split at he
  ·rename_i x ht
   exact goes_store ho ht he hs hS
  ·cases he
 ·rename_i x ho
  split at he
  ·rename_i j k m st hx
   injection he with he
   subst he
   have := goes_nilCheck (P := P) (X := X) (o := o) (σ := σ) ho (.inl ⟨j, k, m, st, hx⟩) hS
   rw [hx] at this
   exact goes_ofv this
  ·rename_i cs m st hx
   injection he with he
   subst he
   have := goes_nilCheck (P := P) (X := X) (o := o) (σ := σ) ho (.inr ⟨cs, m, st, hx⟩) hS
   rw [hx] at this
   exact goes_ofv this
  ·cases he
 ·rename_i op t x y t' ho
  exact goes_of (goes_bin ho he hs hS)
 ·rename_i op t x ho
  exact goes_of (goes_un ho he hS)
 ·rename_i src dst x ho
  split at he
  ·rename_i xs hxs
   split at he
   ·rename_i sz by' ag ze hd
    by_cases hstr : ∃ s, σ.ev x = .str s
    ·obtain ⟨s, hstr⟩ := hstr
     rw [hstr] at he
     simp only [evToStr] at he
     exact goes_of (goes_convert ho (by rw [hxs]; rfl) (by rw [hd, hstr]; exact he) hS)
    ·exact goes_of (goes_bytes ho hxs hd rfl he (fun s hs' => hstr ⟨s, hs'⟩) hs hS)
   ·rename_i sz by' ag ze k hd
    split at he
    ·rename_i k' n hev
     exact goes_of (goes_convert ho (by rw [hxs]; rfl) (by rw [hd, hev]; exact he) hS)
    ·cases he
   ·cases he
  ·cases he
 ·rename_i f first cap ho
  injection he with he
  subst he
  exact goes_ofv (goes_makeFunc ho hS)
 ·rename_i t l c ho
  exact goes_makeSlice ho he0 hs hn hS hS'
 ·rename_i t x lo hi ho
  split at he
  ·rename_i y ht
   split at he
   ·rename_i e' he'
    injection he with he
    subst he
    obtain ⟨hs1, hs2⟩ := hs
    unfold sliceOk at hs2
    have h := goes_slice (P := P) (X := X) (S := S) (S' := S') ho ht he' (fun el z hd hz => by
     rw [hd] at hs2
     simp only [hz] at hs2
     exact hs2) (fun el hd => by
     rw [hd] at hs2
     simp only at hs2
     split at hs2
     ·rename_i z hz; rw [hz]; rfl
     ·exact hs2.elim) hs1 hS
    exact goes_of h
   ·cases he
  ·cases he
 ·rename_i t x f ho
  exact goes_of (goes_fieldAddr ho he hs hS)
 ·rename_i t x f ho
  exact goes_of (goes_field ho he hs hS)
 ·rename_i t x ix ho
  exact goes_of (goes_indexAddr ho he hs hS)
 ·rename_i t x ix ho
  exact goes_of (goes_index ho he hs hS)
 ·rename_i x k ho
  split at he
  ·rename_i ds hx
   injection he with he
   subst he
   exact goes_ofv (goes_extract ho hx hs hS)
  ·cases he
 ·rename_i b args ats ho
  have he1 := he
  unfold evBuiltin at he
  split at he
  ·rename_i t x hat har
   have hat' := arr_of_toList hat
   obtain ⟨y, hy⟩ : ∃ y, args.toList = [y] := by
    have hl := congrArg List.length har
    rw [List.length_map] at hl
    match h : args.toList, hl with
    | [y], _ => exact ⟨y, rfl⟩
   have hargs := arr_of_toList hy
   subst hat' hargs
   exact goes_of (goes_len ho he1 hS)
  ·rename_i t1 t2 s x hat har
   have hat' := arr_of_toList hat
   obtain ⟨y, z, hy⟩ : ∃ y z, args.toList = [y, z] := by
    have hl := congrArg List.length har
    rw [List.length_map] at hl
    match h : args.toList, hl with
    | [y, z], _ => exact ⟨y, z, rfl⟩
   have hargs := arr_of_toList hy
   subst hat' hargs
   simp at har
   obtain ⟨rfl, rfl⟩ := har
   exact goes_append ho he hs hn hS hS'
  ·rename_i t x hat har
   have hat' := arr_of_toList hat
   obtain ⟨y, hy⟩ : ∃ y, args.toList = [y] := by
    have hl := congrArg List.length har
    rw [List.length_map] at hl
    match h : args.toList, hl with
    | [y], _ => exact ⟨y, rfl⟩
   have hargs := arr_of_toList hy
   subst hat' hargs
   simp at har
   subst har
   exact goes_clear ho he hs hS
  ·cases hm : minMax false (args.toList.map σ.ev) with
   | none => rw [hm] at he; cases he
   | some v =>
    rw [hm] at he
    injection he with he
    subst he
    exact goes_ofv (goes_minMax (isMax := false) ho hm hS)
  ·cases hm : minMax true (args.toList.map σ.ev) with
   | none => rw [hm] at he; cases he
   | some v =>
    rw [hm] at he
    injection he with he
    subst he
    exact goes_ofv (goes_minMax (isMax := true) ho hm hS)
  ·cases he
 ·cases he
end
end Go.Ab

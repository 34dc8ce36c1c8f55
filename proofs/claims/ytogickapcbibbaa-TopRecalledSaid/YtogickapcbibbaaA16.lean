/- DERIVED. A guard that is not known: two ways, and simp goes into neither. No program here. -/
import Derived.Test.YtogickapcbibbaaA15
namespace Go.Ab
/-- an operation under a guard that is not known: nothing here that simp goes into -/
def GRD (b : Bool) (P : Program) (ops l : List Oper) (i : Nat) (σ : St) (o : Oper) (Q : St → Prop) : Prop :=
  if b = true then stepR P σ i o (fun σ' => AR P ops l (i + 1) σ' Q) else AR P ops l (i + 1) (σ.put o.dst (.oth undef)) Q
def GRQ (b : Bool) (P : Program) (ops l : List Oper) (i : Nat) (σ : St) (o : Oper) (Q : St → Prop) : Prop :=
  if b = true then stepQ P σ i o (fun v => DQ P ops l (i + 1) (σ.put o.dst v) Q) else DQ P ops l (i + 1) (σ.put o.dst (.oth undef)) Q
section
variable {P : Program} {ops l : List Oper} {i : Nat} {σ : St} {o : Oper} {Q : St → Prop} {b : Bool}
theorem GRD_t : GRD true P ops l i σ o Q = stepR P σ i o (fun σ' => AR P ops l (i + 1) σ' Q) := by simp [GRD]
theorem GRD_f : GRD false P ops l i σ o Q = AR P ops l (i + 1) (σ.put o.dst (.oth undef)) Q := by simp [GRD]
theorem GRQ_t : GRQ true P ops l i σ o Q = stepQ P σ i o (fun v => DQ P ops l (i + 1) (σ.put o.dst v) Q) := by simp [GRQ]
theorem GRQ_f : GRQ false P ops l i σ o Q = DQ P ops l (i + 1) (σ.put o.dst (.oth undef)) Q := by simp [GRQ]
theorem GRD_by (h1 : b = true → stepR P σ i o (fun σ' => AR P ops l (i + 1) σ' Q)) (h2 : b = false → AR P ops l (i + 1) (σ.put o.dst (.oth undef)) Q) : GRD b P ops l i σ o Q := by
  cases b
  · rw [GRD_f]; exact h2 rfl
  · rw [GRD_t]; exact h1 rfl
theorem GRQ_by (h1 : b = true → stepQ P σ i o (fun v => DQ P ops l (i + 1) (σ.put o.dst v) Q)) (h2 : b = false → DQ P ops l (i + 1) (σ.put o.dst (.oth undef)) Q) : GRQ b P ops l i σ o Q := by
  cases b
  · rw [GRQ_f]; exact h2 rfl
  · rw [GRQ_t]; exact h1 rfl
end
def gdT (d : Dat) : Option (Option Bool) := match d with
  | .bool b => some (some b)
  | .oth (.tuple _) => some none
  | _ => none
theorem gdT_b (b : Bool) : gdT (.bool b) = some (some b) := rfl
theorem gdT_u : gdT (.oth undef) = some none := rfl
/-- 'gd', its list as an array: simp looks into an array in one step -/
def gdA (ops : List Oper) (t : Nat → Dat) (j : Nat) : Option (Option Bool) :=
  match (List.toArray ops)[j]? with
  | some ⟨some d, _, _, _, _, _⟩ => gdT (t d)
  | _ => none
section
variable {P : Program} {ops l : List Oper} {dst : Option Tmp} {op : Op} {ty : TypeId} {pos : String} {af : Array Edge} {i j : Nat} {want : Bool} {t : Nat → Dat} {h : Nat → Option Blk} {n nt : Nat} {Q : St → Prop}
theorem gd_A (ops : List Oper) (σ : St) (j : Nat) : gd ops σ j = gdA ops σ.t j := by
  unfold gd gdA
  rw [List.getElem?_toArray]
  rfl
theorem gdA_eq (t : Nat → Dat) : gdA ops t j = match (List.toArray ops)[j]? with
  | some ⟨some d, _, _, _, _, _⟩ => gdT (t d)
  | _ => none := rfl
theorem AR_u : AR P ops (⟨dst, op, ty, pos, af, none⟩ :: l) i ⟨t, h, n, nt⟩ Q = stepR P ⟨t, h, n, nt⟩ i ⟨dst, op, ty, pos, af, none⟩ fun σ' => AR P ops l (i + 1) σ' Q := Eq.trans rfl rfl
theorem AR_g : AR P ops (⟨dst, op, ty, pos, af, some (j, want)⟩ :: l) i ⟨t, h, n, nt⟩ Q = match gdA ops t j with
      | some (some b) => GRD (b == want) P ops l i ⟨t, h, n, nt⟩ ⟨dst, op, ty, pos, af, some (j, want)⟩ Q
      | some none => AR P ops l (i + 1) ((⟨t, h, n, nt⟩ : St).put dst (.oth undef)) Q
      | none => False := by
  rw [← gd_A ops ⟨t, h, n, nt⟩ j]
  show (match gd ops ⟨t, h, n, nt⟩ j with | some (some b) => (if b = want then _ else _) | some none => _ | none => _) = _
  cases gd ops ⟨t, h, n, nt⟩ j with
  | none => rfl
  | some x => cases x with
    | none => rfl
    | some b => cases b <;> cases want <;> simp [GRD, GRQ]
theorem DQ_u : DQ P ops (⟨dst, op, ty, pos, af, none⟩ :: l) i ⟨t, h, n, nt⟩ Q = stepQ P ⟨t, h, n, nt⟩ i ⟨dst, op, ty, pos, af, none⟩ fun v => DQ P ops l (i + 1) ((⟨t, h, n, nt⟩ : St).put dst v) Q := Eq.trans rfl rfl
theorem DQ_g : DQ P ops (⟨dst, op, ty, pos, af, some (j, want)⟩ :: l) i ⟨t, h, n, nt⟩ Q = match gdA ops t j with
      | some (some b) => GRQ (b == want) P ops l i ⟨t, h, n, nt⟩ ⟨dst, op, ty, pos, af, some (j, want)⟩ Q
      | some none => DQ P ops l (i + 1) ((⟨t, h, n, nt⟩ : St).put dst (.oth undef)) Q
      | none => False := by
  rw [← gd_A ops ⟨t, h, n, nt⟩ j]
  show (match gd ops ⟨t, h, n, nt⟩ j with | some (some b) => (if b = want then _ else _) | some none => _ | none => _) = _
  cases gd ops ⟨t, h, n, nt⟩ j with
  | none => rfl
  | some x => cases x with
    | none => rfl
    | some b => cases b <;> cases want <;> simp [GRD, GRQ]
end
end Go.Ab

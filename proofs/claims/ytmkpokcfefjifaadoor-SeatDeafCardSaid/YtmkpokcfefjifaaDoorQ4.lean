import Derived.Test.YtmkpokcfefjifaaDoorQ3
set_option linter.unusedSectionVars false
/- What a seat hears: each kind of message, in plain words. -/
set_option linter.unusedSimpArgs false
set_option linter.unusedVariables false
namespace Go.Proofs.YtmkpokcfefjifaaDoor
open Go.Ab Go.RowKit
/-! what is carried -/
def parse : List Int → List Int → List Entry
  | t :: n :: r, d => ⟨t, d.take n.toNat⟩ :: parse r (d.drop n.toNat)
  | _, _ => []
/-- a message that is gone through -/
structure MOk (x : Msg) : Prop where
  n : x.nums.length ≤ 60
  d : x.data.length ≤ 2400
  ok : Msg.ok x
/-- a message that is for a seat -/
structure IsFor (s : Seat) (x : Msg) : Prop where
  to : x.to_ = s.id
  ne : x.from_ ≠ s.id
  pe : x.from_ ∈ s.peers
  kd : x.kind = 1 ∨ x.kind = 2 ∨ x.kind = 3 ∨ x.kind = 4
  top : x.nums.getD 0 0 ≤ 1099511627776
  nn : ∀ n ∈ x.nums, 0 ≤ n
  n2 : 2 ≤ x.nums.length
  len : x.kind ≠ 3 → x.nums.length = (if x.kind = 2 then 2 else 3)
  n1 : x.kind = 2 ∨ x.kind = 4 → x.nums.getD 1 0 ≤ 1
  l4 : x.kind = 3 → 4 ≤ x.nums.length ∧ x.nums.length ≤ 20
  ow : x.kind = 3 → okW (x.nums.getD 0 0) (x.nums.drop 4) (if 1 > x.nums.getD 2 0 then 1 else x.nums.getD 2 0) x.data = true
/-! each kind -/
def car (x : Msg) : List Entry := parse (x.nums.drop 4) x.data
def putP (s : Seat) (x : Msg) : List Entry × Bool := putR s.log (x.nums.getD 1 0) (x.nums.getD 2 0) (car x)
def putBad (s : Seat) (x : Msg) : Prop := (putP s x).2 = false ∨ ((putP s x).1.length : Int) < s.commit ∨ (putP s x).1.take s.commit.toNat ≠ s.log.take s.commit.toNat
instance (s : Seat) (x : Msg) : Decidable (putBad s x) := by unfold putBad; infer_instance
end Go.Proofs.YtmkpokcfefjifaaDoor

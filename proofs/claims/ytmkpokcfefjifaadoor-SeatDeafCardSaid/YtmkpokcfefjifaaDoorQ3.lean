import Derived.Test.YtmkpokcfefjifaaDoorQ2
import Derived.Test.YtmkpokcfefjifaaDoorP6
set_option linter.unusedSectionVars false
/- What a right seat is. -/
set_option linter.unusedSimpArgs false
set_option linter.unusedVariables false
namespace Go.Proofs.YtmkpokcfefjifaaDoor
open Go.Ab Go.RowKit
structure Role (s : Seat) : Prop where
  r1 : s.role = 1 ∨ s.role = 2 ∨ s.role = 3
  nl : s.role ≠ 3 → s.next = [] ∧ s.match_ = []
  nv : s.role ≠ 2 → s.votes = []
  st : s.role = 2 → s.voted = s.id ∧ s.id ∈ s.votes
  ln : s.role = 3 → s.next.length = s.peers.length ∧ s.match_.length = s.peers.length
  lv : s.role = 3 → s.voted = s.id
  lm : s.role = 3 → ∀ i < s.peers.length, 0 ≤ s.match_.getD i 0 ∧ s.match_.getD i 0 ≤ s.log.length ∧ s.match_.getD i 0 < s.next.getD i 0 ∧ s.next.getD i 0 ≤ s.log.length + 1 ∧ (s.peers.getD i 0 = s.id → s.match_.getD i 0 = s.log.length)
structure Ok (s : Seat) : Prop where
  p7 : s.peers.length ≤ 7
  ps : s.peers.Nodup
  me : s.id ∈ s.peers
  i0 : 0 ≤ s.id
  t0 : 0 ≤ s.term
  tm : s.term ≤ 1099511627776
  lg : Good s.log
  ll : s.log.length ≤ 500
  c0 : 0 ≤ s.commit
  c1 : s.commit ≤ s.log.length
  vs : s.votes.Nodup
  vp : ∀ v ∈ s.votes, v ∈ s.peers
  rl : Role s
end Go.Proofs.YtmkpokcfefjifaaDoor

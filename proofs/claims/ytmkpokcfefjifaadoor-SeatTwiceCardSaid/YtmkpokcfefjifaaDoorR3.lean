import Derived.Test.YtmkpokcfefjifaaDoorQ6
import Derived.Test.YtmkpokcfefjifaaDoorQ7
import Derived.Test.YtmkpokcfefjifaaDoorG3
import Derived.Test.YtmkpokcfefjifaaDoorP0
set_option linter.unusedSectionVars false
/- SeatTwice as a plain law. -/
set_option linter.unusedSimpArgs false
set_option linter.unusedVariables false
namespace Go.Proofs.YtmkpokcfefjifaaDoor
open Go.Ab Go.Kx
theorem SeatTwice_true (y0 : Seat) (o0 : Seat.ok y0) (y1 : Msg) (o1 : Msg.ok y1) : law15_SeatTwice_f y0 y1 = some true := by
  unfold law15_SeatTwice_f
  rw [head_true, Option.bind_some]
  obtain ⟨g, eg, F⟩ := great_tot y0
  rw [eg, Option.bind_some]
  have no : law15_SeatTwice_J1 true y0 y1 true = some true := rfl
  cases g
  case true => exact no
  have F := F rfl
  rw [cond_false, fits_m o1, Option.bind_some]
  cases hf : (decide ((y1.nums.length : Int) ≤ 60) && decide ((y1.data.length : Int) ≤ 2400))
  case false => exact no
  rw [Bool.not_true, cond_false]
  obtain ⟨r, er⟩ := right_tot F
  rw [er, Option.bind_some]
  cases r
  case false => exact no
  have h := (open_ok o0 eg er).1
  have hx := mok_of o1 hf
  unfold law15_SeatTwice_J1
  rw [Bool.not_true, cond_false, hear_eq h hx, Option.bind_some]
  have h2 := hear_ok h hx
  show ((seat_Hear_f (hearM y0 y1).1 y1).bind _) = _
  rw [hear_eq h2 hx, Option.bind_some, cond_true]
  show (ref14_Same_f (hearM y0 y1).1 (hearM (hearM y0 y1).1 y1).1).bind _ = _
  rw [hear_twice h hx, same_ok h2]; rfl
end Go.Proofs.YtmkpokcfefjifaaDoor

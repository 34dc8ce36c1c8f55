import Derived.Test.YtmkpokcfefjifaaDoorQ7
import Derived.Test.YtmkpokcfefjifaaDoorP0
import Derived.Test.YtmkpokcfefjifaaDoorG5
import Derived.Test.YtmkpokcfefjifaaDoorW
set_option linter.unusedSectionVars false
/- SeatDeaf as a plain law. -/
set_option linter.unusedSimpArgs false
set_option linter.unusedVariables false
namespace Go.Proofs.YtmkpokcfefjifaaDoor
open Go.Ab Go.Kx
theorem same_refl {s : Seat} (F : Few s) (hd : ∀ e ∈ s.log, e.data.length ≤ 40) : ref14_Same_f s s = some true := by
  have := F.p; have := F.v; have := F.n; have := F.m; have := F.l
  unfold ref14_Same_f
  rw [ints_refl (by omega), Option.bind_some, log_refl (by omega) (fun e he => by have := hd e he; omega), Option.bind_some, ints_refl (by omega), Option.bind_some, ints_refl (by omega), Option.bind_some, ints_refl (by omega), Option.bind_some]
  simp
theorem SeatDeaf_true (y0 : Seat) (o0 : Seat.ok y0) (y1 : Msg) (o1 : Msg.ok y1) : law15_SeatDeaf_f y0 y1 = some true := by
  unfold law15_SeatDeaf_f
  rw [head_true, Option.bind_some]
  obtain ⟨g, eg, F⟩ := great_tot y0
  rw [eg, Option.bind_some]
  have no : law15_SeatDeaf_J1 true y0 y1 true = some true := rfl
  cases g
  case true => exact no
  have F := F rfl
  have D := great_d eg
  rw [cond_false]
  unfold law15_Fits_f
  rw [Option.bind_some]
  by_cases hf : (y1.nums.length : Int) ≤ 60 ∧ (y1.data.length : Int) ≤ 2400
  case neg =>
    have : (decide ((y1.nums.length : Int) ≤ 60) && decide ((y1.data.length : Int) ≤ 2400)) = false := by
      rw [← Bool.decide_and]; exact decide_eq_false hf
    rw [this]; exact no
  rw [decide_eq_true hf.1, decide_eq_true hf.2, Bool.and_true, Bool.not_true, cond_false]
  obtain ⟨r, er⟩ := right_tot F
  rw [er, Option.bind_some]
  cases r
  case false => exact no
  rw [Bool.not_true, cond_false, For_eq F.p (by omega) (by omega), Option.bind_some]
  cases hb : forB y0 y1
  case true => exact no
  unfold law15_SeatDeaf_J1
  have kk : -9223372036854775808 ≤ y1.kind ∧ y1.kind ≤ 9223372036854775807 := by
    have := o1.2.2.1
    simp only [okI] at this
    omega
  unfold seat_Hear_f
  rw [cond_false, isFor_eq F.p (by omega) (by omega) kk, Option.bind_some, hb, Bool.not_false, cond_true, Option.bind_some]
  show cond true (cond (((([] : List Msg).length : Nat) : Int) == 0) ((ref14_Same_f y0 y0).bind fun r3 => some r3) (some false)) (some false) = some true
  rw [same_refl F D]; rfl
end Go.Proofs.YtmkpokcfefjifaaDoor

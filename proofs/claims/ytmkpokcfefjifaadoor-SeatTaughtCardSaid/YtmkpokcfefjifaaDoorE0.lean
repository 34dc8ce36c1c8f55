import Derived.Test.YtmkpokcfefjifaaDoorF11
set_option linter.unusedSectionVars false
/- Copies with the fuel as a parameter, for the kernel; printed by a program of mine. -/
set_option linter.unusedSimpArgs false
set_option linter.unusedVariables false
namespace Go.Proofs.YtmkpokcfefjifaaDoor
open Go.Ab

def nilqc {α β : Type} [DecidableEq β] (l : List α) (e1 e2 : Option β) : Option β := match l with | [] => if e1 = e2 then e1 else none | _ :: _ => e2
theorem nilq_c {α β : Type} [DecidableEq β] (l : List α) (e1 e2 : Option β) : nilq l e1 e2 = nilqc l e1 e2 := by
  unfold nilq nilqc
  cases l with
  | nil => simp only [if_true]; by_cases h : e1 = e2 <;> simp [h]
  | cons a l => simp

def g_ref14_Ints_J1 (B_ : Nat) : Option Bool :=
  some (true)

set_option maxRecDepth 20000 in
theorem e_ref14_Ints_J1 : ref14_Ints_J1 = g_ref14_Ints_J1 BIG := by
  delta ref14_Ints_J1 g_ref14_Ints_J1
  first | rfl | (simp only []; done) | (funext _; simp only [])

def g_ref14_Ints_L1 (B_ : Nat) (a1 : List Int) (b1 : List Int) : Nat → Int → Option Bool
  | 0, _ => none
  | m_ + 1, i1 => cond (decide (i1 < (a1.length : Int))) ((idx a1 i1).bind fun x1 => (idx b1 i1).bind fun x2 => cond (x1 != x2) (some (false)) ((g_ref14_Ints_L1 B_) a1 b1 m_ (IntKind.wrap .i64 (i1 + 1)))) ((g_ref14_Ints_J1 B_))

theorem e_ref14_Ints_L1 (a1 : List Int) (b1 : List Int) (n_ : Nat) : ref14_Ints_L1 a1 b1 n_ = g_ref14_Ints_L1 BIG a1 b1 n_ := by
  induction n_ with
  | zero => rfl
  | succ m ih =>
    funext x0_
    simp only [ref14_Ints_L1, g_ref14_Ints_L1, ih, e_ref14_Ints_J1]

def g_ref14_Ints_f (B_ : Nat) (a1 : List Int) (b1 : List Int) : Option Bool :=
  cond ((a1.length : Int) != (b1.length : Int)) (some (false)) ((g_ref14_Ints_L1 B_) a1 b1 B_ 0)

set_option maxRecDepth 20000 in
theorem e_ref14_Ints_f : ref14_Ints_f = g_ref14_Ints_f BIG := by
  delta ref14_Ints_f g_ref14_Ints_f
  first | rfl | (simp only [e_ref14_Ints_L1]; done) | (funext _ _; simp only [e_ref14_Ints_L1])

def g_ref13_Alike_J2 (B_ : Nat) : Option Bool :=
  some (true)

set_option maxRecDepth 20000 in
theorem e_ref13_Alike_J2 : ref13_Alike_J2 = g_ref13_Alike_J2 BIG := by
  delta ref13_Alike_J2 g_ref13_Alike_J2
  first | rfl | (simp only []; done) | (funext _; simp only [])

def g_ref13_Alike_L1 (B_ : Nat) (a1 : Entry) (b1 : Entry) : Nat → Int → Option Bool
  | 0, _ => none
  | m_ + 1, i1 => cond (decide (i1 < (a1.data.length : Int))) ((idx a1.data i1).bind fun x1 => (idx b1.data i1).bind fun x2 => cond (x1 != x2) (some (false)) ((g_ref13_Alike_L1 B_) a1 b1 m_ (IntKind.wrap .i64 (i1 + 1)))) ((g_ref13_Alike_J2 B_))

theorem e_ref13_Alike_L1 (a1 : Entry) (b1 : Entry) (n_ : Nat) : ref13_Alike_L1 a1 b1 n_ = g_ref13_Alike_L1 BIG a1 b1 n_ := by
  induction n_ with
  | zero => rfl
  | succ m ih =>
    funext x0_
    simp only [ref13_Alike_L1, g_ref13_Alike_L1, ih, e_ref13_Alike_J2]

def g_ref13_Alike_J1 (B_ : Nat) (a1 : Entry) (b1 : Entry) (v1 : Bool) : Option Bool :=
  cond v1 (some (false)) ((g_ref13_Alike_L1 B_) a1 b1 B_ 0)

set_option maxRecDepth 20000 in
theorem e_ref13_Alike_J1 : ref13_Alike_J1 = g_ref13_Alike_J1 BIG := by
  delta ref13_Alike_J1 g_ref13_Alike_J1
  first | rfl | (simp only [e_ref13_Alike_L1]; done) | (funext _ _ _; simp only [e_ref13_Alike_L1])

def g_ref13_Alike_f (B_ : Nat) (a1 : Entry) (b1 : Entry) : Option Bool :=
  (g_ref13_Alike_J1 B_) a1 b1 ((a1.term != b1.term) || ((a1.data.length : Int) != (b1.data.length : Int)))

set_option maxRecDepth 20000 in
theorem e_ref13_Alike_f : ref13_Alike_f = g_ref13_Alike_f BIG := by
  delta ref13_Alike_f g_ref13_Alike_f
  first | rfl | (simp only [e_ref13_Alike_J1]; done) | (funext _ _; simp only [e_ref13_Alike_J1])

def g_seat_Back_f (B_ : Nat) (s1 : Seat) : Option Seat :=
  some ((⟨s1.id, s1.peers, s1.term, s1.voted, 1, s1.log, 0, [], [], []⟩ : Seat))

set_option maxRecDepth 20000 in
theorem e_seat_Back_f : seat_Back_f = g_seat_Back_f BIG := by
  delta seat_Back_f g_seat_Back_f
  first | rfl | (simp only []; done) | (funext _; simp only [])

def g_ref15_SameMsgs_J1 (B_ : Nat) : Option Bool :=
  some (true)

set_option maxRecDepth 20000 in
theorem e_ref15_SameMsgs_J1 : ref15_SameMsgs_J1 = g_ref15_SameMsgs_J1 BIG := by
  delta ref15_SameMsgs_J1 g_ref15_SameMsgs_J1
  first | rfl | (simp only []; done) | (funext _; simp only [])

def g_ref15_SameMsgs_J2 (B_ : Nat) (k_ref15_SameMsgs_L1 : Int → Option Bool) (i1 : Int) (v1 : Bool) : Option Bool :=
  cond v1 (some (false)) (k_ref15_SameMsgs_L1 (IntKind.wrap .i64 (i1 + 1)))

set_option maxRecDepth 20000 in
theorem e_ref15_SameMsgs_J2 : ref15_SameMsgs_J2 = g_ref15_SameMsgs_J2 BIG := by
  delta ref15_SameMsgs_J2 g_ref15_SameMsgs_J2
  first | rfl | (simp only []; done) | (funext _ _ _; simp only [])

def g_ref15_SameMsgs_L1 (B_ : Nat) (a1 : List Msg) (b1 : List Msg) : Nat → Int → Option Bool
  | 0, _ => none
  | m_ + 1, i1 => cond (decide (i1 < (a1.length : Int))) ((idx a1 i1).bind fun x1 => (idx b1 i1).bind fun x2 => cond (x1.from_ != x2.from_) ((g_ref15_SameMsgs_J2 B_) ((g_ref15_SameMsgs_L1 B_) a1 b1 m_) i1 true) (cond (x1.to_ != x2.to_) ((g_ref15_SameMsgs_J2 B_) ((g_ref15_SameMsgs_L1 B_) a1 b1 m_) i1 true) (cond (x1.kind != x2.kind) ((g_ref15_SameMsgs_J2 B_) ((g_ref15_SameMsgs_L1 B_) a1 b1 m_) i1 true) (((g_ref14_Ints_f B_) x1.nums x2.nums).bind fun r1 => cond (!r1) ((g_ref15_SameMsgs_J2 B_) ((g_ref15_SameMsgs_L1 B_) a1 b1 m_) i1 true) (((g_ref13_Alike_f B_) (⟨0, x1.data⟩ : Entry) (⟨0, x2.data⟩ : Entry)).bind fun r2 => (g_ref15_SameMsgs_J2 B_) ((g_ref15_SameMsgs_L1 B_) a1 b1 m_) i1 (!r2)))))) ((g_ref15_SameMsgs_J1 B_))

theorem e_ref15_SameMsgs_L1 (a1 : List Msg) (b1 : List Msg) (n_ : Nat) : ref15_SameMsgs_L1 a1 b1 n_ = g_ref15_SameMsgs_L1 BIG a1 b1 n_ := by
  induction n_ with
  | zero => rfl
  | succ m ih =>
    funext x0_
    simp only [ref15_SameMsgs_L1, g_ref15_SameMsgs_L1, ih, e_ref15_SameMsgs_J2, e_ref14_Ints_f, e_ref13_Alike_f, e_ref15_SameMsgs_J1]

def g_ref15_SameMsgs_f (B_ : Nat) (a1 : List Msg) (b1 : List Msg) : Option Bool :=
  cond ((a1.length : Int) != (b1.length : Int)) (some (false)) ((g_ref15_SameMsgs_L1 B_) a1 b1 B_ 0)

set_option maxRecDepth 20000 in
theorem e_ref15_SameMsgs_f : ref15_SameMsgs_f = g_ref15_SameMsgs_f BIG := by
  delta ref15_SameMsgs_f g_ref15_SameMsgs_f
  first | rfl | (simp only [e_ref15_SameMsgs_L1]; done) | (funext _ _; simp only [e_ref15_SameMsgs_L1])

def g_slices_Index_J1 (B_ : Nat) : Option Int :=
  some ((-1))

set_option maxRecDepth 20000 in
theorem e_slices_Index_J1 : slices_Index_J1 = g_slices_Index_J1 BIG := by
  delta slices_Index_J1 g_slices_Index_J1
  first | rfl | (simp only []; done) | (funext _; simp only [])

def g_slices_Index_L1 (B_ : Nat) (s1 : List Int) (v1 : Int) : Nat → Int → Option Int
  | 0, _ => none
  | m_ + 1, v2 => cond (decide (v2 < (s1.length : Int))) ((idx s1 v2).bind fun x1 => cond (v1 == x1) (some (v2)) ((g_slices_Index_L1 B_) s1 v1 m_ (IntKind.wrap .i64 (v2 + 1)))) ((g_slices_Index_J1 B_))

theorem e_slices_Index_L1 (s1 : List Int) (v1 : Int) (n_ : Nat) : slices_Index_L1 s1 v1 n_ = g_slices_Index_L1 BIG s1 v1 n_ := by
  induction n_ with
  | zero => rfl
  | succ m ih =>
    funext x0_
    simp only [slices_Index_L1, g_slices_Index_L1, ih, e_slices_Index_J1]

def g_slices_Index_f (B_ : Nat) (s1 : List Int) (v1 : Int) : Option Int :=
  (g_slices_Index_L1 B_) s1 v1 B_ 0

set_option maxRecDepth 20000 in
theorem e_slices_Index_f : slices_Index_f = g_slices_Index_f BIG := by
  delta slices_Index_f g_slices_Index_f
  first | rfl | (simp only [e_slices_Index_L1]; done) | (funext _ _; simp only [e_slices_Index_L1])

def g_slices_Contains_f (B_ : Nat) (s1 : List Int) (v1 : Int) : Option Bool :=
  ((g_slices_Index_f B_) s1 v1).bind fun r1 => some ((decide (0 ≤ r1)))

set_option maxRecDepth 20000 in
theorem e_slices_Contains_f : slices_Contains_f = g_slices_Contains_f BIG := by
  delta slices_Contains_f g_slices_Contains_f
  first | rfl | (simp only [e_slices_Index_f]; done) | (funext _ _; simp only [e_slices_Index_f])

def g_seat_rises_J1 (B_ : Nat) : Option Bool :=
  some (true)

set_option maxRecDepth 20000 in
theorem e_seat_rises_J1 : seat_rises_J1 = g_seat_rises_J1 BIG := by
  delta seat_rises_J1 g_seat_rises_J1
  first | rfl | (simp only []; done) | (funext _; simp only [])

def g_seat_rises_L1 (B_ : Nat) (l1 : List Int) : Nat → Int → Option Bool
  | 0, _ => none
  | m_ + 1, i1 => cond (decide (i1 < (l1.length : Int))) ((idx l1 i1).bind fun x1 => (idx l1 (IntKind.wrap .i64 (i1 - 1))).bind fun x2 => cond (decide (x1 ≤ x2)) (some (false)) ((g_seat_rises_L1 B_) l1 m_ (IntKind.wrap .i64 (i1 + 1)))) ((g_seat_rises_J1 B_))

theorem e_seat_rises_L1 (l1 : List Int) (n_ : Nat) : seat_rises_L1 l1 n_ = g_seat_rises_L1 BIG l1 n_ := by
  induction n_ with
  | zero => rfl
  | succ m ih =>
    funext x0_
    simp only [seat_rises_L1, g_seat_rises_L1, ih, e_seat_rises_J1]

def g_seat_rises_f (B_ : Nat) (l1 : List Int) : Option Bool :=
  (g_seat_rises_L1 B_) l1 B_ 1

set_option maxRecDepth 20000 in
theorem e_seat_rises_f : seat_rises_f = g_seat_rises_f BIG := by
  delta seat_rises_f g_seat_rises_f
  first | rfl | (simp only [e_seat_rises_L1]; done) | (funext _; simp only [e_seat_rises_L1])

def g_seat_peers_f (B_ : Nat) (l1 : List Int) : Option Bool :=
  cond (decide (1 ≤ (l1.length : Int))) (cond (decide ((l1.length : Int) ≤ 7)) (((g_seat_rises_f B_) l1).bind fun r1 => cond r1 ((idx l1 0).bind fun x1 => cond (decide (0 ≤ x1)) ((idx l1 (IntKind.wrap .i64 ((l1.length : Int) - 1))).bind fun x2 => some ((decide (x2 ≤ 999)))) (some (false))) (some (false))) (some (false))) (some (false))

set_option maxRecDepth 20000 in
theorem e_seat_peers_f : seat_peers_f = g_seat_peers_f BIG := by
  delta seat_peers_f g_seat_peers_f
  first | rfl | (simp only [e_seat_rises_f]; done) | (funext _; simp only [e_seat_rises_f])

def g_seat_entries_J1 (B_ : Nat) (l1 : List Entry) : Option Bool :=
  some ((decide ((l1.length : Int) ≤ 500)))

set_option maxRecDepth 20000 in
theorem e_seat_entries_J1 : seat_entries_J1 = g_seat_entries_J1 BIG := by
  delta seat_entries_J1 g_seat_entries_J1
  first | rfl | (simp only []; done) | (funext _; simp only [])

def g_seat_entries_J2 (B_ : Nat) (k_seat_entries_L1 : Int → Int → Option Bool) (x1 : Entry) (v1 : Int) (v2 : Bool) : Option Bool :=
  cond v2 (some (false)) (k_seat_entries_L1 x1.term (IntKind.wrap .i64 (v1 + 1)))

set_option maxRecDepth 20000 in
theorem e_seat_entries_J2 : seat_entries_J2 = g_seat_entries_J2 BIG := by
  delta seat_entries_J2 g_seat_entries_J2
  first | rfl | (simp only []; done) | (funext _ _ _ _; simp only [])

def g_seat_entries_L1 (B_ : Nat) (l1 : List Entry) (term1 : Int) : Nat → Int → Int → Option Bool
  | 0, _, _ => none
  | m_ + 1, last1, v1 => cond (decide (v1 < (l1.length : Int))) ((idx l1 v1).bind fun x1 => (g_seat_entries_J2 B_) ((g_seat_entries_L1 B_) l1 term1 m_) x1 v1 ((decide (x1.term < last1)) || ((decide (term1 < x1.term)) || (decide (200 < (x1.data.length : Int)))))) ((g_seat_entries_J1 B_) l1)

theorem e_seat_entries_L1 (l1 : List Entry) (term1 : Int) (n_ : Nat) : seat_entries_L1 l1 term1 n_ = g_seat_entries_L1 BIG l1 term1 n_ := by
  induction n_ with
  | zero => rfl
  | succ m ih =>
    funext x0_ x1_
    simp only [seat_entries_L1, g_seat_entries_L1, ih, e_seat_entries_J2, e_seat_entries_J1]

def g_seat_entries_f (B_ : Nat) (l1 : List Entry) (term1 : Int) : Option Bool :=
  (g_seat_entries_L1 B_) l1 term1 B_ 1 0

set_option maxRecDepth 20000 in
theorem e_seat_entries_f : seat_entries_f = g_seat_entries_f BIG := by
  delta seat_entries_f g_seat_entries_f
  first | rfl | (simp only [e_seat_entries_L1]; done) | (funext _ _; simp only [e_seat_entries_L1])

def g_slices_IndexFunc_J1 (B_ : Nat) : Option Int :=
  some ((-1))

set_option maxRecDepth 20000 in
theorem e_slices_IndexFunc_J1 : slices_IndexFunc_J1 = g_slices_IndexFunc_J1 BIG := by
  delta slices_IndexFunc_J1 g_slices_IndexFunc_J1
  first | rfl | (simp only []; done) | (funext _; simp only [])

def g_slices_IndexFunc_L1 (B_ : Nat) (s1 : List Int) (f1 : Int → Option Bool) : Nat → Int → Option Int
  | 0, _ => none
  | m_ + 1, v1 => cond (decide (v1 < (s1.length : Int))) ((idx s1 v1).bind fun x1 => (f1 x1).bind fun r1 => cond r1 (some (v1)) ((g_slices_IndexFunc_L1 B_) s1 f1 m_ (IntKind.wrap .i64 (v1 + 1)))) ((g_slices_IndexFunc_J1 B_))

theorem e_slices_IndexFunc_L1 (s1 : List Int) (f1 : Int → Option Bool) (n_ : Nat) : slices_IndexFunc_L1 s1 f1 n_ = g_slices_IndexFunc_L1 BIG s1 f1 n_ := by
  induction n_ with
  | zero => rfl
  | succ m ih =>
    funext x0_
    simp only [slices_IndexFunc_L1, g_slices_IndexFunc_L1, ih, e_slices_IndexFunc_J1]

def g_slices_IndexFunc_f (B_ : Nat) (s1 : List Int) (f1 : Int → Option Bool) : Option Int :=
  (g_slices_IndexFunc_L1 B_) s1 f1 B_ 0

set_option maxRecDepth 20000 in
theorem e_slices_IndexFunc_f : slices_IndexFunc_f = g_slices_IndexFunc_f BIG := by
  delta slices_IndexFunc_f g_slices_IndexFunc_f
  first | rfl | (simp only [e_slices_IndexFunc_L1]; done) | (funext _ _; simp only [e_slices_IndexFunc_L1])

def g_slices_ContainsFunc_f (B_ : Nat) (s1 : List Int) (f1 : Int → Option Bool) : Option Bool :=
  ((g_slices_IndexFunc_f B_) s1 f1).bind fun r1 => some ((decide (0 ≤ r1)))

set_option maxRecDepth 20000 in
theorem e_slices_ContainsFunc_f : slices_ContainsFunc_f = g_slices_ContainsFunc_f BIG := by
  delta slices_ContainsFunc_f g_slices_ContainsFunc_f
  first | rfl | (simp only [e_slices_IndexFunc_f]; done) | (funext _ _; simp only [e_slices_IndexFunc_f])

def g_seat_leads_J2 (B_ : Nat) : Option Bool :=
  some (true)

set_option maxRecDepth 20000 in
theorem e_seat_leads_J2 : seat_leads_J2 = g_seat_leads_J2 BIG := by
  delta seat_leads_J2 g_seat_leads_J2
  first | rfl | (simp only []; done) | (funext _; simp only [])

def g_seat_leads_J3 (B_ : Nat) (k_seat_leads_L1 : Int → Option Bool) (v2 : Int) (v3 : Bool) : Option Bool :=
  cond v3 (some (false)) (k_seat_leads_L1 (IntKind.wrap .i64 (v2 + 1)))

set_option maxRecDepth 20000 in
theorem e_seat_leads_J3 : seat_leads_J3 = g_seat_leads_J3 BIG := by
  delta seat_leads_J3 g_seat_leads_J3
  first | rfl | (simp only []; done) | (funext _ _ _; simp only [])

def g_seat_leads_L1 (B_ : Nat) (s1 : Seat) : Nat → Int → Option Bool
  | 0, _ => none
  | m_ + 1, v2 => cond (decide (v2 < (s1.match_.length : Int))) ((idx s1.match_ v2).bind fun x1 => cond (decide (x1 < 0)) ((g_seat_leads_J3 B_) ((g_seat_leads_L1 B_) s1 m_) v2 true) (cond (decide ((s1.log.length : Int) < x1)) ((g_seat_leads_J3 B_) ((g_seat_leads_L1 B_) s1 m_) v2 true) ((idx s1.next v2).bind fun x2 => cond (decide (x2 ≤ x1)) ((g_seat_leads_J3 B_) ((g_seat_leads_L1 B_) s1 m_) v2 true) (cond (decide ((IntKind.wrap .i64 ((s1.log.length : Int) + 1)) < x2)) ((g_seat_leads_J3 B_) ((g_seat_leads_L1 B_) s1 m_) v2 true) ((idx s1.peers v2).bind fun x3 => (g_seat_leads_J3 B_) ((g_seat_leads_L1 B_) s1 m_) v2 ((x3 == s1.id) && (x1 != (s1.log.length : Int)))))))) ((g_seat_leads_J2 B_))

theorem e_seat_leads_L1 (s1 : Seat) (n_ : Nat) : seat_leads_L1 s1 n_ = g_seat_leads_L1 BIG s1 n_ := by
  induction n_ with
  | zero => rfl
  | succ m ih =>
    funext x0_
    simp only [seat_leads_L1, g_seat_leads_L1, ih, e_seat_leads_J3, e_seat_leads_J2]

def g_seat_leads_J1 (B_ : Nat) (s1 : Seat) (v1 : Bool) : Option Bool :=
  cond v1 (some (false)) ((g_seat_leads_L1 B_) s1 B_ 0)

set_option maxRecDepth 20000 in
theorem e_seat_leads_J1 : seat_leads_J1 = g_seat_leads_J1 BIG := by
  delta seat_leads_J1 g_seat_leads_J1
  first | rfl | (simp only [e_seat_leads_L1]; done) | (funext _ _; simp only [e_seat_leads_L1])

def g_seat_leads_f (B_ : Nat) (s1 : Seat) : Option Bool :=
  (g_seat_leads_J1 B_) s1 (((s1.next.length : Int) != (s1.peers.length : Int)) || (((s1.match_.length : Int) != (s1.peers.length : Int)) || ((decide (0 < (s1.votes.length : Int))) || (s1.voted != s1.id))))

set_option maxRecDepth 20000 in
theorem e_seat_leads_f : seat_leads_f = g_seat_leads_f BIG := by
  delta seat_leads_f g_seat_leads_f
  first | rfl | (simp only [e_seat_leads_J1]; done) | (funext _; simp only [e_seat_leads_J1])

def g_vote_Down_f (B_ : Nat) (s1 : Seat) (term1 : Int) : Option Seat :=
  some ((⟨s1.id, s1.peers, term1, (-1), 1, s1.log, s1.commit, [], [], []⟩ : Seat))

set_option maxRecDepth 20000 in
theorem e_vote_Down_f : vote_Down_f = g_vote_Down_f BIG := by
  delta vote_Down_f g_vote_Down_f
  first | rfl | (simp only []; done) | (funext _ _; simp only [])

def g_vote_Begin_f (B_ : Nat) (s1 : Seat) : Option Seat :=
  ((g_vote_Down_f B_) s1 (IntKind.wrap .i64 (s1.term + 1))).bind fun r1 => some ((⟨r1.id, r1.peers, r1.term, r1.id, 2, r1.log, r1.commit, [r1.id], r1.next, r1.match_⟩ : Seat))

set_option maxRecDepth 20000 in
theorem e_vote_Begin_f : vote_Begin_f = g_vote_Begin_f BIG := by
  delta vote_Begin_f g_vote_Begin_f
  first | rfl | (simp only [e_vote_Down_f]; done) | (funext _; simp only [e_vote_Down_f])

def g_seat_Right_1_f (B_ : Nat) (id1 : Int) (v1 : Seat) : Option Bool :=
  ((g_slices_Contains_f B_) v1.peers id1).bind fun r1 => some (r1)

set_option maxRecDepth 20000 in
theorem e_seat_Right_1_f : seat_Right_1_f = g_seat_Right_1_f BIG := by
  delta seat_Right_1_f g_seat_Right_1_f
  first | rfl | (simp only [e_slices_Contains_f]; done) | (funext _ _; simp only [e_slices_Contains_f])

def g_log_Fits_J1 (B_ : Nat) (at1 : Int) (term1 : Int) (l1 : List Entry) (v1 : Bool) : Option Bool :=
  cond v1 (some (false)) (cond (at1 == 0) (some ((term1 == 0))) ((idx l1 (IntKind.wrap .i64 (at1 - 1))).bind fun x1 => some ((x1.term == term1))))

set_option maxRecDepth 20000 in
theorem e_log_Fits_J1 : log_Fits_J1 = g_log_Fits_J1 BIG := by
  delta log_Fits_J1 g_log_Fits_J1
  first | rfl | (simp only []; done) | (funext _ _ _ _; simp only [])

def g_log_Fits_f (B_ : Nat) (l1 : List Entry) (at1 : Int) (term1 : Int) : Option Bool :=
  (g_log_Fits_J1 B_) at1 term1 l1 ((decide (at1 < 0)) || (decide ((l1.length : Int) < at1)))

set_option maxRecDepth 20000 in
theorem e_log_Fits_f : log_Fits_f = g_log_Fits_f BIG := by
  delta log_Fits_f g_log_Fits_f
  first | rfl | (simp only [e_log_Fits_J1]; done) | (funext _ _ _; simp only [e_log_Fits_J1])

def g_log_Newer_J1 (B_ : Nat) (term1 : Int) (l1 : List Entry) (many1 : Int) (last1 : Int) : Option Bool :=
  some ((decide (last1 < term1)) || ((term1 == last1) && (decide ((l1.length : Int) ≤ many1))))

set_option maxRecDepth 20000 in
theorem e_log_Newer_J1 : log_Newer_J1 = g_log_Newer_J1 BIG := by
  delta log_Newer_J1 g_log_Newer_J1
  first | rfl | (simp only []; done) | (funext _ _ _ _; simp only [])

def g_log_Newer_f (B_ : Nat) (l1 : List Entry) (term1 : Int) (many1 : Int) : Option Bool :=
  cond (decide (0 < (l1.length : Int))) ((idx l1 (IntKind.wrap .i64 ((l1.length : Int) - 1))).bind fun x1 => (g_log_Newer_J1 B_) term1 l1 many1 x1.term) ((g_log_Newer_J1 B_) term1 l1 many1 0)

set_option maxRecDepth 20000 in
theorem e_log_Newer_f : log_Newer_f = g_log_Newer_f BIG := by
  delta log_Newer_f g_log_Newer_f
  first | rfl | (simp only [e_log_Newer_J1]; done) | (funext _ _ _; simp only [e_log_Newer_J1])

def g_bytes_Equal_f (B_ : Nat) (a1 : List Int) (b1 : List Int) : Option Bool :=
  some (((strOfNums a1).toList == (strOfNums b1).toList))

set_option maxRecDepth 20000 in
theorem e_bytes_Equal_f : bytes_Equal_f = g_bytes_Equal_f BIG := by
  delta bytes_Equal_f g_bytes_Equal_f
  first | rfl | (simp only []; done) | (funext _ _; simp only [])

def g_log_alike_f (B_ : Nat) (a1 : Entry) (b1 : Entry) : Option Bool :=
  cond (a1.term == b1.term) (((g_bytes_Equal_f B_) a1.data b1.data).bind fun r1 => some (r1)) (some (false))

set_option maxRecDepth 20000 in
theorem e_log_alike_f : log_alike_f = g_log_alike_f BIG := by
  delta log_alike_f g_log_alike_f
  first | rfl | (simp only [e_bytes_Equal_f]; done) | (funext _ _; simp only [e_bytes_Equal_f])

def g_slices_EqualFunc_J1 (B_ : Nat) : Option Bool :=
  some (true)

set_option maxRecDepth 20000 in
theorem e_slices_EqualFunc_J1 : slices_EqualFunc_J1 = g_slices_EqualFunc_J1 BIG := by
  delta slices_EqualFunc_J1 g_slices_EqualFunc_J1
  first | rfl | (simp only []; done) | (funext _; simp only [])

def g_slices_EqualFunc_L1 (B_ : Nat) (s1 : List Entry) (s2 : List Entry) (eq1 : Entry → Entry → Option Bool) : Nat → Int → Option Bool
  | 0, _ => none
  | m_ + 1, v1 => cond (decide (v1 < (s1.length : Int))) ((idx s1 v1).bind fun x1 => (idx s2 v1).bind fun x2 => (eq1 x1 x2).bind fun r1 => cond (!r1) (some (false)) ((g_slices_EqualFunc_L1 B_) s1 s2 eq1 m_ (IntKind.wrap .i64 (v1 + 1)))) ((g_slices_EqualFunc_J1 B_))

theorem e_slices_EqualFunc_L1 (s1 : List Entry) (s2 : List Entry) (eq1 : Entry → Entry → Option Bool) (n_ : Nat) : slices_EqualFunc_L1 s1 s2 eq1 n_ = g_slices_EqualFunc_L1 BIG s1 s2 eq1 n_ := by
  induction n_ with
  | zero => rfl
  | succ m ih =>
    funext x0_
    simp only [slices_EqualFunc_L1, g_slices_EqualFunc_L1, ih, e_slices_EqualFunc_J1]

def g_slices_EqualFunc_f (B_ : Nat) (s1 : List Entry) (s2 : List Entry) (eq1 : Entry → Entry → Option Bool) : Option Bool :=
  cond ((s1.length : Int) != (s2.length : Int)) (some (false)) ((g_slices_EqualFunc_L1 B_) s1 s2 eq1 B_ 0)

set_option maxRecDepth 20000 in
theorem e_slices_EqualFunc_f : slices_EqualFunc_f = g_slices_EqualFunc_f BIG := by
  delta slices_EqualFunc_f g_slices_EqualFunc_f
  first | rfl | (simp only [e_slices_EqualFunc_L1]; done) | (funext _ _ _; simp only [e_slices_EqualFunc_L1])

def g_log_Same_f (B_ : Nat) (a1 : List Entry) (b1 : List Entry) : Option Bool :=
  ((g_slices_EqualFunc_f B_) a1 b1 (g_log_alike_f B_)).bind fun r1 => some (r1)

set_option maxRecDepth 20000 in
theorem e_log_Same_f : log_Same_f = g_log_Same_f BIG := by
  delta log_Same_f g_log_Same_f
  first | rfl | (simp only [e_slices_EqualFunc_f, e_log_alike_f]; done) | (funext _ _; simp only [e_slices_EqualFunc_f, e_log_alike_f])

def g_slices_Clone_f (B_ : Nat) (s1 : List Entry) : Option (List Entry) :=
  nilqc s1 (some (([] : List Entry))) (chk ((s1.length) * 32 ≤ 140737488355328) (some ((([] : List Entry) ++ s1))))

set_option maxRecDepth 20000 in
theorem e_slices_Clone_f : slices_Clone_f = g_slices_Clone_f BIG := by
  delta slices_Clone_f g_slices_Clone_f
  first | rfl | (simp only [nilq_c]; done) | (funext _; simp only [nilq_c])

def g_log_Put_J1 (B_ : Nat) (out1 : List Entry) : Option ((List Entry) × Bool) :=
  cond (decide (500 < (((out1.length : Nat)) : Int))) (some ([], false)) (some (out1, true))

set_option maxRecDepth 20000 in
theorem e_log_Put_J1 : log_Put_J1 = g_log_Put_J1 BIG := by
  delta log_Put_J1 g_log_Put_J1
  first | rfl | (simp only []; done) | (funext _; simp only [])

def g_log_Put_J2 (B_ : Nat) (k_log_Put_L1 : Int → Option ((List Entry) × Bool)) (v1 : Int) (r2 : (List Entry)) (more1 : List Entry) (p1 : Int) (v2 : Bool) : Option ((List Entry) × Bool) :=
  cond v2 (k_log_Put_L1 (IntKind.wrap .i64 (v1 + 1))) (chk (0 ≤ p1 ∧ p1 ≤ (r2.length : Int)) (chk (0 ≤ v1 ∧ v1 ≤ (more1.length : Int) ∧ (more1.length : Int) ≤ (more1.length : Int)) (chk ((p1.toNat + ((more1.drop v1.toNat).length)) * 32 ≤ 140737488355328) ((g_log_Put_J1 B_) ((r2.take p1.toNat) ++ (more1.drop v1.toNat))))))

set_option maxRecDepth 20000 in
theorem e_log_Put_J2 : log_Put_J2 = g_log_Put_J2 BIG := by
  delta log_Put_J2 g_log_Put_J2
  first | rfl | (simp only [e_log_Put_J1]; done) | (funext _ _ _ _ _ _; simp only [e_log_Put_J1])

def g_log_Put_L1 (B_ : Nat) (more1 : List Entry) (at1 : Int) (r2 : (List Entry)) : Nat → Int → Option ((List Entry) × Bool)
  | 0, _ => none
  | m_ + 1, v1 => cond (decide (v1 < (more1.length : Int))) ((idx more1 v1).bind fun x1 => cond (decide ((IntKind.wrap .i64 (at1 + v1)) < (((r2.length : Nat)) : Int))) ((idx r2 (IntKind.wrap .i64 (at1 + v1))).bind fun x2 => ((g_log_alike_f B_) x2 x1).bind fun r3 => (g_log_Put_J2 B_) ((g_log_Put_L1 B_) more1 at1 r2 m_) v1 r2 more1 (IntKind.wrap .i64 (at1 + v1)) r3) ((g_log_Put_J2 B_) ((g_log_Put_L1 B_) more1 at1 r2 m_) v1 r2 more1 (IntKind.wrap .i64 (at1 + v1)) false)) ((g_log_Put_J1 B_) r2)

theorem e_log_Put_L1 (more1 : List Entry) (at1 : Int) (r2 : (List Entry)) (n_ : Nat) : log_Put_L1 more1 at1 r2 n_ = g_log_Put_L1 BIG more1 at1 r2 n_ := by
  induction n_ with
  | zero => rfl
  | succ m ih =>
    funext x0_
    simp only [log_Put_L1, g_log_Put_L1, ih, e_log_alike_f, e_log_Put_J2, e_log_Put_J1]

def g_log_Put_f (B_ : Nat) (l1 : List Entry) (at1 : Int) (term1 : Int) (more1 : List Entry) : Option ((List Entry) × Bool) :=
  ((g_log_Fits_f B_) l1 at1 term1).bind fun r1 => cond (!r1) (some ([], false)) (((g_slices_Clone_f B_) l1).bind fun r2 => (g_log_Put_L1 B_) more1 at1 r2 B_ 0)

set_option maxRecDepth 20000 in
theorem e_log_Put_f : log_Put_f = g_log_Put_f BIG := by
  delta log_Put_f g_log_Put_f
  first | rfl | (simp only [e_log_Fits_f, e_slices_Clone_f, e_log_Put_L1]; done) | (funext _ _ _ _; simp only [e_log_Fits_f, e_slices_Clone_f, e_log_Put_L1])

def g_log_Commit_1_J1 (B_ : Nat) (n1 : Int) : Option Int :=
  some (n1)

set_option maxRecDepth 20000 in
theorem e_log_Commit_1_J1 : log_Commit_1_J1 = g_log_Commit_1_J1 BIG := by
  delta log_Commit_1_J1 g_log_Commit_1_J1
  first | rfl | (simp only []; done) | (funext _; simp only [])

def g_log_Commit_1_J2 (B_ : Nat) (k_log_Commit_1_L1 : Int → Int → Option Int) (v2 : Int) (n3 : Int) : Option Int :=
  k_log_Commit_1_L1 n3 (IntKind.wrap .i64 (v2 + 1))

set_option maxRecDepth 20000 in
theorem e_log_Commit_1_J2 : log_Commit_1_J2 = g_log_Commit_1_J2 BIG := by
  delta log_Commit_1_J2 g_log_Commit_1_J2
  first | rfl | (simp only []; done) | (funext _ _ _; simp only [])

def g_log_Commit_1_L1 (B_ : Nat) (v1 : List Int) (p1 : Int) : Nat → Int → Int → Option Int
  | 0, _, _ => none
  | m_ + 1, n2, v2 => cond (decide (v2 < (v1.length : Int))) ((idx v1 v2).bind fun x1 => cond (decide (p1 ≤ x1)) ((g_log_Commit_1_J2 B_) ((g_log_Commit_1_L1 B_) v1 p1 m_) v2 (IntKind.wrap .i64 (n2 + 1))) ((g_log_Commit_1_J2 B_) ((g_log_Commit_1_L1 B_) v1 p1 m_) v2 n2)) ((g_log_Commit_1_J1 B_) n2)

theorem e_log_Commit_1_L1 (v1 : List Int) (p1 : Int) (n_ : Nat) : log_Commit_1_L1 v1 p1 n_ = g_log_Commit_1_L1 BIG v1 p1 n_ := by
  induction n_ with
  | zero => rfl
  | succ m ih =>
    funext x0_ x1_
    simp only [log_Commit_1_L1, g_log_Commit_1_L1, ih, e_log_Commit_1_J2, e_log_Commit_1_J1]

def g_log_Commit_1_f (B_ : Nat) (p1 : Int) (v1 : List Int) : Option Int :=
  (g_log_Commit_1_L1 B_) v1 p1 B_ 0 0

set_option maxRecDepth 20000 in
theorem e_log_Commit_1_f : log_Commit_1_f = g_log_Commit_1_f BIG := by
  delta log_Commit_1_f g_log_Commit_1_f
  first | rfl | (simp only [e_log_Commit_1_L1]; done) | (funext _ _; simp only [e_log_Commit_1_L1])

def g_log_Commit_J1 (B_ : Nat) (was1 : Int) : Option Int :=
  some (was1)

set_option maxRecDepth 20000 in
theorem e_log_Commit_J1 : log_Commit_J1 = g_log_Commit_J1 BIG := by
  delta log_Commit_J1 g_log_Commit_J1
  first | rfl | (simp only []; done) | (funext _; simp only [])

def g_log_Commit_J2 (B_ : Nat) (k_log_Commit_L1 : Int → Option Int) (p1 : Int) (v1 : Bool) : Option Int :=
  cond v1 (some (p1)) (k_log_Commit_L1 (IntKind.wrap .i64 (p1 - 1)))

set_option maxRecDepth 20000 in
theorem e_log_Commit_J2 : log_Commit_J2 = g_log_Commit_J2 BIG := by
  delta log_Commit_J2 g_log_Commit_J2
  first | rfl | (simp only []; done) | (funext _ _ _; simp only [])

def g_log_Commit_L1 (B_ : Nat) (was1 : Int) (l1 : List Entry) (term1 : Int) (match1 : List Int) : Nat → Int → Option Int
  | 0, _ => none
  | m_ + 1, p1 => cond (decide ((if 0 > was1 then 0 else was1) < p1)) ((idx l1 (IntKind.wrap .i64 (p1 - 1))).bind fun x1 => cond (x1.term == term1) (((g_log_Commit_1_f B_) p1 match1).bind fun r1 => (g_log_Commit_J2 B_) ((g_log_Commit_L1 B_) was1 l1 term1 match1 m_) p1 (decide ((match1.length : Int) < (IntKind.wrap .i64 (2 * r1))))) ((g_log_Commit_J2 B_) ((g_log_Commit_L1 B_) was1 l1 term1 match1 m_) p1 false)) ((g_log_Commit_J1 B_) was1)

theorem e_log_Commit_L1 (was1 : Int) (l1 : List Entry) (term1 : Int) (match1 : List Int) (n_ : Nat) : log_Commit_L1 was1 l1 term1 match1 n_ = g_log_Commit_L1 BIG was1 l1 term1 match1 n_ := by
  induction n_ with
  | zero => rfl
  | succ m ih =>
    funext x0_
    simp only [log_Commit_L1, g_log_Commit_L1, ih, e_log_Commit_1_f, e_log_Commit_J2, e_log_Commit_J1]

def g_log_Commit_f (B_ : Nat) (l1 : List Entry) (term1 : Int) (match1 : List Int) (was1 : Int) : Option Int :=
  (g_log_Commit_L1 B_) was1 l1 term1 match1 B_ (l1.length : Int)

set_option maxRecDepth 20000 in
theorem e_log_Commit_f : log_Commit_f = g_log_Commit_f BIG := by
  delta log_Commit_f g_log_Commit_f
  first | rfl | (simp only [e_log_Commit_L1]; done) | (funext _ _ _ _; simp only [e_log_Commit_L1])

def g_slices_Clone_57_f (B_ : Nat) (s1 : List Int) : Option (List Int) :=
  nilqc s1 (some (([] : List Int))) (chk ((s1.length) * 8 ≤ 140737488355328) (some ((([] : List Int) ++ s1))))

set_option maxRecDepth 20000 in
theorem e_slices_Clone_57_f : slices_Clone_57_f = g_slices_Clone_57_f BIG := by
  delta slices_Clone_57_f g_slices_Clone_57_f
  first | rfl | (simp only [nilq_c]; done) | (funext _; simp only [nilq_c])

def g_slices_Clone_56_f (B_ : Nat) (s1 : List Int) : Option (List Int) :=
  nilqc s1 (some ([])) (chk ((s1.length) * 1 ≤ 140737488355328) (some ((([] : List Int) ++ s1))))

set_option maxRecDepth 20000 in
theorem e_slices_Clone_56_f : slices_Clone_56_f = g_slices_Clone_56_f BIG := by
  delta slices_Clone_56_f g_slices_Clone_56_f
  first | rfl | (simp only [nilq_c]; done) | (funext _; simp only [nilq_c])

def g_cmp_isNaN_f (B_ : Nat) (x1 : Int) : Option Bool :=
  some ((x1 != x1))

set_option maxRecDepth 20000 in
theorem e_cmp_isNaN_f : cmp_isNaN_f = g_cmp_isNaN_f BIG := by
  delta cmp_isNaN_f g_cmp_isNaN_f
  first | rfl | (simp only []; done) | (funext _; simp only [])

def g_cmp_Less_f (B_ : Nat) (x1 : Int) (y1 : Int) : Option Bool :=
  ((g_cmp_isNaN_f B_) x1).bind fun r1 => cond r1 (((g_cmp_isNaN_f B_) y1).bind fun r2 => some ((!r2) || (decide (x1 < y1)))) (some ((decide (x1 < y1))))

set_option maxRecDepth 20000 in
theorem e_cmp_Less_f : cmp_Less_f = g_cmp_Less_f BIG := by
  delta cmp_Less_f g_cmp_Less_f
  first | rfl | (simp only [e_cmp_isNaN_f]; done) | (funext _ _; simp only [e_cmp_isNaN_f])

def g_slices_insertionSortOrdered_J1 (B_ : Nat) (k_slices_insertionSortOrdered_L1 : (List Int) → Int → Option (List Int)) (i1 : Int) (data3 : List Int) : Option (List Int) :=
  k_slices_insertionSortOrdered_L1 data3 (IntKind.wrap .i64 (i1 + 1))

set_option maxRecDepth 20000 in
theorem e_slices_insertionSortOrdered_J1 : slices_insertionSortOrdered_J1 = g_slices_insertionSortOrdered_J1 BIG := by
  delta slices_insertionSortOrdered_J1 g_slices_insertionSortOrdered_J1
  first | rfl | (simp only []; done) | (funext _ _ _; simp only [])

def g_slices_insertionSortOrdered_J2 (B_ : Nat) (k_slices_insertionSortOrdered_L2 : (List Int) → Int → Option (List Int)) (k_slices_insertionSortOrdered_L1 : (List Int) → Int → Option (List Int)) (data4 : List Int) (j1 : Int) (i1 : Int) (v1 : Bool) : Option (List Int) :=
  cond v1 ((idx data4 (IntKind.wrap .i64 (j1 - 1))).bind fun x1 => (idx data4 j1).bind fun x2 => (idx (data4.set j1.toNat x1) (IntKind.wrap .i64 (j1 - 1))).bind fun x3 => k_slices_insertionSortOrdered_L2 ((data4.set j1.toNat x1).set ((IntKind.wrap .i64 (j1 - 1)).toNat) x2) (IntKind.wrap .i64 (j1 - 1))) ((g_slices_insertionSortOrdered_J1 B_) k_slices_insertionSortOrdered_L1 i1 data4)

set_option maxRecDepth 20000 in
theorem e_slices_insertionSortOrdered_J2 : slices_insertionSortOrdered_J2 = g_slices_insertionSortOrdered_J2 BIG := by
  delta slices_insertionSortOrdered_J2 g_slices_insertionSortOrdered_J2
  first | rfl | (simp only [e_slices_insertionSortOrdered_J1]; done) | (funext _ _ _ _ _ _; simp only [e_slices_insertionSortOrdered_J1])

def g_slices_insertionSortOrdered_L2 (B_ : Nat) (k_slices_insertionSortOrdered_L1 : (List Int) → Int → Option (List Int)) (a1 : Int) (i1 : Int) : Nat → (List Int) → Int → Option (List Int)
  | 0, _, _ => none
  | m_ + 1, data4, j1 => cond (decide (a1 < j1)) ((idx data4 j1).bind fun x4 => (idx data4 (IntKind.wrap .i64 (j1 - 1))).bind fun x5 => ((g_cmp_Less_f B_) x4 x5).bind fun r1 => (g_slices_insertionSortOrdered_J2 B_) ((g_slices_insertionSortOrdered_L2 B_) k_slices_insertionSortOrdered_L1 a1 i1 m_) k_slices_insertionSortOrdered_L1 data4 j1 i1 r1) ((g_slices_insertionSortOrdered_J2 B_) ((g_slices_insertionSortOrdered_L2 B_) k_slices_insertionSortOrdered_L1 a1 i1 m_) k_slices_insertionSortOrdered_L1 data4 j1 i1 false)

theorem e_slices_insertionSortOrdered_L2 (k_slices_insertionSortOrdered_L1 : (List Int) → Int → Option (List Int)) (a1 : Int) (i1 : Int) (n_ : Nat) : slices_insertionSortOrdered_L2 k_slices_insertionSortOrdered_L1 a1 i1 n_ = g_slices_insertionSortOrdered_L2 BIG k_slices_insertionSortOrdered_L1 a1 i1 n_ := by
  induction n_ with
  | zero => rfl
  | succ m ih =>
    funext x0_ x1_
    simp only [slices_insertionSortOrdered_L2, g_slices_insertionSortOrdered_L2, ih, e_cmp_Less_f, e_slices_insertionSortOrdered_J2]

def g_slices_insertionSortOrdered_L1 (B_ : Nat) (b1 : Int) (a1 : Int) : Nat → (List Int) → Int → Option (List Int)
  | 0, _, _ => none
  | m_ + 1, data2, i1 => cond (decide (i1 < b1)) ((g_slices_insertionSortOrdered_L2 B_) ((g_slices_insertionSortOrdered_L1 B_) b1 a1 m_) a1 i1 B_ data2 i1) (some (data2))

theorem e_slices_insertionSortOrdered_L1 (b1 : Int) (a1 : Int) (n_ : Nat) : slices_insertionSortOrdered_L1 b1 a1 n_ = g_slices_insertionSortOrdered_L1 BIG b1 a1 n_ := by
  induction n_ with
  | zero => rfl
  | succ m ih =>
    funext x0_ x1_
    simp only [slices_insertionSortOrdered_L1, g_slices_insertionSortOrdered_L1, ih, e_slices_insertionSortOrdered_L2]

def g_slices_insertionSortOrdered_f (B_ : Nat) (data1 : List Int) (a1 : Int) (b1 : Int) : Option (List Int) :=
  (g_slices_insertionSortOrdered_L1 B_) b1 a1 B_ data1 (IntKind.wrap .i64 (a1 + 1))

set_option maxRecDepth 20000 in
theorem e_slices_insertionSortOrdered_f : slices_insertionSortOrdered_f = g_slices_insertionSortOrdered_f BIG := by
  delta slices_insertionSortOrdered_f g_slices_insertionSortOrdered_f
  first | rfl | (simp only [e_slices_insertionSortOrdered_L1]; done) | (funext _ _ _; simp only [e_slices_insertionSortOrdered_L1])

def g_slices_pdqsortOrdered_L1 (B_ : Nat) (b1 : Int) (a1 : Int) (data1 : List Int) : Nat → Option (List Int)
  | 0 => none
  | m_ + 1 => chk ((decide ((IntKind.wrap .i64 (b1 - a1)) ≤ 12)) = true) (((g_slices_insertionSortOrdered_f B_) data1 a1 b1).bind fun r1 => chk (r1.length = data1.length) (some (r1)))

theorem e_slices_pdqsortOrdered_L1 (b1 : Int) (a1 : Int) (data1 : List Int) (n_ : Nat) : slices_pdqsortOrdered_L1 b1 a1 data1 n_ = g_slices_pdqsortOrdered_L1 BIG b1 a1 data1 n_ := by
  induction n_ with
  | zero => rfl
  | succ m ih =>
    simp only [slices_pdqsortOrdered_L1, g_slices_pdqsortOrdered_L1, ih, e_slices_insertionSortOrdered_f]

def g_slices_pdqsortOrdered_f (B_ : Nat) (data1 : List Int) (a1 : Int) (b1 : Int) (limit1 : Int) : Option (List Int) :=
  (g_slices_pdqsortOrdered_L1 B_) b1 a1 data1 B_

set_option maxRecDepth 20000 in
theorem e_slices_pdqsortOrdered_f : slices_pdqsortOrdered_f = g_slices_pdqsortOrdered_f BIG := by
  delta slices_pdqsortOrdered_f g_slices_pdqsortOrdered_f
  first | rfl | (simp only [e_slices_pdqsortOrdered_L1]; done) | (funext _ _ _ _; simp only [e_slices_pdqsortOrdered_L1])

def g_math_bits_Len64_J3 (B_ : Nat) (x4 : Int) (n3 : Int) : Option Int :=
  chk (0 ≤ (IntKind.wrap .u8 x4) ∧ (IntKind.wrap .u8 x4) < ((⟨#[0, 1, 2, 2, 3, 3, 3, 3, 4, 4, 4, 4, 4, 4, 4, 4, 5, 5, 5, 5, 5, 5, 5, 5, 5, 5, 5, 5, 5, 5, 5, 5, 6, 6, 6, 6, 6, 6, 6, 6, 6, 6, 6, 6, 6, 6, 6, 6, 6, 6, 6, 6, 6, 6, 6, 6, 6, 6, 6, 6, 6, 6, 6, 6, 7, 7, 7, 7, 7, 7, 7, 7, 7, 7, 7, 7, 7, 7, 7, 7, 7, 7, 7, 7, 7, 7, 7, 7, 7, 7, 7, 7, 7, 7, 7, 7, 7, 7, 7, 7, 7, 7, 7, 7, 7, 7, 7, 7, 7, 7, 7, 7, 7, 7, 7, 7, 7, 7, 7, 7, 7, 7, 7, 7, 7, 7, 7, 7, 8, 8, 8, 8, 8, 8, 8, 8, 8, 8, 8, 8, 8, 8, 8, 8, 8, 8, 8, 8, 8, 8, 8, 8, 8, 8, 8, 8, 8, 8, 8, 8, 8, 8, 8, 8, 8, 8, 8, 8, 8, 8, 8, 8, 8, 8, 8, 8, 8, 8, 8, 8, 8, 8, 8, 8, 8, 8, 8, 8, 8, 8, 8, 8, 8, 8, 8, 8, 8, 8, 8, 8, 8, 8, 8, 8, 8, 8, 8, 8, 8, 8, 8, 8, 8, 8, 8, 8, 8, 8, 8, 8, 8, 8, 8, 8, 8, 8, 8, 8, 8, 8, 8, 8, 8, 8, 8, 8, 8, 8, 8, 8, 8, 8, 8, 8, 8, 8, 8, 8, 8, 8, 8, 8, 8, 8, 8, 8]⟩ : ByteArray).size : Int)) (some ((IntKind.wrap .i64 (n3 + (IntKind.wrap .i64 (((⟨#[0, 1, 2, 2, 3, 3, 3, 3, 4, 4, 4, 4, 4, 4, 4, 4, 5, 5, 5, 5, 5, 5, 5, 5, 5, 5, 5, 5, 5, 5, 5, 5, 6, 6, 6, 6, 6, 6, 6, 6, 6, 6, 6, 6, 6, 6, 6, 6, 6, 6, 6, 6, 6, 6, 6, 6, 6, 6, 6, 6, 6, 6, 6, 6, 7, 7, 7, 7, 7, 7, 7, 7, 7, 7, 7, 7, 7, 7, 7, 7, 7, 7, 7, 7, 7, 7, 7, 7, 7, 7, 7, 7, 7, 7, 7, 7, 7, 7, 7, 7, 7, 7, 7, 7, 7, 7, 7, 7, 7, 7, 7, 7, 7, 7, 7, 7, 7, 7, 7, 7, 7, 7, 7, 7, 7, 7, 7, 7, 8, 8, 8, 8, 8, 8, 8, 8, 8, 8, 8, 8, 8, 8, 8, 8, 8, 8, 8, 8, 8, 8, 8, 8, 8, 8, 8, 8, 8, 8, 8, 8, 8, 8, 8, 8, 8, 8, 8, 8, 8, 8, 8, 8, 8, 8, 8, 8, 8, 8, 8, 8, 8, 8, 8, 8, 8, 8, 8, 8, 8, 8, 8, 8, 8, 8, 8, 8, 8, 8, 8, 8, 8, 8, 8, 8, 8, 8, 8, 8, 8, 8, 8, 8, 8, 8, 8, 8, 8, 8, 8, 8, 8, 8, 8, 8, 8, 8, 8, 8, 8, 8, 8, 8, 8, 8, 8, 8, 8, 8, 8, 8, 8, 8, 8, 8, 8, 8, 8, 8, 8, 8, 8, 8, 8, 8, 8, 8]⟩ : ByteArray).data.toList.getD (IntKind.wrap .u8 x4).toNat 0).toNat : Int))))))

set_option maxRecDepth 20000 in
theorem e_math_bits_Len64_J3 : math_bits_Len64_J3 = g_math_bits_Len64_J3 BIG := by
  delta math_bits_Len64_J3 g_math_bits_Len64_J3
  first | rfl | (simp only []; done) | (funext _ _; simp only [])

def g_math_bits_Len64_J2 (B_ : Nat) (x3 : Int) (n2 : Int) : Option Int :=
  cond (decide (256 ≤ x3)) ((g_math_bits_Len64_J3 B_) (Int.fdiv x3 (2 ^ (min 8 (IntKind.bits .u64)))) (IntKind.wrap .i64 (n2 + 8))) ((g_math_bits_Len64_J3 B_) x3 n2)

set_option maxRecDepth 20000 in
theorem e_math_bits_Len64_J2 : math_bits_Len64_J2 = g_math_bits_Len64_J2 BIG := by
  delta math_bits_Len64_J2 g_math_bits_Len64_J2
  first | rfl | (simp only [e_math_bits_Len64_J3]; done) | (funext _ _; simp only [e_math_bits_Len64_J3])

def g_math_bits_Len64_J1 (B_ : Nat) (x2 : Int) (n1 : Int) : Option Int :=
  cond (decide (65536 ≤ x2)) ((g_math_bits_Len64_J2 B_) (Int.fdiv x2 (2 ^ (min 16 (IntKind.bits .u64)))) (IntKind.wrap .i64 (n1 + 16))) ((g_math_bits_Len64_J2 B_) x2 n1)

set_option maxRecDepth 20000 in
theorem e_math_bits_Len64_J1 : math_bits_Len64_J1 = g_math_bits_Len64_J1 BIG := by
  delta math_bits_Len64_J1 g_math_bits_Len64_J1
  first | rfl | (simp only [e_math_bits_Len64_J2]; done) | (funext _ _; simp only [e_math_bits_Len64_J2])

def g_math_bits_Len64_f (B_ : Nat) (x1 : Int) : Option Int :=
  cond (decide (4294967296 ≤ x1)) ((g_math_bits_Len64_J1 B_) (Int.fdiv x1 (2 ^ (min 32 (IntKind.bits .u64)))) 32) ((g_math_bits_Len64_J1 B_) x1 0)

set_option maxRecDepth 20000 in
theorem e_math_bits_Len64_f : math_bits_Len64_f = g_math_bits_Len64_f BIG := by
  delta math_bits_Len64_f g_math_bits_Len64_f
  first | rfl | (simp only [e_math_bits_Len64_J1]; done) | (funext _; simp only [e_math_bits_Len64_J1])

def g_math_bits_Len_f (B_ : Nat) (x1 : Int) : Option Int :=
  ((g_math_bits_Len64_f B_) x1).bind fun r1 => some (r1)

set_option maxRecDepth 20000 in
theorem e_math_bits_Len_f : math_bits_Len_f = g_math_bits_Len_f BIG := by
  delta math_bits_Len_f g_math_bits_Len_f
  first | rfl | (simp only [e_math_bits_Len64_f]; done) | (funext _; simp only [e_math_bits_Len64_f])

def g_slices_Sort_f (B_ : Nat) (x1 : List Int) : Option (List Int) :=
  ((g_math_bits_Len_f B_) (IntKind.wrap .u64 (((x1.length : Nat)) : Int))).bind fun r1 => ((g_slices_pdqsortOrdered_f B_) x1 0 (((x1.length : Nat)) : Int) r1).bind fun r2 => chk (r2.length = x1.length) (some (r2))

set_option maxRecDepth 20000 in
theorem e_slices_Sort_f : slices_Sort_f = g_slices_Sort_f BIG := by
  delta slices_Sort_f g_slices_Sort_f
  first | rfl | (simp only [e_math_bits_Len_f, e_slices_pdqsortOrdered_f]; done) | (funext _; simp only [e_math_bits_Len_f, e_slices_pdqsortOrdered_f])

def g_vote_Ask_1_f (B_ : Nat) (v1 : Seat) (v2 : Int) : Option Bool :=
  some ((v1.voted == (-1)) || (v1.voted == v2))

set_option maxRecDepth 20000 in
theorem e_vote_Ask_1_f : vote_Ask_1_f = g_vote_Ask_1_f BIG := by
  delta vote_Ask_1_f g_vote_Ask_1_f
  first | rfl | (simp only []; done) | (funext _ _; simp only [])

def g_vote_Ask_2_f (B_ : Nat) (v1 : Seat) (v2 : Int) (v3 : Int) : Option Bool :=
  ((g_log_Newer_f B_) v1.log v2 v3).bind fun r1 => some (r1)

set_option maxRecDepth 20000 in
theorem e_vote_Ask_2_f : vote_Ask_2_f = g_vote_Ask_2_f BIG := by
  delta vote_Ask_2_f g_vote_Ask_2_f
  first | rfl | (simp only [e_log_Newer_f]; done) | (funext _ _ _; simp only [e_log_Newer_f])

def g_vote_Ask_J2 (B_ : Nat) (s2 : Seat) (who1 : Int) : Option (Seat × Bool) :=
  some ((⟨s2.id, s2.peers, s2.term, who1, s2.role, s2.log, s2.commit, s2.votes, s2.next, s2.match_⟩ : Seat), true)

set_option maxRecDepth 20000 in
theorem e_vote_Ask_J2 : vote_Ask_J2 = g_vote_Ask_J2 BIG := by
  delta vote_Ask_J2 g_vote_Ask_J2
  first | rfl | (simp only []; done) | (funext _ _; simp only [])

def g_vote_Ask_J1 (B_ : Nat) (who1 : Int) (last1 : Int) (many1 : Int) (s2 : Seat) : Option (Seat × Bool) :=
  ((g_vote_Ask_1_f B_) s2 who1).bind fun r1 => cond (!r1) (some (s2, false)) (((g_vote_Ask_2_f B_) s2 last1 many1).bind fun r2 => cond (!r2) (some (s2, false)) ((g_vote_Ask_J2 B_) s2 who1))

set_option maxRecDepth 20000 in
theorem e_vote_Ask_J1 : vote_Ask_J1 = g_vote_Ask_J1 BIG := by
  delta vote_Ask_J1 g_vote_Ask_J1
  first | rfl | (simp only [e_vote_Ask_1_f, e_vote_Ask_2_f, e_vote_Ask_J2]; done) | (funext _ _ _ _; simp only [e_vote_Ask_1_f, e_vote_Ask_2_f, e_vote_Ask_J2])

def g_vote_Ask_f (B_ : Nat) (s1 : Seat) (term1 : Int) (who1 : Int) (last1 : Int) (many1 : Int) : Option (Seat × Bool) :=
  cond (decide (term1 < s1.term)) (some (s1, false)) (cond (decide (s1.term < term1)) (((g_vote_Down_f B_) s1 term1).bind fun r3 => (g_vote_Ask_J1 B_) who1 last1 many1 r3) ((g_vote_Ask_J1 B_) who1 last1 many1 s1))

set_option maxRecDepth 20000 in
theorem e_vote_Ask_f : vote_Ask_f = g_vote_Ask_f BIG := by
  delta vote_Ask_f g_vote_Ask_f
  first | rfl | (simp only [e_vote_Down_f, e_vote_Ask_J1]; done) | (funext _ _ _ _ _; simp only [e_vote_Down_f, e_vote_Ask_J1])

def g_vote_count_J1 (B_ : Nat) (n1 : Int) : Option Int :=
  some (n1)

set_option maxRecDepth 20000 in
theorem e_vote_count_J1 : vote_count_J1 = g_vote_count_J1 BIG := by
  delta vote_count_J1 g_vote_count_J1
  first | rfl | (simp only []; done) | (funext _; simp only [])

def g_vote_count_J2 (B_ : Nat) (k_vote_count_L1 : Int → Int → Option Int) (v1 : Int) (n3 : Int) : Option Int :=
  k_vote_count_L1 n3 (IntKind.wrap .i64 (v1 + 1))

set_option maxRecDepth 20000 in
theorem e_vote_count_J2 : vote_count_J2 = g_vote_count_J2 BIG := by
  delta vote_count_J2 g_vote_count_J2
  first | rfl | (simp only []; done) | (funext _ _ _; simp only [])

def g_vote_count_L1 (B_ : Nat) (l1 : List Int) (is1 : Int → Option Bool) : Nat → Int → Int → Option Int
  | 0, _, _ => none
  | m_ + 1, n2, v1 => cond (decide (v1 < (l1.length : Int))) ((idx l1 v1).bind fun x1 => (is1 x1).bind fun r1 => cond r1 ((g_vote_count_J2 B_) ((g_vote_count_L1 B_) l1 is1 m_) v1 (IntKind.wrap .i64 (n2 + 1))) ((g_vote_count_J2 B_) ((g_vote_count_L1 B_) l1 is1 m_) v1 n2)) ((g_vote_count_J1 B_) n2)

theorem e_vote_count_L1 (l1 : List Int) (is1 : Int → Option Bool) (n_ : Nat) : vote_count_L1 l1 is1 n_ = g_vote_count_L1 BIG l1 is1 n_ := by
  induction n_ with
  | zero => rfl
  | succ m ih =>
    funext x0_ x1_
    simp only [vote_count_L1, g_vote_count_L1, ih, e_vote_count_J2, e_vote_count_J1]

def g_vote_count_f (B_ : Nat) (l1 : List Int) (is1 : Int → Option Bool) : Option Int :=
  (g_vote_count_L1 B_) l1 is1 B_ 0 0

set_option maxRecDepth 20000 in
theorem e_vote_count_f : vote_count_f = g_vote_count_f BIG := by
  delta vote_count_f g_vote_count_f
  first | rfl | (simp only [e_vote_count_L1]; done) | (funext _ _; simp only [e_vote_count_L1])

def g_vote_Won_1_f (B_ : Nat) (p1 : Int) (v1 : List Int) : Option Bool :=
  ((g_slices_Contains_f B_) v1 p1).bind fun r1 => some (r1)

set_option maxRecDepth 20000 in
theorem e_vote_Won_1_f : vote_Won_1_f = g_vote_Won_1_f BIG := by
  delta vote_Won_1_f g_vote_Won_1_f
  first | rfl | (simp only [e_slices_Contains_f]; done) | (funext _ _; simp only [e_slices_Contains_f])

def g_vote_Won_f (B_ : Nat) (votes1 : List Int) (peers1 : List Int) : Option Bool :=
  ((g_vote_count_f B_) peers1 (fun y0_ => (g_vote_Won_1_f B_) y0_ votes1)).bind fun r1 => some ((decide ((peers1.length : Int) < (IntKind.wrap .i64 (2 * r1)))))

set_option maxRecDepth 20000 in
theorem e_vote_Won_f : vote_Won_f = g_vote_Won_f BIG := by
  delta vote_Won_f g_vote_Won_f
  first | rfl | (simp only [e_vote_count_f, e_vote_Won_1_f]; done) | (funext _ _; simp only [e_vote_count_f, e_vote_Won_1_f])

def g_seat_carried_J1 (B_ : Nat) (x1 : Msg) (l1 : List Entry) (data1 : List Int) : Option ((List Entry) × Bool) :=
  cond ((data1.length : Int) == 0) (cond ((Int.tmod (x1.nums.length : Int) 2) == 0) (some (l1, (decide ((((l1.length : Nat)) : Int) ≤ 8)))) (some (l1, false))) (some (l1, false))

set_option maxRecDepth 20000 in
theorem e_seat_carried_J1 : seat_carried_J1 = g_seat_carried_J1 BIG := by
  delta seat_carried_J1 g_seat_carried_J1
  first | rfl | (simp only []; done) | (funext _ _ _; simp only [])

def g_seat_carried_J2 (B_ : Nat) (k_seat_carried_L1 : (List Entry) → (List Int) → Int → Int → Option ((List Entry) × Bool)) (x4 : Int) (data2 : List Int) (l2 : List Entry) (x3 : Int) (i1 : Int) (v1 : Bool) : Option ((List Entry) × Bool) :=
  cond v1 (some ([], false)) (chk (0 ≤ 0 ∧ 0 ≤ x4 ∧ x4 ≤ (data2.length : Int)) (((g_slices_Clone_56_f B_) ((data2.take x4.toNat).drop 0)).bind fun r1 => chk ((l2.length + 1) * 32 ≤ 140737488355328) (chk (0 ≤ x4 ∧ x4 ≤ (data2.length : Int) ∧ (data2.length : Int) ≤ (data2.length : Int)) (k_seat_carried_L1 (l2 ++ [(⟨x3, r1⟩ : Entry)]) (data2.drop x4.toNat) x3 (IntKind.wrap .i64 (i1 + 2))))))

set_option maxRecDepth 20000 in
theorem e_seat_carried_J2 : seat_carried_J2 = g_seat_carried_J2 BIG := by
  delta seat_carried_J2 g_seat_carried_J2
  first | rfl | (simp only [e_slices_Clone_56_f]; done) | (funext _ _ _ _ _ _ _; simp only [e_slices_Clone_56_f])

def g_seat_carried_L1 (B_ : Nat) (x1 : Msg) : Nat → (List Entry) → (List Int) → Int → Int → Option ((List Entry) × Bool)
  | 0, _, _, _, _ => none
  | m_ + 1, l2, data2, last1, i1 => cond (decide ((IntKind.wrap .i64 (i1 + 1)) < (x1.nums.length : Int))) ((idx x1.nums i1).bind fun x3 => (idx x1.nums (IntKind.wrap .i64 (i1 + 1))).bind fun x4 => cond (decide (x3 < last1)) ((g_seat_carried_J2 B_) ((g_seat_carried_L1 B_) x1 m_) x4 data2 l2 x3 i1 true) ((idx x1.nums 0).bind fun x5 => (g_seat_carried_J2 B_) ((g_seat_carried_L1 B_) x1 m_) x4 data2 l2 x3 i1 ((decide (x5 < x3)) || ((decide (x4 < 0)) || ((decide ((data2.length : Int) < x4)) || (decide (200 < x4))))))) ((g_seat_carried_J1 B_) x1 l2 data2)

theorem e_seat_carried_L1 (x1 : Msg) (n_ : Nat) : seat_carried_L1 x1 n_ = g_seat_carried_L1 BIG x1 n_ := by
  induction n_ with
  | zero => rfl
  | succ m ih =>
    funext x0_ x1_ x2_ x3_
    simp only [seat_carried_L1, g_seat_carried_L1, ih, e_seat_carried_J2, e_seat_carried_J1]

def g_seat_carried_f (B_ : Nat) (x1 : Msg) : Option ((List Entry) × Bool) :=
  (idx x1.nums 2).bind fun x2 => (g_seat_carried_L1 B_) x1 B_ [] x1.data (if 1 > x2 then 1 else x2) 4

set_option maxRecDepth 20000 in
theorem e_seat_carried_f : seat_carried_f = g_seat_carried_f BIG := by
  delta seat_carried_f g_seat_carried_f
  first | rfl | (simp only [e_seat_carried_L1]; done) | (funext _; simp only [e_seat_carried_L1])

def g_seat_isFor_1_f (B_ : Nat) (k1 : Int) : Option Bool :=
  some ((decide (k1 < 0)))

set_option maxRecDepth 20000 in
theorem e_seat_isFor_1_f : seat_isFor_1_f = g_seat_isFor_1_f BIG := by
  delta seat_isFor_1_f g_seat_isFor_1_f
  first | rfl | (simp only []; done) | (funext _; simp only [])

def g_seat_machine_own_f (B_ : Nat) (m1 : Machine) : Option Int :=
  ((g_slices_Index_f B_) m1.seat.peers m1.seat.id).bind fun r1 => some (r1)

set_option maxRecDepth 20000 in
theorem e_seat_machine_own_f : seat_machine_own_f = g_seat_machine_own_f BIG := by
  delta seat_machine_own_f g_seat_machine_own_f
  first | rfl | (simp only [e_slices_Index_f]; done) | (funext _; simp only [e_slices_Index_f])

def g_seat_machine_last_f (B_ : Nat) (m1 : Machine) : Option Int :=
  cond (decide (0 < (m1.seat.log.length : Int))) ((idx m1.seat.log (IntKind.wrap .i64 ((m1.seat.log.length : Int) - 1))).bind fun x1 => some (x1.term)) (some (0))

set_option maxRecDepth 20000 in
theorem e_seat_machine_last_f : seat_machine_last_f = g_seat_machine_last_f BIG := by
  delta seat_machine_last_f g_seat_machine_last_f
  first | rfl | (simp only []; done) | (funext _; simp only [])

def g_seat_machine_send_f (B_ : Nat) (m1 : Machine) (to1 : Int) (kind1 : Int) (data1 : List Int) (nums1 : List Int) : Option Machine :=
  chk ((m1.out.length + 1) * 72 ≤ 140737488355328) (some ((⟨m1.seat, (m1.out ++ [(⟨m1.seat.id, to1, kind1, nums1, data1⟩ : Msg)])⟩ : Machine)))

set_option maxRecDepth 20000 in
theorem e_seat_machine_send_f : seat_machine_send_f = g_seat_machine_send_f BIG := by
  delta seat_machine_send_f g_seat_machine_send_f
  first | rfl | (simp only []; done) | (funext _ _ _ _ _; simp only [])

def g_seat_machine_put_J2 (B_ : Nat) (m1 : Machine) (i1 : Int) (nums2 : List Int) (data1 : List Int) : Option Machine :=
  (idx m1.seat.peers i1).bind fun x2 => ((g_seat_machine_send_f B_) m1 x2 3 data1 nums2).bind fun r1 => some (r1)

set_option maxRecDepth 20000 in
theorem e_seat_machine_put_J2 : seat_machine_put_J2 = g_seat_machine_put_J2 BIG := by
  delta seat_machine_put_J2 g_seat_machine_put_J2
  first | rfl | (simp only [e_seat_machine_send_f]; done) | (funext _ _ _ _; simp only [e_seat_machine_send_f])

def g_seat_machine_put_L1 (B_ : Nat) (m1 : Machine) (i1 : Int) : Nat → (List Int) → (List Int) → (List Entry) → Int → Int → Option Machine
  | 0, _, _, _, _, _ => none
  | m_ + 1, nums3, data2, v1, v2, v3 => cond (decide (v3 < v2)) ((idx v1 v3).bind fun x3 => chk ((nums3.length + 2) * 8 ≤ 140737488355328) (chk ((data2.length + x3.data.length) * 1 ≤ 140737488355328) ((g_seat_machine_put_L1 B_) m1 i1 m_ (nums3 ++ [x3.term, (x3.data.length : Int)]) (data2 ++ x3.data) v1 v2 (IntKind.wrap .i64 (v3 + 1))))) ((g_seat_machine_put_J2 B_) m1 i1 nums3 data2)

theorem e_seat_machine_put_L1 (m1 : Machine) (i1 : Int) (n_ : Nat) : seat_machine_put_L1 m1 i1 n_ = g_seat_machine_put_L1 BIG m1 i1 n_ := by
  induction n_ with
  | zero => rfl
  | succ m ih =>
    funext x0_ x1_ x2_ x3_ x4_
    simp only [seat_machine_put_L1, g_seat_machine_put_L1, ih, e_seat_machine_put_J2]

def g_seat_machine_put_J1 (B_ : Nat) (m1 : Machine) (i1 : Int) (at1 : Int) (nums1 : List Int) : Option Machine :=
  chk (0 ≤ at1 ∧ at1 ≤ (if (m1.seat.log.length : Int) < (IntKind.wrap .i64 (at1 + 8)) then (m1.seat.log.length : Int) else (IntKind.wrap .i64 (at1 + 8))) ∧ (if (m1.seat.log.length : Int) < (IntKind.wrap .i64 (at1 + 8)) then (m1.seat.log.length : Int) else (IntKind.wrap .i64 (at1 + 8))) ≤ (m1.seat.log.length : Int)) ((g_seat_machine_put_L1 B_) m1 i1 B_ nums1 [] ((m1.seat.log.take (if (m1.seat.log.length : Int) < (IntKind.wrap .i64 (at1 + 8)) then (m1.seat.log.length : Int) else (IntKind.wrap .i64 (at1 + 8))).toNat).drop at1.toNat) (((m1.seat.log.take (if (m1.seat.log.length : Int) < (IntKind.wrap .i64 (at1 + 8)) then (m1.seat.log.length : Int) else (IntKind.wrap .i64 (at1 + 8))).toNat).drop at1.toNat).length : Int) 0)

set_option maxRecDepth 20000 in
theorem e_seat_machine_put_J1 : seat_machine_put_J1 = g_seat_machine_put_J1 BIG := by
  delta seat_machine_put_J1 g_seat_machine_put_J1
  first | rfl | (simp only [e_seat_machine_put_L1]; done) | (funext _ _ _ _; simp only [e_seat_machine_put_L1])

def g_seat_machine_put_f (B_ : Nat) (m1 : Machine) (i1 : Int) : Option Machine :=
  (idx m1.seat.next i1).bind fun x1 => cond (decide (0 < (IntKind.wrap .i64 (x1 - 1)))) ((idx m1.seat.log (IntKind.wrap .i64 ((IntKind.wrap .i64 (x1 - 1)) - 1))).bind fun x4 => (idx [m1.seat.term, (IntKind.wrap .i64 (x1 - 1)), 0, m1.seat.commit] 2).bind fun x5 => (g_seat_machine_put_J1 B_) m1 i1 (IntKind.wrap .i64 (x1 - 1)) ([m1.seat.term, (IntKind.wrap .i64 (x1 - 1)), 0, m1.seat.commit].set 2 x4.term)) ((g_seat_machine_put_J1 B_) m1 i1 (IntKind.wrap .i64 (x1 - 1)) [m1.seat.term, (IntKind.wrap .i64 (x1 - 1)), 0, m1.seat.commit])

set_option maxRecDepth 20000 in
theorem e_seat_machine_put_f : seat_machine_put_f = g_seat_machine_put_f BIG := by
  delta seat_machine_put_f g_seat_machine_put_f
  first | rfl | (simp only [e_seat_machine_put_J1]; done) | (funext _ _; simp only [e_seat_machine_put_J1])

def g_seat_machine_all_put_J1 (B_ : Nat) (k_seat_machine_all_put_L1 : Int → (List Int) → Int → Int → Int → (List Entry) → Int → (List Int) → (List Int) → (List Int) → (List Msg) → Int → Option Machine) (v1 : Int) (id2 : Int) (peers2 : List Int) (term2 : Int) (voted2 : Int) (role2 : Int) (log2 : List Entry) (commit2 : Int) (votes2 : List Int) (next2 : List Int) (match2 : List Int) (out2 : List Msg) : Option Machine :=
  k_seat_machine_all_put_L1 id2 peers2 term2 voted2 role2 log2 commit2 votes2 next2 match2 out2 (IntKind.wrap .i64 (v1 + 1))

set_option maxRecDepth 20000 in
theorem e_seat_machine_all_put_J1 : seat_machine_all_put_J1 = g_seat_machine_all_put_J1 BIG := by
  delta seat_machine_all_put_J1 g_seat_machine_all_put_J1
  first | rfl | (simp only []; done) | (funext _ _ _ _ _ _ _ _ _ _ _ _ _; simp only [])

def g_seat_machine_all_put_L1 (B_ : Nat) (m1 : Machine) : Nat → Int → (List Int) → Int → Int → Int → (List Entry) → Int → (List Int) → (List Int) → (List Int) → (List Msg) → Int → Option Machine
  | 0, _, _, _, _, _, _, _, _, _, _, _, _ => none
  | m_ + 1, id1, peers1, term1, voted1, role1, log1, commit1, votes1, next1, match1, out1, v1 => cond (decide (v1 < (m1.seat.peers.length : Int))) ((idx m1.seat.peers v1).bind fun x1 => cond (x1 != id1) (((g_seat_machine_put_f B_) (⟨(⟨id1, peers1, term1, voted1, role1, log1, commit1, votes1, next1, match1⟩ : Seat), out1⟩ : Machine) v1).bind fun r1 => (g_seat_machine_all_put_J1 B_) ((g_seat_machine_all_put_L1 B_) m1 m_) v1 r1.seat.id r1.seat.peers r1.seat.term r1.seat.voted r1.seat.role r1.seat.log r1.seat.commit r1.seat.votes r1.seat.next r1.seat.match_ r1.out) ((g_seat_machine_all_put_J1 B_) ((g_seat_machine_all_put_L1 B_) m1 m_) v1 id1 peers1 term1 voted1 role1 log1 commit1 votes1 next1 match1 out1)) (some ((⟨(⟨id1, peers1, term1, voted1, role1, log1, commit1, votes1, next1, match1⟩ : Seat), out1⟩ : Machine)))

theorem e_seat_machine_all_put_L1 (m1 : Machine) (n_ : Nat) : seat_machine_all_put_L1 m1 n_ = g_seat_machine_all_put_L1 BIG m1 n_ := by
  induction n_ with
  | zero => rfl
  | succ m ih =>
    funext x0_ x1_ x2_ x3_ x4_ x5_ x6_ x7_ x8_ x9_ x10_ x11_
    simp only [seat_machine_all_put_L1, g_seat_machine_all_put_L1, ih, e_seat_machine_put_f, e_seat_machine_all_put_J1]

def g_seat_machine_all_put_f (B_ : Nat) (m1 : Machine) (do1 : Int → Option Unit) : Option Machine :=
  (g_seat_machine_all_put_L1 B_) m1 B_ m1.seat.id m1.seat.peers m1.seat.term m1.seat.voted m1.seat.role m1.seat.log m1.seat.commit m1.seat.votes m1.seat.next m1.seat.match_ m1.out 0

set_option maxRecDepth 20000 in
theorem e_seat_machine_all_put_f : seat_machine_all_put_f = g_seat_machine_all_put_f BIG := by
  delta seat_machine_all_put_f g_seat_machine_all_put_f
  first | rfl | (simp only [e_seat_machine_all_put_L1]; done) | (funext _ _; simp only [e_seat_machine_all_put_L1])

def g_seat_machine_commit_f (B_ : Nat) (m1 : Machine) : Option Machine :=
  ((g_log_Commit_f B_) m1.seat.log m1.seat.term m1.seat.match_ m1.seat.commit).bind fun r1 => some ((⟨(⟨m1.seat.id, m1.seat.peers, m1.seat.term, m1.seat.voted, m1.seat.role, m1.seat.log, r1, m1.seat.votes, m1.seat.next, m1.seat.match_⟩ : Seat), m1.out⟩ : Machine))

set_option maxRecDepth 20000 in
theorem e_seat_machine_commit_f : seat_machine_commit_f = g_seat_machine_commit_f BIG := by
  delta seat_machine_commit_f g_seat_machine_commit_f
  first | rfl | (simp only [e_log_Commit_f]; done) | (funext _; simp only [e_log_Commit_f])

def g_seat_machine_ask_J1 (B_ : Nat) (r1 : Seat × Bool) (m1 : Machine) (x1 : Msg) (yes1 : Int) : Option Machine :=
  ((g_seat_machine_send_f B_) (⟨r1.1, m1.out⟩ : Machine) x1.from_ 2 [] [r1.1.term, yes1]).bind fun r2 => some (r2)

set_option maxRecDepth 20000 in
theorem e_seat_machine_ask_J1 : seat_machine_ask_J1 = g_seat_machine_ask_J1 BIG := by
  delta seat_machine_ask_J1 g_seat_machine_ask_J1
  first | rfl | (simp only [e_seat_machine_send_f]; done) | (funext _ _ _ _; simp only [e_seat_machine_send_f])

def g_seat_machine_ask_f (B_ : Nat) (m1 : Machine) (x1 : Msg) : Option Machine :=
  (idx x1.nums 0).bind fun x2 => (idx x1.nums 1).bind fun x3 => (idx x1.nums 2).bind fun x4 => ((g_vote_Ask_f B_) m1.seat x2 x1.from_ x3 x4).bind fun r1 => cond r1.2 ((g_seat_machine_ask_J1 B_) r1 m1 x1 1) ((g_seat_machine_ask_J1 B_) r1 m1 x1 0)

set_option maxRecDepth 20000 in
theorem e_seat_machine_ask_f : seat_machine_ask_f = g_seat_machine_ask_f BIG := by
  delta seat_machine_ask_f g_seat_machine_ask_f
  first | rfl | (simp only [e_vote_Ask_f, e_seat_machine_ask_J1]; done) | (funext _ _; simp only [e_vote_Ask_f, e_seat_machine_ask_J1])

def g_seat_machine_puts_J1 (B_ : Nat) (m1 : Machine) (x1 : Msg) (x3 : Int) (r3 : (List Entry) × Bool) (r2 : (List Entry) × Bool) (v1 : Bool) : Option Machine :=
  cond v1 (((g_seat_machine_send_f B_) (⟨(⟨m1.seat.id, m1.seat.peers, m1.seat.term, m1.seat.voted, 1, m1.seat.log, m1.seat.commit, [], m1.seat.next, m1.seat.match_⟩ : Seat), m1.out⟩ : Machine) x1.from_ 4 [] [m1.seat.term, 0, (if (if (IntKind.wrap .i64 (x3 - 1)) < (m1.seat.log.length : Int) then (IntKind.wrap .i64 (x3 - 1)) else (m1.seat.log.length : Int)) > 0 then (if (IntKind.wrap .i64 (x3 - 1)) < (m1.seat.log.length : Int) then (IntKind.wrap .i64 (x3 - 1)) else (m1.seat.log.length : Int)) else 0)]).bind fun r4 => some (r4)) ((idx x1.nums 3).bind fun x5 => ((g_seat_machine_send_f B_) (⟨(⟨m1.seat.id, m1.seat.peers, m1.seat.term, m1.seat.voted, 1, r3.1, (if (if (IntKind.wrap .i64 (x3 + (r2.1.length : Int))) < x5 then (IntKind.wrap .i64 (x3 + (r2.1.length : Int))) else x5) > m1.seat.commit then (if (IntKind.wrap .i64 (x3 + (r2.1.length : Int))) < x5 then (IntKind.wrap .i64 (x3 + (r2.1.length : Int))) else x5) else m1.seat.commit), [], m1.seat.next, m1.seat.match_⟩ : Seat), m1.out⟩ : Machine) x1.from_ 4 [] [m1.seat.term, 1, (IntKind.wrap .i64 (x3 + (r2.1.length : Int)))]).bind fun r5 => some (r5))

set_option maxRecDepth 20000 in
theorem e_seat_machine_puts_J1 : seat_machine_puts_J1 = g_seat_machine_puts_J1 BIG := by
  delta seat_machine_puts_J1 g_seat_machine_puts_J1
  first | rfl | (simp only [e_seat_machine_send_f]; done) | (funext _ _ _ _ _ _; simp only [e_seat_machine_send_f])

def g_seat_machine_puts_f (B_ : Nat) (m1 : Machine) (x1 : Msg) : Option Machine :=
  (idx x1.nums 0).bind fun x2 => cond (decide (x2 < m1.seat.term)) (((g_seat_machine_send_f B_) m1 x1.from_ 4 [] [m1.seat.term, 0, 0]).bind fun r1 => some (r1)) (cond (m1.seat.role == 3) (some (m1)) (((g_seat_carried_f B_) x1).bind fun r2 => (idx x1.nums 1).bind fun x3 => (idx x1.nums 2).bind fun x4 => ((g_log_Put_f B_) m1.seat.log x3 x4 r2.1).bind fun r3 => cond (!r3.2) ((g_seat_machine_puts_J1 B_) m1 x1 x3 r3 r2 true) (cond (decide ((r3.1.length : Int) < m1.seat.commit)) ((g_seat_machine_puts_J1 B_) m1 x1 x3 r3 r2 true) (chk (0 ≤ 0 ∧ 0 ≤ m1.seat.commit ∧ m1.seat.commit ≤ (r3.1.length : Int)) (chk (0 ≤ 0 ∧ 0 ≤ m1.seat.commit ∧ m1.seat.commit ≤ (m1.seat.log.length : Int)) (((g_log_Same_f B_) ((r3.1.take m1.seat.commit.toNat).drop 0) ((m1.seat.log.take m1.seat.commit.toNat).drop 0)).bind fun r6 => (g_seat_machine_puts_J1 B_) m1 x1 x3 r3 r2 (!r6)))))))

set_option maxRecDepth 20000 in
theorem e_seat_machine_puts_f : seat_machine_puts_f = g_seat_machine_puts_f BIG := by
  delta seat_machine_puts_f g_seat_machine_puts_f
  first | rfl | (simp only [e_seat_machine_send_f, e_seat_carried_f, e_log_Put_f, e_seat_machine_puts_J1, e_log_Same_f]; done) | (funext _ _; simp only [e_seat_machine_send_f, e_seat_carried_f, e_log_Put_f, e_seat_machine_puts_J1, e_log_Same_f])

def g_seat_machine_lead_J1 (B_ : Nat) (m1 : Machine) (next1 : List Int) (match1 : List Int) : Option (Bool × Machine) :=
  ((g_seat_machine_own_f B_) (⟨(⟨m1.seat.id, m1.seat.peers, m1.seat.term, m1.seat.voted, 3, m1.seat.log, m1.seat.commit, [], next1, match1⟩ : Seat), m1.out⟩ : Machine)).bind fun r2 => (idx match1 r2).bind fun x1 => ((g_seat_machine_commit_f B_) (⟨(⟨m1.seat.id, m1.seat.peers, m1.seat.term, m1.seat.voted, 3, m1.seat.log, m1.seat.commit, [], next1, (match1.set r2.toNat (m1.seat.log.length : Int))⟩ : Seat), m1.out⟩ : Machine)).bind fun r3 => ((g_seat_machine_all_put_f B_) r3 (fun _ => none)).bind fun r4 => some (true, r4)

set_option maxRecDepth 20000 in
theorem e_seat_machine_lead_J1 : seat_machine_lead_J1 = g_seat_machine_lead_J1 BIG := by
  delta seat_machine_lead_J1 g_seat_machine_lead_J1
  first | rfl | (simp only [e_seat_machine_own_f, e_seat_machine_commit_f, e_seat_machine_all_put_f]; done) | (funext _ _ _; simp only [e_seat_machine_own_f, e_seat_machine_commit_f, e_seat_machine_all_put_f])

def g_seat_machine_lead_L1 (B_ : Nat) (m1 : Machine) : Nat → (List Int) → (List Int) → Int → Option (Bool × Machine)
  | 0, _, _, _ => none
  | m_ + 1, next2, match2, v1 => cond (decide (v1 < (m1.seat.peers.length : Int))) (chk ((next2.length + 1) * 8 ≤ 140737488355328) (chk ((match2.length + 1) * 8 ≤ 140737488355328) ((g_seat_machine_lead_L1 B_) m1 m_ (next2 ++ [(IntKind.wrap .i64 ((m1.seat.log.length : Int) + 1))]) (match2 ++ [0]) (IntKind.wrap .i64 (v1 + 1))))) ((g_seat_machine_lead_J1 B_) m1 next2 match2)

theorem e_seat_machine_lead_L1 (m1 : Machine) (n_ : Nat) : seat_machine_lead_L1 m1 n_ = g_seat_machine_lead_L1 BIG m1 n_ := by
  induction n_ with
  | zero => rfl
  | succ m ih =>
    funext x0_ x1_ x2_
    simp only [seat_machine_lead_L1, g_seat_machine_lead_L1, ih, e_seat_machine_lead_J1]

def g_seat_machine_lead_f (B_ : Nat) (m1 : Machine) : Option (Bool × Machine) :=
  ((g_vote_Won_f B_) m1.seat.votes m1.seat.peers).bind fun r1 => cond (!r1) (some (false, m1)) ((g_seat_machine_lead_L1 B_) m1 B_ [] [] 0)

set_option maxRecDepth 20000 in
theorem e_seat_machine_lead_f : seat_machine_lead_f = g_seat_machine_lead_f BIG := by
  delta seat_machine_lead_f g_seat_machine_lead_f
  first | rfl | (simp only [e_vote_Won_f, e_seat_machine_lead_L1]; done) | (funext _; simp only [e_vote_Won_f, e_seat_machine_lead_L1])

def g_seat_machine_voted_J1 (B_ : Nat) (m1 : Machine) (x1 : Msg) (v1 : Bool) : Option Machine :=
  cond v1 (some (m1)) (((g_slices_Clone_57_f B_) m1.seat.votes).bind fun r1 => chk ((r1.length + 1) * 8 ≤ 140737488355328) (((g_slices_Sort_f B_) (r1 ++ [x1.from_])).bind fun r2 => chk (r2.length = r1.length + 1) (((g_seat_machine_lead_f B_) (⟨(⟨m1.seat.id, m1.seat.peers, m1.seat.term, m1.seat.voted, m1.seat.role, m1.seat.log, m1.seat.commit, r2, m1.seat.next, m1.seat.match_⟩ : Seat), m1.out⟩ : Machine)).bind fun r3 => some (r3.2))))

set_option maxRecDepth 20000 in
theorem e_seat_machine_voted_J1 : seat_machine_voted_J1 = g_seat_machine_voted_J1 BIG := by
  delta seat_machine_voted_J1 g_seat_machine_voted_J1
  first | rfl | (simp only [e_slices_Clone_57_f, e_slices_Sort_f, e_seat_machine_lead_f]; done) | (funext _ _ _; simp only [e_slices_Clone_57_f, e_slices_Sort_f, e_seat_machine_lead_f])

def g_seat_machine_voted_f (B_ : Nat) (m1 : Machine) (x1 : Msg) : Option Machine :=
  (idx x1.nums 0).bind fun x2 => cond (x2 != m1.seat.term) ((g_seat_machine_voted_J1 B_) m1 x1 true) (cond (m1.seat.role != 2) ((g_seat_machine_voted_J1 B_) m1 x1 true) ((idx x1.nums 1).bind fun x3 => cond (x3 == 0) ((g_seat_machine_voted_J1 B_) m1 x1 true) (((g_slices_Contains_f B_) m1.seat.votes x1.from_).bind fun r4 => (g_seat_machine_voted_J1 B_) m1 x1 r4)))

set_option maxRecDepth 20000 in
theorem e_seat_machine_voted_f : seat_machine_voted_f = g_seat_machine_voted_f BIG := by
  delta seat_machine_voted_f g_seat_machine_voted_f
  first | rfl | (simp only [e_seat_machine_voted_J1, e_slices_Contains_f]; done) | (funext _ _; simp only [e_seat_machine_voted_J1, e_slices_Contains_f])

def g_seat_machine_told_J1 (B_ : Nat) (m1 : Machine) (x1 : Msg) (x2 : Int) (v1 : Bool) : Option Machine :=
  cond v1 (some (m1)) (((g_slices_Index_f B_) m1.seat.peers x1.from_).bind fun r1 => ((g_slices_Clone_57_f B_) m1.seat.next).bind fun r2 => ((g_slices_Clone_57_f B_) m1.seat.match_).bind fun r3 => (idx x1.nums 1).bind fun x3 => cond (x3 == 0) ((idx r3 r1).bind fun x4 => (idx r2 r1).bind fun x5 => ((g_seat_machine_put_f B_) (⟨(⟨m1.seat.id, m1.seat.peers, m1.seat.term, m1.seat.voted, m1.seat.role, m1.seat.log, m1.seat.commit, m1.seat.votes, (r2.set r1.toNat (if (if (IntKind.wrap .i64 (x2 + 1)) < x5 then (IntKind.wrap .i64 (x2 + 1)) else x5) > (IntKind.wrap .i64 (x4 + 1)) then (if (IntKind.wrap .i64 (x2 + 1)) < x5 then (IntKind.wrap .i64 (x2 + 1)) else x5) else (IntKind.wrap .i64 (x4 + 1)))), r3⟩ : Seat), m1.out⟩ : Machine) r1).bind fun r4 => some (r4)) ((idx r3 r1).bind fun x6 => (idx (r3.set r1.toNat (if x2 > x6 then x2 else x6)) r1).bind fun x7 => (idx r2 r1).bind fun x8 => ((g_seat_machine_commit_f B_) (⟨(⟨m1.seat.id, m1.seat.peers, m1.seat.term, m1.seat.voted, m1.seat.role, m1.seat.log, m1.seat.commit, m1.seat.votes, (r2.set r1.toNat (IntKind.wrap .i64 (x7 + 1))), (r3.set r1.toNat (if x2 > x6 then x2 else x6))⟩ : Seat), m1.out⟩ : Machine)).bind fun r5 => (idx r5.seat.match_ r1).bind fun x9 => cond (decide (x9 < (r5.seat.log.length : Int))) (((g_seat_machine_put_f B_) r5 r1).bind fun r6 => some (r6)) (some (r5))))

set_option maxRecDepth 20000 in
theorem e_seat_machine_told_J1 : seat_machine_told_J1 = g_seat_machine_told_J1 BIG := by
  delta seat_machine_told_J1 g_seat_machine_told_J1
  first | rfl | (simp only [e_slices_Index_f, e_slices_Clone_57_f, e_seat_machine_put_f, e_seat_machine_commit_f]; done) | (funext _ _ _ _; simp only [e_slices_Index_f, e_slices_Clone_57_f, e_seat_machine_put_f, e_seat_machine_commit_f])

def g_seat_machine_told_f (B_ : Nat) (m1 : Machine) (x1 : Msg) : Option Machine :=
  (idx x1.nums 2).bind fun x2 => (idx x1.nums 0).bind fun x10 => (g_seat_machine_told_J1 B_) m1 x1 x2 ((x10 != m1.seat.term) || ((m1.seat.role != 3) || (decide ((m1.seat.log.length : Int) < x2))))

set_option maxRecDepth 20000 in
theorem e_seat_machine_told_f : seat_machine_told_f = g_seat_machine_told_f BIG := by
  delta seat_machine_told_f g_seat_machine_told_f
  first | rfl | (simp only [e_seat_machine_told_J1]; done) | (funext _ _; simp only [e_seat_machine_told_J1])

def g_seat_Offer_J1 (B_ : Nat) (s1 : Seat) (data1 : List Int) (v1 : Bool) : Option (Seat × Int × Bool) :=
  cond v1 (some (s1, 0, false)) (((g_slices_Clone_f B_) s1.log).bind fun r1 => ((g_slices_Clone_56_f B_) data1).bind fun r2 => chk ((r1.length + 1) * 32 ≤ 140737488355328) (((g_slices_Clone_57_f B_) s1.next).bind fun r3 => ((g_slices_Clone_57_f B_) s1.match_).bind fun r4 => ((g_seat_machine_own_f B_) (⟨(⟨s1.id, s1.peers, s1.term, s1.voted, s1.role, (r1 ++ [(⟨s1.term, r2⟩ : Entry)]), s1.commit, s1.votes, r3, r4⟩ : Seat), []⟩ : Machine)).bind fun r5 => (idx r3 r5).bind fun x1 => ((g_seat_machine_own_f B_) (⟨(⟨s1.id, s1.peers, s1.term, s1.voted, s1.role, (r1 ++ [(⟨s1.term, r2⟩ : Entry)]), s1.commit, s1.votes, (r3.set r5.toNat (IntKind.wrap .i64 (x1 + 1))), r4⟩ : Seat), []⟩ : Machine)).bind fun r6 => (idx r4 r6).bind fun x2 => ((g_seat_machine_commit_f B_) (⟨(⟨s1.id, s1.peers, s1.term, s1.voted, s1.role, (r1 ++ [(⟨s1.term, r2⟩ : Entry)]), s1.commit, s1.votes, (r3.set r5.toNat (IntKind.wrap .i64 (x1 + 1))), (r4.set r6.toNat (IntKind.wrap .i64 (x2 + 1)))⟩ : Seat), []⟩ : Machine)).bind fun r7 => some (r7.seat, (r7.seat.log.length : Int), true)))

set_option maxRecDepth 20000 in
theorem e_seat_Offer_J1 : seat_Offer_J1 = g_seat_Offer_J1 BIG := by
  delta seat_Offer_J1 g_seat_Offer_J1
  first | rfl | (simp only [e_slices_Clone_f, e_slices_Clone_56_f, e_slices_Clone_57_f, e_seat_machine_own_f, e_seat_machine_commit_f]; done) | (funext _ _ _; simp only [e_slices_Clone_f, e_slices_Clone_56_f, e_slices_Clone_57_f, e_seat_machine_own_f, e_seat_machine_commit_f])

def g_seat_Offer_f (B_ : Nat) (s1 : Seat) (data1 : List Int) : Option (Seat × Int × Bool) :=
  (g_seat_Offer_J1 B_) s1 data1 ((s1.role != 3) || ((decide (500 ≤ (s1.log.length : Int))) || (decide (200 < (data1.length : Int)))))

set_option maxRecDepth 20000 in
theorem e_seat_Offer_f : seat_Offer_f = g_seat_Offer_f BIG := by
  delta seat_Offer_f g_seat_Offer_f
  first | rfl | (simp only [e_seat_Offer_J1]; done) | (funext _ _; simp only [e_seat_Offer_J1])

def g_seat_isFor_J1 (B_ : Nat) (x1 : Msg) (v1 : Bool) : Option Bool :=
  cond v1 (some (false)) (cond (x1.kind == 3) (((g_seat_carried_f B_) x1).bind fun r1 => some (r1.2)) (cond (x1.kind == 1) (some (true)) ((idx x1.nums 1).bind fun x2 => some ((decide (x2 ≤ 1))))))

set_option maxRecDepth 20000 in
theorem e_seat_isFor_J1 : seat_isFor_J1 = g_seat_isFor_J1 BIG := by
  delta seat_isFor_J1 g_seat_isFor_J1
  first | rfl | (simp only [e_seat_carried_f]; done) | (funext _ _; simp only [e_seat_carried_f])

def g_seat_isFor_f (B_ : Nat) (s1 : Seat) (x1 : Msg) : Option Bool :=
  chk (-9223372036854775808 ≤ x1.kind ∧ x1.kind ≤ 9223372036854775807) (cond (!(isKind x1.kind)) ((g_seat_isFor_J1 B_) x1 true) (cond (x1.to_ != s1.id) ((g_seat_isFor_J1 B_) x1 true) (cond (x1.from_ == s1.id) ((g_seat_isFor_J1 B_) x1 true) (((g_slices_Contains_f B_) s1.peers x1.from_).bind fun r2 => cond (!r2) ((g_seat_isFor_J1 B_) x1 true) (cond (decide ((x1.nums.length : Int) < (numOf x1.kind))) ((g_seat_isFor_J1 B_) x1 true) (cond (x1.kind != 3) (cond (decide ((numOf x1.kind) < (IntKind.wrap .i64 ((x1.nums.length : Int) + (x1.data.length : Int))))) ((g_seat_isFor_J1 B_) x1 true) ((idx x1.nums 0).bind fun x3 => cond (decide (1099511627776 < x3)) ((g_seat_isFor_J1 B_) x1 true) (((g_slices_ContainsFunc_f B_) x1.nums (g_seat_isFor_1_f B_)).bind fun r3 => (g_seat_isFor_J1 B_) x1 r3))) ((idx x1.nums 0).bind fun x4 => cond (decide (1099511627776 < x4)) ((g_seat_isFor_J1 B_) x1 true) (((g_slices_ContainsFunc_f B_) x1.nums (g_seat_isFor_1_f B_)).bind fun r4 => (g_seat_isFor_J1 B_) x1 r4))))))))

set_option maxRecDepth 20000 in
theorem e_seat_isFor_f : seat_isFor_f = g_seat_isFor_f BIG := by
  delta seat_isFor_f g_seat_isFor_f
  first | rfl | (simp only [e_seat_isFor_J1, e_slices_Contains_f, e_slices_ContainsFunc_f, e_seat_isFor_1_f]; done) | (funext _ _; simp only [e_seat_isFor_J1, e_slices_Contains_f, e_slices_ContainsFunc_f, e_seat_isFor_1_f])

def g_seat_Hear_J1 (B_ : Nat) (x1 : Msg) (id1 : Int) (peers1 : List Int) (term1 : Int) (voted1 : Int) (role1 : Int) (log1 : List Entry) (commit1 : Int) (votes1 : List Int) (next1 : List Int) (match1 : List Int) : Option (Seat × (List Msg)) :=
  four x1.kind (((g_seat_machine_ask_f B_) (⟨(⟨id1, peers1, term1, voted1, role1, log1, commit1, votes1, next1, match1⟩ : Seat), []⟩ : Machine) x1).bind fun r2 => some (r2.seat, r2.out)) (((g_seat_machine_voted_f B_) (⟨(⟨id1, peers1, term1, voted1, role1, log1, commit1, votes1, next1, match1⟩ : Seat), []⟩ : Machine) x1).bind fun r3 => some (r3.seat, r3.out)) (((g_seat_machine_puts_f B_) (⟨(⟨id1, peers1, term1, voted1, role1, log1, commit1, votes1, next1, match1⟩ : Seat), []⟩ : Machine) x1).bind fun r4 => some (r4.seat, r4.out)) (((g_seat_machine_told_f B_) (⟨(⟨id1, peers1, term1, voted1, role1, log1, commit1, votes1, next1, match1⟩ : Seat), []⟩ : Machine) x1).bind fun r5 => some (r5.seat, r5.out))

set_option maxRecDepth 20000 in
theorem e_seat_Hear_J1 : seat_Hear_J1 = g_seat_Hear_J1 BIG := by
  delta seat_Hear_J1 g_seat_Hear_J1
  first | rfl | (simp only [e_seat_machine_ask_f, e_seat_machine_voted_f, e_seat_machine_puts_f, e_seat_machine_told_f]; done) | (funext _ _ _ _ _ _ _ _ _ _ _; simp only [e_seat_machine_ask_f, e_seat_machine_voted_f, e_seat_machine_puts_f, e_seat_machine_told_f])

def g_seat_Hear_J2 (B_ : Nat) (x1 : Msg) (s1 : Seat) (v1 : Bool) : Option (Seat × (List Msg)) :=
  cond v1 ((idx x1.nums 0).bind fun x2 => ((g_vote_Down_f B_) s1 x2).bind fun r6 => (g_seat_Hear_J1 B_) x1 r6.id r6.peers r6.term r6.voted r6.role r6.log r6.commit r6.votes r6.next r6.match_) ((g_seat_Hear_J1 B_) x1 s1.id s1.peers s1.term s1.voted s1.role s1.log s1.commit s1.votes s1.next s1.match_)

set_option maxRecDepth 20000 in
theorem e_seat_Hear_J2 : seat_Hear_J2 = g_seat_Hear_J2 BIG := by
  delta seat_Hear_J2 g_seat_Hear_J2
  first | rfl | (simp only [e_vote_Down_f, e_seat_Hear_J1]; done) | (funext _ _ _; simp only [e_vote_Down_f, e_seat_Hear_J1])

def g_seat_Hear_f (B_ : Nat) (s1 : Seat) (x1 : Msg) : Option (Seat × (List Msg)) :=
  ((g_seat_isFor_f B_) s1 x1).bind fun r1 => cond (!r1) (some (s1, [])) (cond (x1.kind != 1) ((idx x1.nums 0).bind fun x3 => (g_seat_Hear_J2 B_) x1 s1 (decide (s1.term < x3))) ((g_seat_Hear_J2 B_) x1 s1 false))

set_option maxRecDepth 20000 in
theorem e_seat_Hear_f : seat_Hear_f = g_seat_Hear_f BIG := by
  delta seat_Hear_f g_seat_Hear_f
  first | rfl | (simp only [e_seat_isFor_f, e_seat_Hear_J2]; done) | (funext _ _; simp only [e_seat_isFor_f, e_seat_Hear_J2])

def g_seat_Late_1_f (B_ : Nat) (i1 : Int) (v1 : Machine) : Option Machine :=
  (idx v1.seat.peers i1).bind fun x1 => ((g_seat_machine_last_f B_) v1).bind fun r1 => ((g_seat_machine_send_f B_) v1 x1 1 [] [v1.seat.term, r1, (v1.seat.log.length : Int)]).bind fun r2 => some (r2)

set_option maxRecDepth 20000 in
theorem e_seat_Late_1_f : seat_Late_1_f = g_seat_Late_1_f BIG := by
  delta seat_Late_1_f g_seat_Late_1_f
  first | rfl | (simp only [e_seat_machine_last_f, e_seat_machine_send_f]; done) | (funext _ _; simp only [e_seat_machine_last_f, e_seat_machine_send_f])

def g_seat_machine_all_late_J1 (B_ : Nat) (k_seat_machine_all_late_L1 : Int → (List Int) → Int → Int → Int → (List Entry) → Int → (List Int) → (List Int) → (List Int) → (List Msg) → Int → Option Machine) (v1 : Int) (id2 : Int) (peers2 : List Int) (term2 : Int) (voted2 : Int) (role2 : Int) (log2 : List Entry) (commit2 : Int) (votes2 : List Int) (next2 : List Int) (match2 : List Int) (out2 : List Msg) : Option Machine :=
  k_seat_machine_all_late_L1 id2 peers2 term2 voted2 role2 log2 commit2 votes2 next2 match2 out2 (IntKind.wrap .i64 (v1 + 1))

set_option maxRecDepth 20000 in
theorem e_seat_machine_all_late_J1 : seat_machine_all_late_J1 = g_seat_machine_all_late_J1 BIG := by
  delta seat_machine_all_late_J1 g_seat_machine_all_late_J1
  first | rfl | (simp only []; done) | (funext _ _ _ _ _ _ _ _ _ _ _ _ _; simp only [])

def g_seat_machine_all_late_L1 (B_ : Nat) (m1 : Machine) : Nat → Int → (List Int) → Int → Int → Int → (List Entry) → Int → (List Int) → (List Int) → (List Int) → (List Msg) → Int → Option Machine
  | 0, _, _, _, _, _, _, _, _, _, _, _, _ => none
  | m_ + 1, id1, peers1, term1, voted1, role1, log1, commit1, votes1, next1, match1, out1, v1 => cond (decide (v1 < (m1.seat.peers.length : Int))) ((idx m1.seat.peers v1).bind fun x1 => cond (x1 != id1) (((g_seat_Late_1_f B_) v1 (⟨(⟨id1, peers1, term1, voted1, role1, log1, commit1, votes1, next1, match1⟩ : Seat), out1⟩ : Machine)).bind fun r1 => (g_seat_machine_all_late_J1 B_) ((g_seat_machine_all_late_L1 B_) m1 m_) v1 r1.seat.id r1.seat.peers r1.seat.term r1.seat.voted r1.seat.role r1.seat.log r1.seat.commit r1.seat.votes r1.seat.next r1.seat.match_ r1.out) ((g_seat_machine_all_late_J1 B_) ((g_seat_machine_all_late_L1 B_) m1 m_) v1 id1 peers1 term1 voted1 role1 log1 commit1 votes1 next1 match1 out1)) (some ((⟨(⟨id1, peers1, term1, voted1, role1, log1, commit1, votes1, next1, match1⟩ : Seat), out1⟩ : Machine)))

theorem e_seat_machine_all_late_L1 (m1 : Machine) (n_ : Nat) : seat_machine_all_late_L1 m1 n_ = g_seat_machine_all_late_L1 BIG m1 n_ := by
  induction n_ with
  | zero => rfl
  | succ m ih =>
    funext x0_ x1_ x2_ x3_ x4_ x5_ x6_ x7_ x8_ x9_ x10_ x11_
    simp only [seat_machine_all_late_L1, g_seat_machine_all_late_L1, ih, e_seat_Late_1_f, e_seat_machine_all_late_J1]

def g_seat_machine_all_late_f (B_ : Nat) (m1 : Machine) (do1 : Int → Option Unit) : Option Machine :=
  (g_seat_machine_all_late_L1 B_) m1 B_ m1.seat.id m1.seat.peers m1.seat.term m1.seat.voted m1.seat.role m1.seat.log m1.seat.commit m1.seat.votes m1.seat.next m1.seat.match_ m1.out 0

set_option maxRecDepth 20000 in
theorem e_seat_machine_all_late_f : seat_machine_all_late_f = g_seat_machine_all_late_f BIG := by
  delta seat_machine_all_late_f g_seat_machine_all_late_f
  first | rfl | (simp only [e_seat_machine_all_late_L1]; done) | (funext _ _; simp only [e_seat_machine_all_late_L1])

def g_seat_Late_f (B_ : Nat) (s1 : Seat) : Option (Seat × (List Msg)) :=
  cond (s1.role == 3) (some (s1, [])) (cond (s1.term == 1099511627776) (some (s1, [])) (((g_vote_Begin_f B_) s1).bind fun r1 => ((g_seat_machine_lead_f B_) (⟨r1, []⟩ : Machine)).bind fun r2 => cond (!r2.1) (((g_seat_machine_all_late_f B_) r2.2 (fun _ => none)).bind fun r3 => some (r3.seat, r3.out)) (some (r2.2.seat, r2.2.out))))

set_option maxRecDepth 20000 in
theorem e_seat_Late_f : seat_Late_f = g_seat_Late_f BIG := by
  delta seat_Late_f g_seat_Late_f
  first | rfl | (simp only [e_vote_Begin_f, e_seat_machine_lead_f, e_seat_machine_all_late_f]; done) | (funext _; simp only [e_vote_Begin_f, e_seat_machine_lead_f, e_seat_machine_all_late_f])

def g_seat_Right_2_f (B_ : Nat) (id1 : Int) (v1 : Seat) : Option Bool :=
  ((g_seat_Right_1_f B_) id1 v1).bind fun r1 => some ((!r1))

set_option maxRecDepth 20000 in
theorem e_seat_Right_2_f : seat_Right_2_f = g_seat_Right_2_f BIG := by
  delta seat_Right_2_f g_seat_Right_2_f
  first | rfl | (simp only [e_seat_Right_1_f]; done) | (funext _ _; simp only [e_seat_Right_1_f])

def g_seat_Right_J1 (B_ : Nat) (s1 : Seat) (v1 : Bool) : Option Bool :=
  cond v1 (some (false)) (cond (s1.role == 1) (some (((IntKind.wrap .i64 ((IntKind.wrap .i64 ((s1.votes.length : Int) + (s1.next.length : Int))) + (s1.match_.length : Int))) == 0))) (cond (s1.role == 2) (cond (decide (0 < s1.term)) (cond (s1.voted == s1.id) (((g_slices_Contains_f B_) s1.votes s1.id).bind fun r1 => some (r1 && ((IntKind.wrap .i64 ((s1.next.length : Int) + (s1.match_.length : Int))) == 0))) (some (false))) (some (false))) (cond (s1.role == 3) (cond (decide (0 < s1.term)) (((g_seat_leads_f B_) s1).bind fun r2 => some (r2)) (some (false))) (some (false)))))

set_option maxRecDepth 20000 in
theorem e_seat_Right_J1 : seat_Right_J1 = g_seat_Right_J1 BIG := by
  delta seat_Right_J1 g_seat_Right_J1
  first | rfl | (simp only [e_slices_Contains_f, e_seat_leads_f]; done) | (funext _ _; simp only [e_slices_Contains_f, e_seat_leads_f])

def g_seat_Right_f (B_ : Nat) (s1 : Seat) : Option Bool :=
  ((g_seat_peers_f B_) s1.peers).bind fun r3 => cond (!r3) ((g_seat_Right_J1 B_) s1 true) (((g_seat_Right_1_f B_) s1.id s1).bind fun r4 => cond (!r4) ((g_seat_Right_J1 B_) s1 true) (cond (decide (s1.term < 0)) ((g_seat_Right_J1 B_) s1 true) (cond (decide (1099511627776 < s1.term)) ((g_seat_Right_J1 B_) s1 true) (cond (s1.voted != (-1)) (((g_seat_Right_1_f B_) s1.voted s1).bind fun r5 => cond (!r5) ((g_seat_Right_J1 B_) s1 true) (((g_seat_entries_f B_) s1.log s1.term).bind fun r6 => cond (!r6) ((g_seat_Right_J1 B_) s1 true) (cond (decide (s1.commit < 0)) ((g_seat_Right_J1 B_) s1 true) (cond (decide ((s1.log.length : Int) < s1.commit)) ((g_seat_Right_J1 B_) s1 true) (((g_seat_rises_f B_) s1.votes).bind fun r7 => cond (!r7) ((g_seat_Right_J1 B_) s1 true) (((g_slices_ContainsFunc_f B_) s1.votes (fun y0_ => (g_seat_Right_2_f B_) y0_ s1)).bind fun r8 => (g_seat_Right_J1 B_) s1 r8)))))) (((g_seat_entries_f B_) s1.log s1.term).bind fun r9 => cond (!r9) ((g_seat_Right_J1 B_) s1 true) (cond (decide (s1.commit < 0)) ((g_seat_Right_J1 B_) s1 true) (cond (decide ((s1.log.length : Int) < s1.commit)) ((g_seat_Right_J1 B_) s1 true) (((g_seat_rises_f B_) s1.votes).bind fun r10 => cond (!r10) ((g_seat_Right_J1 B_) s1 true) (((g_slices_ContainsFunc_f B_) s1.votes (fun y0_ => (g_seat_Right_2_f B_) y0_ s1)).bind fun r11 => (g_seat_Right_J1 B_) s1 r11)))))))))

set_option maxRecDepth 20000 in
theorem e_seat_Right_f : seat_Right_f = g_seat_Right_f BIG := by
  delta seat_Right_f g_seat_Right_f
  first | rfl | (simp only [e_seat_peers_f, e_seat_Right_J1, e_seat_Right_1_f, e_seat_entries_f, e_seat_rises_f, e_slices_ContainsFunc_f, e_seat_Right_2_f]; done) | (funext _; simp only [e_seat_peers_f, e_seat_Right_J1, e_seat_Right_1_f, e_seat_entries_f, e_seat_rises_f, e_slices_ContainsFunc_f, e_seat_Right_2_f])

def g_slices_Compact_J1 (B_ : Nat) (s1 : List Int) : Option (List Int) :=
  some (s1)

set_option maxRecDepth 20000 in
theorem e_slices_Compact_J1 : slices_Compact_J1 = g_slices_Compact_J1 BIG := by
  delta slices_Compact_J1 g_slices_Compact_J1
  first | rfl | (simp only []; done) | (funext _; simp only [])

def g_slices_Compact_J2 (B_ : Nat) (k_slices_Compact_L1 : Int → Option (List Int)) (k1 : Int) : Option (List Int) :=
  k_slices_Compact_L1 (IntKind.wrap .i64 (k1 + 1))

set_option maxRecDepth 20000 in
theorem e_slices_Compact_J2 : slices_Compact_J2 = g_slices_Compact_J2 BIG := by
  delta slices_Compact_J2 g_slices_Compact_J2
  first | rfl | (simp only []; done) | (funext _ _; simp only [])

def g_slices_Compact_J3 (B_ : Nat) (s2 : List Int) (k2 : Int) : Option (List Int) :=
  chk (0 ≤ k2 ∧ k2 ≤ (s2.length : Int) ∧ (s2.length : Int) ≤ (s2.length : Int)) (chk (0 ≤ k2 ∧ k2 ≤ (s2.length : Int)) (some ((s2.take k2.toNat))))

set_option maxRecDepth 20000 in
theorem e_slices_Compact_J3 : slices_Compact_J3 = g_slices_Compact_J3 BIG := by
  delta slices_Compact_J3 g_slices_Compact_J3
  first | rfl | (simp only []; done) | (funext _ _; simp only [])

def g_slices_Compact_J4 (B_ : Nat) (k_slices_Compact_L2 : (List Int) → Int → Nat → Nat → Int → Option (List Int)) (k4 : Int) (s4 : List Int) (k5 : Int) (o2 : Nat) (n2 : Nat) : Option (List Int) :=
  k_slices_Compact_L2 s4 k5 o2 n2 (IntKind.wrap .i64 (k4 + 1))

set_option maxRecDepth 20000 in
theorem e_slices_Compact_J4 : slices_Compact_J4 = g_slices_Compact_J4 BIG := by
  delta slices_Compact_J4 g_slices_Compact_J4
  first | rfl | (simp only []; done) | (funext _ _ _ _ _ _; simp only [])

def g_slices_Compact_L2 (B_ : Nat) : Nat → (List Int) → Int → Nat → Nat → Int → Option (List Int)
  | 0, _, _, _, _, _ => none
  | m_ + 1, s3, k3, o1, n1, k4 => cond (decide (k4 < (((n1 : Nat)) : Int))) (chk (k4 < (n1 : Int)) ((idx (s3.drop o1) k4).bind fun x3 => chk ((IntKind.wrap .i64 (k4 - 1)) < (n1 : Int)) ((idx (s3.drop o1) (IntKind.wrap .i64 (k4 - 1))).bind fun x4 => cond (x3 != x4) (chk (k4 < (n1 : Int)) ((idx s3 k3).bind fun x5 => (g_slices_Compact_J4 B_) ((g_slices_Compact_L2 B_) m_) k4 (s3.set k3.toNat x3) (IntKind.wrap .i64 (k3 + 1)) o1 n1)) ((g_slices_Compact_J4 B_) ((g_slices_Compact_L2 B_) m_) k4 s3 k3 o1 n1)))) ((g_slices_Compact_J3 B_) s3 k3)

theorem e_slices_Compact_L2 (n_ : Nat) : slices_Compact_L2  n_ = g_slices_Compact_L2 BIG  n_ := by
  induction n_ with
  | zero => rfl
  | succ m ih =>
    funext x0_ x1_ x2_ x3_ x4_
    simp only [slices_Compact_L2, g_slices_Compact_L2, ih, e_slices_Compact_J4, e_slices_Compact_J3]

def g_slices_Compact_L1 (B_ : Nat) (s1 : List Int) : Nat → Int → Option (List Int)
  | 0, _ => none
  | m_ + 1, k1 => cond (decide (k1 < (((s1.length : Nat)) : Int))) ((idx s1 k1).bind fun x1 => (idx s1 (IntKind.wrap .i64 (k1 - 1))).bind fun x2 => cond (x1 == x2) (chk (0 ≤ k1 ∧ k1 ≤ (s1.length : Int) ∧ (s1.length : Int) ≤ (s1.length : Int)) ((g_slices_Compact_L2 B_) B_ s1 k1 k1.toNat (s1.length - k1.toNat) 1)) ((g_slices_Compact_J2 B_) ((g_slices_Compact_L1 B_) s1 m_) k1)) ((g_slices_Compact_J1 B_) s1)

theorem e_slices_Compact_L1 (s1 : List Int) (n_ : Nat) : slices_Compact_L1 s1 n_ = g_slices_Compact_L1 BIG s1 n_ := by
  induction n_ with
  | zero => rfl
  | succ m ih =>
    funext x0_
    simp only [slices_Compact_L1, g_slices_Compact_L1, ih, e_slices_Compact_L2, e_slices_Compact_J2, e_slices_Compact_J1]

def g_slices_Compact_f (B_ : Nat) (s1 : List Int) : Option (List Int) :=
  cond (decide ((((s1.length : Nat)) : Int) < 2)) (some (s1)) ((g_slices_Compact_L1 B_) s1 B_ 1)

set_option maxRecDepth 20000 in
theorem e_slices_Compact_f : slices_Compact_f = g_slices_Compact_f BIG := by
  delta slices_Compact_f g_slices_Compact_f
  first | rfl | (simp only [e_slices_Compact_L1]; done) | (funext _; simp only [e_slices_Compact_L1])

def g_seat_New_f (B_ : Nat) (id1 : Int) (others1 : List Int) : Option Seat :=
  chk ((1 + others1.length) * 8 ≤ 140737488355328) (((g_slices_Sort_f B_) ([id1] ++ others1)).bind fun r1 => chk (r1.length = 1 + others1.length) (((g_slices_Compact_f B_) r1).bind fun r2 => ((g_seat_Right_f B_) (⟨id1, r2, 0, (-1), 1, [], 0, [], [], []⟩ : Seat)).bind fun r3 => cond (!r3) (some ((⟨0, [], 0, 0, 0, [], 0, [], [], []⟩ : Seat))) (some ((⟨id1, r2, 0, (-1), 1, [], 0, [], [], []⟩ : Seat)))))

set_option maxRecDepth 20000 in
theorem e_seat_New_f : seat_New_f = g_seat_New_f BIG := by
  delta seat_New_f g_seat_New_f
  first | rfl | (simp only [e_slices_Sort_f, e_slices_Compact_f, e_seat_Right_f]; done) | (funext _ _; simp only [e_slices_Sort_f, e_slices_Compact_f, e_seat_Right_f])

def g_law15_head_J3 (B_ : Nat) (one1 : Bool) (two1 : Bool) (r4 : Seat × (List Msg)) (r10 : Seat × Int × Bool) (r11 : Seat) (three1 : Bool) : Option Bool :=
  cond one1 (cond two1 (cond three1 (cond ((r4.1.log.length : Int) == 1) (cond (!r10.2.2) (cond (r11.role == 1) (cond ((r11.log.length : Int) == 1) (cond (r11.commit == 0) (cond (r11.term == 1) (((g_seat_Right_f B_) r11).bind fun r12 => cond r12 (((g_seat_Right_f B_) (⟨0, [], 0, 0, 0, [], 0, [], [], []⟩ : Seat)).bind fun r13 => cond (!r13) (((g_seat_New_f B_) (-1) []).bind fun r14 => some (((r14.peers.length : Int) == 0))) (some (false))) (some (false))) (some (false))) (some (false))) (some (false))) (some (false))) (some (false))) (some (false))) (some (false))) (some (false))) (some (false))

set_option maxRecDepth 20000 in
theorem e_law15_head_J3 : law15_head_J3 = g_law15_head_J3 BIG := by
  delta law15_head_J3 g_law15_head_J3
  first | rfl | (simp only [e_seat_Right_f, e_seat_New_f]; done) | (funext _ _ _ _ _ _; simp only [e_seat_Right_f, e_seat_New_f])

def g_law15_head_J2 (B_ : Nat) (one1 : Bool) (r4 : Seat × (List Msg)) (r10 : Seat × Int × Bool) (r11 : Seat) (r6 : Seat × (List Msg)) (r7 : Seat × (List Msg)) (r8 : Seat × Int × Bool) (r9 : Seat × (List Msg)) (two1 : Bool) : Option Bool :=
  (g_law15_head_J3 B_) one1 two1 r4 r10 r11 (((r6.2.length : Int) == 2) && ((r6.1.role == 2) && ((r7.1.role == 3) && (((r7.2.length : Int) == 2) && (r8.2.2 && ((r8.2.1 == 1) && ((r8.1.commit == 0) && ((r9.1.commit == 1) && ((r9.2.length : Int) == 0)))))))))

set_option maxRecDepth 20000 in
theorem e_law15_head_J2 : law15_head_J2 = g_law15_head_J2 BIG := by
  delta law15_head_J2 g_law15_head_J2
  first | rfl | (simp only [e_law15_head_J3]; done) | (funext _ _ _ _ _ _ _ _ _; simp only [e_law15_head_J3])

def g_law15_head_J1 (B_ : Nat) (r4 : Seat × (List Msg)) (r5 : Seat × (List Msg)) (r10 : Seat × Int × Bool) (r11 : Seat) (r6 : Seat × (List Msg)) (r7 : Seat × (List Msg)) (r8 : Seat × Int × Bool) (r9 : Seat × (List Msg)) (one1 : Bool) : Option Bool :=
  ((g_ref15_SameMsgs_f B_) r4.2 [(⟨2, 1, 4, [1, 1, 1], []⟩ : Msg)]).bind fun r15 => cond r15 (((g_ref15_SameMsgs_f B_) r5.2 [(⟨2, 1, 4, [1, 0, 0], []⟩ : Msg)]).bind fun r16 => (g_law15_head_J2 B_) one1 r4 r10 r11 r6 r7 r8 r9 r16) ((g_law15_head_J2 B_) one1 r4 r10 r11 r6 r7 r8 r9 false)

set_option maxRecDepth 20000 in
theorem e_law15_head_J1 : law15_head_J1 = g_law15_head_J1 BIG := by
  delta law15_head_J1 g_law15_head_J1
  first | rfl | (simp only [e_ref15_SameMsgs_f, e_law15_head_J2]; done) | (funext _ _ _ _ _ _ _ _ _; simp only [e_ref15_SameMsgs_f, e_law15_head_J2])

def g_law15_head_f (B_ : Nat) : Option Bool :=
  ((g_seat_New_f B_) 2 [3, 1]).bind fun r1 => ((g_seat_Hear_f B_) r1 (⟨1, 2, 1, [1, 0, 0], []⟩ : Msg)).bind fun r2 => ((g_seat_Hear_f B_) r2.1 (⟨3, 2, 1, [1, 0, 0], []⟩ : Msg)).bind fun r3 => ((g_seat_Hear_f B_) r2.1 (⟨1, 2, 3, [1, 0, 0, 0, 1, 2], [5, 6]⟩ : Msg)).bind fun r4 => ((g_seat_Hear_f B_) r1 (⟨1, 2, 3, [1, 3, 1, 0], []⟩ : Msg)).bind fun r5 => ((g_seat_Late_f B_) r1).bind fun r6 => ((g_seat_Hear_f B_) r6.1 (⟨3, 2, 2, [1, 1], []⟩ : Msg)).bind fun r7 => ((g_seat_Offer_f B_) r7.1 [9]).bind fun r8 => ((g_seat_Hear_f B_) r8.1 (⟨1, 2, 4, [1, 1, 1], []⟩ : Msg)).bind fun r9 => ((g_seat_Offer_f B_) r1 []).bind fun r10 => ((g_seat_Back_f B_) r9.1).bind fun r11 => ((g_ref15_SameMsgs_f B_) r2.2 [(⟨2, 1, 2, [1, 1], []⟩ : Msg)]).bind fun r17 => cond r17 (((g_ref15_SameMsgs_f B_) r3.2 [(⟨2, 3, 2, [1, 0], []⟩ : Msg)]).bind fun r18 => (g_law15_head_J1 B_) r4 r5 r10 r11 r6 r7 r8 r9 r18) ((g_law15_head_J1 B_) r4 r5 r10 r11 r6 r7 r8 r9 false)

set_option maxRecDepth 20000 in
theorem e_law15_head_f : law15_head_f = g_law15_head_f BIG := by
  delta law15_head_f g_law15_head_f
  first | rfl | (simp only [e_seat_New_f, e_seat_Hear_f, e_seat_Late_f, e_seat_Offer_f, e_seat_Back_f, e_ref15_SameMsgs_f, e_law15_head_J1]; done) | (funext _; simp only [e_seat_New_f, e_seat_Hear_f, e_seat_Late_f, e_seat_Offer_f, e_seat_Back_f, e_ref15_SameMsgs_f, e_law15_head_J1])

end Go.Proofs.YtmkpokcfefjifaaDoor

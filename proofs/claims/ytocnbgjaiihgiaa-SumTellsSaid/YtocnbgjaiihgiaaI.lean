import Derived.Test.YtocnbgjaiihgiaaH
import Derived.Lib.SlBytesConst
namespace Go.Proofs.Ytocnbgjaiihgiaa
open Go.RowKit Go.Kx Plain
set_option maxHeartbeats 400000 in
theorem Of_any (v : Value) (l : List Nat) (w : World) {D : Nat → Prop} (hl : (Rep.slice Rep.u8).rd w D [v] l) (n : Int) (hn : ((crc l : Nat) : Int) = n) :
    Calls Try.prog 10 #[v] w fun e w' => e = .returned (.int .i64 n) ∧ Below w.heap.size w w' := by
  have Hn := Lib.hid hn
  clear hn
  have h1 := hl
  obtain ⟨a, cap, rfl, _, _, _⟩ := Rep.slice_open hl
  clear hl
  go_enter Try.func10, Try.ntmps10
  go_wp2_with fail
  refine (half_any _).mono ?_
  rintro e w1 ⟨rfl, hb1⟩
  go_wp2_with fail
  refine (of_any _ l _ (Rep.below h1 hb1)).mono ?_
  rintro e w2 ⟨rfl, hb2⟩
  go_wp2_with fail
  go_ret
  exact ⟨ret_int Hn.out, hb1.trans (hb2.mono hb1.size)⟩
theorem bytes_block {w : World} {b : Nat} {cs : Array Value} {t : TypeId} {fr : Nat × Nat} {l : List Nat} (h : w.heap[b]? = some (.cells cs t fr))
    (hcs : ∀ (i : Nat) (x : Nat), l[i]? = some x → cs[i]? = some (.int .u8 (x : Int)) ∧ x < 256) (n c : Nat) (hn : l.length = n) (hc : n ≤ c ∧ c ≤ 9223372036854775807) : (Rep.slice Rep.u8).rd w T [.slice (some ⟨b, 0, none⟩) n c] l := by
  subst hn
  refine ⟨_, c, rfl, hc.1, hc.2, fun i x hx => ⟨b, 0, [.int .u8 (x : Int)], rfl, trivial, ?_, fun j v hv => ?_, rfl, (hcs i x hx).2⟩⟩
  · rcases Nat.lt_or_ge b w.heap.size with h1 | h1
    · exact h1
    · rw [Array.getElem?_eq_none h1] at h; cases h
  · match j, hv with
    | 0, hv =>
      simp at hv
      subst hv
      rw [cell_of_row w b _ cs t fr h]
      have := (hcs i x hx).1
      simpa [Rep.u8, Rep.nat] using this
abbrev nine : List Nat := [49, 50, 51, 52, 53, 54, 55, 56, 57]
theorem crc_nine : crc nine = 3808858755 := by decide +kernel
theorem crc_nil : crc [] = 0 := by decide +kernel
theorem crc_zero4 : crc [0, 0, 0, 0] = 1214729159 := by decide +kernel
theorem blocks_nine : (blocks nine).map (fun n : Nat => (n : Int)) = [3808858755] := by
  rw [blocks_cons _ (by decide), show List.drop 16 nine = [] from rfl, blocks_nil, show List.take 16 nine = nine from rfl, crc_nine]; rfl
theorem check1 : checkL [3808858755] [3808858755] = -1 := by decide
theorem check2 : checkL [3808858755] [] = 0 := by decide
theorem check3 : checkL [] [0] = 0 := by decide
theorem bnil : (blocks []).map (fun n : Nat => (n : Int)) = [] := by rw [blocks_nil]; rfl
theorem check_named (v u : Value) (l : List Nat) (s : List Int) (w : World) {D E : Nat → Prop} (hl : (Rep.slice Rep.u8).rd w D [v] l) (hD : l.length ≤ 1000000) (hs : RI.rd w E [u] s) (q : List Int) (hq : (blocks l).map (fun n : Nat => (n : Int)) = q) (n : Int) (hn : checkL q s = n) :
    Calls Try.prog 15 #[v, u] w fun e w' => e = .returned (.int .i64 n) ∧ Below w.heap.size w w' :=
  (check_any v u l s w hl hD hs).mono fun e w' ⟨he, hb⟩ => ⟨by rw [he, hq, hn], hb⟩
theorem refcheck_named (v u : Value) (l : List Nat) (s : List Int) (w : World) {D E : Nat → Prop} (hl : (Rep.slice Rep.u8).rd w D [v] l) (hD : l.length ≤ 1000000) (hs : RI.rd w E [u] s) (hsz : s.length ≤ 1000000) (q : List Int) (hq : (blocks l).map (fun n : Nat => (n : Int)) = q) (n : Int) (hn : checkL q s = n) :
    Calls Try.prog 16 #[v, u] w fun e w' => e = .returned (.int .i64 n) ∧ Below w.heap.size w w' :=
  (refcheck_any v u l s w hl hD hs hsz).mono fun e w' ⟨he, hb⟩ => ⟨by rw [he, hq, hn], hb⟩
theorem ints_block {w : World} {b : Nat} {cs : Array Value} {t : TypeId} {fr : Nat × Nat} {l : List Int} (h : w.heap[b]? = some (.cells cs t fr))
    (hcs : ∀ (i : Nat) (x : Int), l[i]? = some x → cs[i]? = some (.int .i64 x) ∧ (Lit.int .i64 x).wf = true) (n c : Nat) (hn : l.length = n) (hc : n ≤ c ∧ c ≤ 9223372036854775807) : RI.rd w T [.slice (some ⟨b, 0, none⟩) n c] l := by
  subst hn
  refine ⟨_, c, rfl, hc.1, hc.2, fun i x hx => ⟨b, 0, [.int .i64 x], rfl, trivial, ?_, fun j v hv => ?_, rfl, (hcs i x hx).2⟩⟩
  · rcases Nat.lt_or_ge b w.heap.size with h1 | h1
    · exact h1
    · rw [Array.getElem?_eq_none h1] at h; cases h
  · match j, hv with
    | 0, hv =>
      simp at hv
      subst hv
      rw [cell_of_row w b _ cs t fr h]
      have := (hcs i x hx).1
      simpa [Rep.int] using this
def z33 : Array Value := Array.replicate 33 (.int .u8 0)
theorem mk33 (w : World) : (Instr.makeSlice 22 (.int .i64 33) (.int .i64 33)).run Try.prog w = .ok (.slice (some ⟨w.heap.size, 0, none⟩) 33 33) (w.alloc (.cells z33 5)) := by kernel_rfl
theorem b33 : (blocks (List.replicate 33 0)).map (fun n : Nat => (n : Int)) = [((crc (List.replicate 16 0) : Nat) : Int), ((crc (List.replicate 16 0) : Nat) : Int), ((crc [0] : Nat) : Int)] := by
  rw [blocks_cons _ (by simp), blocks_cons _ (by simp), blocks_cons _ (by simp)]
  simp [blocks_nil]
set_option maxHeartbeats 1200000 in
theorem head_any (w : World) :
    Calls Try.prog 9 #[] w fun e w' => e = .returned (.bool true) ∧ Below w.heap.size w w' := by
  have hmk : ∀ w, (Instr.makeSlice 22 (.int .i64 33) (.int .i64 33)).run Try.prog w = .ok (.slice (some ⟨w.heap.size, 0, none⟩) 33 33) (w.alloc (.cells z33 5)) := mk33
  have kc := fun (w : World) (C : Array Value) (n c : Nat) => Lib.run_convert_bytes_const (P := Try.prog) w 22 5 C n c Try.underlying22 Try.underlying5
  go_enter Try.func9, Try.ntmps9
  go_wp2_with fail
  clear kc
  have hB0 : Below w.heap.size w (w.alloc (.cells #[.int .u8 49, .int .u8 50, .int .u8 51, .int .u8 52, .int .u8 53, .int .u8 54, .int .u8 55, .int .u8 56, .int .u8 57] 5 (9, 10))) := (Below.refl _ _).alloc (Nat.le_refl _) _
  have hr0 : (Rep.slice Rep.u8).rd (w.alloc (.cells #[.int .u8 49, .int .u8 50, .int .u8 51, .int .u8 52, .int .u8 53, .int .u8 54, .int .u8 55, .int .u8 56, .int .u8 57] 5 (9, 10))) T [.slice (some ⟨w.heap.size, 0, none⟩) 9 9] nine :=
    bytes_block (heap_alloc_new w _) (fun i x hx => by
      rcases i with _ | _ | _ | _ | _ | _ | _ | _ | _ | i <;> simp [nine] at hx <;> subst hx <;> exact ⟨rfl, by decide⟩) 9 9 rfl ⟨by decide, by decide⟩
  generalize w.alloc (.cells #[.int .u8 49, .int .u8 50, .int .u8 51, .int .u8 52, .int .u8 53, .int .u8 54, .int .u8 55, .int .u8 56, .int .u8 57] 5 (9, 10)) = W0 at hB0 hr0 ⊢
  refine (Of_any _ nine _ hr0 3808858755 (by rw [crc_nine]; rfl)).mono ?_
  rintro e w1 ⟨rfl, hb1⟩
  have hr0 := Rep.below hr0 hb1
  have hB0 := hB0.trans (hb1.mono hB0.size)
  go_wp2_with fail
  refine (Of_any _ [] _ (Rep.slice_nil _ _ T) 0 (by rw [crc_nil]; rfl)).mono ?_
  rintro e w2 ⟨rfl, hb2⟩
  have hr0 := Rep.below hr0 hb2
  have hB0 := hB0.trans (hb2.mono hB0.size)
  go_wp2_with fail
  have hB0 := hB0.alloc hB0.size (.cells #[.int .i64 3808858755] 3)
  have hr0 := (Rep.slice Rep.u8).keep (Keeps.alloc w2 (.cells #[.int .i64 3808858755] 3) T) hr0
  have hs1 : RI.rd (w2.alloc (.cells #[.int .i64 3808858755] 3)) T [.slice (some ⟨w2.heap.size, 0, none⟩) 1 1] [3808858755] :=
    ints_block (heap_alloc_new w2 _) (fun i x hx => by rcases i with _ | i <;> simp at hx; subst hx; exact ⟨rfl, by decide⟩) 1 1 rfl ⟨by decide, by decide⟩
  generalize w2.alloc (.cells #[.int .i64 3808858755] 3) = W2 at hB0 hr0 hs1 ⊢
  refine (check_named _ _ nine _ _ hr0 (by decide) hs1 _ blocks_nine (-1) check1).mono ?_
  rintro e w3 ⟨rfl, hb3⟩
  have hr0 := Rep.below hr0 hb3
  have hB0 := hB0.trans (hb3.mono hB0.size)
  go_wp2_with fail
  refine (check_named _ _ nine [] _ hr0 (by decide) (Rep.slice_nil _ _ T) _ blocks_nine 0 check2).mono ?_
  rintro e w4 ⟨rfl, hb4⟩
  have hB0 := hB0.trans (hb4.mono hB0.size)
  go_wp2_with fail
  have hB0 := hB0.alloc hB0.size (.cells #[.int .i64 0] 3)
  have hs1 : RI.rd (w4.alloc (.cells #[.int .i64 0] 3)) T [.slice (some ⟨w4.heap.size, 0, none⟩) 1 1] [0] :=
    ints_block (heap_alloc_new w4 _) (fun i x hx => by rcases i with _ | i <;> simp at hx; subst hx; exact ⟨rfl, by decide⟩) 1 1 rfl ⟨by decide, by decide⟩
  generalize w4.alloc (.cells #[.int .i64 0] 3) = W4 at hB0 hs1 ⊢
  refine (check_named _ _ [] _ _ (Rep.slice_nil _ _ T) (by decide) hs1 _ bnil 0 check3).mono ?_
  rintro e w5 ⟨rfl, hb5⟩
  have hB0 := hB0.trans (hb5.mono hB0.size)
  go_wp2_with fail
  have hB0 := hB0.alloc hB0.size (.cells z33 5)
  have hz : (Rep.slice Rep.u8).rd (w5.alloc (.cells z33 5)) T [.slice (some ⟨w5.heap.size, 0, none⟩) 33 33] (List.replicate 33 0) :=
    bytes_block (heap_alloc_new w5 _) (fun i x hx => by
      rw [List.getElem?_replicate] at hx
      split at hx
      · injection hx with hx; subst hx
        exact ⟨by unfold z33; simp [*], by decide⟩
      · cases hx) 33 33 (by simp) ⟨by decide, by decide⟩
  generalize w5.alloc (.cells z33 5) = W5 at hB0 hz ⊢
  refine (blocks_named _ _ _ hz (by simp) _ b33.symm).mono ?_
  rintro e w6 ⟨A6, c6, rfl, hr6, hb6⟩
  have hB0 := hB0.trans (hb6.mono hB0.size)
  go_wp2_with fail
  have hB0 := hB0.alloc hB0.size (.cells #[.int .u8 0, .int .u8 0, .int .u8 0, .int .u8 0] 5)
  have hz : (Rep.slice Rep.u8).rd (w6.alloc (.cells #[.int .u8 0, .int .u8 0, .int .u8 0, .int .u8 0] 5)) T [.slice (some ⟨w6.heap.size, 0, none⟩) 4 4] [0, 0, 0, 0] :=
    bytes_block (heap_alloc_new w6 _) (fun i x hx => by
      rcases i with _ | _ | _ | _ | i <;> simp at hx <;> subst hx <;> exact ⟨rfl, by decide⟩) 4 4 (by simp) ⟨by decide, by decide⟩
  generalize w6.alloc (.cells #[.int .u8 0, .int .u8 0, .int .u8 0, .int .u8 0] 5) = W6 at hB0 hz ⊢
  refine (Of_any _ _ _ hz 1214729159 (by rw [crc_zero4]; rfl)).mono ?_
  rintro e w7 ⟨rfl, hb7⟩
  have hB0 := hB0.trans (hb7.mono hB0.size)
  go_wp2_with fail
  go_ret
  exact ⟨rfl, hB0⟩
end Go.Proofs.Ytocnbgjaiihgiaa

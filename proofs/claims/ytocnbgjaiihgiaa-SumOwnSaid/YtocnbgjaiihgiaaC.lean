import Derived.Test.YtocnbgjaiihgiaaB
namespace Go.Proofs.Ytocnbgjaiihgiaa
open Go.RowKit Go.Kx Plain
theorem tab_one : (tab.all (·.oneCell') = true) := by
  unfold tab tabArr tv; simp [Value.oneCell']
theorem tab_one' : ∀ v ∈ tab.toList, v.oneCell' = true := by unfold tab tabArr tv; simp [Value.oneCell']
theorem info40 : (Try.prog.info? 40).map (·.size) = some 16 := by kernel_rfl
theorem under40 : Try.prog.underlying 40 = some (.array 16 39) := by kernel_rfl
theorem el23 : Elem Try.prog 23 3 (Rep.nat .i64 4294967296) 8 := ⟨by kernel_rfl, ⟨.int .i64 0, by kernel_rfl, rfl⟩, by decide, by decide⟩
def blocks (l : List Nat) : List Nat := if _h : l = [] then [] else crc (l.take 16) :: blocks (l.drop 16)
  termination_by l.length
  decreasing_by simp; have := List.length_pos_iff.2 _h; omega
theorem blocks_nil : blocks [] = [] := by rw [blocks]; simp
theorem blocks_cons (l : List Nat) (h : l ≠ []) : blocks l = crc (l.take 16) :: blocks (l.drop 16) := by rw [blocks, dif_neg h]
theorem blocks_len (l : List Nat) : (blocks l).length = (l.length + 15) / 16 := by
  induction h : l.length using Nat.strongRecOn generalizing l with
  | _ n ih =>
    by_cases hl : l = []
    · subst hl; rw [blocks_nil]; simp at h; subst h; rfl
    · have := List.length_pos_iff.2 hl
      rw [blocks_cons l hl, List.length_cons, ih _ (by rw [List.length_drop]; omega) _ rfl, List.length_drop]; omega
theorem keepS {w w' : World} {p B0 : Nat} {cs : List Value} {v : Value} {l : List Nat} (D : Nat → Prop) (hp : D p) (hD : ∀ b, b < B0 → D b) (hk : Keeps w w' D)
    (h : w.rangeAt p 0 cs ∧ (Rep.slice Rep.u8).rd w (fun b => b < B0) [v] l) : w'.rangeAt p 0 cs ∧ (Rep.slice Rep.u8).rd w' (fun b => b < B0) [v] l :=
  ⟨hk.range hp h.1, (Rep.slice Rep.u8).keep (hk.mono (fun b hb _ => hD b hb)) h.2⟩
set_option maxHeartbeats 400000 in
theorem blocks_any (v : Value) (l : List Nat) (w : World) {D : Nat → Prop} (hl : (Rep.slice Rep.u8).rd w D [v] l) (hD : l.length ≤ 1000000) :
    Calls Try.prog 13 #[v] w fun e w' => ∃ v', e = .returned v' ∧ Own w' w.heap.size 3 (Rep.nat .i64 4294967296) v' (blocks l) ∧ Below w.heap.size w w' := by
  have hl := Rep.widen hl
  have hst := fun w1 : World => run_storeCells_new (P := Try.prog) w1 40 zs16 tab info40 rfl tab_one
  unfold zs16 at hst
  obtain ⟨a, cap, rfl, hm1, hm2, hl⟩ := Rep.slice_open hl
  go_enter Try.func13, Try.ntmps13
  go_wp2_with (go_at_call 18; refine (half_any _).mono ?_; rintro e w1 ⟨rfl, hb1⟩)
  clear hst
  have hB : Below w.heap.size w (w1.alloc (.cells tab 40)) := hb1.alloc hb1.size _
  have hr : (w1.alloc (.cells tab 40)).rangeAt w1.heap.size 0 tab.toList := fun j v hv => by
    rw [World.cell?_alloc_at _ _ _ _ (by simp)]; simpa using hv
  have hlt : w1.heap.size < (w1.alloc (.cells tab 40)).heap.size := by simp
  generalize w1.alloc (.cells tab 40) = W at hB hr hlt ⊢
  have hge : w.heap.size ≤ w1.heap.size := hb1.size
  generalize hp : w1.heap.size = p at hr hlt hge ⊢
  clear hp hb1 w1
  go_loopw [0, 4] (fun d out wr => ∃ (done rest : List Nat), Hid (blocks l = done ++ blocks rest) ∧ done.length + rest.length ≤ 1000000 ∧ (Rep.slice Rep.u8).rd wr (fun b => b < w.heap.size) [d] rest ∧ Own wr w.heap.size 3 (Rep.nat .i64 4294967296) out done ∧ out.ownBlock ≠ some p ∧
    Below w.heap.size w wr ∧ wr.rangeAt p 0 tab.toList ∧ p < wr.heap.size) (fun d _ _ => match d with | .slice _ n _ => n | _ => 0)
  case atStart => 
    refine ⟨[], l, rfl, by simp; omega, ?_, Own.nil _ _ _ _, by simp [Value.ownBlock], hB, hr, hlt⟩
    exact (Rep.slice Rep.u8).keep (Keeps.of_belowB hB) ((Rep.slice Rep.u8).more (fun b _ h => h) hl)
  case round =>
    obtain ⟨done, rest, hd, hlen, hrest, hown, hne, hBr, hrr, hpr⟩ := hrel
    obtain ⟨A, c, rfl, hc1, hc2, hrest⟩ := Rep.slice_open hrest
    by_cases hr0 : rest = []
    · subst hr0
      have h0 : ¬ ((0 : Int) < 0) := by omega
      go_wp2
      go_ret
      have hd' := hd.out
      rw [blocks_nil, List.append_nil] at hd'
      exact ⟨_, rfl, by rw [hd']; exact hown, hBr⟩
    · have hpos := List.length_pos_iff.2 hr0
      have hdec : decide ((0 : Int) < (rest.length : Int)) = true := by simp; omega
      obtain ⟨n, hmin, hn0, hn1, hn2, Hn⟩ : ∃ n : Nat, (if (16 : Int) < (rest.length : Int) then (16 : Int) else (rest.length : Int)) = (n : Int) ∧ 0 < n ∧ n ≤ rest.length ∧ n ≤ 16 ∧ Hid (rest.take n = rest.take 16 ∧ rest.drop n = rest.drop 16) := by
        rcases Nat.lt_or_ge rest.length 16 with h | h
        · exact ⟨rest.length, if_neg (by omega), by omega, by omega, by omega, by rw [List.take_length, List.drop_length, List.take_of_length_le (by omega), List.drop_of_length_le (by omega)]; exact ⟨rfl, rfl⟩⟩
        · exact ⟨16, by split <;> omega, by omega, by omega, by omega, rfl, rfl⟩
      have htake := Rep.slice_take hrest hn1
      have hdrop := Rep.slice_drop hrest hn1
      rw [show n * Rep.u8.size = n from Nat.mul_one n] at hdrop
      have hi40 := info40
      have hu40 := under40
      have hts : tab.toList.length = 16 := by rfl
      have htab1 := tab_one'
      have hnc : n ≤ c := by omega
      go_wp2
      clear hmin
      have hres : ∀ w2 D, (Rep.nat .i64 4294967296).rd w2 D [.int .i64 ((crc (rest.take n) : Nat) : Int)] (crc (rest.take n)) := fun w2 D =>
        ⟨rfl, crc_lt (fun x hx => Rep.slice_u8_all htake x hx)⟩
      have hD1 : ∀ b, b < w.heap.size → some b ≠ u4.ownBlock := fun b hb h => by have := (hown.block h.symm).1; omega
      have hs0 := hBr.size
      have hdl : (done.length + 1) * 8 ≤ 140737488355328 := by omega
      go_region_held3 (fun w' => w'.rangeAt p 0 tab.toList ∧ (Rep.slice Rep.u8).rd w' (fun b => b < w.heap.size) [.slice A n c] (rest.take n))
        (first
          | exact ⟨hrr, (Rep.slice Rep.u8).keep (Keeps.drew _ _) htake⟩
          | exact keepS T trivial (fun _ _ => trivial) (Keeps.of_below hb2) (by assumption)
          | exact keepS T trivial (fun _ _ => trivial) (Keeps.alloc _ _ _) (by assumption)
          | exact keepS (fun b => some b ≠ u4.ownBlock) hne.symm hD1 hk3 (by assumption))
        ((first
          | (go_at_call 17; refine (of_any _ (rest.take n) _ ((Rep.slice Rep.u8).keep (Keeps.drew _ _) htake)).mono ?_; rintro e w2 ⟨rfl, hb2⟩)
          | (refine step_push el23 rfl (.tmp 13) (.tmp 19) rfl (((hown.drew).below hb2).alloc _) rfl rfl (cell_one_new _ _ _) (hres _ _) hdl (by have h := hb2.size; simp at h ⊢; omega) _ rfl ?_; intro v3 w3 hown3 hk3 hb3 hv3 hv4)))
      have hB3 : Below w.heap.size w w3 := by
        refine hBr.trans (Below.trans ?_ hb3)
        have h1 : Below w.heap.size wr.drew w2 := hb2.mono hs0
        exact (((Below.refl _ _).drew).trans h1).alloc (Nat.le_trans hs0 hb2.size) _
      have hk03 : Keeps wr w3 (fun b => some b ≠ u4.ownBlock) :=
        (((Keeps.drew _ _).trans (Keeps.of_below hb2)).trans (Keeps.alloc _ _ _)).trans hk3
      have hdrop3 := (Rep.slice Rep.u8).keep (hk03.mono (fun b hb _ => hD1 b hb)) hdrop
      have hp3 : w3.rangeAt p 0 tab.toList := hk03.range hne.symm hrr
      have hp3' : p < w3.heap.size := Nat.lt_of_lt_of_le hpr hk03.size
      have hne3 : v3.ownBlock ≠ some p := by
        rcases hv3 with h | h
        · rw [h]; exact hne
        · rw [h]
          intro h'
          injection h' with h'
          have h1 := hb2.size
          simp at h1 h'
          omega
      have hlen3 : (done ++ [crc (rest.take n)]).length + (rest.drop n).length ≤ 1000000 := by simp; omega
      have hd3 : Hid (blocks l = (done ++ [crc (rest.take n)]) ++ blocks (rest.drop n)) := by
        have h1 := hd.out
        rw [blocks_cons rest hr0, ← Hn.out.1, ← Hn.out.2] at h1
        show _ = _
        rw [h1]; simp
      go_wp2
      go_roundw
      case rel => exact ⟨_, _, hd3, hlen3, hdrop3, hown3, hne3, hB3, hp3, hp3'⟩
      case measure => simp; omega
end Go.Proofs.Ytocnbgjaiihgiaa

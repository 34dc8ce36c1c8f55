import Derived.Test.YtjflkcfafijhfaaGreatQ37
import Derived.Test.YtjflkcfafijhfaaGreatQ34
set_option linter.unusedSectionVars false
/- Copies with the fuel as a parameter, for the kernel; printed by a program of mine. -/
set_option linter.unusedSimpArgs false
set_option linter.unusedVariables false
set_option maxRecDepth 20000
namespace Go.Proofs.YtjflkcfafijhfaaGreat
open Go.Ab Go.RowKit
def nilqc {α β : Type} [DecidableEq β] (l : List α) (e1 e2 : Option β) : Option β := match l with | [] => if e1 = e2 then e1 else none | _ :: _ => e2
theorem nilq_c {α β : Type} [DecidableEq β] (l : List α) (e1 e2 : Option β) : nilq l e1 e2 = nilqc l e1 e2 := by
  unfold nilq nilqc
  cases l with
  | nil => simp only [if_true]; by_cases h : e1 = e2 <;> simp [h]
  | cons a l => simp
def gz0 (B_ : Nat) (b1 : Int) (a1 : Int) : Nat → (List Int) → Int → Option (List Int)
  | 0, _, _ => none
  | m_ + 1, data2, i1 => cond (decide (i1 < b1)) (slices_insertionSortOrdered_L2 (gz0 B_ b1 a1 m_) a1 i1 B_ data2 i1) (some (data2))
theorem ez0 (b1 : Int) (a1 : Int) (n_) : slices_insertionSortOrdered_L1 b1 a1 n_ = gz0 BIG b1 a1 n_ := by
 induction n_ with
 | zero => rfl
 | succ m ih => funext _ _; simp only [slices_insertionSortOrdered_L1, gz0, ih]
def gz1 (B_ : Nat) (data1 : List Int) (a1 : Int) (b1 : Int) : Option (List Int) :=
  gz0 B_ b1 a1 B_ data1 (IntKind.wrap .i64 (a1 + 1))
theorem ez1 : slices_insertionSortOrdered_f = gz1 BIG := by delta slices_insertionSortOrdered_f gz1; simp only [ez0]
def gz2 (B_ : Nat) (b1 : Int) (a1 : Int) (data1 : List Int) : Nat → Option (List Int)
  | 0 => none
  | m_ + 1 => chk ((decide ((IntKind.wrap .i64 (b1 - a1)) ≤ 12)) = true) ((gz1 B_ data1 a1 b1).bind fun r1 => chk (r1.length = data1.length) (some (r1)))
theorem ez2 (b1 : Int) (a1 : Int) (data1 : List Int) (n_) : slices_pdqsortOrdered_L1 b1 a1 data1 n_ = gz2 BIG b1 a1 data1 n_ := by
 induction n_ with
 | zero => rfl
 | succ m ih => simp only [slices_pdqsortOrdered_L1, gz2, ih, ez1]
def gz3 (B_ : Nat) (data1 : List Int) (a1 : Int) (b1 : Int) (limit1 : Int) : Option (List Int) :=
  gz2 B_ b1 a1 data1 B_
theorem ez3 : slices_pdqsortOrdered_f = gz3 BIG := by delta slices_pdqsortOrdered_f gz3; simp only [ez2]
def gz4 (B_ : Nat) (x1 : List Int) : Option (List Int) :=
  (math_bits_Len_f (IntKind.wrap .u64 (((x1.length : Nat)) : Int))).bind fun r1 => (gz3 B_ x1 0 (((x1.length : Nat)) : Int) r1).bind fun r2 => chk (r2.length = x1.length) (some (r2))
theorem ez4 : slices_Sort_f = gz4 BIG := by delta slices_Sort_f gz4; simp only [ez3]
def gz5 (B_ : Nat) (seq1 : List (Int)) : Option (List Int) :=
  (slices_Collect_f seq1).bind fun r1 => (gz4 B_ r1).bind fun r2 => chk (r2.length = r1.length) (some (r2))
theorem ez5 : slices_Sorted_f = gz5 BIG := by delta slices_Sorted_f gz5; simp only [ez4]
def gz6 (B_ : Nat) (slices1 : List (List Page)) (size1 : Int) : Option (List Page) :=
  (slices_Grow_141_f [] size1).bind fun r1 => slices_Concat_104_L1 slices1 B_ r1 0
theorem ez6 : slices_Concat_104_J1 = gz6 BIG := rfl
def gz7 (B_ : Nat) (slices1 : List (List Page)) : Nat → Int → Int → Option (List Page)
  | 0, _, _ => none
  | m_ + 1, size2, v2 => cond (decide (v2 < (slices1.length : Int))) ((idx slices1 v2).bind fun x2 => chk ((decide ((IntKind.wrap .i64 (size2 + (x2.length : Int))) < 0)) = false) (slices_Concat_104_J3 (gz7 B_ slices1 m_) v2 (IntKind.wrap .i64 (size2 + (x2.length : Int))))) (gz6 B_ slices1 size2)
theorem ez7 (slices1 : List (List Page)) (n_) : slices_Concat_104_L2 slices1 n_ = gz7 BIG slices1 n_ := by
 induction n_ with
 | zero => rfl
 | succ m ih => funext _ _; simp only [slices_Concat_104_L2, gz7, ih, ez6]
def gz8 (B_ : Nat) (slices1 : List (List Page)) : Option (List Page) :=
  gz7 B_ slices1 B_ 0 0
theorem ez8 : slices_Concat_104_f = gz8 BIG := by delta slices_Concat_104_f gz8; simp only [ez7]
def blocksF : Nat → List Nat → List Nat
  | 0, _ => []
  | k + 1, l => if l = [] then [] else Plain.crc (l.take 16) :: blocksF k (l.drop 16)
theorem blocksF_eq : ∀ (k : Nat) (l : List Nat), l.length ≤ k → blocks l = blocksF k l
  | 0, l, h => by
    have : l = [] := List.eq_nil_of_length_eq_zero (by omega)
    subst this
    unfold blocks; rfl
  | k + 1, l, h => by
    unfold blocks blocksF
    by_cases e : l = []
    · subst e; rfl
    · rw [dif_neg e, if_neg e, blocksF_eq k (l.drop 16) (by have := List.length_pos_iff.2 e; rw [List.length_drop]; omega)]
def gz9 (B_ : Nat) (data1 : List Int) : Option (List Int) := chk (isB8 data1 = true ∧ data1.length ≤ 1000000) (some ((blocksF data1.length (data1.map Int.toNat)).map fun n : Nat => (n : Int)))
theorem ez9 : sum_Blocks_f = gz9 BIG := by
  funext l
  unfold sum_Blocks_f gz9
  rw [blocksF_eq l.length _ (by simp)]
def gz10 (B_ : Nat) (l1 over1 : List Page) : Option (List Page) := (gz8 B_ [l1, over1]).bind fun all => chk (all.length ≤ 12 ∧ (all.all fun p => (Lit.int .i64 p.at_).wf) = true) (some (laidP all))
theorem ez10 : disk_laid_f = gz10 BIG := by delta disk_laid_f gz10; simp only [ez8]
def gz11 (B_ : Nat) (id1 : Int) : Option (List Int) :=
  top_bytesR14_L1 id1 B_ [] 0
theorem ez11 : top_bytesR14_f = gz11 BIG := rfl
def g_slices_Index_f (B_ : Nat) (s1 : List Int) (v1 : Int) : Option Int :=
  slices_Index_L1 s1 v1 B_ 0
theorem e_slices_Index_f : slices_Index_f = g_slices_Index_f BIG := rfl
def g_slices_Contains_f (B_ : Nat) (s1 : List Int) (v1 : Int) : Option Bool :=
  (g_slices_Index_f B_ s1 v1).bind fun r1 => some ((decide (0 ≤ r1)))
theorem e_slices_Contains_f : slices_Contains_f = g_slices_Contains_f BIG := by delta slices_Contains_f g_slices_Contains_f; simp only [e_slices_Index_f]
def gz14 (B_ : Nat) (c1 : Chain) (disks1 : List Disk) : Nat → Int → Option Bool
  | 0, _ => none
  | m_ + 1, v1 => cond (decide (v1 < (c1.servers.length : Int))) ((idx c1.servers v1).bind fun x1 => cond (decide (x1 < 0)) (chain_Right_J2 (gz14 B_ c1 disks1 m_) v1 true) (cond (decide ((disks1.length : Int) ≤ x1)) (chain_Right_J2 (gz14 B_ c1 disks1 m_) v1 true) (chk (0 ≤ 0 ∧ 0 ≤ v1 ∧ v1 ≤ (c1.servers.length : Int)) ((g_slices_Contains_f B_ ((c1.servers.take v1.toNat).drop 0) x1).bind fun r1 => chain_Right_J2 (gz14 B_ c1 disks1 m_) v1 r1)))) (chain_Right_J1 c1)
theorem ez14 (c1 : Chain) (disks1 : List Disk) (n_) : chain_Right_L1 c1 disks1 n_ = gz14 BIG c1 disks1 n_ := by
 induction n_ with
 | zero => rfl
 | succ m ih => funext _; simp only [chain_Right_L1, gz14, ih, e_slices_Contains_f]
def gz15 (B_ : Nat) (c1 : Chain) (disks1 : List Disk) : Option Bool :=
  gz14 B_ c1 disks1 B_ 0
theorem ez15 : chain_Right_f = gz15 BIG := by delta chain_Right_f gz15; simp only [ez14]
def gz16 (B_ : Nat) (s1 : List Disk) : Option (List Disk) :=
  nilqc s1 (some (([] : List Disk))) (chk ((s1.length) * 56 ≤ 140737488355328) (some (s1)))
theorem ez16 : slices_Clone_83_f = gz16 BIG := by delta slices_Clone_83_f gz16; simp only [nilq_c]
def gz17 (B_ : Nat) (c1 : Chain) (disks1 : List Disk) (data1 : List Int) : Option (List Disk) :=
  (gz16 B_ disks1).bind fun r1 => some (r1)
theorem ez17 : chain_laying_f = gz17 BIG := by delta chain_laying_f gz17; simp only [ez16]
def gz18 (B_ : Nat) (s1 : List Int) : Option (List Int) :=
  nilqc s1 (some (([] : List Int))) (chk ((s1.length) * 8 ≤ 140737488355328) (some (s1)))
theorem ez18 : slices_Clone_f = gz18 BIG := by delta slices_Clone_f gz18; simp only [nilq_c]
def gz19 (B_ : Nat) (s1 : List Int) (f1 : Int → Option Bool) : Option Int :=
  slices_IndexFunc_L1 s1 f1 B_ 0
theorem ez19 : slices_IndexFunc_f = gz19 BIG := rfl
def gz20 (B_ : Nat) (s1 : List Int) (f1 : Int → Option Bool) : Option Bool :=
  (gz19 B_ s1 f1).bind fun r1 => some ((decide (0 ≤ r1)))
theorem ez20 : slices_ContainsFunc_68_f = gz20 BIG := by delta slices_ContainsFunc_68_f gz20; simp only [ez19]
def gz21 (B_ : Nat) (data1 : List Int) (sums1 : List Int) : Option Int :=
  (gz9 B_ data1).bind fun r1 => sum_Check_L1 r1 sums1 B_ (if (sums1.length : Int) < (((r1.length : Nat)) : Int) then (sums1.length : Int) else (((r1.length : Nat)) : Int)) 0
theorem ez21 : sum_Check_f = gz21 BIG := by delta sum_Check_f gz21; simp only [ez9]
def gz22 (B_ : Nat) (c1 : Copy) : Option Bool :=
  (chunk_within_f c1.id).bind fun r1 => cond r1 (cond (decide (0 ≤ c1.ver)) (cond (decide (c1.ver ≤ 1099511627776)) (cond (decide ((c1.data.length : Int) ≤ 64)) ((gz21 B_ c1.data c1.sums).bind fun r2 => some ((r2 == (-1)))) (some (false))) (some (false))) (some (false))) (some (false))
theorem ez22 : chunk_may_f = gz22 BIG := by delta chunk_may_f gz22; simp only [ez21]
def gz23 (B_ : Nat) (slices1 : List (List Int)) (size1 : Int) : Option (List Int) :=
  (slices_Grow_f [] size1).bind fun r1 => slices_Concat_L1 slices1 B_ r1 0
theorem ez23 : slices_Concat_J1 = gz23 BIG := rfl
def gz24 (B_ : Nat) (slices1 : List (List Int)) : Nat → Int → Int → Option (List Int)
  | 0, _, _ => none
  | m_ + 1, size2, v2 => cond (decide (v2 < (slices1.length : Int))) ((idx slices1 v2).bind fun x2 => chk ((decide ((IntKind.wrap .i64 (size2 + (x2.length : Int))) < 0)) = false) (slices_Concat_J3 (gz24 B_ slices1 m_) v2 (IntKind.wrap .i64 (size2 + (x2.length : Int))))) (gz23 B_ slices1 size2)
theorem ez24 (slices1 : List (List Int)) (n_) : slices_Concat_L2 slices1 n_ = gz24 BIG slices1 n_ := by
 induction n_ with
 | zero => rfl
 | succ m ih => funext _ _; simp only [slices_Concat_L2, gz24, ih, ez23]
def gz25 (B_ : Nat) (slices1 : List (List Int)) : Option (List Int) :=
  gz24 B_ slices1 B_ 0 0
theorem ez25 : slices_Concat_f = gz25 BIG := by delta slices_Concat_f gz25; simp only [ez24]
def gz26 (B_ : Nat) (n1 : Int) : Option (List Int) :=
  pack_Int_L1 B_ [] (IntKind.wrap .u64 (BitVec.ofInt (IntKind.bits .u64) (IntKind.wrap .u64 ((IntKind.wrap .u64 n1) * 2 ^ (min 1 (IntKind.bits .u64)))) ^^^ BitVec.ofInt (IntKind.bits .u64) (IntKind.wrap .u64 (Int.fdiv n1 (2 ^ (min 63 (IntKind.bits .i64)))))).toNat)
theorem ez26 : pack_Int_f = gz26 BIG := rfl
def gz27 (B_ : Nat) (s1 : ByteArray) : Option (List Int) :=
  (gz26 B_ (s1.size : Int)).bind fun r1 => chk ((r1.length + s1.size) * 1 ≤ 140737488355328) (some ((r1 ++ (strBytes s1))))
theorem ez27 : pack_Str_f = gz27 BIG := by delta pack_Str_f gz27; simp only [ez26]
def gz28 (B_ : Nat) (l1 : List Int) : Nat → (List Int) → Int → Option (List Int)
  | 0, _, _ => none
  | m_ + 1, out2, v1 => cond (decide (v1 < (l1.length : Int))) ((idx l1 v1).bind fun x1 => (gz26 B_ x1).bind fun r1 => chk ((out2.length + r1.length) * 1 ≤ 140737488355328) (gz28 B_ l1 m_ (out2 ++ r1) (IntKind.wrap .i64 (v1 + 1)))) (pack_numbers_J1 out2)
theorem ez28 (l1 : List Int) (n_) : pack_numbers_L1 l1 n_ = gz28 BIG l1 n_ := by
 induction n_ with
 | zero => rfl
 | succ m ih => funext _ _; simp only [pack_numbers_L1, gz28, ih, ez26]
def gz29 (B_ : Nat) (l1 : List Int) : Option (List Int) :=
  gz28 B_ l1 B_ [] 0
theorem ez29 : pack_numbers_f = gz29 BIG := by delta pack_numbers_f gz29; simp only [ez28]
def gz30 (B_ : Nat) (l1 : List Int) : Option (List Int) :=
  (gz26 B_ (l1.length : Int)).bind fun r1 => (gz29 B_ l1).bind fun r2 => chk ((r1.length + r2.length) * 1 ≤ 140737488355328) (some ((r1 ++ r2)))
theorem ez30 : pack_Ints_f = gz30 BIG := by delta pack_Ints_f gz30; simp only [ez26, ez29]
def gz31 (B_ : Nat) (c1 : Copy) : Option (List Int) :=
  (gz26 B_ c1.id).bind fun r1 => (gz26 B_ c1.ver).bind fun r2 => (gz27 B_ (strOfNums c1.data)).bind fun r3 => (gz30 B_ c1.sums).bind fun r4 => (gz25 B_ [r1, r2, r3, r4]).bind fun r5 => (sum_Of_f r5).bind fun r6 => chunk_page_L1 r6 B_ r5 0
theorem ez31 : chunk_page_f = gz31 BIG := by delta chunk_page_f gz31; simp only [ez26, ez27, ez30, ez25]
def gz32 (B_ : Nat) (b1 : List Int) : Option (List Int) :=
  nilqc b1 (some (([] : List Int))) (chk ((b1.length) * 1 ≤ 140737488355328) (some (b1)))
theorem ez32 : bytes_Clone_f = gz32 BIG := by delta bytes_Clone_f gz32; simp only [nilq_c]
def gz33 (B_ : Nat) (s1 : List Page) : Option (List Page) :=
  nilqc s1 (some (([] : List Page))) (chk ((s1.length) * 32 ≤ 140737488355328) (some (s1)))
theorem ez33 : slices_Clone_74_f = gz33 BIG := by delta slices_Clone_74_f gz33; simp only [nilq_c]
def gz34 (B_ : Nat) (d1 : Disk) (at1 : Int) (data1 : List Int) : Option (Disk × Int) :=
  cond d1.down (some (d1, 40)) ((disk_may_f at1 data1).bind fun r1 => cond (!r1) (some (d1, 1)) ((gz33 B_ d1.loose).bind fun r2 => (gz32 B_ data1).bind fun r3 => chk ((r2.length + 1) * 32 ≤ 140737488355328) (some ((⟨d1.synced, (r2 ++ [(⟨at1, r3⟩ : Page)]), d1.down⟩ : Disk), 0))))
theorem ez34 : disk_Write_f = gz34 BIG := by delta disk_Write_f gz34; simp only [ez33, ez32]
def gz35 (B_ : Nat) (d1 : Disk) (c1 : Copy) : Option (Disk × Int) :=
  (gz22 B_ c1).bind fun r1 => cond (!r1) (some (d1, 1)) ((gz31 B_ c1).bind fun r2 => (gz34 B_ d1 c1.id r2).bind fun r3 => some (r3.1, r3.2))
theorem ez35 : chunk_Put_f = gz35 BIG := by delta chunk_Put_f gz35; simp only [ez22, ez31, ez34]
def gz36 (B_ : Nat) (s1 : List Int) : Option (List Int) :=
  nilqc s1 (some (([] : List Int))) (chk ((s1.length) * 1 ≤ 140737488355328) (some (s1)))
theorem ez36 : slices_Clone_108_f = gz36 BIG := by delta slices_Clone_108_f gz36; simp only [nilq_c]
def gz37 (B_ : Nat) (id1 : Int) (ver1 : Int) (data1 : List Int) : Option Copy :=
  (gz36 B_ data1).bind fun r1 => (gz9 B_ data1).bind fun r2 => some ((⟨id1, ver1, r1, r2⟩ : Copy))
theorem ez37 : chunk_New_f = gz37 BIG := by delta chunk_New_f gz37; simp only [ez36, ez9]
def gz38 (B_ : Nat) (d1 : Disk) : Option (Disk × Int) :=
  cond d1.down (some (d1, 40)) ((gz10 B_ d1.synced d1.loose).bind fun r1 => some ((⟨r1, [], false⟩ : Disk), 0))
theorem ez38 : disk_Sync_f = gz38 BIG := by delta disk_Sync_f gz38; simp only [ez10]
def gz39 (B_ : Nat) (server1 : Int) (v1 : List Disk) (v2 : Chain) (v3 : List Int) : Option (List Disk) :=
  (idx v1 server1).bind fun x1 => (gz37 B_ v2.id v2.ver v3).bind fun r1 => (gz35 B_ x1 r1).bind fun r2 => (gz38 B_ r2.1).bind fun r3 => some ((v1.set server1.toNat r3.1))
theorem ez39 : chain_laying_1_f = gz39 BIG := by delta chain_laying_1_f gz39; simp only [ez37, ez35, ez38]
def gz40 (B_ : Nat) (servers1 : List Int) (id1 : Int) (r1 : (List Int)) (data1 : List Int) : Nat → (List Disk) → Int → Option (Chain × (List Disk) × Int)
  | 0, _, _ => none
  | m_ + 1, own2, v2 => cond (decide (v2 < (servers1.length : Int))) ((idx servers1 v2).bind fun x1 => (gz39 B_ x1 own2 (⟨id1, 1, r1⟩ : Chain) data1).bind fun r4 => chk (r4.length = own2.length) (gz40 B_ servers1 id1 r1 data1 m_ r4 (IntKind.wrap .i64 (v2 + 1)))) (chain_Make_J2 id1 r1 own2)
theorem ez40 (servers1 : List Int) (id1 : Int) (r1 : (List Int)) (data1 : List Int) (n_) : chain_Make_L1 servers1 id1 r1 data1 n_ = gz40 BIG servers1 id1 r1 data1 n_ := by
 induction n_ with
 | zero => rfl
 | succ m ih => funext _ _; simp only [chain_Make_L1, gz40, ih, ez39]
def gz41 (B_ : Nat) (disks1 : List Disk) (servers1 : List Int) (id1 : Int) (r1 : (List Int)) (data1 : List Int) (v1 : Bool) : Option (Chain × (List Disk) × Int) :=
  cond v1 (some ((⟨0, 0, []⟩ : Chain), disks1, 1)) ((gz20 B_ servers1 (fun y0_ => chain_Make_1_f y0_ disks1)).bind fun r2 => cond r2 (some ((⟨0, 0, []⟩ : Chain), disks1, 40)) ((gz17 B_ (⟨id1, 1, r1⟩ : Chain) disks1 data1).bind fun r3 => gz40 B_ servers1 id1 r1 data1 B_ r3 0))
theorem ez41 : chain_Make_J1 = gz41 BIG := by delta chain_Make_J1 gz41; simp only [ez20, ez17, ez40]
def gz42 (B_ : Nat) (id1 : Int) (servers1 : List Int) (disks1 : List Disk) (data1 : List Int) : Option (Chain × (List Disk) × Int) :=
  (gz18 B_ servers1).bind fun r1 => (gz15 B_ (⟨id1, 1, r1⟩ : Chain) disks1).bind fun r5 => gz41 B_ disks1 servers1 id1 r1 data1 ((!r5) || (decide (64 < (data1.length : Int))))
theorem ez42 : chain_Make_f = gz42 BIG := by delta chain_Make_f gz42; simp only [ez18, ez15, ez41]
def gz43 (B_ : Nat) (chunks1 : Int) (servers1 : Int) : Nat → (List Disk) → (List Chain) → Int → Option ((List Disk) × (List Chain) × Bool)
  | 0, _, _, _ => none
  | m_ + 1, disks5, l4, id2 => cond (decide (id2 < chunks1)) (chk (servers1 ≠ 0) (chk (servers1 ≠ 0) (chk (servers1 ≠ 0) ((gz11 B_ id2).bind fun r1 => (gz42 B_ id2 [(Int.tmod id2 servers1), (Int.tmod (IntKind.wrap .i64 (id2 + 1)) servers1), (Int.tmod (IntKind.wrap .i64 (id2 + 2)) servers1)] disks5 r1).bind fun r2 => top_farmR14_J3 (gz43 B_ chunks1 servers1 m_) l4 r2 id2 ((r2.2.2 != 0) || ((r2.2.1.length : Int) != (disks5.length : Int))))))) (top_farmR14_J2 disks5 l4)
theorem ez43 (chunks1 : Int) (servers1 : Int) (n_) : top_farmR14_L1 chunks1 servers1 n_ = gz43 BIG chunks1 servers1 n_ := by
 induction n_ with
 | zero => rfl
 | succ m ih => funext _ _ _; simp only [top_farmR14_L1, gz43, ih, ez11, ez42]
def gz44 (B_ : Nat) (chunks1 : Int) (servers1 : Int) (disks1 : List Disk) : Option ((List Disk) × (List Chain) × Bool) :=
  gz43 B_ chunks1 servers1 B_ disks1 [] 0
theorem ez44 : top_farmR14_J1 = gz44 BIG := by delta top_farmR14_J1 gz44; simp only [ez43]
def gz45 (B_ : Nat) (servers1 : Int) (chunks1 : Int) : Nat → (List Disk) → Int → Option ((List Disk) × (List Chain) × Bool)
  | 0, _, _ => none
  | m_ + 1, disks6, i1 => cond (decide (i1 < servers1)) ((disk_New_f).bind fun r3 => chk ((disks6.length + 1) * 56 ≤ 140737488355328) (gz45 B_ servers1 chunks1 m_ (disks6 ++ [r3]) (IntKind.wrap .i64 (i1 + 1)))) (gz44 B_ chunks1 servers1 disks6)
theorem ez45 (servers1 : Int) (chunks1 : Int) (n_) : top_farmR14_L2 servers1 chunks1 n_ = gz45 BIG servers1 chunks1 n_ := by
 induction n_ with
 | zero => rfl
 | succ m ih => funext _ _; simp only [top_farmR14_L2, gz45, ih, ez44]
def g_top_farmR14_f (B_ : Nat) (servers1 : Int) (chunks1 : Int) : Option ((List Disk) × (List Chain) × Bool) :=
  gz45 B_ servers1 chunks1 B_ [] 0
theorem e_top_farmR14_f : top_farmR14_f = g_top_farmR14_f BIG := by delta top_farmR14_f g_top_farmR14_f; simp only [ez45]
def gz47 (B_ : Nat) (s1 : List Page) (f1 : Page → Option Bool) : Option Int :=
  slices_IndexFunc_119_L1 s1 f1 B_ 0
theorem ez47 : slices_IndexFunc_119_f = gz47 BIG := rfl
def gz48 (B_ : Nat) (l1 : List Page) (is1 : Page → Option Bool) : Option Int :=
  (gz47 B_ l1 is1).bind fun r1 => some (r1)
theorem ez48 : disk_find_f = gz48 BIG := by delta disk_find_f gz48; simp only [ez47]
def gz49 (B_ : Nat) (s1 : List Page) : Option (List Page) :=
  slices_Reverse_L1 B_ s1 0 (IntKind.wrap .i64 ((((s1.length : Nat)) : Int) - 1))
theorem ez49 : slices_Reverse_f = gz49 BIG := rfl
def gz50 (B_ : Nat) (d1 : Disk) (at1 : Int) : Option ((List Int) × Int) :=
  cond d1.down (some ([], 40)) ((disk_may_f at1 []).bind fun r1 => cond (!r1) (some ([], 1)) ((gz8 B_ [d1.synced, d1.loose]).bind fun r2 => (gz49 B_ r2).bind fun r3 => chk (r3.length = r2.length) ((gz48 B_ r3 (fun y0_ => disk_Read_1_f y0_ at1)).bind fun r4 => cond (decide (r4 < 0)) (some ([], 41)) ((idx r3 r4).bind fun x1 => (gz32 B_ x1.data).bind fun r5 => some (r5, 0)))))
theorem ez50 : disk_Read_f = gz50 BIG := by delta disk_Read_f gz50; simp only [ez8, ez49, ez48, ez32]
def gz51 (B_ : Nat) (d1 : Disk) (id1 : Int) : Option ((List Int) × Int) :=
  (chunk_within_f id1).bind fun r1 => cond (!r1) (some ([], 1)) ((gz50 B_ d1 id1).bind fun r2 => chunk_there_J1 r2 ((r2.2 == 0) && ((r2.1.length : Int) == 0)))
theorem ez51 : chunk_there_f = gz51 BIG := by delta chunk_there_f gz51; simp only [ez50]
def gz52 (B_ : Nat) (b1 : List Int) : Option (Int × (List Int) × Int) :=
  pack_ReadInt_L1 b1 B_ 0 0
theorem ez52 : pack_ReadInt_f = gz52 BIG := rfl
def gz53 (B_ : Nat) (r1 : Reader) : Option (Int × Reader) :=
  (chunk_take_132_f r1 (gz52 B_)).bind fun r2 => some (r2.1, r2.2)
theorem ez53 : chunk_reader_int_f = gz53 BIG := by delta chunk_reader_int_f gz53; simp only [ez52]
def gz54 (B_ : Nat) (r1 : Reader195) : Option (Int × Reader195) :=
  cond (r1.e != 0) (some (0, (⟨(⟨r1.rest.b⟩ : Rest), r1.e⟩ : Reader195))) ((gz52 B_ r1.rest.b).bind fun r2 => some (r2.1, (⟨(⟨r2.2.1⟩ : Rest), r2.2.2⟩ : Reader195)))
theorem ez54 : pack_reader_num_f = gz54 BIG := by delta pack_reader_num_f gz54; simp only [ez52]
def gz55 (B_ : Nat) (r1 : Reader195) : Option (Int × Reader195) :=
  (gz54 B_ (⟨(⟨r1.rest.b⟩ : Rest), r1.e⟩ : Reader195)).bind fun r2 => cond (r2.2.e != 0) (some (0, (⟨(⟨r2.2.rest.b⟩ : Rest), r2.2.e⟩ : Reader195))) (cond (decide (r2.1 < 0)) (pack_reader_count_J1 r2 11) (cond (decide ((r2.2.rest.b.length : Int) < r2.1)) (pack_reader_count_J1 r2 10) (some (r2.1, (⟨(⟨r2.2.rest.b⟩ : Rest), r2.2.e⟩ : Reader195)))))
theorem ez55 : pack_reader_count_f = gz55 BIG := by delta pack_reader_count_f gz55; simp only [ez54]
def gz56 (B_ : Nat) (r1 : Reader195) : Option (ByteArray × Reader195) :=
  (gz55 B_ (⟨(⟨r1.rest.b⟩ : Rest), r1.e⟩ : Reader195)).bind fun r2 => cond (r2.2.e != 0) (some ((⟨#[]⟩ : ByteArray), (⟨(⟨r2.2.rest.b⟩ : Rest), r2.2.e⟩ : Reader195))) ((pack_rest_take_f (⟨(⟨r2.2.rest.b⟩ : Rest), r2.2.e⟩ : Reader195) r2.1).bind fun r3 => some ((strOfNums r3.1), (⟨(⟨r3.2.rest.b⟩ : Rest), r3.2.e⟩ : Reader195)))
theorem ez56 : pack_reader_str_f = gz56 BIG := by delta pack_reader_str_f gz56; simp only [ez55]
def gz57 (B_ : Nat) (b1 : List Int) : Option (ByteArray × (List Int) × Int) :=
  (gz56 B_ (⟨(⟨b1⟩ : Rest), 0⟩ : Reader195)).bind fun r1 => cond (r1.2.e != 0) (some ((⟨#[]⟩ : ByteArray), [], r1.2.e)) (some (r1.1, r1.2.rest.b, 0))
theorem ez57 : pack_ReadStr_f = gz57 BIG := by delta pack_ReadStr_f gz57; simp only [ez56]
def gz58 (B_ : Nat) (r2 : Int × Reader195) : Nat → Reader195 → (List Int) → Int → Option ((List Int) × (List Int) × Int)
  | 0, _, _, _ => none
  | m_ + 1, r3, out2, v1 => cond (decide (v1 < r2.1)) ((gz54 B_ (⟨(⟨r3.rest.b⟩ : Rest), r3.e⟩ : Reader195)).bind fun r4 => chk ((out2.length + 1) * 8 ≤ 140737488355328) (cond (r4.2.e != 0) (pack_ReadInts_J1 (⟨(⟨r4.2.rest.b⟩ : Rest), r4.2.e⟩ : Reader195) (out2 ++ [r4.1])) (gz58 B_ r2 m_ (⟨(⟨r4.2.rest.b⟩ : Rest), r4.2.e⟩ : Reader195) (out2 ++ [r4.1]) (IntKind.wrap .i64 (v1 + 1))))) (pack_ReadInts_J1 (⟨(⟨r3.rest.b⟩ : Rest), r3.e⟩ : Reader195) out2)
theorem ez58 (r2 : Int × Reader195) (n_) : pack_ReadInts_L1 r2 n_ = gz58 BIG r2 n_ := by
 induction n_ with
 | zero => rfl
 | succ m ih => funext _ _ _; simp only [pack_ReadInts_L1, gz58, ih, ez54]
def gz59 (B_ : Nat) (b1 : List Int) : Option ((List Int) × (List Int) × Int) :=
  (gz55 B_ (⟨(⟨b1⟩ : Rest), 0⟩ : Reader195)).bind fun r2 => gz58 B_ r2 B_ (⟨(⟨r2.2.rest.b⟩ : Rest), r2.2.e⟩ : Reader195) [] 0
theorem ez59 : pack_ReadInts_f = gz59 BIG := by delta pack_ReadInts_f gz59; simp only [ez55, ez58]
def gz60 (B_ : Nat) (r1 : Reader) : Option (Copy × Bool × Reader) :=
  (gz53 B_ r1).bind fun r2 => (gz53 B_ r2.2).bind fun r3 => (chunk_take_f r3.2 (gz57 B_)).bind fun r4 => chk (r4.1.size ≤ 140737488355328) ((chunk_take_92_f r4.2 (gz59 B_)).bind fun r5 => cond (!r5.2.bad) (some ((⟨r2.1, r3.1, (strBytes r4.1), r5.1⟩ : Copy), ((r5.2.b.length : Int) == 0), r5.2)) (some ((⟨r2.1, r3.1, (strBytes r4.1), r5.1⟩ : Copy), false, r5.2)))
theorem ez60 : chunk_reader_copy_f = gz60 BIG := by delta chunk_reader_copy_f gz60; simp only [ez53, ez57, ez59]
def gz61 (B_ : Nat) (d1 : Disk) (id1 : Int) : Option (Copy × Int) :=
  (gz51 B_ d1 id1).bind fun r1 => cond (r1.2 != 0) (some ((⟨0, 0, [], []⟩ : Copy), r1.2)) (cond (decide ((r1.1.length : Int) < 4)) (some ((⟨0, 0, [], []⟩ : Copy), 251)) (chk (0 ≤ 0 ∧ 0 ≤ (IntKind.wrap .i64 ((r1.1.length : Int) - 4)) ∧ (IntKind.wrap .i64 ((r1.1.length : Int) - 4)) ≤ (r1.1.length : Int)) ((gz60 B_ (⟨((r1.1.take (IntKind.wrap .i64 ((r1.1.length : Int) - 4)).toNat).drop 0), false⟩ : Reader)).bind fun r2 => cond (!r2.2.1) (chunk_Get_J1 r2 true) ((gz22 B_ r2.1).bind fun r3 => cond (!r3) (chunk_Get_J1 r2 true) (cond (r2.1.id != id1) (chunk_Get_J1 r2 true) ((gz31 B_ r2.1).bind fun r4 => (bytes_Equal_f r4 r1.1).bind fun r5 => chunk_Get_J1 r2 (!r5)))))))
theorem ez61 : chunk_Get_f = gz61 BIG := by delta chunk_Get_f gz61; simp only [ez51, ez60, ez22, ez31]
def gz62 (B_ : Nat) (disks1 : List Disk) (s1 : Int) (c1 : Chain) (v1 : Bool) : Option Int :=
  cond v1 (some (1)) ((idx disks1 s1).bind fun x1 => (gz61 B_ x1 c1.id).bind fun r1 => cond (r1.2 == 41) (some (2)) (cond (r1.2 != 0) (some (3)) (cond (decide (r1.1.ver < c1.ver)) (some (4)) (cond (decide (c1.ver < r1.1.ver)) (some (5)) (some (0))))))
theorem ez62 : scrub_stands_J1 = gz62 BIG := by delta scrub_stands_J1 gz62; simp only [ez61]
def gz63 (B_ : Nat) (disks1 : List Disk) (c1 : Chain) (s1 : Int) : Option Int :=
  cond (decide ((disks1.length : Int) ≤ s1)) (gz62 B_ disks1 s1 c1 true) ((idx disks1 s1).bind fun x2 => gz62 B_ disks1 s1 c1 x2.down)
theorem ez63 : scrub_stands_f = gz63 BIG := by delta scrub_stands_f gz63; simp only [ez62]
def gz64 (B_ : Nat) (c : Chain) (disks : List Disk) : List Int → Option (List (Int × Int))
  | [] => some []
  | s :: l => (gz63 B_ disks c s).bind fun r => (gz64 B_ c disks l).bind fun t => some ((s, r) :: t)
theorem ez64 (c : Chain) (disks : List Disk) (n_) : allL c disks n_ = gz64 BIG c disks n_ := by
 induction n_ with
 | nil => first | rfl | simp only [allL, gz64, ez63]
 | cons y r ih => simp only [allL, gz64, ih, ez63]
def gz65 (B_ : Nat) (c1 : Chain) (disks1 : List Disk) : Option (List (Int × Int)) := gz64 B_ c1 disks1 c1.servers
theorem ez65 : scrub_all_1_f = gz65 BIG := by delta scrub_all_1_f gz65; simp only [ez64]
def gz66 (B_ : Nat) (c1 : Chain) (disks1 : List Disk) : Option ((List Int) × Int) :=
  (idx c1.servers (IntKind.wrap .i64 ((c1.servers.length : Int) - 1))).bind fun x1 => (idx disks1 x1).bind fun x2 => (gz61 B_ x2 c1.id).bind fun r1 => cond (r1.2 != 0) (some ([], r1.2)) (cond (r1.1.ver != c1.ver) (some ([], 250)) (some (r1.1.data, 0)))
theorem ez66 : chain_Read_f = gz66 BIG := by delta chain_Read_f gz66; simp only [ez61]
def gz67 (B_ : Nat) (a1 : List Int) (b1 : List Int) : Option Bool :=
  cond ((a1.length : Int) != (b1.length : Int)) (some (false)) (ref02_Bytes_L1 a1 b1 B_ 0)
theorem ez67 : ref02_Bytes_f = gz67 BIG := rfl
def gz68 (B_ : Nat) (a1 : List Int) (b1 : List Int) : Option Bool :=
  cond ((a1.length : Int) != (b1.length : Int)) (some (false)) (ref02_Ints_L1 a1 b1 B_ 0)
theorem ez68 : ref02_Ints_f = gz68 BIG := rfl
def gz69 (B_ : Nat) (disks1 : List Disk) (c1 : Chain) : Option (List Find) :=
  (scrub_all_f disks1 c1).bind fun r1 => (gz65 B_ c1 disks1).bind fun ys1 => scrub_Look_L1 c1 ys1 ([] : List Find)
theorem ez69 : scrub_Look_f = gz69 BIG := by delta scrub_Look_f gz69; simp only [ez65]
def gz70 (B_ : Nat) (disks1 : List Disk) (c1 : Chain) : Option (List Int) :=
  (scrub_all_f disks1 c1).bind fun r1 => (gz65 B_ c1 disks1).bind fun ys1 => scrub_Intact_L1 ys1 ([] : List Int)
theorem ez70 : scrub_Intact_f = gz70 BIG := by delta scrub_Intact_f gz70; simp only [ez65]
def gz71 (B_ : Nat) (b1 : Int) (a1 : Int) (cmp1 : Find → Find → Option Int) : Nat → (List Find) → Int → Option (List Find)
  | 0, _, _ => none
  | m_ + 1, data2, i1 => cond (decide (i1 < b1)) (slices_insertionSortCmpFunc_L2 (gz71 B_ b1 a1 cmp1 m_) a1 cmp1 i1 B_ data2 i1) (some (data2))
theorem ez71 (b1 : Int) (a1 : Int) (cmp1 : Find → Find → Option Int) (n_) : slices_insertionSortCmpFunc_L1 b1 a1 cmp1 n_ = gz71 BIG b1 a1 cmp1 n_ := by
 induction n_ with
 | zero => rfl
 | succ m ih => funext _ _; simp only [slices_insertionSortCmpFunc_L1, gz71, ih]
def gz72 (B_ : Nat) (data1 : List Find) (a1 : Int) (b1 : Int) (cmp1 : Find → Find → Option Int) : Option (List Find) :=
  gz71 B_ b1 a1 cmp1 B_ data1 (IntKind.wrap .i64 (a1 + 1))
theorem ez72 : slices_insertionSortCmpFunc_f = gz72 BIG := by delta slices_insertionSortCmpFunc_f gz72; simp only [ez71]
def gz73 (B_ : Nat) (b1 : Int) (a1 : Int) (data1 : List Find) (cmp1 : Find → Find → Option Int) : Nat → Option (List Find)
  | 0 => none
  | m_ + 1 => chk ((decide ((IntKind.wrap .i64 (b1 - a1)) ≤ 12)) = true) ((gz72 B_ data1 a1 b1 cmp1).bind fun r1 => chk (r1.length = data1.length) (some (r1)))
theorem ez73 (b1 : Int) (a1 : Int) (data1 : List Find) (cmp1 : Find → Find → Option Int) (n_) : slices_pdqsortCmpFunc_L1 b1 a1 data1 cmp1 n_ = gz73 BIG b1 a1 data1 cmp1 n_ := by
 induction n_ with
 | zero => rfl
 | succ m ih => simp only [slices_pdqsortCmpFunc_L1, gz73, ih, ez72]
def gz74 (B_ : Nat) (data1 : List Find) (a1 : Int) (b1 : Int) (limit1 : Int) (cmp1 : Find → Find → Option Int) : Option (List Find) :=
  gz73 B_ b1 a1 data1 cmp1 B_
theorem ez74 : slices_pdqsortCmpFunc_f = gz74 BIG := by delta slices_pdqsortCmpFunc_f gz74; simp only [ez73]
def gz75 (B_ : Nat) (x1 : List Find) (cmp1 : Find → Find → Option Int) : Option (List Find) :=
  (math_bits_Len_f (IntKind.wrap .u64 (((x1.length : Nat)) : Int))).bind fun r1 => (gz74 B_ x1 0 (((x1.length : Nat)) : Int) r1 cmp1).bind fun r2 => chk (r2.length = x1.length) (some (r2))
theorem ez75 : slices_SortFunc_f = gz75 BIG := by delta slices_SortFunc_f gz75; simp only [ez74]
def gz76 (B_ : Nat) (x1 : Int) (v1 : Chain) (v2 : Int) : Option Bool :=
  (g_slices_Index_f B_ v1.servers x1).bind fun r1 => some ((decide (v2 < r1)))
theorem ez76 : scrub_next_1_f = gz76 BIG := by delta scrub_next_1_f gz76; simp only [e_slices_Index_f]
def g_scrub_next_f (B_ : Nat) (c1 : Chain) (own1 : List Int) (s1 : Int) : Option Int :=
  (g_slices_Index_f B_ c1.servers s1).bind fun r1 => (gz19 B_ own1 (fun y0_ => gz76 B_ y0_ c1 r1)).bind fun r2 => cond (decide (0 ≤ r2)) ((idx own1 r2).bind fun x1 => some (x1)) ((idx own1 (IntKind.wrap .i64 ((own1.length : Int) - 1))).bind fun x2 => some (x2))
theorem e_scrub_next_f : scrub_next_f = g_scrub_next_f BIG := by delta scrub_next_f g_scrub_next_f; simp only [e_slices_Index_f, ez19, ez76]
def gz78 (B_ : Nat) (k_scrub_Plan_L1 : (List Job) → (List Int) → Int → Option ((List Job) × (List Int))) (r3 : (List Find)) (x1 : Chain) (r1 : (List Int)) (disks1 : List Disk) (v1 : Int) (lost2 : List Int) : Nat → (List Job) → Int → Int → Option ((List Job) × (List Int))
  | 0, _, _, _ => none
  | m_ + 1, out4, v2, v3 => cond (decide (v3 < v2)) ((idx r3 v3).bind fun x2 => cond (x2.what != 1) ((g_scrub_next_f B_ x1 r1 x2.server).bind fun r4 => (idx disks1 r4).bind fun x3 => (gz61 B_ x3 x1.id).bind fun r5 => chk ((out4.length + 1) * 48 ≤ 140737488355328) (scrub_Plan_J3 (gz78 B_ k_scrub_Plan_L1 r3 x1 r1 disks1 v1 lost2 m_) v2 v3 (out4 ++ [(⟨x1.id, x1.ver, r4, x2.server, (r1.length : Int), (IntKind.wrap .i64 ((r5.1.data.length : Int) + 1))⟩ : Job)]))) (scrub_Plan_J3 (gz78 B_ k_scrub_Plan_L1 r3 x1 r1 disks1 v1 lost2 m_) v2 v3 out4)) (scrub_Plan_J2 k_scrub_Plan_L1 v1 out4 lost2)
theorem ez78 (k_scrub_Plan_L1 : (List Job) → (List Int) → Int → Option ((List Job) × (List Int))) (r3 : (List Find)) (x1 : Chain) (r1 : (List Int)) (disks1 : List Disk) (v1 : Int) (lost2 : List Int) (n_) : scrub_Plan_L2 k_scrub_Plan_L1 r3 x1 r1 disks1 v1 lost2 n_ = gz78 BIG k_scrub_Plan_L1 r3 x1 r1 disks1 v1 lost2 n_ := by
 induction n_ with
 | zero => rfl
 | succ m ih => funext _ _ _; simp only [scrub_Plan_L2, gz78, ih, e_scrub_next_f, ez61]
def gz79 (B_ : Nat) (l1 : List Chain) (disks1 : List Disk) : Nat → (List Job) → (List Int) → Int → Option ((List Job) × (List Int))
  | 0, _, _, _ => none
  | m_ + 1, out2, lost2, v1 => cond (decide (v1 < (l1.length : Int))) ((idx l1 v1).bind fun x1 => (gz70 B_ disks1 x1).bind fun r1 => cond ((r1.length : Int) == 0) (chk ((lost2.length + 1) * 8 ≤ 140737488355328) (scrub_Plan_J2 (gz79 B_ l1 disks1 m_) v1 out2 (lost2 ++ [x1.id]))) ((gz69 B_ disks1 x1).bind fun r2 => (gz75 B_ r2 scrub_Plan_1_f).bind fun r3 => chk (r3.length = r2.length) (gz78 B_ (gz79 B_ l1 disks1 m_) r3 x1 r1 disks1 v1 lost2 B_ out2 (((r2.length : Nat)) : Int) 0))) (scrub_Plan_J1 out2 lost2)
theorem ez79 (l1 : List Chain) (disks1 : List Disk) (n_) : scrub_Plan_L1 l1 disks1 n_ = gz79 BIG l1 disks1 n_ := by
 induction n_ with
 | zero => rfl
 | succ m ih => funext _ _ _; simp only [scrub_Plan_L1, gz79, ih, ez70, ez69, ez75, ez78]
def gz80 (B_ : Nat) (disks1 : List Disk) (l1 : List Chain) : Option ((List Job) × (List Int)) :=
  gz79 B_ l1 disks1 B_ [] [] 0
theorem ez80 : scrub_Plan_f = gz80 BIG := by delta scrub_Plan_f gz80; simp only [ez79]
def gz81 (B_ : Nat) (d1 : Disk) (r1 : Int) (bit1 : Int) (v1 : Bool) : Option Disk :=
  cond v1 (some (d1)) ((idx d1.synced r1).bind fun x1 => (gz32 B_ x1.data).bind fun r2 => (idx r2 (IntKind.wrap .i64 (Int.tdiv bit1 8))).bind fun x2 => chk (0 ≤ (Int.tmod bit1 8)) ((gz33 B_ d1.synced).bind fun r3 => (idx r3 r1).bind fun x3 => some ((⟨(r3.set r1.toNat (⟨x3.at_, (r2.set ((IntKind.wrap .i64 (Int.tdiv bit1 8)).toNat) (IntKind.wrap .u8 (BitVec.ofInt (IntKind.bits .u8) x2 ^^^ BitVec.ofInt (IntKind.bits .u8) (IntKind.wrap .u8 (1 * 2 ^ (min (Int.tmod bit1 8).toNat (IntKind.bits .u8))))).toNat))⟩ : Page)), d1.loose, d1.down⟩ : Disk))))
theorem ez81 : disk_Rot_J1 = gz81 BIG := by delta disk_Rot_J1 gz81; simp only [ez32, ez33]
def gz82 (B_ : Nat) (d1 : Disk) (at1 : Int) (bit1 : Int) : Option Disk :=
  (gz48 B_ d1.synced (fun y0_ => disk_Rot_1_f y0_ at1)).bind fun r1 => cond (decide (r1 < 0)) (gz81 B_ d1 r1 bit1 true) (cond (decide (bit1 < 0)) (gz81 B_ d1 r1 bit1 true) ((idx d1.synced r1).bind fun x4 => gz81 B_ d1 r1 bit1 (decide ((IntKind.wrap .i64 (8 * (x4.data.length : Int))) ≤ bit1))))
theorem ez82 : disk_Rot_f = gz82 BIG := by delta disk_Rot_f gz82; simp only [ez48, ez81]
def gz83 (B_ : Nat) (s1 : List Job) : Option (List Job) :=
  nilqc s1 (some (([] : List Job))) (chk ((s1.length) * 48 ≤ 140737488355328) (some (s1)))
theorem ez83 : slices_Clone_120_f = gz83 BIG := by delta slices_Clone_120_f gz83; simp only [nilq_c]
def gz84 (B_ : Nat) (l1 : List Job) (budget1 : Int) : Option ((List Job) × (List Job)) :=
  (gz83 B_ l1).bind fun r1 => mend_Step_L1 r1 B_ budget1 [] 0 r1.length
theorem ez84 : mend_Step_f = gz84 BIG := by delta mend_Step_f gz84; simp only [ez83]
def gz85 (B_ : Nat) (s1 : List Job) (f1 : Job → Option Bool) : Option Int :=
  slices_IndexFunc_121_L1 s1 f1 B_ 0
theorem ez85 : slices_IndexFunc_121_f = gz85 BIG := rfl
def gz86 (B_ : Nat) (l1 : List Job) : Nat → (List Job) → Int → Int → Option (List Job)
  | 0, _, _, _ => none
  | m_ + 1, out2, v1, v2 => cond (decide (v2 < v1)) ((idx out2 v2).bind fun x1 => (mend_of_f x1).bind fun r2 => (gz85 B_ l1 (fun y0_ => mend_spot_is_f (⟨r2.id, r2.to_⟩ : Spot) y0_)).bind fun r3 => cond (decide (0 ≤ r3)) ((idx l1 r3).bind fun x4 => mend_Renew_J3 (gz86 B_ l1 m_) l1 r3 out2 v2 v1 x1 (x4.ver == x1.ver)) (mend_Renew_J3 (gz86 B_ l1 m_) l1 r3 out2 v2 v1 x1 false)) (mend_Renew_J1 out2)
theorem ez86 (l1 : List Job) (n_) : mend_Renew_L1 l1 n_ = gz86 BIG l1 n_ := by
 induction n_ with
 | zero => rfl
 | succ m ih => funext _ _ _; simp only [mend_Renew_L1, gz86, ih, ez85]
def gz87 (B_ : Nat) (l1 : List Job) (plan1 : List Job) : Option (List Job) :=
  (gz83 B_ plan1).bind fun r1 => gz86 B_ l1 B_ r1 (((r1.length : Nat)) : Int) 0
theorem ez87 : mend_Renew_f = gz87 BIG := by delta mend_Renew_f gz87; simp only [ez83, ez86]
def gz88 (B_ : Nat) (s1 : List Job) (f1 : Job → Option Bool) : Option Bool :=
  (gz85 B_ s1 f1).bind fun r1 => some ((decide (0 ≤ r1)))
theorem ez88 : slices_ContainsFunc_125_f = gz88 BIG := by delta slices_ContainsFunc_125_f gz88; simp only [ez85]
def gz89 (B_ : Nat) (b1 : Int) (a1 : Int) (cmp1 : Job → Job → Option Int) : Nat → (List Job) → Int → Option (List Job)
  | 0, _, _ => none
  | m_ + 1, data2, i1 => cond (decide (i1 < b1)) (slices_insertionSortCmpFunc_176_L2 (gz89 B_ b1 a1 cmp1 m_) a1 cmp1 i1 B_ data2 i1) (some (data2))
theorem ez89 (b1 : Int) (a1 : Int) (cmp1 : Job → Job → Option Int) (n_) : slices_insertionSortCmpFunc_176_L1 b1 a1 cmp1 n_ = gz89 BIG b1 a1 cmp1 n_ := by
 induction n_ with
 | zero => rfl
 | succ m ih => funext _ _; simp only [slices_insertionSortCmpFunc_176_L1, gz89, ih]
def gz90 (B_ : Nat) (data1 : List Job) (a1 : Int) (b1 : Int) (cmp1 : Job → Job → Option Int) : Option (List Job) :=
  gz89 B_ b1 a1 cmp1 B_ data1 (IntKind.wrap .i64 (a1 + 1))
theorem ez90 : slices_insertionSortCmpFunc_176_f = gz90 BIG := by delta slices_insertionSortCmpFunc_176_f gz90; simp only [ez89]
def gz91 (B_ : Nat) (b1 : Int) (a1 : Int) (data1 : List Job) (cmp1 : Job → Job → Option Int) : Nat → Option (List Job)
  | 0 => none
  | m_ + 1 => chk ((decide ((IntKind.wrap .i64 (b1 - a1)) ≤ 12)) = true) ((gz90 B_ data1 a1 b1 cmp1).bind fun r1 => chk (r1.length = data1.length) (some (r1)))
theorem ez91 (b1 : Int) (a1 : Int) (data1 : List Job) (cmp1 : Job → Job → Option Int) (n_) : slices_pdqsortCmpFunc_156_L1 b1 a1 data1 cmp1 n_ = gz91 BIG b1 a1 data1 cmp1 n_ := by
 induction n_ with
 | zero => rfl
 | succ m ih => simp only [slices_pdqsortCmpFunc_156_L1, gz91, ih, ez90]
def gz92 (B_ : Nat) (data1 : List Job) (a1 : Int) (b1 : Int) (limit1 : Int) (cmp1 : Job → Job → Option Int) : Option (List Job) :=
  gz91 B_ b1 a1 data1 cmp1 B_
theorem ez92 : slices_pdqsortCmpFunc_156_f = gz92 BIG := by delta slices_pdqsortCmpFunc_156_f gz92; simp only [ez91]
def gz93 (B_ : Nat) (x1 : List Job) (cmp1 : Job → Job → Option Int) : Option (List Job) :=
  (math_bits_Len_f (IntKind.wrap .u64 (((x1.length : Nat)) : Int))).bind fun r1 => (gz92 B_ x1 0 (((x1.length : Nat)) : Int) r1 cmp1).bind fun r2 => chk (r2.length = x1.length) (some (r2))
theorem ez93 : slices_SortFunc_126_f = gz93 BIG := by delta slices_SortFunc_126_f gz93; simp only [ez92]
def gz94 (B_ : Nat) (vals1 : List Int) : Option Int :=
  cmp_Or_L1 vals1 B_ 0
theorem ez94 : cmp_Or_f = gz94 BIG := rfl
def gz95 (B_ : Nat) (a1 : Job) (b1 : Job) : Option Int :=
  (cmp_Compare_f a1.have_ b1.have_).bind fun r1 => (cmp_Compare_f a1.id b1.id).bind fun r2 => (cmp_Compare_f a1.to_ b1.to_).bind fun r3 => (gz94 B_ [r1, r2, r3]).bind fun r4 => some (r4)
theorem ez95 : mend_against_f = gz95 BIG := by delta mend_against_f gz95; simp only [ez94]
def gz96 (B_ : Nat) (out1 : List Job) : Option (List Job) :=
  (gz93 B_ out1 (gz95 B_)).bind fun r1 => chk (r1.length = out1.length) (some (r1))
theorem ez96 : mend_Order_J1 = gz96 BIG := by delta mend_Order_J1 gz96; simp only [ez93, ez95]
def gz97 (B_ : Nat) (l1 : List Job) : Nat → (List Job) → Int → Option (List Job)
  | 0, _, _ => none
  | m_ + 1, out2, v1 => cond (decide (v1 < (l1.length : Int))) ((idx l1 v1).bind fun x1 => (mend_may_f x1).bind fun r2 => cond r2 ((mend_of_f x1).bind fun r3 => (gz88 B_ out2 (fun y0_ => mend_spot_is_f (⟨r3.id, r3.to_⟩ : Spot) y0_)).bind fun r4 => mend_Order_J3 (gz97 B_ l1 m_) out2 v1 x1 (!r4)) (mend_Order_J3 (gz97 B_ l1 m_) out2 v1 x1 false)) (gz96 B_ out2)
theorem ez97 (l1 : List Job) (n_) : mend_Order_L1 l1 n_ = gz97 BIG l1 n_ := by
 induction n_ with
 | zero => rfl
 | succ m ih => funext _ _; simp only [mend_Order_L1, gz97, ih, ez88, ez96]
def gz98 (B_ : Nat) (l1 : List Job) : Option (List Job) :=
  gz97 B_ l1 B_ [] 0
theorem ez98 : mend_Order_f = gz98 BIG := by delta mend_Order_f gz98; simp only [ez97]
def gz99 (B_ : Nat) (disks1 : List Disk) (s1 : Int) (d1 : Disk) (e1 : Int) : Option ((List Disk) × Int) :=
  cond (e1 != 0) (some (disks1, e1)) ((gz16 B_ disks1).bind fun r2 => (idx r2 s1).bind fun x2 => some ((r2.set s1.toNat d1), 0))
theorem ez99 : scrub_turn_J1 = gz99 BIG := by delta scrub_turn_J1 gz99; simp only [ez16]
def gz100 (B_ : Nat) (disks1 : List Disk) (s1 : Int) (how1 : Disk → Option (Disk × Int)) : Option ((List Disk) × Int) :=
  (idx disks1 s1).bind fun x1 => (how1 x1).bind fun r1 => cond (r1.2 == 0) ((gz38 B_ r1.1).bind fun r3 => gz99 B_ disks1 s1 r3.1 r3.2) (gz99 B_ disks1 s1 r1.1 r1.2)
theorem ez100 : scrub_turn_f = gz100 BIG := by delta scrub_turn_f gz100; simp only [ez38, ez99]
def gz101 (B_ : Nat) (d1 : Disk) (v1 : Copy) : Option (Disk × Int) :=
  (gz35 B_ d1 v1).bind fun r1 => some (r1.1, r1.2)
theorem ez101 : scrub_Copy_1_f = gz101 BIG := by delta scrub_Copy_1_f gz101; simp only [ez35]
def gz102 (B_ : Nat) (disks1 : List Disk) (j1 : Job) (v1 : Bool) : Option ((List Disk) × Int) :=
  cond v1 (some (disks1, 1)) ((idx disks1 j1.from_).bind fun x1 => (gz61 B_ x1 j1.id).bind fun r1 => cond (r1.2 != 0) (some (disks1, r1.2)) (cond (r1.1.ver != j1.ver) (some (disks1, 250)) ((gz100 B_ disks1 j1.to_ (fun y0_ => gz101 B_ y0_ r1.1)).bind fun r2 => some (r2.1, r2.2))))
theorem ez102 : scrub_Copy_J1 = gz102 BIG := by delta scrub_Copy_J1 gz102; simp only [ez61, ez100, ez101]
def gz103 (B_ : Nat) (disks1 : List Disk) (j1 : Job) : Option ((List Disk) × Int) :=
  (scrub_there_f disks1 j1.from_).bind fun r3 => cond (!r3) (gz102 B_ disks1 j1 true) ((scrub_there_f disks1 j1.to_).bind fun r4 => gz102 B_ disks1 j1 (!r4))
theorem ez103 : scrub_Copy_f = gz103 BIG := by delta scrub_Copy_f gz103; simp only [ez102]
def gz104 (B_ : Nat) (l1 : List Job) : Nat → (List Disk) → (List Job) → Int → Option ((List Disk) × (List Job))
  | 0, _, _, _ => none
  | m_ + 1, disks3, done2, v1 => cond (decide (v1 < (l1.length : Int))) ((idx l1 v1).bind fun x1 => (gz103 B_ disks3 x1).bind fun r1 => cond (r1.2 == 0) (chk ((done2.length + 1) * 48 ≤ 140737488355328) (mend_Do_J2 (gz104 B_ l1 m_) v1 r1.1 (done2 ++ [x1]))) (mend_Do_J2 (gz104 B_ l1 m_) v1 disks3 done2)) (mend_Do_J1 disks3 done2)
theorem ez104 (l1 : List Job) (n_) : mend_Do_L1 l1 n_ = gz104 BIG l1 n_ := by
 induction n_ with
 | zero => rfl
 | succ m ih => funext _ _ _; simp only [mend_Do_L1, gz104, ih, ez103]
def gz105 (B_ : Nat) (disks1 : List Disk) (l1 : List Job) : Option ((List Disk) × (List Job)) :=
  gz104 B_ l1 B_ disks1 [] 0
theorem ez105 : mend_Do_f = gz105 BIG := by delta mend_Do_f gz105; simp only [ez104]
def gz106 (B_ : Nat) (disks1 : List Disk) (chains1 : List Chain) (l1 : List Job) (budget1 : Int) : Option ((List Disk) × (List Job) × (List Job)) :=
  (gz80 B_ disks1 chains1).bind fun r1 => (gz98 B_ r1.1).bind fun r2 => (gz87 B_ l1 r2).bind fun r3 => (gz84 B_ r3 budget1).bind fun r4 => (gz105 B_ disks1 r4.2).bind fun r5 => some (r5.1, r4.1, r5.2)
theorem ez106 : mend_Round_f = gz106 BIG := by delta mend_Round_f gz106; simp only [ez80, ez98, ez87, ez84, ez105]
def gz107 (B_ : Nat) (d1 : Disk) : Nat → (List Int) → Int → Option (List Int)
  | 0, _, _ => none
  | m_ + 1, out2, v1 => cond (decide (v1 < 200)) ((gz51 B_ d1 v1).bind fun r1 => cond (r1.2 == 0) (chk ((out2.length + 1) * 8 ≤ 140737488355328) (chunk_Has_J2 (gz107 B_ d1 m_) v1 (out2 ++ [v1]))) (chunk_Has_J2 (gz107 B_ d1 m_) v1 out2)) (chunk_Has_J1 out2)
theorem ez107 (d1 : Disk) (n_) : chunk_Has_L1 d1 n_ = gz107 BIG d1 n_ := by
 induction n_ with
 | zero => rfl
 | succ m ih => funext _ _; simp only [chunk_Has_L1, gz107, ih, ez51]
def gz108 (B_ : Nat) (d1 : Disk) : Option (List Int) :=
  gz107 B_ d1 B_ [] 0
theorem ez108 : chunk_Has_f = gz108 BIG := by delta chunk_Has_f gz108; simp only [ez107]
def gz109 (B_ : Nat) : List Disk → Option (List (List Int))
  | [] => some []
  | d :: l => (gz108 B_ d).bind fun h => (gz109 B_ l).bind fun t => some (h :: t)
theorem ez109 (n_) : hasAll  n_ = gz109 BIG  n_ := by
 induction n_ with
 | nil => first | rfl | simp only [hasAll, gz109, ez108]
 | cons y r ih => simp only [hasAll, gz109, ih, ez108]
def gz110 (B_ : Nat) (named1 : List Named) (rooms1 : List Room) (leases1 : List Lease) (now1 : Int) (disks1 : List Disk) : Option (List Int) :=
  (gz109 B_ disks1).bind fun hss => chk (rooms1.isEmpty = true ∧ (named1.all fun p => (Lit.int .i64 p.id).wf) = true ∧ (hss.all fun hs => hs.all fun x => (Lit.int .i64 x).wf) = true ∧ (hss.flatMap (gone1 (named1.map (·.id)))).length ≤ 12) (some (sortI (hss.flatMap (gone1 (named1.map (·.id))))))
theorem ez110 : sweep_Gone_f = gz110 BIG := by delta sweep_Gone_f gz110; simp only [ez109]
def gz111 (B_ : Nat) (r1 : (List Disk) × (List Chain) × Bool) (v1 : Bool) : Option Bool :=
  cond v1 (some (false)) (chk ((r1.1.length) * 56 ≤ 140737488355328) ((idx r1.1 0).bind fun x1 => (gz82 B_ x1 0 3).bind fun r2 => (gz80 B_ (r1.1.set 0 r2) r1.2.1).bind fun r3 => (gz106 B_ (r1.1.set 0 r2) r1.2.1 [] 5).bind fun r4 => (gz106 B_ r4.1 r1.2.1 r4.2.1 5).bind fun r5 => (idx r1.2.1 0).bind fun x2 => (gz66 B_ x2 r5.1).bind fun r6 => (gz110 B_ [(⟨0, 0, 0, 0⟩ : Named)] [] [] 0 r5.1).bind fun r7 => cond ((r3.1.length : Int) == 1) (cond ((r3.2.length : Int) == 0) ((idx r3.1 0).bind fun x3 => cond (x3.from_ == 1) (cond (x3.left == 6) (cond ((r4.2.2.length : Int) == 0) (cond ((r4.2.1.length : Int) == 1) (cond ((r5.2.1.length : Int) == 0) (cond ((r5.2.2.length : Int) == 1) (cond (r6.2 == 0) ((gz11 B_ 0).bind fun r8 => (gz67 B_ r6.1 r8).bind fun r9 => cond r9 ((gz68 B_ r7 [1]).bind fun r10 => some (r10)) (some (false))) (some (false))) (some (false))) (some (false))) (some (false))) (some (false))) (some (false))) (some (false))) (some (false))) (some (false))))
theorem ez111 : top_head29_J1 = gz111 BIG := by delta top_head29_J1 gz111; simp only [ez82, ez80, ez106, ez66, ez110, ez11, ez67, ez68]
def g_top_head29_f (B_ : Nat) : Option Bool :=
  (g_top_farmR14_f B_ 4 2).bind fun r1 => gz111 B_ r1 ((!r1.2.2) || (((r1.1.length : Int) != 4) || ((r1.2.1.length : Int) != 2)))
theorem e_top_head29_f : top_head29_f = g_top_head29_f BIG := by delta top_head29_f g_top_head29_f; simp only [e_top_farmR14_f, ez111]
def gz113 (B_ : Nat) (s1 : List Int) : Nat → Int → Option (List Int)
  | 0, _ => none
  | m_ + 1, k1 => cond (decide (k1 < (((s1.length : Nat)) : Int))) ((idx s1 k1).bind fun x1 => (idx s1 (IntKind.wrap .i64 (k1 - 1))).bind fun x2 => cond (x1 == x2) (chk (0 ≤ k1 ∧ k1 ≤ (s1.length : Int) ∧ (s1.length : Int) ≤ (s1.length : Int)) (slices_Compact_L2 B_ s1 k1 k1.toNat (s1.length - k1.toNat) 1)) (slices_Compact_J2 (gz113 B_ s1 m_) k1)) (slices_Compact_J1 s1)
theorem ez113 (s1 : List Int) (n_) : slices_Compact_L1 s1 n_ = gz113 BIG s1 n_ := by
 induction n_ with
 | zero => rfl
 | succ m ih => funext _; simp only [slices_Compact_L1, gz113, ih]
def gz114 (B_ : Nat) (s1 : List Int) : Option (List Int) :=
  cond (decide ((((s1.length : Nat)) : Int) < 2)) (some (s1)) (gz113 B_ s1 B_ 1)
theorem ez114 : slices_Compact_f = gz114 BIG := by delta slices_Compact_f gz114; simp only [ez113]
def gz115 (B_ : Nat) (k_scrub_Right_L1 : Int → Option Bool) (r2 : (List Int)) (v1 : Int) (x1 : Chain) (v2 : Bool) : Option Bool :=
  cond v2 (some (false)) (cond (decide (0 < (((r2.length : Nat)) : Int))) ((idx r2 0).bind fun x2 => cond (decide (x2 < 0)) (scrub_Right_J3 k_scrub_Right_L1 v1 true) ((gz114 B_ r2).bind fun r3 => scrub_Right_J3 k_scrub_Right_L1 v1 (decide ((r3.length : Int) < (x1.servers.length : Int))))) ((gz114 B_ r2).bind fun r4 => scrub_Right_J3 k_scrub_Right_L1 v1 (decide ((r4.length : Int) < (x1.servers.length : Int)))))
theorem ez115 : scrub_Right_J2 = gz115 BIG := by delta scrub_Right_J2 gz115; simp only [ez114]
def gz116 (B_ : Nat) (l1 : List Chain) : Nat → Int → Option Bool
  | 0, _ => none
  | m_ + 1, v1 => cond (decide (v1 < (l1.length : Int))) ((idx l1 v1).bind fun x1 => (slices_Values_f x1.servers).bind fun r1 => (slices_Values_1_f x1.servers).bind fun ys1 => (gz5 B_ ys1).bind fun r2 => cond (decide (x1.id < 0)) (gz115 B_ (gz116 B_ l1 m_) r2 v1 x1 true) (cond (decide (200 ≤ x1.id)) (gz115 B_ (gz116 B_ l1 m_) r2 v1 x1 true) (cond (decide (x1.ver < 0)) (gz115 B_ (gz116 B_ l1 m_) r2 v1 x1 true) (cond (decide (1099511627776 < x1.ver)) (gz115 B_ (gz116 B_ l1 m_) r2 v1 x1 true) (cond (decide (5 < (((r2.length : Nat)) : Int))) (gz115 B_ (gz116 B_ l1 m_) r2 v1 x1 true) (cond (decide (0 < v1)) ((idx l1 (IntKind.wrap .i64 (v1 - 1))).bind fun x3 => gz115 B_ (gz116 B_ l1 m_) r2 v1 x1 (decide (x1.id ≤ x3.id))) (gz115 B_ (gz116 B_ l1 m_) r2 v1 x1 false))))))) (scrub_Right_J1)
theorem ez116 (l1 : List Chain) (n_) : scrub_Right_L1 l1 n_ = gz116 BIG l1 n_ := by
 induction n_ with
 | zero => rfl
 | succ m ih => funext _; simp only [scrub_Right_L1, gz116, ih, ez5, ez115]
def g_scrub_Right_f (B_ : Nat) (l1 : List Chain) : Option Bool :=
  gz116 B_ l1 B_ 0
theorem e_scrub_Right_f : scrub_Right_f = g_scrub_Right_f BIG := by delta scrub_Right_f g_scrub_Right_f; simp only [ez116]
end Go.Proofs.YtjflkcfafijhfaaGreat
/- The head and the farm as plain laws, by the kernel. -/
namespace Go.Proofs.YtjflkcfafijhfaaGreat
open Go.Ab
set_option maxRecDepth 100000 in
theorem g_head_true : g_top_head29_f 1000000000000000000 = some true := by decide +kernel
theorem head_true : top_head29_f = some true := by rw [e_top_head29_f, BIG_eq]; exact g_head_true
def P0 : List Int := [0, 2, 10, 0, 1, 2, 3, 4, 2, 140, 196, 173, 194, 4, 57, 163, 163, 60]
def dk (b : List Int) : Disk := ⟨[⟨0, b⟩], [], false⟩
def dk0 : Disk := ⟨[], [], false⟩
def ch0 : Chain := ⟨0, 1, [0, 1, 2]⟩
def farm (n : Nat) : List Disk := [dk P0, dk P0, dk P0] ++ List.replicate (n - 3) dk0
set_option maxRecDepth 100000 in
theorem g_farm3 : g_top_farmR14_f 1000000000000000000 3 1 = some (farm 3, [ch0], true) := by decide +kernel
set_option maxRecDepth 100000 in
theorem g_farm4 : g_top_farmR14_f 1000000000000000000 4 1 = some (farm 4, [ch0], true) := by decide +kernel
set_option maxRecDepth 100000 in
theorem g_farm5 : g_top_farmR14_f 1000000000000000000 5 1 = some (farm 5, [ch0], true) := by decide +kernel
set_option maxRecDepth 100000 in
theorem g_farm6 : g_top_farmR14_f 1000000000000000000 6 1 = some (farm 6, [ch0], true) := by decide +kernel
theorem farm_eq {n : Nat} (h3 : 3 ≤ n) (h6 : n ≤ 6) : top_farmR14_f (n : Int) 1 = some (farm n, [ch0], true) := by
 rw [e_top_farmR14_f, BIG_eq]
 have : n = 3 ∨ n = 4 ∨ n = 5 ∨ n = 6 := by omega
 rcases this with rfl | rfl | rfl | rfl
 ·exact g_farm3
 ·exact g_farm4
 ·exact g_farm5
 ·exact g_farm6
end Go.Proofs.YtjflkcfafijhfaaGreat
/- Pages of copies, and whether a copy may be, as plain laws. -/
set_option linter.unusedSimpArgs false
set_option linter.unusedVariables false
namespace Go.Proofs.YtjflkcfafijhfaaGreat
open Go.Ab Go.RowKit
theorem Bs_b8 {l : List Int} (h : Bs l) : isB8 l = true := by
 unfold isB8
 rw [List.all_eq_true]
 intro x hx
 have := h x hx
 simpa [okI] using this
theorem Bs.nil : Bs [] := fun x hx => by cases hx
theorem cat_J1 {ls : List (List Int)} {n : Nat} (hn : n ≤ 100000) (hT : ls.flatten.length ≤ 100000) (hl : ls.length ≤ 100) : slices_Concat_J1 ls (n : Int) = some ls.flatten := by
 unfold slices_Concat_J1 slices_Grow_f
 rw [chk_pos ⟨by omega, by omega⟩, Option.bind_some]
 have key : ∀ m k, ls.length < m + k → k ≤ ls.length → slices_Concat_L1 ls m ((ls.take k).flatten) (k : Int) = some ls.flatten := by
  intro m
  induction m with
  | zero => intro k h1 h2; omega
  | succ m ih =>
   intro k h1 h2
   rw [slices_Concat_L1, cond_d]
   by_cases hk : k < ls.length
   ·have e : (ls.take (k + 1)).flatten = (ls.take k).flatten ++ ls[k] := by rw [take_snoc hk, List.flatten_append]; simp
    have hle : (ls.take (k + 1)).flatten.length ≤ ls.flatten.length := by
     conv => rhs; rw [← List.take_append_drop (k + 1) ls]
     rw [List.flatten_append, List.length_append]; omega
    rw [if_pos (by omega), idx_nat hk, Option.bind_some, chk_pos (by rw [e, List.length_append] at hle; omega), w64_succ (by omega), ← e]
    exact ih (k + 1) (by omega) (by omega)
   ·have : k = ls.length := by omega
    subst this
    rw [if_neg (by omega), List.take_length]; rfl
 have := key BIG 0 (by rw [BIG_eq]; omega) (Nat.zero_le _)
 simpa using this
theorem cat_eq {ls : List (List Int)} (hT : ls.flatten.length ≤ 100000) (hl : ls.length ≤ 100) : slices_Concat_f ls = some ls.flatten := by
 unfold slices_Concat_f
 have key : ∀ m k, ls.length < m + k → k ≤ ls.length → slices_Concat_L2 ls m (((ls.take k).flatten.length : Nat) : Int) (k : Int) = some ls.flatten := by
  intro m
  induction m with
  | zero => intro k h1 h2; omega
  | succ m ih =>
   intro k h1 h2
   rw [slices_Concat_L2, cond_d]
   have hle : ∀ j, (ls.take j).flatten.length ≤ ls.flatten.length := fun j => by
     conv => rhs; rw [← List.take_append_drop j ls]
     rw [List.flatten_append, List.length_append]; omega
   by_cases hk : k < ls.length
   ·have e : (ls.take (k + 1)).flatten.length = (ls.take k).flatten.length + ls[k].length := by rw [take_snoc hk, List.flatten_append]; simp
    have h3 := hle (k + 1)
    rw [if_pos (by omega), idx_nat hk, Option.bind_some, w64 (by omega) (by omega), chk_pos (by rw [decide_eq_false_iff_not]; omega)]
    unfold slices_Concat_J3
    rw [w64_succ (by omega), show ((ls.take k).flatten.length : Int) + (ls[k].length : Int) = (((ls.take (k + 1)).flatten.length : Nat) : Int) by omega]
    exact ih (k + 1) (by omega) (by omega)
   ·have : k = ls.length := by omega
    subst this
    have h3 := hle ls.length
    rw [if_neg (by omega)]
    exact cat_J1 (by omega) hT hl
 have := key BIG 0 (by rw [BIG_eq]; omega) (Nat.zero_le _)
 simpa using this
theorem catp_J1 {ls : List (List Page)} {n : Nat} (hn : n ≤ 100000) (hT : ls.flatten.length ≤ 100000) (hl : ls.length ≤ 100) : slices_Concat_104_J1 ls (n : Int) = some ls.flatten := by
 unfold slices_Concat_104_J1 slices_Grow_141_f
 rw [chk_pos ⟨by omega, by omega⟩, Option.bind_some]
 have key : ∀ m k, ls.length < m + k → k ≤ ls.length → slices_Concat_104_L1 ls m ((ls.take k).flatten) (k : Int) = some ls.flatten := by
  intro m
  induction m with
  | zero => intro k h1 h2; omega
  | succ m ih =>
   intro k h1 h2
   rw [slices_Concat_104_L1, cond_d]
   by_cases hk : k < ls.length
   ·have e : (ls.take (k + 1)).flatten = (ls.take k).flatten ++ ls[k] := by rw [take_snoc hk, List.flatten_append]; simp
    have hle : (ls.take (k + 1)).flatten.length ≤ ls.flatten.length := by
     conv => rhs; rw [← List.take_append_drop (k + 1) ls]
     rw [List.flatten_append, List.length_append]; omega
    rw [if_pos (by omega), idx_nat hk, Option.bind_some, chk_pos (by rw [e, List.length_append] at hle; omega), w64_succ (by omega), ← e]
    exact ih (k + 1) (by omega) (by omega)
   ·have : k = ls.length := by omega
    subst this
    rw [if_neg (by omega), List.take_length]; rfl
 have := key BIG 0 (by rw [BIG_eq]; omega) (Nat.zero_le _)
 simpa using this
theorem catp_eq {ls : List (List Page)} (hT : ls.flatten.length ≤ 100000) (hl : ls.length ≤ 100) : slices_Concat_104_f ls = some ls.flatten := by
 unfold slices_Concat_104_f
 have key : ∀ m k, ls.length < m + k → k ≤ ls.length → slices_Concat_104_L2 ls m (((ls.take k).flatten.length : Nat) : Int) (k : Int) = some ls.flatten := by
  intro m
  induction m with
  | zero => intro k h1 h2; omega
  | succ m ih =>
   intro k h1 h2
   rw [slices_Concat_104_L2, cond_d]
   have hle : ∀ j, (ls.take j).flatten.length ≤ ls.flatten.length := fun j => by
     conv => rhs; rw [← List.take_append_drop j ls]
     rw [List.flatten_append, List.length_append]; omega
   by_cases hk : k < ls.length
   ·have e : (ls.take (k + 1)).flatten.length = (ls.take k).flatten.length + ls[k].length := by rw [take_snoc hk, List.flatten_append]; simp
    have h3 := hle (k + 1)
    rw [if_pos (by omega), idx_nat hk, Option.bind_some, w64 (by omega) (by omega), chk_pos (by rw [decide_eq_false_iff_not]; omega)]
    unfold slices_Concat_104_J3
    rw [w64_succ (by omega), show ((ls.take k).flatten.length : Int) + (ls[k].length : Int) = (((ls.take (k + 1)).flatten.length : Nat) : Int) by omega]
    exact ih (k + 1) (by omega) (by omega)
   ·have : k = ls.length := by omega
    subst this
    have h3 := hle ls.length
    rw [if_neg (by omega)]
    exact catp_J1 (by omega) hT hl
 have := key BIG 0 (by rw [BIG_eq]; omega) (Nat.zero_le _)
 simpa using this
theorem catp2 {a b : List Page} (h : a.length + b.length ≤ 1000) : slices_Concat_104_f [a, b] = some (a ++ b) := by
 rw [catp_eq (by simp; omega) (by simp)]; simp
structure SC (c : Copy) : Prop where
 id : okI .i64 c.id
 ver : okI .i64 c.ver
 data : Bs c.data
 dl : c.data.length ≤ 1000
 sums : ∀ x ∈ c.sums, okI .i64 x
 sl : c.sums.length ≤ 1000
def body (c : Copy) : List Int := num c.id ++ (num c.ver ++ (str (strOfNums c.data) ++ ints c.sums))
def tailOf (n : Int) : List Int := [IntKind.wrap .u8 (Int.fdiv n (2 ^ 0)), IntKind.wrap .u8 (Int.fdiv n (2 ^ 8)), IntKind.wrap .u8 (Int.fdiv n (2 ^ 16)), IntKind.wrap .u8 (Int.fdiv n (2 ^ 24))]
def pg (c : Copy) : List Int := body c ++ tailOf ((Plain.crc ((body c).map Int.toNat) : Nat) : Int)
theorem tailOf_ok (n : Int) : Bs (tailOf n) := by
 intro x hx
 simp only [tailOf, List.mem_cons, List.not_mem_nil, or_false] at hx
 rcases hx with rfl | rfl | rfl | rfl <;> (rw [wu8]; simp only [okI]; omega)
theorem body_ok {c : Copy} (h : SC c) : Bs (body c) := by
 refine Bs.app (num_ok h.id) (Bs.app (num_ok h.ver) (Bs.app (str_ok ?_) (Bs.app (num_ok (okI_len (by have := h.sl; omega))) (nums_ok h.sums))))
 rw [nums_size]; have := h.dl; omega
theorem pg_ok {c : Copy} (h : SC c) : Bs (pg c) := Bs.app (body_ok h) (tailOf_ok _)
theorem body_len {c : Copy} (h : SC c) : 1 ≤ (body c).length ∧ (body c).length ≤ c.data.length + 10 * c.sums.length + 40 := by
 have h1 := num_len h.id
 have h2 := num_len h.ver
 have hd := h.dl
 have h3 := str_len (s := strOfNums c.data) (by rw [nums_size]; omega)
 rw [nums_size] at h3
 have hs := h.sl
 have h4 := num_len (okI_len (n := c.sums.length) (by omega))
 have h5 := nums_len h.sums
 unfold body ints
 simp only [List.length_append]
 omega
theorem page_L (n : Int) (b : List Int) (hb : b.length ≤ 1000000) : chunk_page_L1 n BIG b 0 = some (b ++ tailOf n) := by
 obtain ⟨m, hm⟩ := big_add 5 (by omega)
 rw [hm]
 have hl1 : ∀ x : Int, (b ++ [x]).length = b.length + 1 := fun x => by simp
 rw [chunk_page_L1, show decide ((0 : Int) < 4) = true from rfl, cond_true, show IntKind.wrap .i64 (8 * 0) = 0 from rfl, chk_pos (by omega), chk_pos (by omega), show IntKind.wrap .i64 (0 + 1) = 1 from rfl]
 rw [chunk_page_L1, show decide ((1 : Int) < 4) = true from rfl, cond_true, show IntKind.wrap .i64 (8 * 1) = 8 from rfl, chk_pos (by omega), chk_pos (by simp; omega), show IntKind.wrap .i64 (1 + 1) = 2 from rfl]
 rw [chunk_page_L1, show decide ((2 : Int) < 4) = true from rfl, cond_true, show IntKind.wrap .i64 (8 * 2) = 16 from rfl, chk_pos (by omega), chk_pos (by simp; omega), show IntKind.wrap .i64 (2 + 1) = 3 from rfl]
 rw [chunk_page_L1, show decide ((3 : Int) < 4) = true from rfl, cond_true, show IntKind.wrap .i64 (8 * 3) = 24 from rfl, chk_pos (by omega), chk_pos (by simp; omega), show IntKind.wrap .i64 (3 + 1) = 4 from rfl]
 rw [chunk_page_L1, show decide ((4 : Int) < 4) = false from rfl, cond_false, chunk_page_J1]
 simp only [List.append_assoc, List.cons_append, List.nil_append]
 rfl
theorem page_eq {c : Copy} (h : SC c) : chunk_page_f c = some (pg c) := by
 unfold chunk_page_f
 have hd := h.dl
 have hb := body_len h
 have hs := h.sl
 rw [pInt_eq h.id, Option.bind_some, pInt_eq h.ver, Option.bind_some, pStr_eq (by rw [nums_size]; omega), Option.bind_some, pInts_eq h.sums (by omega), Option.bind_some]
 have e : [num c.id, num c.ver, str (strOfNums c.data), ints c.sums].flatten = body c := by simp [body]
 rw [cat_eq (by rw [e]; omega) (by simp), Option.bind_some, e]
 unfold sum_Of_f
 rw [chk_pos (Bs_b8 (body_ok h)), Option.bind_some, page_L _ _ (by omega)]
 rfl
end Go.Proofs.YtjflkcfafijhfaaGreat
/- Disks of one page, and reading a copy, as plain laws. -/
set_option linter.unusedSimpArgs false
set_option linter.unusedVariables false
namespace Go.Proofs.YtjflkcfafijhfaaGreat
open Go.Ab Go.RowKit
def bl (data : List Int) : List Int := (blocks (data.map Int.toNat)).map fun n : Nat => (n : Int)
theorem blocksF_len : ∀ (k : Nat) (l : List Nat), (blocksF k l).length ≤ k
 | 0, _ => Nat.le_refl _
 | k + 1, l => by
  unfold blocksF
  split
  ·simp
  ·have := blocksF_len k (l.drop 16); simp; omega
theorem blocksF_16 : ∀ (k j : Nat) (l : List Nat), l.length ≤ 16 * j → (blocksF k l).length ≤ j
 | 0, j, _, _ => by simp [blocksF]
 | k + 1, j, l, h => by
  unfold blocksF
  split
  ·simp
  ·rename_i hne
   have hp : 0 < l.length := List.length_pos_iff.2 hne
   obtain ⟨j, rfl⟩ : ∃ j', j = j' + 1 := ⟨j - 1, by omega⟩
   have := blocksF_16 k j (l.drop 16) (by rw [List.length_drop]; omega)
   simp; omega
theorem blocksF_lt : ∀ (k : Nat) (l : List Nat), (∀ x ∈ l, x < 256) → ∀ n ∈ blocksF k l, n < 4294967296
 | 0, _, _, n, hn => by simp [blocksF] at hn
 | k + 1, l, h, n, hn => by
  unfold blocksF at hn
  split at hn
  ·simp at hn
  ·rcases List.mem_cons.1 hn with rfl | hn
   ·exact Plain.crc_lt (fun x hx => h x (List.mem_of_mem_take hx))
   ·exact blocksF_lt k (l.drop 16) (fun x hx => h x (List.mem_of_mem_drop hx)) n hn
theorem bl_len (data : List Int) : (bl data).length ≤ data.length := by
 unfold bl
 rw [List.length_map, blocksF_eq data.length _ (by simp)]
 exact blocksF_len _ _
theorem bl_16 {data : List Int} (h : data.length ≤ 64) : (bl data).length ≤ 4 := by
 unfold bl
 rw [List.length_map, blocksF_eq data.length _ (by simp)]
 exact blocksF_16 _ 4 _ (by simp; omega)
theorem bl_ok {data : List Int} (h : Bs data) : ∀ x ∈ bl data, okI .i64 x := by
 intro x hx
 unfold bl at hx
 rw [blocksF_eq data.length _ (by simp)] at hx
 obtain ⟨n, hn, rfl⟩ := List.mem_map.1 hx
 have := blocksF_lt _ _ (fun y hy => by
  obtain ⟨z, hz, rfl⟩ := List.mem_map.1 hy
  have := h z hz
  simp only [okI] at this
  omega) n hn
 simp only [okI]; omega
theorem blocks_eq {data : List Int} (h : Bs data) (hl : data.length ≤ 1000000) : sum_Blocks_f data = some (bl data) := by
 unfold sum_Blocks_f
 rw [chk_pos ⟨Bs_b8 h, hl⟩]; rfl
theorem check_L {r1 sums : List Int} (hr : r1.length ≤ 1000000) (hs : sums.length ≤ 1000000) : ∀ (m k : Nat), min r1.length sums.length < m + k → k ≤ min r1.length sums.length → r1.take k = sums.take k →
  ∃ r, sum_Check_L1 r1 sums m ((min r1.length sums.length : Nat) : Int) (k : Int) = some r ∧ (r = -1 ↔ sums = r1) := by
 intro m
 induction m with
 | zero => intro k h1 h2; omega
 | succ m ih =>
  intro k h1 h2 he
  rw [sum_Check_L1, cond_d]
  by_cases hk : k < min r1.length sums.length
  ·rw [if_pos (by omega), idx_nat (show k < r1.length by omega), Option.bind_some, idx_nat (show k < sums.length by omega), Option.bind_some]
   by_cases hx : r1[k] = sums[k]
   ·rw [show (r1[k] != sums[k]) = false by simp [hx], cond_false, w64_succ (by omega)]
    exact ih (k + 1) (by omega) (by omega) (by rw [take_snoc (by omega), take_snoc (by omega), he, hx])
   ·rw [show (r1[k] != sums[k]) = true by simp [hx], cond_true]
    refine ⟨_, rfl, ⟨fun h => by omega, fun h => ?_⟩⟩
    subst h
    exact absurd rfl hx
  ·have hk' : k = min r1.length sums.length := by omega
   rw [if_neg (by omega)]
   unfold sum_Check_J1
   by_cases hl : r1.length = sums.length
   ·rw [show ((r1.length : Int) != (sums.length : Int)) = false by simp [hl], cond_false]
    refine ⟨_, rfl, ⟨fun _ => ?_, fun _ => rfl⟩⟩
    rw [List.take_of_length_le (by omega), List.take_of_length_le (by omega)] at he
    exact he.symm
   ·rw [show ((r1.length : Int) != (sums.length : Int)) = true by simp; omega, cond_true]
    refine ⟨_, rfl, ⟨fun h => ?_, fun h => absurd (by rw [h]) hl⟩⟩
    split at h <;> omega
theorem check_eq {data sums : List Int} (h : Bs data) (hl : data.length ≤ 1000000) (hs : sums.length ≤ 1000000) : ∃ r, sum_Check_f data sums = some r ∧ (r = -1 ↔ sums = bl data) := by
 unfold sum_Check_f
 rw [blocks_eq h hl, Option.bind_some]
 have := bl_len data
 have key := check_L (r1 := bl data) (sums := sums) (by omega) hs BIG 0 (by rw [BIG_eq]; omega) (by omega) rfl
 have e : (if (sums.length : Int) < (((bl data).length : Nat) : Int) then (sums.length : Int) else (((bl data).length : Nat) : Int)) = ((min (bl data).length sums.length : Nat) : Int) := by split <;> omega
 rw [e]
 exact key
def mayB (c : Copy) : Bool := decide (0 ≤ c.id ∧ c.id < 200 ∧ 0 ≤ c.ver ∧ c.ver ≤ 1099511627776 ∧ c.data.length ≤ 64 ∧ c.sums = bl c.data)
theorem may_eq {c : Copy} (h : Bs c.data) (hl : c.data.length ≤ 1000000) (hs : c.sums.length ≤ 1000000) : chunk_may_f c = some (mayB c) := by
 unfold chunk_may_f chunk_within_f mayB
 rw [Option.bind_some]
 by_cases h1 : 0 ≤ c.id ∧ c.id < 200
 ·rw [show (decide (0 ≤ c.id) && decide (c.id < 200)) = true by simp [h1], cond_true, cond_d]
  by_cases h2 : 0 ≤ c.ver
  ·rw [if_pos h2, cond_d]
   by_cases h3 : c.ver ≤ 1099511627776
   ·rw [if_pos h3, cond_d]
    by_cases h4 : (c.data.length : Int) ≤ 64
    ·rw [if_pos h4]
     obtain ⟨r, hr, hi⟩ := check_eq h hl hs
     rw [hr, Option.bind_some]
     congr 1
     rw [Bool.eq_iff_iff, beq_iff_eq, hi, decide_eq_true_eq]
     exact ⟨fun e => ⟨h1.1, h1.2, h2, h3, by omega, e⟩, fun e => e.2.2.2.2.2⟩
    ·rw [if_neg h4]; congr 1; rw [eq_comm, decide_eq_false_iff_not]; rintro ⟨_, _, _, _, h, _⟩; omega
   ·rw [if_neg h3]; congr 1; rw [eq_comm, decide_eq_false_iff_not]; rintro ⟨_, _, _, h, _, _⟩; omega
  ·rw [if_neg h2]; congr 1; rw [eq_comm, decide_eq_false_iff_not]; rintro ⟨_, _, h, _, _, _⟩; omega
 ·rw [show (decide (0 ≤ c.id) && decide (c.id < 200)) = false by rw [Bool.eq_false_iff]; intro hh; simp at hh; exact h1 hh, cond_false]
  congr 1; rw [eq_comm, decide_eq_false_iff_not]; rintro ⟨ha, hb, _⟩; exact h1 ⟨ha, hb⟩
def nc (ver : Int) (data : List Int) : Copy := ⟨0, ver, data, bl data⟩
theorem mayB_iff {c : Copy} : mayB c = true ↔ 0 ≤ c.id ∧ c.id < 200 ∧ 0 ≤ c.ver ∧ c.ver ≤ 1099511627776 ∧ c.data.length ≤ 64 ∧ c.sums = bl c.data := by unfold mayB; rw [decide_eq_true_eq]
theorem may_SC {c : Copy} (h : mayB c = true) (hb : Bs c.data) : SC c := by
 obtain ⟨h1, h2, h3, h4, h5, h6⟩ := mayB_iff.1 h
 have := bl_16 h5
 exact ⟨by simp only [okI]; omega, by simp only [okI]; omega, hb, by omega, by rw [h6]; exact bl_ok hb, by rw [h6]; omega⟩
theorem may_len {c : Copy} (h : mayB c = true) (hb : Bs c.data) : 5 ≤ (pg c).length ∧ (pg c).length ≤ 200 := by
 have h0 := body_len (may_SC h hb)
 obtain ⟨h1, h2, h3, h4, h5, h6⟩ := mayB_iff.1 h
 have := bl_16 h5
 rw [h6] at h0
 unfold pg tailOf
 rw [List.length_append]
 simp only [List.length_cons, List.length_nil]
 omega
theorem nc_may {ver : Int} {data : List Int} (h0 : 0 ≤ ver) (h1 : ver ≤ 1099511627776) (hl : data.length ≤ 64) : mayB (nc ver data) = true := mayB_iff.2 ⟨by simp [nc], by simp [nc], h0, h1, hl, rfl⟩
theorem clone8 {l : List Int} (h : l.length ≤ 100000) : slices_Clone_108_f l = some l := by
 unfold slices_Clone_108_f
 exact nilq_of (fun e => by rw [e]) (chk_pos (by omega))
theorem bclone {l : List Int} (h : l.length ≤ 100000) : bytes_Clone_f l = some l := by
 unfold bytes_Clone_f
 exact nilq_of (fun e => by rw [e]) (chk_pos (by omega))
theorem pclone {l : List Page} (h : l.length ≤ 100000) : slices_Clone_74_f l = some l := by
 unfold slices_Clone_74_f
 exact nilq_of (fun e => by rw [e]) (chk_pos (by omega))
theorem dclone {l : List Disk} (h : l.length ≤ 100000) : slices_Clone_83_f l = some l := by
 unfold slices_Clone_83_f
 exact nilq_of (fun e => by rw [e]) (chk_pos (by omega))
theorem New_eq {ver : Int} {data : List Int} (h : Bs data) (hl : data.length ≤ 100000) : chunk_New_f 0 ver data = some (nc ver data) := by
 unfold chunk_New_f
 rw [clone8 hl, Option.bind_some, blocks_eq h (by omega), Option.bind_some]; rfl
def GD (d : Disk) : Prop := d = dk0 ∨ ∃ b, d = dk b ∧ Bs b ∧ b.length ≤ 200
theorem GD.dk {b : List Int} (h : Bs b) (hl : b.length ≤ 200) : GD (dk b) := .inr ⟨b, rfl, h, hl⟩
theorem GD.down {d : Disk} (h : GD d) : d.down = false := by rcases h with rfl | ⟨b, rfl, _⟩ <;> rfl
theorem GD.loose {d : Disk} (h : GD d) : d.loose = [] := by rcases h with rfl | ⟨b, rfl, _⟩ <;> rfl
def rd (d : Disk) : List Int × Int := match d.synced with
 | [] => ([], 41)
 | p :: _ => (p.data, 0)
theorem find_1 {p : Page} {f : Page → Option Bool} {b : Bool} (h : f p = some b) : disk_find_f [p] f = some (if b then 0 else -1) := by
 unfold disk_find_f slices_IndexFunc_119_f
 obtain ⟨m, hm⟩ := big_add 2 (by omega)
 rw [hm, slices_IndexFunc_119_L1, show decide ((0 : Int) < (([p] : List Page).length : Int)) = true from rfl, cond_true, show idx [p] 0 = some p from rfl, Option.bind_some, h, Option.bind_some]
 cases b
 ·rw [cond_false, show IntKind.wrap .i64 (0 + 1) = 1 from rfl, slices_IndexFunc_119_L1, show decide ((1 : Int) < (([p] : List Page).length : Int)) = false from rfl, cond_false]; rfl
 ·rw [cond_true]; rfl
theorem find_0 {f : Page → Option Bool} : disk_find_f [] f = some (-1) := by
 unfold disk_find_f slices_IndexFunc_119_f
 obtain ⟨m, hm⟩ := big_add 1 (by omega)
 rw [hm, slices_IndexFunc_119_L1, show decide ((0 : Int) < (([] : List Page).length : Int)) = false from rfl, cond_false]; rfl
theorem rev_1 {l : List Page} (h : l.length ≤ 1) : slices_Reverse_f l = some l := by
 unfold slices_Reverse_f
 obtain ⟨m, hm⟩ := big_add 1 (by omega)
 rw [w64 (by omega) (by omega), hm, slices_Reverse_L1, cond_d, if_neg (by omega)]
theorem may_page {at_ : Int} (h0 : 0 ≤ at_) (h1 : at_ < 1000) {data : List Int} : disk_may_f at_ data = some (decide (data.length ≤ 200)) := by
 unfold disk_may_f
 simp only [h0, h1, decide_true, Bool.true_and]
 congr 1
 rw [decide_eq_decide]; omega
theorem Read_dk0 {at_ : Int} (h0 : 0 ≤ at_) (h1 : at_ < 1000) : disk_Read_f dk0 at_ = some ([], 41) := by
 unfold disk_Read_f
 rw [show dk0.down = false from rfl, cond_false, may_page h0 h1, Option.bind_some, show (!decide (([] : List Int).length ≤ 200)) = false from rfl, cond_false]
 rw [show dk0.synced = [] from rfl, show dk0.loose = [] from rfl, catp2 (by simp), Option.bind_some, rev_1 (by simp), Option.bind_some, chk_pos rfl, show ([] : List Page) ++ [] = [] from rfl, find_0, Option.bind_some]
 rfl
theorem Read_dk {b : List Int} (hl : b.length ≤ 200) {at_ : Int} (h0 : 0 ≤ at_) (h1 : at_ < 1000) : disk_Read_f (dk b) at_ = some (if at_ = 0 then (b, 0) else ([], 41)) := by
 unfold disk_Read_f
 rw [show (dk b).down = false from rfl, cond_false, may_page h0 h1, Option.bind_some, show (!decide (([] : List Int).length ≤ 200)) = false from rfl, cond_false]
 rw [show (dk b).synced = [⟨0, b⟩] from rfl, show (dk b).loose = [] from rfl, catp2 (by simp), Option.bind_some, List.append_nil, rev_1 (by simp), Option.bind_some, chk_pos rfl, find_1 (b := (0 : Int) == at_) rfl, Option.bind_some]
 by_cases e : at_ = 0
 ·subst e
  rw [if_pos rfl, if_pos (by rfl), show decide ((0 : Int) < 0) = false from rfl, cond_false, show idx [(⟨0, b⟩ : Page)] 0 = some ⟨0, b⟩ from rfl, Option.bind_some]
  show (bytes_Clone_f b).bind _ = _
  rw [bclone (by omega)]; rfl
 ·rw [if_neg e, if_neg (by simp; omega)]; rfl
theorem there_eq {d : Disk} (h : GD d) : chunk_there_f d 0 = some (if (rd d).1 = [] then ([], 41) else ((rd d).1, 0)) := by
 unfold chunk_there_f chunk_within_f
 rw [Option.bind_some, show (!(decide ((0 : Int) ≤ 0) && decide ((0 : Int) < 200))) = false from rfl, cond_false]
 rcases h with rfl | ⟨b, rfl, hb, hl⟩
 ·rw [Read_dk0 (by omega) (by omega), Option.bind_some]; rfl
 ·rw [Read_dk hl (by omega) (by omega), Option.bind_some, if_pos rfl]
  unfold chunk_there_J1
  show (bif (((0 : Int) == 0) && ((b.length : Int) == 0)) then _ else _) = some (if b = [] then _ else (b, 0))
  cases b with
  | nil => rfl
  | cons x b => rw [show (((0 : Int) == 0) && (((x :: b).length : Int) == 0)) = false by simp; omega, cond_false, if_neg (by simp)]
theorem Write_eq {d : Disk} (h : GD d) {data : List Int} (hl : data.length ≤ 200) : disk_Write_f d 0 data = some (⟨d.synced, [⟨0, data⟩], false⟩, 0) := by
 unfold disk_Write_f
 rw [h.down, cond_false, may_page (by omega) (by omega), Option.bind_some, show (!decide (data.length ≤ 200)) = false by simp [hl], cond_false, h.loose, pclone (by simp), Option.bind_some, bclone (by omega), Option.bind_some, chk_pos (by simp)]
 rfl
theorem laid_one {d : Disk} (h : GD d) (data : List Int) : disk_laid_f d.synced [⟨0, data⟩] = some [⟨0, data⟩] := by
 unfold disk_laid_f
 rcases h with rfl | ⟨b, rfl, hb, hl⟩
 ·rw [show dk0.synced = [] from rfl, catp2 (by simp), Option.bind_some, chk_pos ⟨by simp, rfl⟩]; rfl
 ·rw [show (dk b).synced = [⟨0, b⟩] from rfl, catp2 (by simp), Option.bind_some, chk_pos ⟨by simp, rfl⟩]; rfl
theorem laid_none {d : Disk} (h : GD d) : disk_laid_f d.synced [] = some d.synced := by
 unfold disk_laid_f
 rcases h with rfl | ⟨b, rfl, hb, hl⟩
 ·rw [show dk0.synced = [] from rfl, catp2 (by simp), Option.bind_some, chk_pos ⟨by simp, rfl⟩]; rfl
 ·rw [show (dk b).synced = [⟨0, b⟩] from rfl, catp2 (by simp), Option.bind_some, chk_pos ⟨by simp, rfl⟩]; rfl
theorem Sync_wr {d : Disk} (h : GD d) (data : List Int) : disk_Sync_f ⟨d.synced, [⟨0, data⟩], false⟩ = some (dk data, 0) := by
 unfold disk_Sync_f
 show (bif false then _ else _) = _
 rw [cond_false, laid_one h, Option.bind_some]; rfl
theorem Put_may {d : Disk} (h : GD d) {c : Copy} (hm : mayB c = true) (hb : Bs c.data) (h0 : c.id = 0) : chunk_Put_f d c = some (⟨d.synced, [⟨0, pg c⟩], false⟩, 0) := by
 have hs := may_SC hm hb
 unfold chunk_Put_f
 rw [may_eq hb (by have := hs.dl; omega) (by have := hs.sl; omega), hm, Option.bind_some, show (!true) = false from rfl, cond_false, page_eq hs, Option.bind_some, h0, Write_eq h (may_len hm hb).2, Option.bind_some]
theorem Lose_eq {d : Disk} (h : GD d) : chunk_Lose_f d 0 = some (if (rd d).1 = [] then (d, 41) else (⟨d.synced, [⟨0, []⟩], false⟩, 0)) := by
 unfold chunk_Lose_f
 rw [there_eq h, Option.bind_some]
 by_cases e : (rd d).1 = []
 ·rw [if_pos e, if_pos e]; rfl
 ·rw [if_neg e, if_neg e, Write_eq h (by simp)]; rfl
end Go.Proofs.YtjflkcfafijhfaaGreat
/- Reading a copy of a disk, as a plain law. -/
set_option linter.unusedSimpArgs false
set_option linter.unusedVariables false
namespace Go.Proofs.YtjflkcfafijhfaaGreat
open Go.Ab Go.RowKit
theorem int_ex {b : List Int} (g : G b) (bad : Bool) : ∃ v b' bad', chunk_reader_int_f ⟨b, bad⟩ = some (v, ⟨b', bad'⟩) ∧ G b' ∧ b'.length ≤ b.length := by
 unfold chunk_reader_int_f chunk_take_132_f
 rw [pRead_eq g.1 g.2, Option.bind_some]
 unfold chunk_take_132_J1
 cases h : rI b with
 | ok v r =>
  have hg := rI_G g h
  simp only [T3]
  cases bad
  ·rw [show ((false || ((0 : Int) != 0)) : Bool) = false from rfl, cond_false]
   exact ⟨_, _, _, rfl, hg.1, by have := hg.2.1; omega⟩
  ·exact ⟨_, _, _, rfl, g, Nat.le_refl _⟩
 | no e =>
  have : (bad || ((T3 (0 : Int) (R.no e)).2.2 != 0)) = true := by simp only [T3, ne0 (rI_no h), Bool.or_true]
  rw [this, cond_true]
  exact ⟨_, _, _, rfl, g, Nat.le_refl _⟩
theorem str_ex {b : List Int} (g : G b) (bad : Bool) : ∃ v b' bad', chunk_take_f ⟨b, bad⟩ pack_ReadStr_f = some (v, ⟨b', bad'⟩) ∧ v.size ≤ b.length ∧ G b' ∧ b'.length ≤ b.length := by
 unfold chunk_take_f
 rw [pReadStr_eq g, Option.bind_some]
 unfold chunk_take_J1
 rcases str_c g with ⟨s, r, h1, h2, h3, h4, h5⟩ | ⟨e, x, h1, h2, h3⟩
 ·rw [h1]
  simp only [T3]
  cases bad
  ·rw [show ((false || ((0 : Int) != 0)) : Bool) = false from rfl, cond_false]
   exact ⟨_, _, _, rfl, h2, h3, by omega⟩
  ·exact ⟨_, _, _, rfl, Nat.zero_le _, g, Nat.le_refl _⟩
 ·rw [h1]
  have : (bad || ((T3 E0 (R.no e)).2.2 != 0)) = true := by simp only [T3, ne0 h2, Bool.or_true]
  rw [this, cond_true]
  exact ⟨_, _, _, rfl, Nat.zero_le _, g, Nat.le_refl _⟩
theorem pInts_c {b : List Int} (g : G b) : (∃ l r, pInts b = .ok l r ∧ l.length ≤ b.length ∧ G r) ∨ (∃ e, pInts b = .no e ∧ (e = 10 ∨ e = 11)) := by
 unfold pInts
 rcases cnt_c g with ⟨n, r, h1, h2, h3, h4, h5⟩ | ⟨e, x, h1, h2, h3⟩
 ·rw [h1]
  simp only [R.andThen]
  have no : ∀ (k : Nat) (b : List Int) e, pN rI k b = .no e → e = 10 ∨ e = 11 := by
   intro k
   induction k with
   | zero => intro b e h; cases h
   | succ k ih =>
    intro b e h
    unfold pN at h
    cases h1 : rI b with
    | no e' => rw [h1] at h; simp only [R.andThen] at h; injection h with h; subst h; exact rI_no h1
    | ok x r1 =>
     rw [h1] at h
     simp only [R.andThen] at h
     cases h2 : pN rI k r1 with
     | no e' => rw [h2] at h; simp only [R.andThen] at h; injection h with h; subst h; exact ih r1 _ h2
     | ok xs r2 => rw [h2] at h; cases h
  cases h : pN rI n r with
  | ok l r' =>
   have := pN_G (fun b v r hb h => (rI_G hb h).1) n r l r' h3 h
   exact .inl ⟨l, r', rfl, by omega, this.1⟩
  | no e => exact .inr ⟨e, rfl, no n r e h⟩
 ·rw [h1]
  exact .inr ⟨e, rfl, h2⟩
theorem ints_ex {b : List Int} (g : G b) (bad : Bool) : ∃ v b' bad', chunk_take_92_f ⟨b, bad⟩ pack_ReadInts_f = some (v, ⟨b', bad'⟩) ∧ v.length ≤ b.length := by
 unfold chunk_take_92_f
 rw [pReadInts_eq g, Option.bind_some]
 unfold chunk_take_92_J1
 rcases pInts_c g with ⟨s, r, h1, h2, h3⟩ | ⟨e, h1, h2⟩
 ·rw [h1]
  simp only [T3]
  cases bad
  ·rw [show ((false || ((0 : Int) != 0)) : Bool) = false from rfl, cond_false]
   exact ⟨_, _, _, rfl, h2⟩
  ·exact ⟨_, _, _, rfl, Nat.zero_le _⟩
 ·rw [h1]
  have : (bad || ((T3 ([] : List Int) (R.no e)).2.2 != 0)) = true := by simp only [T3, ne0 h2, Bool.or_true]
  rw [this, cond_true]
  exact ⟨_, _, _, rfl, Nat.zero_le _⟩
theorem copy_ex {b : List Int} (g : G b) : ∃ c ok r, chunk_reader_copy_f ⟨b, false⟩ = some (c, ok, r) ∧ Bs c.data ∧ c.data.length ≤ b.length ∧ c.sums.length ≤ b.length := by
 have hg := g.2
 unfold chunk_reader_copy_f
 obtain ⟨v1, b1, e1, h1, g1, l1⟩ := int_ex g false
 rw [h1, Option.bind_some]
 obtain ⟨v2, b2, e2, h2, g2, l2⟩ := int_ex g1 e1
 simp only
 rw [h2, Option.bind_some]
 obtain ⟨v3, b3, e3, h3, s3, g3, l3⟩ := str_ex g2 e2
 simp only
 rw [h3, Option.bind_some, chk_pos (by simp only; omega)]
 obtain ⟨v4, b4, e4, h4, s4⟩ := ints_ex g3 e3
 simp only
 rw [h4, Option.bind_some]
 cases e4
 ·exact ⟨_, _, _, rfl, strB_ok _, by simp only [strBytes_len]; omega, by simp only; omega⟩
 ·exact ⟨_, _, _, rfl, strB_ok _, by simp only [strBytes_len]; omega, by simp only; omega⟩
theorem beq_bytes {a b : List Int} (ha : Bs a) (hb : Bs b) : bytes_Equal_f a b = some (decide (a = b)) := by
 unfold bytes_Equal_f
 congr 1
 rw [tl_eq, decide_eq_decide]
 exact ⟨fun h => by rw [← strB_nums ha, ← strB_nums hb, h], fun h => by rw [h]⟩
theorem get_ex {d : Disk} (h : GD d) : ∃ x e, chunk_Get_f d 0 = some (x, e) ∧ (e = 0 → mayB x = true ∧ x.id = 0 ∧ Bs x.data ∧ d = dk (pg x)) := by
 unfold chunk_Get_f
 rw [there_eq h, Option.bind_some]
 by_cases he : (rd d).1 = []
 ·rw [if_pos he]
  exact ⟨_, _, rfl, fun e => by cases e⟩
 ·rw [if_neg he]
  rcases h with rfl | ⟨b, rfl, hb, hl⟩
  ·exact absurd rfl he
  ·have e1 : (rd (dk b)).1 = b := rfl
   rw [e1] at he ⊢
   simp only
   rw [show (((0 : Int) != 0) : Bool) = false from rfl, cond_false, cond_d]
   by_cases h4 : (b.length : Int) < 4
   ·rw [if_pos h4]; exact ⟨_, _, rfl, fun e => by cases e⟩
   ·rw [if_neg h4, w64 (by omega) (by omega), chk_pos (by omega), List.drop_zero]
    have gt : G (b.take ((b.length : Int) - 4).toNat) := ⟨hb.take _, by rw [List.length_take]; omega⟩
    obtain ⟨c, ok, r, hc, hcd, hcl, hcs⟩ := copy_ex gt
    rw [List.length_take] at hcl hcs
    rw [hc, Option.bind_some]
    simp only
    cases ok
    ·exact ⟨_, _, rfl, fun e => by cases e⟩
    ·rw [show (!true) = false from rfl, cond_false, may_eq hcd (by omega) (by omega), Option.bind_some]
     cases hm : mayB c
     ·exact ⟨_, _, rfl, fun e => by cases e⟩
     ·rw [show (!true) = false from rfl, cond_false]
      by_cases hi : c.id = 0
      ·rw [show (c.id != 0) = false by simp [hi], cond_false, page_eq (may_SC hm hcd), Option.bind_some, beq_bytes (pg_ok (may_SC hm hcd)) hb, Option.bind_some]
       by_cases hp : pg c = b
       ·rw [decide_eq_true hp]
        exact ⟨_, _, rfl, fun _ => ⟨hm, hi, hcd, by rw [hp]⟩⟩
       ·rw [decide_eq_false hp]
        exact ⟨_, _, rfl, fun e => by cases e⟩
      ·rw [show (c.id != 0) = true by simp [hi], cond_true]
       exact ⟨_, _, rfl, fun e => by cases e⟩
end Go.Proofs.YtjflkcfafijhfaaGreat

import Derived.Test.YtmkpokcfefjifaaDoorA1
import Derived.Orders
import Derived.Laws.Cover3
import Derived.KernelRfl
set_option linter.unusedSectionVars false
/- DERIVED. append, and all operations together. No program here. -/
namespace Go.Ab
open Go.RowKit
variable [Lay]

theorem St.app_nil' {σ : St} {dst : Option Tmp} {e : Ef} (h : e.wr = [] := by rfl) : σ.app dst e = σ.put dst e.val := by
  unfold St.app
  rw [h]
  simp only [wrs]
  have := St.put_h σ dst e.val
  cases hq : σ.put dst e.val
  rw [hq] at this
  simp at this
  simp [this]
theorem flatten_at {α : Type} {n : Nat} : ∀ (ess : List (List α)) (_ : ∀ es ∈ ess, es.length = n) (i : Nat) (es : List α) (_ : ess[i]? = some es) (j : Nat) (_ : j < n), ess.flatten[i * n + j]? = es[j]?
  | [], _, _, _, h, _, _ => by simp at h
  | e :: ess, hl, 0, es, h, j, hj => by
    simp at h; subst h
    have : j < e.length := by rw [hl e (by simp)]; exact hj
    rw [Nat.zero_mul, Nat.zero_add, List.flatten_cons, List.getElem?_append_left this]
  | e :: ess, hl, i + 1, es, h, j, hj => by
    have he : e.length = n := hl e (by simp)
    rw [List.flatten_cons, List.getElem?_append_right (by rw [he, Nat.succ_mul]; omega), he]
    have := flatten_at ess (fun es hes => hl es (by simp [hes])) i es (by simpa using h) j hj
    rw [← this]; congr 1; rw [Nat.succ_mul]; omega
theorem flatten_len {α : Type} {n : Nat} : ∀ (ess : List (List α)) (_ : ∀ es ∈ ess, es.length = n), ess.flatten.length = ess.length * n
  | [], _ => by simp
  | e :: ess, hl => by rw [List.flatten_cons, List.length_append, flatten_len ess (fun es hes => hl es (by simp [hes])), hl e (by simp), List.length_cons, Nat.succ_mul]; omega
theorem flatten_cell {α : Type} {n : Nat} (hn : 0 < n) (ess : List (List α)) (hl : ∀ es ∈ ess, es.length = n) (j : Nat) (u : α) (h : ess.flatten[j]? = some u) : ∃ es, ess[j / n]? = some es ∧ es[j % n]? = some u := by
  have hj : j < ess.length * n := by rw [← flatten_len ess hl]; exact (List.getElem?_eq_some_iff.1 h).1
  have hi : j / n < ess.length := (Nat.div_lt_iff_lt_mul hn).2 hj
  refine ⟨ess[j / n], List.getElem?_eq_getElem hi, ?_⟩
  rw [← flatten_at ess hl (j / n) _ (List.getElem?_eq_getElem hi) (j % n) (Nat.mod_lt _ hn)]
  have : j / n * n + j % n = j := by rw [Nat.mul_comm]; exact Nat.div_add_mod j n
  rw [this]; exact h

section
variable {φ : Pl} {D : Nat → Prop} {w : World} {st : Nat}
theorem Rws.drop {vs : List Value} {es : List (List Dat)} (h : Rws φ D w vs es st) (n : Nat) : Rws φ D w (vs.drop (n * st)) (es.drop n) st where
  len := by rw [List.length_drop, List.length_drop, h.len, Nat.sub_mul]
  one := fun v hv => h.one v (List.mem_of_mem_drop hv)
  el := fun k e he => by
    rw [List.getElem?_drop] at he
    refine ⟨(h.el _ e he).1, fun j d hd => ?_⟩
    obtain ⟨u, hu, hr⟩ := (h.el _ e he).2 j d hd
    refine ⟨u, ?_, hr⟩
    rw [List.getElem?_drop, ← hu]; congr 1; rw [Nat.add_mul]; omega
end

section
variable {P : Program} {X : Cx} {S S' : Nat → Prop} {σ : St} {i : Nat}

/-- whatever may be read as a slice, its cells -/
theorem src_rows {a : Act} {w : World} {φ : Pl} {D : Nat → Prop} (hs : Sim X S σ a w φ D) {x : Dat} {v : Value} (hv : RV φ D w v x) {sz : Nat} (hsz : 0 < sz) {xs : List (List Dat)} {r : List Nat} {p : Prop} (he : elems σ sz x = some (xs, r, p)) (hp : p) :
    ∃ A m c news, v = .slice A m c ∧ m = xs.length ∧ Rws φ D w news xs sz ∧ ∀ (j : Nat) u, news[j]? = some u → ∃ ad, A = some ad ∧ w.cell? (ad.add j) = some u := by
  unfold elems at he
  split at he
  · simp only [Option.some.injEq, Prod.mk.injEq] at he
    obtain ⟨rfl, rfl, rfl⟩ := he
    exact ⟨none, 0, 0, [], hv.nil_inv, rfl, .nil, fun j u h => by simp at h⟩
  · rename_i st es
    simp only [Option.some.injEq, Prod.mk.injEq] at he
    obtain ⟨rfl, rfl, rfl⟩ := he
    subst hp
    cases hv with
    | list0 A c _ hc => exact ⟨A, 0, c, [], rfl, rfl, .nil, fun j u h => by simp at h⟩
    | list b o c _ _ cs hl hc hc2 hD hb hr hs hes h1 h =>
      refine ⟨_, _, c, cs.flatten, rfl, rfl, ⟨?_, fun v hv => ?_, fun k e he => ⟨hes e (List.mem_of_getElem? he), fun j d hd => ?_⟩⟩, fun j u hu => ⟨_, rfl, ?_⟩⟩
      · rw [flatten_len cs hs, hl]
      · obtain ⟨c', hc', hvc⟩ := List.mem_flatten.1 hv
        obtain ⟨q, hq, rfl⟩ := List.mem_iff_getElem.1 hc'
        exact h1 q _ (by simp) v hvc
      · have hk : k < cs.length := by rw [hl]; exact (List.getElem?_eq_some_iff.1 he).1
        have hj : j < st := by rw [← hes e (List.mem_of_getElem? he)]; exact (List.getElem?_eq_some_iff.1 hd).1
        have hck : cs[k]? = some cs[k] := by simp
        have hcl : (cs[k]).length = st := hs _ (List.getElem_mem hk)
        refine ⟨(cs[k])[j]'(by omega), ?_, h k _ e hck he j _ d (by simp) hd⟩
        rw [flatten_at cs hs k _ hck j hj]; simp
      · obtain ⟨es', h3, h4⟩ := flatten_cell hsz cs hs j u hu
        have := hr _ _ h3 _ u h4
        rw [Addr.add_mid]
        have e1 : o + j = o + j / st * st + j % st := by
          have := Nat.div_add_mod j st
          rw [Nat.mul_comm] at this; omega
        rw [e1]; exact this
  · rename_i i' off len st
    split at he
    · rename_i B hB
      simp only [Option.some.injEq, Prod.mk.injEq] at he
      obtain ⟨rfl, rfl, rfl⟩ := he
      obtain ⟨p1, p2, p3⟩ := hp
      have hxs : (if off = 0 ∧ len = B.es.length then B.es else (B.es.drop off).take len) = (B.es.drop off).take len := by
        split
        · rename_i hc
          rw [hc.1, hc.2]; simp
        · rfl
      rw [hxs]
      have hlen : ((B.es.drop off).take len).length = len := by simp; omega
      cases hv with
      | ref _ g _ _ c _ hφ hlc hc hshape =>
        have hl := hs.lies hB hφ
        obtain ⟨arr, a1, a2⟩ := hl.rows (n := off + len) p3 (by omega)
        have a3 := a2.drop off
        rw [p2] at a3
        have e1 : (B.es.take (off + len)).drop off = (B.es.drop off).take len := by
          rw [List.drop_take]; congr 1; omega
        rw [e1] at a3
        have hst : st = sz := p1
        subst hst
        refine ⟨_, _, c, _, rfl, hlen.symm, a3, fun j u hu => ⟨_, rfl, ?_⟩⟩
        rw [Addr.add_mid, cell_of_row w g _ arr _ _ a1]
        rw [List.getElem?_drop, List.getElem?_take] at hu
        split at hu
        · simpa using hu
        · cases hu
      | ref0 _ _ _ A h0 => exact ⟨A, 0, 0, [], rfl, by rw [hlen], by rw [List.take_zero]; exact .nil, fun j u h => by simp at h⟩
      | refv _ _ hφ => exact ⟨none, 0, 0, [], rfl, by rw [hlen], by rw [List.take_zero]; exact .nil, fun j u h => by simp at h⟩
    · cases he
  · cases he

theorem bytesD_news {φ : Pl} {D : Nat → Prop} {w : World} : ∀ {es : List (List Dat)} {xs : List Int} {news : List Value}, bytesD es = some xs → Rws φ D w news es 1 → news = xs.map (Value.int .u8)
  | [], xs, news, h, r => by
    have hl := r.len
    simp [bytesD] at h; subst h
    simpa using hl
  | e :: es, xs, news, h, r => by
    unfold bytesD at h
    split at h
    · rename_i e1; cases e1
    · rename_i n l e1
      injection e1 with e1 e2; subst e1; subst e2
      split at h
      · rename_i ys hys
        injection h with h; subst h
        obtain ⟨u, hu, hr⟩ := (r.el 0 _ rfl).2 0 _ rfl
        have hd := r.drop 1
        simp only [List.drop_succ_cons, List.drop_zero, Nat.mul_one] at hd
        have ih := bytesD_news hys hd
        cases news with
        | nil => simp at hu
        | cons v vs =>
          simp at hu; subst hu
          have : v = .int .u8 n := hr.int_inv
          subst this
          simp only [List.drop_succ_cons, List.drop_zero] at ih
          rw [ih]; rfl
      · cases h
    · cases h
theorem goes_bytes {o : Oper} {src dst : TypeId} {x : Operand} (ho : o.op = .convert src dst x) {y z : TI} (hsrc : ti P src = some y) (hdst : ti P dst = some z) (hz : z.d = .str) {e : Ef} (he : evToStr P σ y.d (σ.ev x) = some e) (hne : ∀ s, σ.ev x ≠ .str s) (hs : e.side) (hS : ∀ j, S j → S' j) :
    Goes P X S S' o σ (σ.put o.dst e.val) ∧ e.wr = [] := by
  obtain ⟨sz', by', ag, ze, d⟩ := y
  obtain ⟨sz2, by2, ag2, ze2, d2⟩ := z
  simp only at hz; subst hz
  obtain ⟨i, u, z, h1, h2, h3, h4, h5, h6, h7, h8⟩ := ti_some hsrc
  obtain ⟨i2, u2, z2, k1, k2, k3, k4, k5, k6, k7, k8⟩ := ti_some hdst
  obtain rfl := tk_str k7
  unfold evToStr at he
  split at he
  · rename_i s hev; exact absurd hev (hne s)
  · split at he
    · rename_i el hd
      simp only at hd; subst hd
      obtain rfl := tk_slice h7
      split at he
      · rename_i sz3 by3 ag3 ze3 es r p hel hes
        obtain ⟨i3, u3, z3, l1, l2, l3, l4, l5, l6, l7, l8⟩ := ti_some hel
        obtain rfl := tk_int l7
        split at he
        · rename_i xs hxs
          injection he with he
          subst he
          refine ⟨goes_val hS fun A w φ D hsim => ?_, rfl⟩
          have hv := hsim.ev x
          obtain ⟨AA, m, c, news, hA, hm, hrows, hcell⟩ := src_rows hsim hv (by decide) hes hs
          have hnews := bytesD_news hxs hrows
          refine ⟨.string (strOfNums xs), ?_, .str _⟩
          have hconv : (convert src dst (.slice AA m c)).run P w = .ok (.string (strOfNums xs)) w := by
            cases AA with
            | none =>
              have : xs = [] := by
                cases xs with
                | nil => rfl
                | cons a l => obtain ⟨ad, had, _⟩ := hcell 0 (.int .u8 a) (by rw [hnews]; rfl); cases had
              subst this
              exact run_convert_bytes_nil w src el h2 l2 m c dst k2
            | some ad =>
              have hlen : xs.length = m := by
                have := hrows.len
                rw [hnews, List.length_map, Nat.mul_one] at this
                rw [hm, this]
              have hl : (loadCells ad m).run P w = .ok (xs.map (Value.int .u8)).toArray w := by
                have := run_loadCells_list (P := P) w ad (xs.map (Value.int .u8)) (fun j v hj => by
                  obtain ⟨ad', had, hc⟩ := hcell j v (by rw [hnews]; exact hj)
                  injection had with had; subst had; exact hc)
                simpa [hlen] using this
              rw [run_convert_bytes_string w src dst el _ m c h2 l2 k2, run_bytesToString w ad m c xs hl, foldl_push_bytes]
              simp [strOfNums, ByteArray.empty, ByteArray.emptyWithCapacity]
              rfl
          simp only [execOp, ho, hA, Sem.run_bind, hconv, Result.andThen_ok, Sem.run_pure]
        · cases he
      · cases he
    · cases he

/-- append of nothing -/
theorem run_app0 {w : World} {t ty e : TypeId} {y : TI} (ht : P.underlying t = some (.slice e)) (hy : ti P e = some y) (base A : Option Addr) (n cap c : Nat) (h : n ≤ cap) :
    (Builtin.append_ #[t, t] ty #[.slice base n cap, .slice A 0 c]).run P w = .ok (.slice base n cap) w := by
  have hsz := ti_sizeOf hy w
  cases A <;> cases base <;> simp [Builtin.append_, run_underlying ht, hsz, Builtin.lenOf, Builtin.firstCells, h, loadCells, loadCellsFrom, storeCells]

theorem run_app {o : Oper} {s x : Operand} {t : TypeId} {a : Act} {w w' : World} {v : Value} (ho : o.op = .call { callee := .builtin .append, args := #[s, x], argTypes := #[t, t] })
    (h : (Builtin.append_ #[t, t] o.type #[a.eval s, a.eval x]).run P w = .ok v w') : (execOp a.eval o).run P w = .ok (.value v) w' := by
  unfold execOp
  simp only [ho, resolve, invoke, builtin, Sem.run_bind, Sem.run_pure, Result.andThen_ok, List.map_toArray, List.map_cons, List.map_nil]
  rw [h]; rfl

/-- rows written into a block of one's own -/
theorem HS.rows {h : Nat → Option Blk} {n : Nat} {w : World} {φ : Pl} {D : Nat → Prop} (H : HS X S h n w φ D) {i g : Nat} {B : Blk} (hi : h i = some B) (hp : φ i = some (some g)) (hf : B.fz = false) (hst : 0 < B.st) {k : Nat} {news : List Value} {xs : List (List Dat)} (hx : Rws φ D w news xs B.st) (hk : k + xs.length ≤ B.es.length)
    {arr : Array Value} (l1 : w.heap[g]? = some (.cells arr B.e (0, 0))) :
    HS X S (upd h i (some { B with es := B.es.take k ++ xs ++ B.es.drop (k + xs.length) })) n (w.setRow g (arr.toList.take (k * B.st) ++ news ++ arr.toList.drop (k * B.st + news.length)).toArray) φ D ∧
      Ext D w (w.setRow g (arr.toList.take (k * B.st) ++ news ++ arr.toList.drop (k * B.st + news.length)).toArray) := by
  have hl : Lies φ D w g B ∧ ¬ D g := by
    rcases H.live i B hi with ⟨q, _⟩ | ⟨g', q, q2, _, q4⟩
    · rw [hp] at q; cases q
    · rw [hp] at q; injection q with q; injection q with q; subst q; exact ⟨q2, (q4 hf).1⟩
  obtain ⟨hl, hnD⟩ := hl
  have hl0 := hl
  obtain ⟨arr', l1', l2, _⟩ := hl0
  rw [l1] at l1'
  injection l1' with l1'; injection l1' with l1'
  subst l1'
  have hkl : k * B.st + news.length ≤ arr.size := by
    rw [hx.len, ← Nat.add_mul]
    exact Nat.le_trans (Nat.mul_le_mul_right _ hk) l2
  have hsize : (arr.toList.take (k * B.st) ++ news ++ arr.toList.drop (k * B.st + news.length)).toArray.size = arr.size := by
    simp only [List.size_toArray, List.length_append, List.length_take, List.length_drop, Array.length_toList]
    omega
  have hchg := chg_setRow l1 hsize
  have hext : Ext D w (w.setRow g (arr.toList.take (k * B.st) ++ news ++ arr.toList.drop (k * B.st + news.length)).toArray) := hchg.ext (fun r hr => by injection hr with hr; subst hr; exact hnD)
  refine ⟨?_, hext⟩
  obtain ⟨a1, m1, r1⟩ := hl.rows (n := k) (by omega) hst
  obtain ⟨a2, m2, r2⟩ := hl.rows (n := B.es.length) (Nat.le_refl _) hst
  rw [l1] at m1 m2
  injection m1 with m1; injection m1 with m1; subst m1
  injection m2 with m2; injection m2 with m2; subst m2
  rw [List.take_length] at r2
  have r3 := r2.drop (k + xs.length)
  have rall := ((r1.append hx).append r3).keep (PlLe.refl _) (fun _ h _ => h) hext
  refine H.write hi hp hf hchg ?_ hf
  refine rall.lies (fz := B.fz) (setRow_heap w g arr _ B.e _ l1) (fun j u hu => ?_)
  rw [List.getElem?_toArray]
  have e1 : (k + xs.length) * B.st = k * B.st + news.length := by rw [hx.len, Nat.add_mul]
  rw [e1] at hu
  have e2 : (arr.toList.take (B.es.length * B.st)).drop (k * B.st + news.length) = (arr.toList.drop (k * B.st + news.length)).take (B.es.length * B.st - (k * B.st + news.length)) := List.drop_take
  rw [e2] at hu
  by_cases hj : j < (arr.toList.take (k * B.st) ++ news).length
  · rw [List.getElem?_append_left hj] at hu ⊢; exact hu
  · rw [List.getElem?_append_right (by omega)] at hu ⊢
    rw [List.getElem?_take] at hu
    split at hu
    · exact hu
    · cases hu
theorem zero_flat {z : Array Value} (hz : 0 < z.size) (n : Nat) : (Builtin.zeroCells z n).toList = (List.replicate n z.toList).flatten := by
  have hl : ∀ es ∈ List.replicate n z.toList, es.length = z.size := fun es he => by rw [List.eq_of_mem_replicate he]; simp
  apply List.ext_getElem?
  intro j
  by_cases hj : j < n * z.size
  · have e1 : (Builtin.zeroCells z n).toList[j]? = some z[j % z.size]! := by
      unfold Builtin.zeroCells
      rw [Array.getElem?_toList, Array.getElem?_map, Array.getElem?_eq_getElem (by simpa using hj)]
      simp
    have hm : j % z.size < z.size := Nat.mod_lt _ hz
    have hd : j / z.size < n := (Nat.div_lt_iff_lt_mul hz).2 hj
    have e2 := flatten_at (List.replicate n z.toList) hl (j / z.size) z.toList (by rw [List.getElem?_replicate, if_pos hd]) (j % z.size) hm
    have e3 : j / z.size * z.size + j % z.size = j := by rw [Nat.mul_comm]; exact Nat.div_add_mod j z.size
    rw [e3] at e2
    rw [e1, e2, Array.getElem?_toList, Array.getElem?_eq_getElem hm, getElem!_pos z (j % z.size) hm]
  · rw [List.getElem?_eq_none (by rw [Array.length_toList, size_zeroCells]; omega), List.getElem?_eq_none (by rw [flatten_len _ hl, List.length_replicate]; omega)]
theorem goes_clear {o : Oper} {x : Operand} {t : TypeId} (ho : o.op = .call { callee := .builtin .clear, args := #[x], argTypes := #[t] }) {e : Ef} (he : evClear P σ t (σ.ev x) = some e) (hs : e.side) (hS : ∀ j, S j → S' j) : Goes P X S S' o σ (σ.app o.dst e) := by
  unfold evClear at he
  split at he
  case h_2 => cases he
  rename_i sz' by' ag ze el ht
  obtain ⟨it, u, z, h1, h2, h3, h4, h5, h6, h7, h8⟩ := ti_some ht
  obtain rfl := tk_slice h7
  have run : ∀ (a : Act) (w w' : World) (v : Value), a.eval x = v → (Builtin.clear_ #[t] o.type #[v]).run P w = .ok (.tuple #[]) w' → (execOp a.eval o).run P w = .ok (.value (.tuple #[])) w' := fun a w w' v hv hr => by
    unfold execOp
    simp only [ho, resolve, invoke, builtin, Sem.run_bind, Sem.run_pure, Result.andThen_ok, List.map_toArray, List.map_cons, List.map_nil, hv]
    rw [hr]; rfl
  split at he
  · rename_i y hy hev
    injection he with he
    subst he
    intro a w φ D hsim K Q hK
    have hV := hsim.ev x
    rw [hev] at hV
    have hr := run a w w _ hV.nil_inv (by simp [Builtin.clear_, run_underlying h2 w])
    unfold Oper.wp
    rw [hr, Oper.upon_value]
    have hg : σ.app o.dst { val := .tup [] } = σ.put o.dst (.tup []) := St.app_nil'
    have := (hsim.val (dst := o.dst) (v := .tuple #[]) (d := .tup []) (.tup [] [] rfl (fun i c d hc => by simp at hc))).more hS
    rw [← hg] at this
    exact hK _ _ _ _ this
  · rename_i y j off len st hy hev
    obtain ⟨ie, ue, z', g1, g2, g3, g4, g5, g6, g7, g8⟩ := ti_some hy
    split at he
    case h_2 => cases he
    rename_i B hB
    injection he with he
    subst he
    obtain ⟨rfl, s1, s2, s3, s4, s5, s6⟩ := hs
    intro a w φ D hsim K Q hK
    have hV := hsim.ev x
    rw [hev] at hV
    have htup : RV φ D w (.tuple #[]) (.tup []) := .tup [] [] rfl (fun i c d hc => by simp at hc)
    have same : len = 0 → B.es.take off ++ List.replicate len y.zero ++ B.es.drop (off + len) = B.es := fun h => by subst h; simp
    have quiet : len = 0 → (∀ c A, a.eval x = .slice A 0 c → o.wp P a w K Q) := fun h0 c A hA => by
      have hr := run a w w _ hA (by cases A <;> simp [Builtin.clear_, run_underlying h2 w])
      unfold Oper.wp
      rw [hr, Oper.upon_value]
      have hh : upd σ.h j (some { B with es := B.es.take off ++ List.replicate len y.zero ++ B.es.drop (off + len) }) = σ.h := by
        rw [same h0]
        funext k
        by_cases e : k = j
        · subst e; rw [upd_same, hB]
        · rw [upd_ne _ _ e]
      have hg : ∀ sd : Prop, σ.app o.dst { val := .tup [], rd := [j], wr := [(j, some { B with es := B.es.take off ++ List.replicate len y.zero ++ B.es.drop (off + len) })], side := sd } = σ.put o.dst (.tup []) := by
        intro sd
        rw [← St.app_nil' (e := { val := .tup [] })]
        unfold St.app
        simp only [wrs]
        rw [hh]
      refine hK _ _ φ D ?_
      rw [hg]
      exact (hsim.val htup).more hS
    generalize hva : a.eval x = va at hV
    cases hV with
    | refv _ _ hφ => exact quiet rfl 0 none hva
    | ref0 _ _ _ A' h0 => exact quiet rfl 0 A' hva
    | ref _ g _ _ cap _ hφ hlc hc hshape =>
      by_cases hl0 : len = 0
      · subst hl0; exact quiet rfl cap _ hva
      · have hl := hsim.lies hB hφ
        obtain ⟨arr, a1, a2, _⟩ := hl
        have hzs : z'.cells.size = y.sz := by have := congrArg List.length g8; rw [s5] at this; simpa using this
        have hz : RVs φ D w z'.cells.toList y.zero := by rw [← g8]; exact RVs_map fun v _ => RV_datOf1 v
        have hrep : ∀ n, Rws φ D w (List.replicate n z'.cells.toList).flatten (List.replicate n y.zero) y.sz := fun n => by
          induction n with
          | zero => exact .nil
          | succ n ih =>
            rw [List.replicate_succ, List.replicate_succ, List.flatten_cons]
            exact (Rws.one_row hz s5 (hz.one s6)).append ih
        have hrw := hrep len
        rw [← zero_flat (by omega)] at hrw
        obtain ⟨news, hnews⟩ : ∃ news, news = (Builtin.zeroCells z'.cells len).toList := ⟨_, rfl⟩
        rw [← hnews] at hrw
        have hlen : news.length = len * y.sz := by have := hrw.len; rw [List.length_replicate] at this; exact this
        rw [← s1] at hrw
        have hfit : off * y.sz + news.length ≤ arr.size := by
          rw [hlen, ← Nat.add_mul]
          rw [s1] at a2
          exact Nat.le_trans (Nat.mul_le_mul_right _ s3) a2
        have hst := run_storeCells_at P g (off * y.sz) B.e news 0 arr w a1 (by simpa using hfit) hrw.one
        simp only [Nat.add_zero] at hst
        have hzv : ∀ w, (zeroValue el).run P w = .ok z' w := fun w => by simp [zeroValue, typeInfo, g1, g3]
        obtain ⟨m, rfl⟩ : ∃ m, len = m + 1 := ⟨len - 1, by omega⟩
        have hr := run a w (w.setRow g (arr.toList.take (off * y.sz) ++ news ++ arr.toList.drop (off * y.sz + news.length)).toArray) _ hva (by
          simp only [Builtin.clear_, Sem.run_bind, run_underlying h2 w, Result.andThen_ok, hzv, List.getElem?_toArray, List.getElem?_cons_zero]
          rw [← hnews, hst]; rfl)
        unfold Oper.wp
        rw [hr, Oper.upon_value]
        have hrows := hsim.hs.rows hB hφ s2 (by omega) (k := off) hrw (by rw [List.length_replicate]; exact s3) a1
        rw [List.length_replicate] at hrows
        have hW : w.setRow g (arr.toList.take (off * B.st) ++ news ++ arr.toList.drop (off * B.st + news.length)).toArray = w.setRow g (arr.toList.take (off * y.sz) ++ news ++ arr.toList.drop (off * y.sz + news.length)).toArray := by rw [s1]
        rw [hW] at hrows
        have := hsim.step (dst := o.dst) (hrows.1.more hS) (PlLe.refl _) (fun _ h _ => h) hrows.2 (v := .tuple #[]) (d := .tup []) (.tup [] [] rfl (fun i c d hc => by simp at hc))
        exact hK _ _ _ _ this
  · cases he
theorem goes_append {o : Oper} {s x : Operand} {t1 t2 : TypeId} (ho : o.op = .call { callee := .builtin .append, args := #[s, x], argTypes := #[t1, t2] }) {e : Ef} (he : evAppend P σ i t1 t2 (σ.ev s) (σ.ev x) = some e) (hs : e.side)
    (hn : ¬ S i) (hS : ∀ j, S j → S' j) (hS' : S' i) : Goes P X S S' o σ (σ.app o.dst e) := by
  unfold evAppend at he
  split at he
  case h_2 => cases he
  rename_i sz' by' ag ze el ht
  obtain ⟨it, u, z, h1, h2, h3, h4, h5, h6, h7, h8⟩ := ti_some ht
  obtain rfl := tk_slice h7
  split at he
  case h_2 => cases he
  rename_i y xs r p hy hel
  rw [hy] at hel
  simp only [Option.elim] at hel
  obtain ⟨ie, ue, z', g1, g2, g3, g4, g5, g6, g7, g8⟩ := ti_some hy
  intro a w φ D hsim K Q hK
  have hfr := hsim.hs.fresh (σ.n + i) (by omega) (by rw [Nat.add_sub_cancel_left]; exact hn)
  have hni : ¬ S (σ.n + i - σ.n) := by rw [Nat.add_sub_cancel_left]; exact hn
  have hni' : S' (σ.n + i - σ.n) := by rw [Nat.add_sub_cancel_left]; exact hS'
  have hX := hsim.ev x
  have hV := hsim.ev s
  -- new memory for all
  have newmem : ∀ (hh : Nat → Option Blk), HS X S hh σ.n w φ D → 0 < y.sz → ∀ (cap : Nat) (vs : List Value) (es : List (List Dat)) (rest : Array Value), Rws φ D w vs es y.sz → es.length ≤ cap → cap ≤ maxLen → (vs.toArray ++ rest).size = cap * y.sz →
      (execOp a.eval o).run P w = .ok (.value (.slice (some ⟨w.heap.size, 0, none⟩) es.length cap)) (w.drew.alloc (.cells (vs.toArray ++ rest) el)) →
      o.wp P a w K Q ∨ ¬ (∀ a' w' φ' D', Sim X S' { σ.put o.dst (.ref (σ.n + i) 0 es.length y.sz) with h := upd hh (σ.n + i) (some ⟨el, y.sz, false, es⟩) } a' w' φ' D' → K a' w') := by
    intro hh hH hsz0 cap vs es rest hrw hlc hcm hsize hrun
    by_cases hc : (∀ a' w' φ' D', Sim X S' { σ.put o.dst (.ref (σ.n + i) 0 es.length y.sz) with h := upd hh (σ.n + i) (some ⟨el, y.sz, false, es⟩) } a' w' φ' D' → K a' w')
    · left
      unfold Oper.wp
      rw [hrun, Oper.upon_value]
      have hle := PlLe.upd (φ := φ) hfr (some w.heap.size)
      have hchg : Chg w (w.drew.alloc (.cells (vs.toArray ++ rest) el)) none := (Chg.drew w).trans (Chg.alloc w.drew _)
      have hext : Ext D w (w.drew.alloc (.cells (vs.toArray ++ rest) el)) := hchg.ext (fun _ h => by cases h)
      have hheap := heap_alloc_new w.drew (.cells (vs.toArray ++ rest) el)
      have hl := (hrw.keep hle (fun _ h _ => h) hext).lies (fz := false) hheap (fun j u hu => by
        have hj : j < vs.length := (List.getElem?_eq_some_iff.1 hu).1
        rw [Array.getElem?_append_left (by simpa using hj)]; simpa using hu)
      have hnew := hH.new (S' := S') (i := σ.n + i) (g := w.heap.size) (row := none) (B := ⟨el, y.sz, false, es⟩) (by omega) hni hS hni' hchg (fun r hr => by cases hr) (.inl (Nat.le_refl _)) hl rfl
      refine hc _ _ _ _ (hsim.step hnew hle (fun _ h _ => h) hext ?_)
      have := RV.ref (φ := upd φ (σ.n + i) (some (some w.heap.size))) (D := D) (w := w.drew.alloc (.cells (vs.toArray ++ rest) el)) (σ.n + i) w.heap.size 0 es.length cap y.sz (upd_same _ _ _) hlc hcm ⟨el, by
        unfold World.shape?
        rw [show w.heap.size = w.drew.heap.size from rfl, hheap]
        simp only [Nat.zero_add]
        rw [hsize]⟩
      simpa using this
    · exact .inr hc
  split at he
  · -- onto nil
    rename_i hev
    injection he with he
    subst he
    obtain ⟨s0, rfl, s1, s2, s3, s4⟩ := hs
    rw [hev] at hV
    have hVs := hV.nil_inv
    obtain ⟨A, m, c, news, hxv, hm, hrw, hcells⟩ := src_rows hsim hX s1 hel s0
    by_cases hm0 : xs.length = 0
    · have hx0 : xs = [] := List.eq_nil_of_length_eq_zero hm0
      subst hx0
      have hrun := run_app (P := P) (w := w) (w' := w) (v := .slice none 0 0) ho (by rw [hVs, hxv, hm]; exact run_app0 h2 hy none A 0 0 c (Nat.le_refl _))
      unfold Oper.wp
      rw [hrun, Oper.upon_value]
      have hv := hsim.hs.virt (S' := S') (i := σ.n + i) (by omega) hni hS hni' el y.sz false
      have hle := PlLe.upd (φ := φ) hfr none
      exact hK _ _ _ _ (hsim.step hv hle (fun _ h _ => h) (Ext.refl _ _) (.refv _ _ (upd_same _ _ _)))
    · have hnpos : 0 < news.length := by rw [hrw.len]; exact Nat.mul_pos (by omega) s1
      obtain ⟨ad, rfl, _⟩ := hcells 0 news[0] (by simp)
      have hcells' : ∀ (j : Nat) u, news[j]? = some u → w.cell? (ad.add j) = some u := fun j u hu => by
        obtain ⟨ad', h, h'⟩ := hcells j u hu
        injection h with h
        rw [h]; exact h'
      have hxl : xs.length ≤ xs.length * y.bytes := Nat.le_mul_of_pos_right _ s2
      have hrun0 := run_append_nil (P := P) w t2 o.type el ie z' h2 g1 g3 ad xs.length c news (by rw [hrw.len, g4]) hcells' (by omega) (by omega) (by rw [g5]; omega)
      have hrun := run_app (P := P) ho (by rw [hVs, hxv, hm]; exact hrun0)
      have hzs : z'.cells.size = y.sz := by have := congrArg List.length g8; rw [s3] at this; simpa using this
      have hcap := grownCap_ge w xs.length 0 el
      have hcapm := grownCap_le_maxLen w xs.length 0 el (by unfold maxLen; omega)
      refine (newmem σ.h hsim.hs s1 (grownCap w xs.length 0 el) news xs _ hrw hcap hcapm ?_ hrun).resolve_right (fun hc => hc hK)
      rw [Array.size_append, size_zeroCells, hzs, List.size_toArray, hrw.len, ← Nat.add_mul]
      congr 1; omega
  · -- onto one of its own
    rename_i j off len st hev
    split at he
    case h_2 => cases he
    rename_i B hB
    split at he
    · -- of the same block: in its place
      rename_i hal
      injection he with he
      subst he
      obtain ⟨s0, rfl, rfl, rfl, s1, s2, s3, s4, s5⟩ := hs
      obtain ⟨A, m, c, news, hxv, hm, hrw, hcells⟩ := src_rows hsim hX s5 hel s0
      rw [hev] at hV
      have same : xs.length = 0 → B.es.take len ++ xs ++ B.es.drop (len + xs.length) = B.es := fun h => by
        have : xs = [] := List.eq_nil_of_length_eq_zero h
        subst this; simp
      have quiet : xs.length = 0 → (∀ w' v, (execOp a.eval o).run P w = .ok (.value v) w' → w' = w → RV φ D w v (.ref j 0 (len + xs.length) y.sz) → o.wp P a w K Q) := fun h0 w' v hr hw hv => by
        subst hw
        unfold Oper.wp
        rw [hr, Oper.upon_value]
        have hh : upd σ.h j (some { B with es := B.es.take len ++ xs ++ B.es.drop (len + xs.length) }) = σ.h := by
          rw [same h0]
          funext k
          by_cases e : k = j
          · subst e; rw [upd_same, hB]
          · rw [upd_ne _ _ e]
        have hg : ∀ sd : Prop, σ.app o.dst { val := .ref j 0 (len + xs.length) y.sz, rd := j :: r, wr := [(j, some { B with es := B.es.take len ++ xs ++ B.es.drop (len + xs.length) })], side := sd } = σ.put o.dst (.ref j 0 (len + xs.length) y.sz) := by
          intro sd
          rw [← St.app_nil' (e := { val := .ref j 0 (len + xs.length) y.sz })]
          unfold St.app
          simp only [wrs]
          rw [hh]
        refine hK _ _ φ D ?_
        rw [hg]
        exact (hsim.val hv).more hS
      generalize hva : a.eval s = va at hV
      cases hV with
      | refv _ _ hφ =>
        have hB0 : B.es = [] := by
          rcases hsim.hs.live j B hB with ⟨_, q⟩ | ⟨g, q, _⟩
          · exact q
          · rw [hφ] at q; cases q
        have hx0 : xs.length = 0 := by rw [hB0, List.length_nil] at s4; omega
        have hxe : xs = [] := List.eq_nil_of_length_eq_zero hx0
        subst hxe
        exact quiet rfl w _ (run_app (P := P) (w := w) (w' := w) (v := .slice none 0 0) ho (by rw [hva, hxv, hm]; exact run_app0 h2 hy none A 0 0 c (Nat.le_refl _))) rfl (.refv _ _ hφ)
      | ref0 _ _ _ A' h0 => omega
      | ref _ g _ _ cap _ hφ hlc hc hshape =>
        simp only [Nat.zero_mul, Nat.zero_add] at *
        have hl := hsim.lies hB hφ
        obtain ⟨arr, a1, a2, _⟩ := hl
        have harr : arr.size = cap * y.sz := by
          obtain ⟨e', he'⟩ := hshape
          unfold World.shape? at he'
          rw [a1] at he'
          simp at he'
          exact he'.2
        have hroom : len + xs.length ≤ cap := by
          rw [s1, harr] at a2
          exact Nat.le_trans s4 (Nat.le_of_mul_le_mul_right a2 s5)
        rw [s2] at a1
        have hval : RV φ D w (.slice (some ⟨g, 0, none⟩) (len + xs.length) cap) (.ref j 0 (len + xs.length) y.sz) := by
          have := RV.ref (φ := φ) (D := D) (w := w) j g 0 (len + xs.length) cap y.sz hφ hroom hc ⟨_, by simpa using hshape.choose_spec⟩
          simpa using this
        by_cases hm0 : xs.length = 0
        · have hx0 : xs = [] := List.eq_nil_of_length_eq_zero hm0
          subst hx0
          exact quiet rfl w _ (run_app (P := P) (w := w) (w' := w) (v := .slice (some ⟨g, 0, none⟩) len cap) ho (by rw [hva, hxv, hm]; exact run_app0 h2 hy (some ⟨g, 0, none⟩) A len cap c hlc)) rfl hval
        · have hnpos : 0 < news.length := by rw [hrw.len]; exact Nat.mul_pos (by omega) s5
          obtain ⟨ad, rfl, _⟩ := hcells 0 news[0] (by simp)
          have hcells' : ∀ (k : Nat) u, news[k]? = some u → w.cell? (ad.add k) = some u := fun k u hu => by
            obtain ⟨ad', h, h'⟩ := hcells k u hu
            injection h with h
            rw [h]; exact h'
          have hfit : len * ie.size + news.length ≤ arr.size := by rw [g4, hrw.len, harr, ← Nat.add_mul]; exact Nat.mul_le_mul_right _ hroom
          have hrun0 := run_append_room (P := P) w t2 o.type el ie h2 g1 g len cap arr a1 ad xs.length c news (by rw [hrw.len, g4]) hcells' hrw.one hroom hfit
          have hrun := run_app (P := P) ho (by rw [hva, hxv, hm]; exact hrun0)
          unfold Oper.wp
          rw [hrun, Oper.upon_value]
          have hrows := hsim.hs.rows hB hφ s3 (by omega) (k := len) (by rw [s1]; exact hrw) s4 (by rw [s2]; exact a1)
          have hW : w.setRow g (arr.toList.take (len * B.st) ++ news ++ arr.toList.drop (len * B.st + news.length)).toArray = w.setRow g (arr.toList.take (len * ie.size) ++ news ++ arr.toList.drop (len * ie.size + news.length)).toArray := by rw [s1, g4]
          rw [hW] at hrows
          have := hsim.step (dst := o.dst) (hrows.1.more hS) (PlLe.refl _) (fun _ h _ => h) hrows.2 (v := .slice (some ⟨g, 0, none⟩) (len + xs.length) cap) (d := .ref j 0 (len + xs.length) y.sz) (hval.keep (PlLe.refl _) (fun _ h _ => h) hrows.2)
          exact hK _ _ _ _ this
    injection he with he
    subst he
    obtain ⟨s0, rfl, rfl, rfl, s1, s2, s3, s4, s5, s6, s7, s8⟩ := hs
    obtain ⟨A, m, c, news, hxv, hm, hrw, hcells⟩ := src_rows hsim hX s5 hel s0
    rw [hev] at hV
    have hes : (if len = B.es.length then B.es else B.es.take len) = B.es.take len := by
      split
      · rename_i hc; rw [hc]; simp
      · rfl
    rw [hes] at hK
    have hlen : (B.es.take len).length = len := by simp; omega
    have hlen2 : (B.es.take len ++ xs).length = len + xs.length := by rw [List.length_append, hlen]
    have hdrop := hsim.hs.drop j
    have hxl : len + xs.length ≤ (len + xs.length) * y.bytes := Nat.le_mul_of_pos_right _ s6
    have hzs : z'.cells.size = y.sz := by have := congrArg List.length g8; rw [s7] at this; simpa using this
    generalize hva : a.eval s = va at hV
    cases hV with
    | refv _ _ hφ =>
      have htake : B.es.take 0 ++ xs = xs := by simp
      simp only [htake, Nat.zero_add] at *
      by_cases hm0 : xs.length = 0
      · have hx0 : xs = [] := List.eq_nil_of_length_eq_zero hm0
        subst hx0
        have hrun := run_app (P := P) (w := w) (w' := w) (v := .slice none 0 0) ho (by rw [hva, hxv, hm]; exact run_app0 h2 hy none A 0 0 c (Nat.le_refl _))
        unfold Oper.wp
        rw [hrun, Oper.upon_value]
        have hv := hdrop.virt (S' := S') (i := σ.n + i) (by omega) hni hS hni' el y.sz false
        have hle := PlLe.upd (φ := φ) hfr none
        exact hK _ _ _ _ (hsim.step hv hle (fun _ h _ => h) (Ext.refl _ _) (.refv _ _ (upd_same _ _ _)))
      · have hnpos : 0 < news.length := by rw [hrw.len]; exact Nat.mul_pos (by omega) s5
        obtain ⟨ad, rfl, _⟩ := hcells 0 news[0] (by simp)
        have hcells' : ∀ (j : Nat) u, news[j]? = some u → w.cell? (ad.add j) = some u := fun j u hu => by
          obtain ⟨ad', h, h'⟩ := hcells j u hu
          injection h with h
          rw [h]; exact h'
        have hrun0 := run_append_nil (P := P) w t2 o.type el ie z' h2 g1 g3 ad xs.length c news (by rw [hrw.len, g4]) hcells' (by omega) (by omega) (by rw [g5]; omega)
        have hrun := run_app (P := P) ho (by rw [hva, hxv, hm]; exact hrun0)
        have hcap := grownCap_ge w xs.length 0 el
        have hcapm := grownCap_le_maxLen w xs.length 0 el (by unfold maxLen; omega)
        refine (newmem _ hdrop s5 (grownCap w xs.length 0 el) news xs _ hrw hcap hcapm ?_ hrun).resolve_right (fun hc => hc hK)
        rw [Array.size_append, size_zeroCells, hzs, List.size_toArray, hrw.len, ← Nat.add_mul]
        congr 1; omega
    | ref0 _ _ _ A' h0 => omega
    | ref _ g _ _ cap _ hφ hlc hc hshape =>
      simp only [Nat.zero_mul, Nat.zero_add] at *
      have hl := hsim.lies hB hφ
      obtain ⟨arr, a1, a2⟩ := hl.rows (n := len) s4 (by omega)
      rw [s1] at a2
      have harr : arr.size = cap * y.sz := by
        obtain ⟨e', he'⟩ := hshape
        unfold World.shape? at he'
        rw [a1] at he'
        simp at he'
        exact he'.2
      rw [s2] at a1
      have hgD : ¬ D g ∧ (X.L0 g ∨ X.w0.heap.size ≤ g) := by
        rcases hsim.hs.live j B hB with ⟨q, _⟩ | ⟨g', q, _, _, q4⟩
        · rw [hφ] at q; cases q
        · rw [hφ] at q; injection q with q; injection q with q; subst q; exact q4 s3
      have hnone : ∀ k C, upd σ.h j none k = some C → φ k ≠ some (some g) := fun k C hk hp => by
        by_cases e : k = j
        · subst e; rw [upd_same] at hk; cases hk
        · rw [upd_ne _ _ e] at hk
          exact e (hsim.hs.inj j k B C g hB hk hφ hp s3).symm
      have hle := PlLe.upd (φ := φ) hfr (some g)
      have hcomb := a2.append hrw
      have inplace : ∀ (w' : World) (arr' : Array Value), Chg w w' (some g) → w'.heap[g]? = some (.cells arr' el (0, 0)) → arr'.size = arr.size → (∀ (k : Nat) u, (arr.toList.take (len * y.sz) ++ news)[k]? = some u → arr'[k]? = some u) → len + xs.length ≤ cap →
          (execOp a.eval o).run P w = .ok (.value (.slice (some ⟨g, 0, none⟩) (len + xs.length) cap)) w' → o.wp P a w K Q := by
        intro w' arr' hchg hheap hsize hpre hroom hrun
        unfold Oper.wp
        rw [hrun, Oper.upon_value]
        have hext : Ext D w w' := hchg.ext (fun r hr => by injection hr with hr; subst hr; exact hgD.1)
        have hl' := (hcomb.keep hle (fun _ h _ => h) hext).lies (fz := false) hheap hpre
        have hnew := hdrop.new (S' := S') (i := σ.n + i) (g := g) (row := some g) (B := ⟨el, y.sz, false, B.es.take len ++ xs⟩) (by omega) hni hS hni' hchg
          (fun r hr => by injection hr with hr; subst hr; exact ⟨hgD, hnone⟩) (.inr rfl) hl' rfl
        refine hK _ _ _ _ (hsim.step hnew hle (fun _ h _ => h) hext ?_)
        have := RV.ref (φ := upd φ (σ.n + i) (some (some g))) (D := D) (w := w') (σ.n + i) g 0 (len + xs.length) cap y.sz (upd_same _ _ _) hroom hc ⟨el, by
          unfold World.shape?
          rw [hheap]
          simp only [Nat.zero_add]
          rw [hsize, harr]⟩
        simpa using this
      by_cases hm0 : xs.length = 0
      · have hx0 : xs = [] := List.eq_nil_of_length_eq_zero hm0
        subst hx0
        have hrun := run_app (P := P) (w := w) (w' := w) (v := .slice (some ⟨g, 0, none⟩) len cap) ho (by rw [hva, hxv, hm]; exact run_app0 h2 hy (some ⟨g, 0, none⟩) A len cap c hlc)
        have hnews : news = [] := List.eq_nil_of_length_eq_zero (by rw [hrw.len]; simp)
        subst hnews
        exact inplace w arr ⟨rfl, rfl, rfl, Nat.le_refl _, fun _ _ => rfl, fun _ _ _ => rfl⟩ a1 rfl (fun k u hu => by
          rw [List.append_nil, List.getElem?_take] at hu
          split at hu
          · simpa using hu
          · cases hu) hlc hrun
      · have hnpos : 0 < news.length := by rw [hrw.len]; exact Nat.mul_pos (by omega) s5
        obtain ⟨ad, rfl, _⟩ := hcells 0 news[0] (by simp)
        have hcells' : ∀ (k : Nat) u, news[k]? = some u → w.cell? (ad.add k) = some u := fun k u hu => by
          obtain ⟨ad', h, h'⟩ := hcells k u hu
          injection h with h
          rw [h]; exact h'
        have htl : (arr.toList.take (len * y.sz)).length = len * y.sz := by rw [a2.len, hlen]
        by_cases hroom : len + xs.length ≤ cap
        · have hfit : len * ie.size + news.length ≤ arr.size := by rw [g4, hrw.len, harr, ← Nat.add_mul]; exact Nat.mul_le_mul_right _ hroom
          have hrun0 := run_append_room (P := P) w t2 o.type el ie h2 g1 g len cap arr a1 ad xs.length c news (by rw [hrw.len, g4]) hcells' hrw.one hroom hfit
          have hrun := run_app (P := P) ho (by rw [hva, hxv, hm]; exact hrun0)
          have hsize : ((arr.toList.take (len * ie.size) ++ news ++ arr.toList.drop (len * ie.size + news.length)).toArray).size = arr.size := by
            simp only [List.size_toArray, List.length_append, List.length_take, List.length_drop, Array.length_toList]
            omega
          refine inplace _ _ (chg_setRow a1 hsize) (setRow_heap w g arr _ el _ a1) hsize (fun k u hu => ?_) hroom hrun
          rw [g4, List.getElem?_toArray, List.getElem?_append_left (List.getElem?_eq_some_iff.1 hu).1]
          exact hu
        · have holds : ∀ (k : Nat) u, (arr.toList.take (len * y.sz))[k]? = some u → w.cell? ((⟨g, 0, none⟩ : Addr).add k) = some u := fun k u hu => by
            rw [Addr.add_mid, Nat.zero_add, cell_of_row w g k arr _ _ a1]
            rw [List.getElem?_take] at hu
            split at hu
            · simpa using hu
            · cases hu
          have hrun0 := run_append_grow (P := P) w t2 o.type el ie z' h2 g1 g3 ⟨g, 0, none⟩ len cap _ (by rw [htl, g4]) holds ad xs.length c news (by rw [hrw.len, g4]) hcells' (by omega) (by omega) (growslice_fits (by omega) (by rw [g5]; exact s8))
          have hrun := run_app (P := P) ho (by rw [hva, hxv, hm]; exact hrun0)
          have hcapg := grownCap_ge w (len + xs.length) cap el
          have hcapm := grownCap_le_maxLen w (len + xs.length) cap el (by unfold maxLen; omega)
          have hfin := newmem _ hdrop s5 (grownCap w (len + xs.length) cap el) _ _ (Builtin.zeroCells z'.cells (grownCap w (len + xs.length) cap el - (len + xs.length))) hcomb (by rw [hlen2]; exact hcapg) hcapm ?_ (by rw [hlen2, hrun]; congr 4; apply Array.ext'; simp)
          · rw [hlen2] at hfin
            exact hfin.resolve_right (fun hc => hc hK)
          · rw [Array.size_append, size_zeroCells, hzs, List.size_toArray, hcomb.len, hlen2, ← Nat.add_mul]
            congr 1; omega
  · cases he
end
end Go.Ab
/- DERIVED. All operations together; code; a call's body. No program here. -/
namespace Go.Ab
open Go.RowKit
variable [Lay]

theorem St.app_nil {σ : St} {dst : Option Tmp} {e : Ef} (h : e.wr = []) : σ.app dst e = σ.put dst e.val := by
  unfold St.app
  rw [h]
  simp only [wrs]
  have := St.put_h σ dst e.val
  cases hq : σ.put dst e.val
  rw [hq] at this
  simp at this
  simp [this]

section
variable {P : Program} {X : Cx} {S S' : Nat → Prop} {σ : St} {i : Nat}

theorem goes_of {o : Oper} {e : Ef} (h : Goes P X S S' o σ (σ.put o.dst e.val) ∧ e.wr = []) : Goes P X S S' o σ (σ.app o.dst e) := by
  rw [St.app_nil h.2]; exact h.1
theorem goes_ofv {o : Oper} {d : Dat} (h : Goes P X S S' o σ (σ.put o.dst d)) : Goes P X S S' o σ (σ.app o.dst { val := d }) := by
  rw [St.app_nil rfl]; exact h

theorem goes_len {o : Oper} {t : TypeId} {x : Operand} (ho : o.op = .call { callee := .builtin .len, args := #[x], argTypes := #[t] }) {e : Ef} (he : evBuiltin P σ i .len #[t] [σ.ev x] = some e) (hS : ∀ j, S j → S' j) :
    Goes P X S S' o σ (σ.put o.dst e.val) ∧ e.wr = [] := by
  simp only [evBuiltin] at he
  have run : ∀ (a : Act) (w : World) (v r : Value), a.eval x = v → (Builtin.len_ #[t] o.type #[v]).run P w = .ok r w → (execOp a.eval o).run P w = .ok (.value r) w := fun a w v r hv hr => by
    unfold execOp
    simp only [ho, resolve, invoke, builtin, Sem.run_bind, Sem.run_pure, Result.andThen_ok, List.map_toArray, List.map_cons, List.map_nil, hv, hr]
  split at he
  · rename_i n el ht
    obtain ⟨it, u, z, h1, h2, h3, h4, h5, h6, h7, h8⟩ := ti_some ht
    obtain rfl := tk_array h7
    injection he with he
    subst he
    exact ⟨goes_val hS fun a w φ D hsim => ⟨.int .i64 n, run a w _ _ rfl (by simp [Builtin.len_, run_underlying h2 w, goInt]), .int _ _⟩, rfl⟩
  · rename_i el ht hev
    obtain ⟨it, u, z, h1, h2, h3, h4, h5, h6, h7, h8⟩ := ti_some ht
    obtain rfl := tk_slice h7
    injection he with he
    subst he
    refine ⟨goes_val hS fun a w φ D hsim => ?_, rfl⟩
    have hv := hsim.ev x
    rw [hev] at hv
    exact ⟨.int .i64 0, run a w _ _ hv.nil_inv (by simp [Builtin.len_, run_underlying h2 w, goInt]), .int _ _⟩
  · rename_i el st es ht hev
    obtain ⟨it, u, z, h1, h2, h3, h4, h5, h6, h7, h8⟩ := ti_some ht
    obtain rfl := tk_slice h7
    injection he with he
    subst he
    refine ⟨goes_val hS fun a w φ D hsim => ?_, rfl⟩
    have hv := hsim.ev x
    rw [hev] at hv
    obtain ⟨A, c, hA, _⟩ := hv.list_inv
    exact ⟨.int .i64 es.length, run a w _ _ hA (by simp [Builtin.len_, run_underlying h2 w, goInt]), .int _ _⟩
  · rename_i el q off len st ht hev
    obtain ⟨it, u, z, h1, h2, h3, h4, h5, h6, h7, h8⟩ := ti_some ht
    obtain rfl := tk_slice h7
    injection he with he
    subst he
    refine ⟨goes_val hS fun a w φ D hsim => ?_, rfl⟩
    have hv := hsim.ev x
    rw [hev] at hv
    have : ∃ A c, a.eval x = .slice A len c := by
      generalize a.eval x = va at hv
      cases hv with
      | ref => exact ⟨_, _, rfl⟩
      | ref0 => exact ⟨_, _, rfl⟩
      | refv => exact ⟨_, _, rfl⟩
    obtain ⟨A, c, hA⟩ := this
    exact ⟨.int .i64 len, run a w _ _ hA (by simp [Builtin.len_, run_underlying h2 w, goInt]), .int _ _⟩
  · rename_i s ht hev
    obtain ⟨it, u, z, h1, h2, h3, h4, h5, h6, h7, h8⟩ := ti_some ht
    obtain rfl := tk_str h7
    injection he with he
    subst he
    refine ⟨goes_val hS fun a w φ D hsim => ?_, rfl⟩
    have hv := hsim.ev x
    rw [hev] at hv
    exact ⟨.int .i64 s.size, run a w _ _ hv.str_inv (by simp [Builtin.len_, run_underlying h2 w, goInt]), .int _ _⟩
  · cases he

theorem arr_of_toList {α : Type} {a : Array α} {l : List α} (h : a.toList = l) : a = l.toArray := by rw [← h]

theorem evOp_sound {o : Oper} {e : Ef} (he : evOp P σ i o.op = some e) (hs : e.side) (hn : ¬ S i) (hS : ∀ j, S j → S' j) (hS' : S' i) : Goes P X S S' o σ (σ.app o.dst e) := by
  have he0 := he
  unfold evOp at he
  split at he
  · rename_i x ho
    injection he with he
    subst he
    exact goes_ofv (goes_val hS fun a w φ D hsim => ⟨a.eval x, by simp [execOp, ho], hsim.ev x⟩)
  · rename_i x ho
    injection he with he
    subst he
    exact goes_ofv (goes_val hS fun a w φ D hsim => ⟨a.eval x, by simp [execOp, ho], hsim.ev x⟩)
  · rename_i c x y ho
    split at he
    · rename_i p hc
      injection he with he
      subst he
      exact goes_ofv (goes_pick ho hc hS)
    · cases he
  · rename_i t ho
    split at he
    · rename_i x ht
      injection he with he
      subst he
      exact goes_alloc ho ht hs.1 hs.2 hn hS hS'
    · cases he
  · rename_i t v ho
    split at he
    · rename_i x ht
      injection he with he
      subst he
      exact goes_box ho hs.1 hs.2 hn hS hS'
    · cases he
  · rename_i t parts ho
    exact goes_of (goes_build ho he0 hs hS)
  · rename_i t len parts ho
    exact goes_buildSlice ho he0 hs hn hS hS'
  · rename_i t a ho
    split at he
    · rename_i x ht
      exact goes_of (goes_load ho ht he hs hS)
    · cases he
  · rename_i t a v ho
    split at he
    · rename_i x ht
      exact goes_store ho ht he hs hS
    · cases he
  · rename_i x ho
    split at he
    · rename_i j k m st hx
      injection he with he
      subst he
      have := goes_nilCheck (P := P) (X := X) (o := o) (σ := σ) ho (.inl ⟨j, k, m, st, hx⟩) hS
      rw [hx] at this
      exact goes_ofv this
    · rename_i cs m st hx
      injection he with he
      subst he
      have := goes_nilCheck (P := P) (X := X) (o := o) (σ := σ) ho (.inr ⟨cs, m, st, hx⟩) hS
      rw [hx] at this
      exact goes_ofv this
    · cases he
  · rename_i op t x y t' ho
    exact goes_of (goes_bin ho he hs hS)
  · rename_i op t x ho
    exact goes_of (goes_un ho he hS)
  · rename_i src dst x ho
    split at he
    · rename_i xs hxs
      split at he
      · rename_i sz by' ag ze hd
        by_cases hstr : ∃ s, σ.ev x = .str s
        · obtain ⟨s, hstr⟩ := hstr
          rw [hstr] at he
          simp only [evToStr] at he
          exact goes_of (goes_convert ho (by rw [hxs]; rfl) (by rw [hd, hstr]; exact he) hS)
        · exact goes_of (goes_bytes ho hxs hd rfl he (fun s hs' => hstr ⟨s, hs'⟩) hs hS)
      · rename_i sz by' ag ze k hd
        split at he
        · rename_i k' n hev
          exact goes_of (goes_convert ho (by rw [hxs]; rfl) (by rw [hd, hev]; exact he) hS)
        · cases he
      · cases he
    · cases he
  · rename_i f first cap ho
    injection he with he
    subst he
    exact goes_ofv (goes_makeFunc ho hS)
  · rename_i t l c ho
    exact goes_makeSlice ho he0 hs hn hS hS'
  · rename_i t x lo hi ho
    split at he
    · rename_i y ht
      split at he
      · rename_i e' he'
        injection he with he
        subst he
        obtain ⟨hs1, hs2⟩ := hs
        unfold sliceOk at hs2
        have h := goes_slice (P := P) (X := X) (S := S) (S' := S') ho ht he' (fun el z hd hz => by
          rw [hd] at hs2
          simp only [hz] at hs2
          exact hs2) (fun el hd => by
          rw [hd] at hs2
          simp only at hs2
          split at hs2
          · rename_i z hz; rw [hz]; rfl
          · exact hs2.elim) hs1 hS
        exact goes_of h
      · cases he
    · cases he
  · rename_i t x f ho
    exact goes_of (goes_fieldAddr ho he hs hS)
  · rename_i t x f ho
    exact goes_of (goes_field ho he hs hS)
  · rename_i t x ix ho
    exact goes_of (goes_indexAddr ho he hs hS)
  · rename_i t x ix ho
    exact goes_of (goes_index ho he hs hS)
  · rename_i x k ho
    split at he
    · rename_i ds hx
      injection he with he
      subst he
      exact goes_ofv (goes_extract ho hx hs hS)
    · cases he
  · rename_i b args ats ho
    have he1 := he
    unfold evBuiltin at he
    split at he
    · rename_i t x hat har
      have hat' := arr_of_toList hat
      obtain ⟨y, hy⟩ : ∃ y, args.toList = [y] := by
        have hl := congrArg List.length har
        rw [List.length_map] at hl
        match h : args.toList, hl with
        | [y], _ => exact ⟨y, rfl⟩
      have hargs := arr_of_toList hy
      subst hat' hargs
      exact goes_of (goes_len ho he1 hS)
    · rename_i t1 t2 s x hat har
      have hat' := arr_of_toList hat
      obtain ⟨y, z, hy⟩ : ∃ y z, args.toList = [y, z] := by
        have hl := congrArg List.length har
        rw [List.length_map] at hl
        match h : args.toList, hl with
        | [y, z], _ => exact ⟨y, z, rfl⟩
      have hargs := arr_of_toList hy
      subst hat' hargs
      simp at har
      obtain ⟨rfl, rfl⟩ := har
      exact goes_append ho he hs hn hS hS'
    · rename_i t x hat har
      have hat' := arr_of_toList hat
      obtain ⟨y, hy⟩ : ∃ y, args.toList = [y] := by
        have hl := congrArg List.length har
        rw [List.length_map] at hl
        match h : args.toList, hl with
        | [y], _ => exact ⟨y, rfl⟩
      have hargs := arr_of_toList hy
      subst hat' hargs
      simp at har
      subst har
      exact goes_clear ho he hs hS
    · cases hm : minMax false (args.toList.map σ.ev) with
      | none => rw [hm] at he; cases he
      | some v =>
        rw [hm] at he
        injection he with he
        subst he
        exact goes_ofv (goes_minMax (isMax := false) ho hm hS)
    · cases hm : minMax true (args.toList.map σ.ev) with
      | none => rw [hm] at he; cases he
      | some v =>
        rw [hm] at he
        injection he with he
        subst he
        exact goes_ofv (goes_minMax (isMax := true) ho hm hS)
    · cases he
  · cases he
end
end Go.Ab
/- DERIVED. Regions of one order, code, and a call's body, abstractly. No program here. -/
namespace Go.Ab
open Go.RowKit
variable [Lay]

/-- what a guard's operation yielded (none within: nothing); none: that is not known -/
def gd (ops : List Oper) (σ : St) (j : Nat) : Option (Option Bool) :=
  match ops[j]? with
  | some ⟨some d, _, _, _, _, _⟩ => match σ.t d with
    | .bool b => some (some b)
    | .oth (.tuple _) => some none
    | _ => none
  | _ => none

/-- a call's effect -/
def CallEff (P : Program) (σ : St) (i : Nat) (o : Oper) (e : Ef) : Prop :=
  ∀ (X : Cx) (S S' : Nat → Prop), ¬ S i → (∀ j, S j → S' j) → S' i → Goes P X S S' o σ (σ.app o.dst e)
def CallR (P : Program) (σ : St) (i : Nat) (o : Oper) (fD : Dat) (argsD : List Dat) (K : St → Prop) : Prop :=
  ∀ f args ats, o.op = .call { callee := .value f, args := args, argTypes := ats } → σ.ev f = fD → args.toList.map σ.ev = argsD → ∃ e, CallEff P σ i o e ∧ K (σ.app o.dst e)

/-- a slice held against nil: what is known of the answer -/
def nilOk : Dat → Bool → Prop
  | .list _ es, b => b = true → es = []
  | .ref _ _ len _, b => b = true → len = 0
  | _, _ => True
def isSl : Dat → Bool
  | .list _ _ | .ref _ _ _ _ => true
  | _ => false
def NilQ (P : Program) (σ : St) (o : Oper) (K : St → Prop) : Prop :=
  ∃ t x t' e, o.op = .binOp .eql t x (.const (.slice none 0 0)) t' ∧ P.underlying t = some (.slice e) ∧ isSl (σ.ev x) = true ∧ ∀ b, nilOk (σ.ev x) b → K (σ.put o.dst (.bool b))
theorem NilQ.mono {P : Program} {σ : St} {o : Oper} {K1 K2 : St → Prop} (hk : ∀ s, K1 s → K2 s) (h : NilQ P σ o K1) : NilQ P σ o K2 := by
  obtain ⟨t, x, t', e, h1, h2, h3, h4⟩ := h
  exact ⟨t, x, t', e, h1, h2, h3, fun b hb => hk _ (h4 b hb)⟩
/-- what the evaluator does not know: told by the one who proves -/
def OthR (P : Program) (σ : St) (i : Nat) (o : Oper) (K : St → Prop) : Prop := NilQ P σ o K ∨ ∃ e, CallEff P σ i o e ∧ K (σ.app o.dst e)
theorem OthR.mono {P : Program} {σ : St} {i : Nat} {o : Oper} {K1 K2 : St → Prop} (hk : ∀ s, K1 s → K2 s) (h : OthR P σ i o K1) : OthR P σ i o K2 := by
  rcases h with h | ⟨e, he, hk'⟩
  · exact .inl (h.mono hk)
  · exact .inr ⟨e, he, hk _ hk'⟩
def stepR (P : Program) (σ : St) (i : Nat) (o : Oper) (K : St → Prop) : Prop :=
  match o.op with
  | .call { callee := .value f, args, .. } => CallR P σ i o (σ.ev f) (args.toList.map σ.ev) K
  | op => match evOp P σ i op with
    | some e => e.side ∧ K (σ.app o.dst e)
    | none => OthR P σ i o K

/-- operations one behind the other -/
def AR (P : Program) (ops : List Oper) : List Oper → Nat → St → (St → Prop) → Prop
  | [], _, σ, Q => Q { σ with n := σ.n + 8 * ops.length }
  | o :: l, i, σ, Q => match o.guard with
    | none => stepR P σ i o fun σ' => AR P ops l (i + 1) σ' Q
    | some (j, want) => match gd ops σ j with
      | some (some b) => if b = want then stepR P σ i o fun σ' => AR P ops l (i + 1) σ' Q else AR P ops l (i + 1) (σ.put o.dst (.oth undef)) Q
      | some none => AR P ops l (i + 1) (σ.put o.dst (.oth undef)) Q
      | none => False

abbrev S0 : Nat → Prop := fun _ => False

/-- the concrete post of an abstract one -/
def Con (X : Cx) (Q : Exit → St → Prop) : Exit → Act → World → Prop := fun ex a w => ∃ σ φ D, Q ex σ ∧ Sim X S0 σ a w φ D

def AW (P : Program) (X : Cx) (c : Code) (Q : Exit → St → Prop) (σ : St) : Prop :=
  ∀ a w φ D, Sim X S0 σ a w φ D → c.wp P (Con X Q) a w

theorem HS.bump {X : Cx} {S : Nat → Prop} {h : Nat → Option Blk} {n m : Nat} {w : World} {φ : Pl} {D : Nat → Prop} (H : HS X S h n w φ D) (hS : ∀ j, S j → j < m) : HS X S0 h (n + m) w φ D :=
  { H with fresh := fun i hi _ => H.fresh i (by omega) (fun hs => by have := hS _ hs; omega) }
theorem Sim.bump {X : Cx} {S : Nat → Prop} {σ : St} {m : Nat} {a : Act} {w : World} {φ : Pl} {D : Nat → Prop} (H : Sim X S σ a w φ D) (hS : ∀ j, S j → j < m) : Sim X S0 { σ with n := σ.n + m } a w φ D :=
  { H with hs := H.hs.bump hS }

section
variable {P : Program} {X : Cx} {S S' : Nat → Prop} {σ : St} {i : Nat} {a : Act} {w : World} {φ : Pl} {D : Nat → Prop}

theorem gd_sound {ops : Array Oper} {o : Oper} {j : Nat} {want : Bool} {x : Option Bool} (hg : o.guard = some (j, want)) (hs : Sim X S σ a w φ D) (h : gd ops.toList σ j = some x) : Region.wanted o (yielded ops a.tmps) = decide (x = some want) := by
  unfold gd at h
  split at h
  · rename_i d op ty pos af gu hj
    have hj' : ops[j]? = some ⟨some d, op, ty, pos, af, gu⟩ := by simpa using hj
    have ht := hs.tm d
    have key : ∀ v, a.tmps.getD d undef = v → yielded ops a.tmps j = (match v with | .bool b => some b | _ => none) := by
      intro v hv
      unfold yielded
      rw [hj']
      simp only [Option.bind_some]
      cases hq : a.tmps[d]? with
      | none =>
        have : v = undef := by rw [← hv, Array.getD_eq_getD_getElem?, hq]; rfl
        rw [this]; rfl
      | some u =>
        have : v = u := by rw [← hv, Array.getD_eq_getD_getElem?, hq]; rfl
        rw [this]
        cases u <;> rfl
    unfold Region.wanted
    rw [hg]
    simp only
    split at h
    · rename_i b' hb
      rw [hb] at ht
      have e := key _ ht.bool_inv
      simp only at e
      rw [Option.some.injEq] at h
      rw [e, ← h]
      cases b' <;> cases want <;> rfl
    · rename_i vs hb
      rw [hb] at ht
      have e := key _ ht.oth_inv
      simp only at e
      rw [Option.some.injEq] at h
      rw [e, ← h]
      cases want <;> rfl
    · cases h
  · cases h

theorem stepR_sound {o : Oper} {K : St → Prop} (h : stepR P σ i o K) (hn : ¬ S i) (hS : ∀ j, S j → S' j) (hS' : S' i) (hs : Sim X S σ a w φ D) {K' : Act → World → Prop} {Q' : Exit → Act → World → Prop}
    (hk : ∀ σ' a' w' φ' D', K σ' → Sim X S' σ' a' w' φ' D' → K' a' w') : o.wp P a w K' Q' := by
  unfold stepR at h
  split at h
  · rename_i f args ats ho
    obtain ⟨e, he, hk'⟩ := h _ _ _ ho rfl rfl
    exact he X S S' hn hS hS' a w φ D hs _ _ fun a' w' φ' D' hs' => hk _ a' w' φ' D' hk' hs'
  · split at h
    · rename_i e he
      exact evOp_sound he h.1 hn hS hS' a w φ D hs _ _ fun a' w' φ' D' hs' => hk _ a' w' φ' D' h.2 hs'
    · rcases h with h | ⟨e, he, hk'⟩
      case inr => exact he X S S' hn hS hS' a w φ D hs _ _ fun a' w' φ' D' hs' => hk _ a' w' φ' D' hk' hs'
      obtain ⟨t, x, t', e, ho, ht, hsl, hb⟩ := h
      have hv := hs.ev x
      have key : ∃ A n c, a.eval x = .slice A n c ∧ nilOk (σ.ev x) A.isNone := by
        generalize a.eval x = va at hv
        cases hx : σ.ev x <;> rw [hx] at hsl hv <;> simp only [isSl, Bool.false_eq_true] at hsl
        · cases hv with
          | list0 A c _ _ => exact ⟨A, 0, c, rfl, fun _ => rfl⟩
          | list b o' c _ _ cs _ _ _ _ _ _ _ _ _ _ => exact ⟨_, _, c, rfl, fun h => by cases h⟩
        · cases hv with
          | ref _ _ _ _ c _ _ _ _ _ => exact ⟨_, _, c, rfl, fun h => by cases h⟩
          | ref0 _ _ _ A _ => exact ⟨A, 0, 0, rfl, fun _ => rfl⟩
          | refv _ _ _ => exact ⟨none, 0, 0, rfl, fun _ => rfl⟩
      obtain ⟨A, n, c, hA, hok⟩ := key
      unfold Oper.wp
      have hr : (execOp a.eval o).run P w = .ok (.value (.bool A.isNone)) w := by
        have h1 : (binOp .eql t (.slice A n c) (.slice none 0 0)).run P w = .ok (.bool A.isNone) w := by
          unfold binOp
          simp [Sem.run_bind, run_equal_slice_nil (P := P) w t e A n c ht]
        have hc : a.eval (.const (.slice none 0 0)) = .slice none 0 0 := rfl
        have hg : (eqGuard .eql t x (.const (.slice none 0 0)) (.slice A n c) (.slice none 0 0)).run P w = .ok () w := by simp [eqGuard, Sem.run_pure]
        simp only [execOp, ho, hA, hc, Sem.run_bind, hg, h1, Result.andThen_ok, Sem.run_pure]
      rw [hr, Oper.upon_value]
      exact hk _ _ _ φ D (hb _ hok) ((hs.val (.bool _)).more hS)

theorem AR_sound {ops : Array Oper} {Q : Exit → St → Prop} : ∀ (l : List Oper) (i : Nat) (σ : St) (a : Act) (w : World) (φ : Pl) (D : Nat → Prop), l = ops.toList.drop i → i ≤ ops.size → Sim X (fun j => j < i) σ a w φ D → AR P ops.toList l i σ (Q .normal) →
    wpOps P ops (Con X Q) (List.range' i l.length) a w
  | [], i, σ, a, w, φ, D, hl, hi, hs, h => by
    simp only [List.length_nil, List.range'_zero, wpOps]
    exact ⟨_, φ, D, h, hs.bump (m := 8 * ops.toList.length) (fun j hj => by
      have h1 := congrArg List.length hl
      simp at h1
      simp
      omega)⟩
  | o :: l, i, σ, a, w, φ, D, hl, hi, hs, h => by
    have hlt : i < ops.size := by
      have h1 := congrArg List.length hl
      simp at h1
      omega
    have ho : ops[i]? = some o := by
      have h1 : (ops.toList.drop i)[0]? = some o := by rw [← hl]; rfl
      rw [List.getElem?_drop] at h1
      simpa using h1
    have hl' : l = ops.toList.drop (i + 1) := by
      have h1 := congrArg List.tail hl
      simpa [List.tail_drop] using h1
    rw [List.length_cons, List.range'_succ]
    unfold wpOps
    simp only [ho]
    unfold AR at h
    have stp : ∀ {K : St → Prop}, stepR P σ i o K → (∀ σ' a' w' φ' D', K σ' → Sim X (fun j => j < i + 1) σ' a' w' φ' D' → wpOps P ops (Con X Q) (List.range' (i + 1) l.length) a' w') →
        o.wp P a w (wpOps P ops (Con X Q) (List.range' (i + 1) l.length)) (Con X Q) := fun {K} hst hk => by
      exact stepR_sound (X := X) (S := fun j => j < i) (S' := fun j => j < i + 1) hst (by omega) (fun j hj => by omega) (by omega) hs hk
    have ih : ∀ σ' a' w' φ' D', AR P ops.toList l (i + 1) σ' (Q .normal) → Sim X (fun j => j < i + 1) σ' a' w' φ' D' → wpOps P ops (Con X Q) (List.range' (i + 1) l.length) a' w' :=
      fun σ' a' w' φ' D' hA hS => AR_sound l (i + 1) σ' a' w' φ' D' hl' hlt hS hA
    split at h
    · rename_i hg
      have hw : Region.wanted o (yielded ops a.tmps) = true := by simp [Region.wanted, hg]
      rw [if_pos hw]
      exact .inl (stp h ih)
    · rename_i j want hg
      split at h
      · rename_i b hd
        have hw := gd_sound hg hs hd
        split at h
        · rename_i hbw
          rw [if_pos (by rw [hw]; simp [hbw])]
          exact .inl (stp h ih)
        · rename_i hbw
          rw [if_neg (by rw [hw]; simp [hbw])]
          exact ih _ _ _ φ D h ((hs.val (.oth undef)).more fun j hj => by omega)
      · rename_i hd
        have hw := gd_sound hg hs hd
        rw [if_neg (by rw [hw]; simp)]
        exact ih _ _ _ φ D h ((hs.val (.oth undef)).more fun j hj => by omega)
      · exact h.elim

/-- a region that draws its order: what is told of it stands in the next text -/
def DrawR (P : Program) (ops : List Oper) (σ : St) (Q : St → Prop) : Prop :=
  ∀ (X : Cx) (id : Nat) (Q' : Exit → St → Prop), (∀ σ', Q σ' → Q' .normal σ') → AW P X (.region id ops.toArray true) Q' σ

/-- a region taken as a whole, by the one who proves -/
def RegR (P : Program) (ops : List Oper) (σ : St) (Q : St → Prop) : Prop :=
  ∀ (X : Cx) (id : Nat) (Q' : Exit → St → Prop), (∀ σ', Q σ' → Q' .normal σ') → AW P X (.region id ops.toArray false) Q' σ

/-- what a piece of code leads to -/
def awp (P : Program) : Code → (Exit → St → Prop) → St → Prop
  | .skip, Q, σ => Q .normal σ
  | .label _, Q, σ => Q .normal σ
  | .region _ ops draw, Q, σ => if draw then DrawR P ops.toList σ (Q .normal) else (AR P ops.toList ops.toList 0 σ (Q .normal) ∨ RegR P ops.toList σ (Q .normal))
  | .seq x y, Q, σ => awp P x (fun ex σ' => match ex with | .normal => awp P y Q σ' | e => Q e σ') σ
  | .cond c x y, Q, σ => match σ.ev c with
    | .bool b => (b = true → awp P x Q σ) ∧ (b = false → awp P y Q σ)
    | _ => False
  | .block id x, Q, σ => awp P x (fun ex σ' => match ex with | .exit id' => if id' = id then Q .normal σ' else Q (.exit id') σ' | e => Q e σ') σ
  | .loop x, Q, σ => ∃ (I : Nat → St → Prop) (m : Nat), I m σ ∧ ∀ m σ, I m σ → awp P x (fun ex σ' => match ex with | .normal => ∃ m', m' < m ∧ I m' σ' | e => Q e σ') σ
  | .exit id, Q, σ => Q (.exit id) σ
  | .ret, Q, σ => Q .ret σ
  | _, _, _ => False

theorem Con.mono {Q Q' : Exit → St → Prop} (h : ∀ ex σ, Q ex σ → Q' ex σ) : ∀ ex a w, Con X Q ex a w → Con X Q' ex a w :=
  fun ex a w ⟨σ, φ, D, hq, hs⟩ => ⟨σ, φ, D, h ex σ hq, hs⟩

theorem awp_sound (X : Cx) : ∀ (c : Code) (Q : Exit → St → Prop) (σ : St), awp P c Q σ → AW P X c Q σ
  | .skip, Q, σ, h => fun a w φ D hs => wp_skip ⟨σ, φ, D, h, hs⟩
  | .label _, Q, σ, h => fun a w φ D hs => wp_label ⟨σ, φ, D, h, hs⟩
  | .region id ops draw, Q, σ, h => by
    unfold awp at h
    split at h
    · rename_i hd
      subst hd
      have := h X id Q (fun σ' h => h)
      simpa using this
    · rename_i hd
      have hd' : draw = false := by simpa using hd
      subst hd'
      rcases h with h | h
      case inr =>
        have := h X id Q (fun σ' h => h)
        simpa using this
      intro a w φ D hs
      refine wp_region ?_
      have := AR_sound (P := P) (X := X) (ops := ops) (Q := Q) ops.toList 0 σ a w φ D (by simp) (Nat.zero_le _) (hs.more fun j hj => hj.elim) h
      rw [List.range_eq_range']
      simpa using this
  | .seq x y, Q, σ, h => fun a w φ D hs => by
    unfold awp at h
    refine wp_seq (wp_mono (awp_sound X x _ σ h a w φ D hs) fun ex a' w' hc => ?_)
    obtain ⟨σ', φ', D', hq, hs'⟩ := hc
    cases ex with
    | normal => exact awp_sound X y Q σ' hq a' w' φ' D' hs'
    | exit id => exact ⟨σ', φ', D', hq, hs'⟩
    | goto l => exact ⟨σ', φ', D', hq, hs'⟩
    | ret => exact ⟨σ', φ', D', hq, hs'⟩
    | panic c => exact ⟨σ', φ', D', hq, hs'⟩
    | outgrown => exact ⟨σ', φ', D', hq, hs'⟩
  | .cond c x y, Q, σ, h => fun a w φ D hs => by
    unfold awp at h
    split at h
    · rename_i b hb
      have hv := hs.ev c
      rw [hb] at hv
      exact wp_cond_split hv.bool_inv (fun ht => awp_sound X x Q σ (h.1 ht) a w φ D hs) (fun hf => awp_sound X y Q σ (h.2 hf) a w φ D hs)
    · exact h.elim
  | .block id x, Q, σ, h => fun a w φ D hs => by
    unfold awp at h
    refine wp_block (wp_mono (awp_sound X x _ σ h a w φ D hs) fun ex a' w' hc => ?_)
    obtain ⟨σ', φ', D', hq, hs'⟩ := hc
    cases ex with
    | exit id' =>
      simp only [Exit.inBlock]
      simp only at hq
      split
      · rename_i e; rw [if_pos e] at hq; exact ⟨σ', φ', D', hq, hs'⟩
      · rename_i e; rw [if_neg e] at hq; exact ⟨σ', φ', D', hq, hs'⟩
    | normal => exact ⟨σ', φ', D', hq, hs'⟩
    | goto l => exact ⟨σ', φ', D', hq, hs'⟩
    | ret => exact ⟨σ', φ', D', hq, hs'⟩
    | panic c => exact ⟨σ', φ', D', hq, hs'⟩
    | outgrown => exact ⟨σ', φ', D', hq, hs'⟩
  | .loop x, Q, σ, h => fun a w φ D hs => by
    unfold awp at h
    obtain ⟨I, m, h0, hr⟩ := h
    classical
    let J : Act → World → Nat → Prop := fun a w m => ∃ σ φ D, I m σ ∧ Sim X S0 σ a w φ D
    have least : ∀ a w, (∃ m, J a w m) → ∃ m, J a w m ∧ ∀ k, J a w k → m ≤ k := fun a w hex => by
      have : ∀ n, ∀ m, m ≤ n → J a w m → ∃ m, J a w m ∧ ∀ k, J a w k → m ≤ k := by
        intro n
        induction n with
        | zero => intro m hm hj; exact ⟨m, hj, fun k _ => by omega⟩
        | succ n ih =>
          intro m hm hj
          by_cases hk : ∃ k, k < m ∧ J a w k
          · obtain ⟨k, hk, hjk⟩ := hk
            exact ih k (by omega) hjk
          · exact ⟨m, hj, fun k hjk => by
              rcases Nat.lt_or_ge k m with h | h
              · exact absurd ⟨k, h, hjk⟩ hk
              · exact h⟩
      obtain ⟨m, hm⟩ := hex
      exact this m m (Nat.le_refl _) hm
    let μ : Act → World → Nat := fun a w => if hex : ∃ m, J a w m then (least a w hex).choose else 0
    have hμ : ∀ a w, (∃ m, J a w m) → J a w (μ a w) ∧ ∀ k, J a w k → μ a w ≤ k := fun a w hex => by
      simp only [μ, dif_pos hex]
      exact (least a w hex).choose_spec
    refine wp_loop (fun a w => ∃ m, J a w m) μ ⟨m, σ, φ, D, h0, hs⟩ fun a w hex => ?_
    obtain ⟨⟨σ1, φ1, D1, hI, hs1⟩, hmin⟩ := hμ a w hex
    refine wp_mono (awp_sound X x _ σ1 (hr _ σ1 hI) a w φ1 D1 hs1) fun ex a' w' hc => ?_
    obtain ⟨σ', φ', D', hq, hs'⟩ := hc
    cases ex with
    | normal =>
      obtain ⟨m', hlt, hI'⟩ := hq
      have hex' : ∃ m, J a' w' m := ⟨m', σ', φ', D', hI', hs'⟩
      exact ⟨hex', Nat.lt_of_le_of_lt ((hμ a' w' hex').2 m' ⟨σ', φ', D', hI', hs'⟩) hlt⟩
    | exit id => exact ⟨σ', φ', D', hq, hs'⟩
    | goto l => exact ⟨σ', φ', D', hq, hs'⟩
    | ret => exact ⟨σ', φ', D', hq, hs'⟩
    | panic c => exact ⟨σ', φ', D', hq, hs'⟩
    | outgrown => exact ⟨σ', φ', D', hq, hs'⟩
  | .exit id, Q, σ, h => fun a w φ D hs => wp_exit ⟨σ, φ, D, h, hs⟩
  | .ret, Q, σ, h => fun a w φ D hs => wp_ret ⟨σ, φ, D, h, hs⟩
  | .rangeFunc _ _ _ _, _, _, h => by unfold awp at h; exact h.elim
  | .scope _, _, _, h => by unfold awp at h; exact h.elim
  | .goto _, _, _, h => by unfold awp at h; exact h.elim
  | .refuse _, _, _, h => by unfold awp at h; exact h.elim
end
end Go.Ab
/- DERIVED. A call's contract in plain values, its use, and its proof out of the body. No program here. -/
namespace Go.Ab
open Go.RowKit
variable [Lay]

/-- what a value is, its blocks read as plain rows (fz: frozen blocks alone) -/
inductive PurR (h : Nat → Option Blk) (fz : Bool) : Dat → Dat → Prop where
  | bool (b : Bool) : PurR h fz (.bool b) (.bool b)
  | int (k : IntKind) (n : Int) : PurR h fz (.int k n) (.int k n)
  | str (s : ByteArray) : PurR h fz (.str s) (.str s)
  | oth (v : Value) : PurR h fz (.oth v) (.oth v)
  | agg (cs ds : List Dat) (hl : cs.length = ds.length) (H : ∀ (i : Nat) c d, cs[i]? = some c → ds[i]? = some d → PurR h fz c d) : PurR h fz (.agg cs) (.agg ds)
  | tup (cs ds : List Dat) (hl : cs.length = ds.length) (H : ∀ (i : Nat) c d, cs[i]? = some c → ds[i]? = some d → PurR h fz c d) : PurR h fz (.tup cs) (.tup ds)
  | nil (st : Nat) : PurR h fz .nil (.list st [])
  | nil' : PurR h fz .nil .nil
  | list (st : Nat) (es fs : List (List Dat)) (hl : es.length = fs.length) (hll : ∀ (i : Nat) e f, es[i]? = some e → fs[i]? = some f → e.length = f.length)
      (H : ∀ (i : Nat) e f, es[i]? = some e → fs[i]? = some f → ∀ (j : Nat) c d, e[j]? = some c → f[j]? = some d → PurR h fz c d) : PurR h fz (.list st es) (.list st fs)
  | ref (i off len st : Nat) (B : Blk) (fs : List (List Dat)) (hB : h i = some B) (hz : fz = true → B.fz = true) (hst : B.st = st) (hle : off + len ≤ B.es.length) (hl : fs.length = len)
      (hll : ∀ (k : Nat) e f, B.es[off + k]? = some e → fs[k]? = some f → e.length = f.length)
      (H : ∀ (k : Nat) e f, B.es[off + k]? = some e → fs[k]? = some f → ∀ (j : Nat) c d, e[j]? = some c → f[j]? = some d → PurR h fz c d) : PurR h fz (.ref i off len st) (.list st fs)
  | rop (cs ds : List Dat) (j st : Nat) (hl : cs.length = ds.length) (H : ∀ (i : Nat) c d, cs[i]? = some c → ds[i]? = some d → PurR h fz c d) : PurR h fz (.rop cs j st) (.rop ds j st)
  | ptr (i k j st : Nat) (B : Blk) (ds : List Dat) (hB : h i = some B) (hz : fz = true → B.fz = true) (hst : B.st = st) (hk : k < B.es.length) (hl : (B.es.getD k []).length = ds.length)
      (H : ∀ (q : Nat) c d, (B.es.getD k [])[q]? = some c → ds[q]? = some d → PurR h fz c d) : PurR h fz (.ptr i k j st) (.rop ds j st)
  | fn (f : Fn) (a b a' b' : List Dat) (h1 : a.length = a'.length) (h2 : b.length = b'.length) (H1 : ∀ (i : Nat) c d, a[i]? = some c → a'[i]? = some d → PurR h fz c d)
      (H2 : ∀ (i : Nat) c d, b[i]? = some c → b'[i]? = some d → PurR h fz c d) : PurR h fz (.fn f a b) (.fn f a' b')

def PurRs (h : Nat → Option Blk) (fz : Bool) (cs ds : List Dat) : Prop := cs.length = ds.length ∧ ∀ (i : Nat) c d, cs[i]? = some c → ds[i]? = some d → PurR h fz c d

abbrev NP : Pl := fun _ => none
theorem NP_le (φ : Pl) : PlLe NP φ := fun _ _ h => by cases h

theorem PurR.rv {h : Nat → Option Blk} {fz : Bool} {d r : Dat} (hp : PurR h fz d r) {X : Cx} {S : Nat → Prop} {n : Nat} {w : World} {φ : Pl} {D D2 : Nat → Prop} (H : HS X S h n w φ D) (hD : ∀ b, D b → D2 b)
    (hL : ∀ i B g, h i = some B → (fz = true → B.fz = true) → φ i = some (some g) → D2 g) : ∀ {v : Value}, RV φ D w v d → RV NP D2 w v r := by
  induction hp with
  | bool b => intro v hv; rw [hv.bool_inv]; exact .bool b
  | int k n => intro v hv; rw [hv.int_inv]; exact .int k n
  | str s => intro v hv; rw [hv.str_inv]; exact .str s
  | oth u => intro v hv; rw [hv.oth_inv]; exact .oth u
  | agg cs ds hl _ ih =>
    intro v hv
    obtain ⟨vs, rfl, hvs⟩ := hv.agg_inv
    refine .agg vs ds (hvs.1.trans hl) fun i c d hc hd => ?_
    have hi : i < cs.length := by rw [hl]; exact (List.getElem?_eq_some_iff.1 hd).1
    exact ih i _ d (List.getElem?_eq_getElem hi) hd (hvs.2 i c _ hc (List.getElem?_eq_getElem hi))
  | tup cs ds hl _ ih =>
    intro v hv
    obtain ⟨vs, rfl, hvs⟩ := hv.tup_inv
    refine .tup vs ds (hvs.1.trans hl) fun i c d hc hd => ?_
    have hi : i < cs.length := by rw [hl]; exact (List.getElem?_eq_some_iff.1 hd).1
    exact ih i _ d (List.getElem?_eq_getElem hi) hd (hvs.2 i c _ hc (List.getElem?_eq_getElem hi))
  | nil st => intro v hv; rw [hv.nil_inv]; exact .list0 none 0 st (Nat.zero_le _)
  | nil' => intro v hv; rw [hv.nil_inv]; exact .nil
  | list st es fs hl hll _ ih =>
    intro v hv
    obtain ⟨A, c, rfl, h1, h2, h3⟩ := hv.list_inv
    refine RV.list_mk hl (by omega) h2 fun i f hf => ?_
    have hi : i < es.length := by rw [hl]; exact (List.getElem?_eq_some_iff.1 hf).1
    obtain ⟨b, o, cs, rfl, q1, q2, q3, q4, q5, q6⟩ := h3 i _ (List.getElem?_eq_getElem hi)
    refine ⟨b, o, cs, rfl, hD b q1, q2, q3, q4, q5, ?_, fun j c d hc hd => ?_⟩
    · rw [q6.1]; exact hll i _ f (List.getElem?_eq_getElem hi) hf
    · have hj : j < (es[i]).length := by rw [← q6.1]; exact (List.getElem?_eq_some_iff.1 hc).1
      exact ih i _ f (List.getElem?_eq_getElem hi) hf j _ d (List.getElem?_eq_getElem hj) hd (q6.2 j c _ hc (List.getElem?_eq_getElem hj))
  | ref i off len st B fs hB hz hst hle hl hll _ ih =>
    intro v hv
    cases hv with
    | ref0 _ _ _ A h0 =>
      have : fs = [] := List.eq_nil_of_length_eq_zero hl
      subst this
      exact .list0 A 0 st (Nat.zero_le _)
    | refv _ _ hφ =>
      have : fs = [] := List.eq_nil_of_length_eq_zero hl
      subst this
      exact .list0 none 0 st (Nat.zero_le _)
    | ref _ g _ _ c _ hφ hlc hc hsz =>
      have hlies : Lies φ D w g B := by
        rcases H.live i B hB with ⟨q, _⟩ | ⟨g', q, q2, _⟩
        · rw [hφ] at q; cases q
        · rw [hφ] at q; injection q with q; injection q with q; subst q; exact q2
      refine RV.list_mk hl.symm (by omega) hc fun k f hf => ?_
      have hk : k < fs.length := (List.getElem?_eq_some_iff.1 hf).1
      have hok : off + k < B.es.length := by omega
      obtain ⟨cs, q1, q2, q3, q4⟩ := hlies.el hok
      have he : B.es[off + k]? = some (B.es.getD (off + k) []) := by rw [List.getD_eq_getElem?_getD, List.getElem?_eq_getElem hok]; rfl
      refine ⟨g, off * st, cs, rfl, hL i B g hB hz hφ, hlies.lt, ?_, by rw [q2, hst], q3, ?_, fun j c d hc hd => ?_⟩
      · rw [hst, Nat.add_mul] at q1; exact q1
      · rw [q4.1]; exact hll k _ f he hf
      · have hj : j < (B.es.getD (off + k) []).length := by rw [← q4.1]; exact (List.getElem?_eq_some_iff.1 hc).1
        exact ih k _ f he hf j _ d (List.getElem?_eq_getElem hj) hd (q4.2 j c _ hc (List.getElem?_eq_getElem hj))
  | rop cs ds j st hl _ ih =>
    intro v hv
    obtain ⟨b, o, vs, rfl, q1, q2, q3, q4, q5, q6⟩ := hv.rop_inv
    refine .rop b o j st ds vs (q6.1.trans hl) q1 (hD b q2) q3 q4 q5 fun i c d hc hd => ?_
    have hi : i < cs.length := by rw [hl]; exact (List.getElem?_eq_some_iff.1 hd).1
    exact ih i _ d (List.getElem?_eq_getElem hi) hd (q6.2 i c _ hc (List.getElem?_eq_getElem hi))
  | ptr i k j st B ds hB hz hst hk hl _ ih =>
    intro v hv
    obtain ⟨g, hφ, rfl⟩ := hv.ptr_inv
    have hlies : Lies φ D w g B := by
      rcases H.live i B hB with ⟨q, _⟩ | ⟨g', q, q2, _⟩
      · rw [hφ] at q; cases q
      · rw [hφ] at q; injection q with q; injection q with q; subst q; exact q2
    obtain ⟨vs, q1, q2, q3, q4⟩ := hlies.el hk
    rw [hst] at q1
    refine .rop g (k * st) j st ds vs (q4.1.trans hl) (q2.trans hst) (hL i B g hB hz hφ) hlies.lt q1 q3 fun q c d hc hd => ?_
    have hq : q < (B.es.getD k []).length := by rw [hl]; exact (List.getElem?_eq_some_iff.1 hd).1
    exact ih q _ d (List.getElem?_eq_getElem hq) hd (q4.2 q c _ hc (List.getElem?_eq_getElem hq))
  | fn f a b a' b' h1 h2 _ _ ih1 ih2 =>
    intro v hv
    obtain ⟨c1, c2, rfl, k1, k2⟩ := hv.fn_inv
    refine .fn f c1 c2 a' b' (k1.1.trans h1) (k2.1.trans h2) (fun i c d hc hd => ?_) (fun i c d hc hd => ?_)
    · have hi : i < a.length := by rw [h1]; exact (List.getElem?_eq_some_iff.1 hd).1
      exact ih1 i _ d (List.getElem?_eq_getElem hi) hd (k1.2 i c _ hc (List.getElem?_eq_getElem hi))
    · have hi : i < b.length := by rw [h2]; exact (List.getElem?_eq_some_iff.1 hd).1
      exact ih2 i _ d (List.getElem?_eq_getElem hi) hd (k2.2 i c _ hc (List.getElem?_eq_getElem hi))

theorem PurRs.rvs {h : Nat → Option Blk} {fz : Bool} {ds rs : List Dat} (hp : PurRs h fz ds rs) {X : Cx} {S : Nat → Prop} {n : Nat} {w : World} {φ : Pl} {D D2 : Nat → Prop} (H : HS X S h n w φ D) (hD : ∀ b, D b → D2 b)
    (hL : ∀ i B g, h i = some B → (fz = true → B.fz = true) → φ i = some (some g) → D2 g) {vs : List Value} (hv : RVs φ D w vs ds) : RVs NP D2 w vs rs :=
  ⟨hv.1.trans hp.1, fun i c d hc hd => by
    have hi : i < ds.length := by rw [hp.1]; exact (List.getElem?_eq_some_iff.1 hd).1
    exact (hp.2 i _ d (List.getElem?_eq_getElem hi) hd).rv H hD hL (hv.2 i c _ hc (List.getElem?_eq_getElem hi))⟩

/-- no addresses at all -/
inductive Scal : Dat → Prop where
  | bool (b : Bool) : Scal (.bool b)
  | int (k : IntKind) (n : Int) : Scal (.int k n)
  | str (s : ByteArray) : Scal (.str s)
  | agg (cs : List Dat) (H : ∀ (i : Nat) c, cs[i]? = some c → Scal c) : Scal (.agg cs)
  | tup (cs : List Dat) (H : ∀ (i : Nat) c, cs[i]? = some c → Scal c) : Scal (.tup cs)
  | nil (st : Nat) : Scal (.list st [])
theorem Scal.rv {d : Dat} (h : Scal d) {φ φ' : Pl} {D D' : Nat → Prop} {w w' : World} : ∀ {v : Value}, RV φ D w v d → RV φ' D' w' v d := by
  induction h with
  | bool b => intro v hv; rw [hv.bool_inv]; exact .bool b
  | int k n => intro v hv; rw [hv.int_inv]; exact .int k n
  | str s => intro v hv; rw [hv.str_inv]; exact .str s
  | agg cs _ ih =>
    intro v hv
    obtain ⟨vs, rfl, hvs⟩ := hv.agg_inv
    exact .agg vs cs hvs.1 fun i c d hc hd => ih i d hd (hvs.2 i c d hc hd)
  | tup cs _ ih =>
    intro v hv
    obtain ⟨vs, rfl, hvs⟩ := hv.tup_inv
    exact .tup vs cs hvs.1 fun i c d hc hd => ih i d hd (hvs.2 i c d hc hd)
  | nil st =>
    intro v hv
    obtain ⟨A, c, rfl, h1, h2, _⟩ := hv.list_inv
    exact .list0 A c st h2

/-- THE CONTRACT: with arguments that read so the call answers what reads so; all that was is as it was -/
structure PC (P : Program) (F : FuncId) (ds : List Dat) (r : Dat) : Prop where
  enter : ∃ fn c, P.funcs[F]? = some fn ∧ fn.body = some c ∧ (fn.name == "runtime.NumGoroutine") = false
  run : ∀ (w : World) (D : Nat → Prop) (vs : List Value), (∀ b, D b → b < w.heap.size) → Lay.gp w D → RVs NP D w vs ds →
    Calls P F vs.toArray w fun e w' => ∃ v, e = .returned v ∧ RV NP (fun b => D b ∨ w.heap.size ≤ b) w' v r ∧ Below w.heap.size w w'

/-! its proof -/
def resR (P : Program) (σ : St) : List ResultVar → (List Dat → Prop) → Prop
  | [], K => K []
  | .tmp t :: r, K => resR P σ r fun ds => K (σ.t t :: ds)
  | .cell a t :: r, K => match ti P t with
    | some x => match evLoad σ x (σ.t a) with
      | some e => e.side ∧ resR P σ r fun ds => K (e.val :: ds)
      | none => False
    | none => False
def single : List Dat → Dat
  | [d] => d
  | ds => .tup ds
def retP (P : Program) (fn : Func) (Q : Dat → St → Prop) : Exit → St → Prop
  | .normal, σ | .ret, σ => resR P σ fn.results.toList fun ds => Q (single ds) σ
  | _, _ => False

theorem load_ok {P : Program} {X : Cx} {S : Nat → Prop} {σ : St} {t : TypeId} {x : TI} (ht : ti P t = some x) {d : Dat} {e : Ef} (he : evLoad σ x d = some e) (hs : e.side) {A : Act} {w : World} {φ : Pl} {D : Nat → Prop} (hsim : Sim X S σ A w φ D) {va : Value} (hv : RV φ D w va d) :
    ∃ ad v, va = .pointer (some ad) ∧ (loadVar t ad).run P w = .ok v w ∧ RV φ D w v e.val := by
  unfold evLoad at he
  split at he
  · rename_i i k j st
    split at he
    · rename_i B hB
      injection he with he
      subst he
      obtain ⟨h1, h2, h3, h4⟩ := hs
      obtain ⟨g, hp, hA⟩ := hv.ptr_inv
      have hl := hsim.lies hB hp
      obtain ⟨cs, c1, c2, c3, c4⟩ := hl.el h1
      obtain ⟨v, hr, hrv⟩ := read_cut c1 c2 c4 (j := j) (n := x.sz) (by omega) x.agg h4 ht rfl rfl
      refine ⟨_, v, hA, by rw [← h3]; exact hr, ?_⟩
      show RV φ D w v (cut _ j x.sz x.agg st)
      rw [← h3]; exact hrv
    · cases he
  · rename_i cs j st
    injection he with he
    subst he
    obtain ⟨h2, h4⟩ := hs
    obtain ⟨b, o', vs, hA, hl, hD, hb, hr, h1, hvs⟩ := hv.rop_inv
    obtain ⟨v, hr, hrv⟩ := read_cut hr hl hvs (j := j) (n := x.sz) (by omega) x.agg h4 ht rfl rfl
    exact ⟨_, v, hA, hr, hrv⟩
  · cases he

def resF (tmps : Array Value) : ResultVar → Sem Value
  | .tmp t => pure (tmps.getD t undef)
  | .cell a t => do loadVar t (← asAddr (tmps.getD a undef))
theorem results_eq (fn : Func) (tmps : Array Value) : results fn tmps = (do let vs ← fn.results.mapM (resF tmps); pure (if h : vs.size = 1 then vs[0] else .tuple vs)) := by
  unfold results
  congr 2
theorem resR_sound {P : Program} {X : Cx} {σ : St} {A : Act} {w : World} {φ : Pl} {D : Nat → Prop} (hsim : Sim X S0 σ A w φ D) : ∀ (l : List ResultVar) (K : List Dat → Prop), resR P σ l K →
    ∃ vs ds, (l.mapM (resF A.tmps)).run P w = .ok vs w ∧ K ds ∧ RVs φ D w vs ds
  | [], K, h => ⟨[], [], by simp, h, .nil⟩
  | .tmp t :: r, K, h => by
    obtain ⟨vs, ds, h1, h2, h3⟩ := resR_sound hsim r _ h
    refine ⟨_ :: vs, _ :: ds, ?_, h2, .cons (hsim.tm t) h3⟩
    rw [List.mapM_cons]
    simp only [Sem.run_bind, resF, Sem.run_pure, Result.andThen_ok, h1]
  | .cell a t :: r, K, h => by
    unfold resR at h
    split at h
    · rename_i x ht
      split at h
      · rename_i e he
        obtain ⟨hs, h⟩ := h
        obtain ⟨vs, ds, h1, h2, h3⟩ := resR_sound hsim r _ h
        obtain ⟨ad, v, hva, hr, hrv⟩ := load_ok ht he hs hsim (hsim.tm a)
        refine ⟨v :: vs, _ :: ds, ?_, h2, .cons hrv h3⟩
        rw [List.mapM_cons]
        simp only [Sem.run_bind, resF, Sem.run_pure, Result.andThen_ok, h1, hva, asAddr, hr]
      · exact h.elim
    · exact h.elim

theorem retP_sound {P : Program} {fn : Func} {X : Cx} {Q : Dat → St → Prop} {R : Ending → World → Prop} (hR : ∀ σ a w φ D d v, Sim X S0 σ a w φ D → Q d σ → RV φ D w v d → R (.returned v) w) : ∀ ex a w, Con X (retP P fn Q) ex a w → bodyPost P fn R ex a w := by
  intro ex a w hc
  obtain ⟨σ, φ, D, hq, hs⟩ := hc
  have key : resR P σ fn.results.toList (fun ds => Q (single ds) σ) → a.defers = [] ∧ ∃ v, (results fn a.tmps).run P w = .ok v w ∧ R (.returned v) w := fun h => by
    obtain ⟨vs, ds, h1, h2, h3⟩ := resR_sound hs _ _ h
    refine ⟨hs.df, if h : vs.length = 1 then vs[0] else .tuple vs.toArray, ?_, hR σ a w φ D _ _ hs h2 ?_⟩
    · rw [results_eq, Array.mapM_eq_mapM_toList]
      simp [h1]
    · split
      · rename_i hl
        match vs, hl, h3 with
        | [v], _, h3 =>
          have hd := h3.1
          match ds, hd, h3 with
          | [d], _, h3 => exact h3.2 0 v d rfl rfl
      · rename_i hl
        have : single ds = .tup ds := by
          have hd := h3.1
          match ds, hd with
          | [], _ => rfl
          | [d], hd => simp at hd; exact absurd hd hl
          | _ :: _ :: _, _ => rfl
        rw [this]
        exact .tup vs ds h3.1 h3.2
  cases ex with
  | normal => exact key hq
  | ret => exact key hq
  | exit id => exact hq.elim
  | goto l => exact hq.elim
  | panic c => exact hq.elim
  | outgrown => exact hq.elim

def entry (fn : Func) (ds : List Dat) (n : Nat) : St := { t := fun i => ds.getD i (.oth undef), h := fun _ => none, n := n, nt := ds.length + (fn.ntmps - ds.length) }

theorem HS.start {w : World} {D : Nat → Prop} (hD : ∀ b, D b → b < w.heap.size) (hG : Lay.gp w D) : HS ⟨w, fun _ => False, D, NP⟩ S0 (fun _ => none) 0 w NP D where
  live := fun i B h => by cases h
  inj := fun i j B C g h => by cases h
  fresh := fun _ _ _ => rfl
  Dlt := hD
  Dsub := fun b h => .inl h
  Dsup := fun b h => h
  psup := PlLe.refl _
  fr := ⟨rfl, rfl, rfl, Nat.le_refl _, fun _ _ => rfl, fun _ _ _ => rfl⟩
  fin := ⟨0, fun _ _ => rfl⟩
  gp := hG

theorem Sim.entry {X : Cx} {fn : Func} {ds : List Dat} {vs : List Value} {w : World} {φ : Pl} {D : Nat → Prop} {n : Nat} (hv : RVs φ D w vs ds) (hs : HS X S0 (fun _ => none) n w φ D) :
    Sim X S0 (entry fn ds n) { tmps := vs.toArray ++ Array.replicate (fn.ntmps - vs.toArray.size) undef, defers := [] } w φ D where
  nt := by simp [Ab.entry, hv.1]
  df := rfl
  tm := fun i => by
    show RV φ D w _ (ds.getD i (.oth undef))
    rw [Array.getD_eq_getD_getElem?, List.getD_eq_getElem?_getD]
    by_cases hi : i < vs.length
    · have hi' : i < ds.length := by rw [← hv.1]; exact hi
      rw [Array.getElem?_append_left (by simpa using hi), List.getElem?_toArray, List.getElem?_eq_getElem hi, List.getElem?_eq_getElem hi']
      exact hv.2 i _ _ (List.getElem?_eq_getElem hi) (List.getElem?_eq_getElem hi')
    · rw [List.getElem?_eq_none (by rw [← hv.1]; omega)]
      have : ((vs.toArray ++ Array.replicate (fn.ntmps - vs.toArray.size) undef)[i]?).getD undef = undef := by
        rw [Array.getElem?_append_right (by simpa using hi), Array.getElem?_replicate]
        split <;> rfl
      rw [this]
      exact .oth undef
  hs := hs

theorem Fr.below {w w' : World} {D : Nat → Prop} (h : Fr ⟨w, fun _ => False, D, NP⟩ w') : Below w.heap.size w w' :=
  ⟨h.os, h.tape, h.output, h.size, fun k hk => h.old k hk (fun h => h)⟩

/-! its use -/
theorem HS.growD {X : Cx} {S : Nat → Prop} {h : Nat → Option Blk} {n : Nat} {w w' : World} {φ : Pl} {D : Nat → Prop} (H : HS X S h n w φ D) (c : Chg w w' none) : HS X S h n w' φ (fun b => D b ∨ (w.heap.size ≤ b ∧ b < w'.heap.size)) where
  live := fun i B hi => by
    rcases H.live i B hi with h1 | ⟨g, h1, h2, h3, h4⟩
    · exact .inl h1
    · refine .inr ⟨g, h1, h2.keep (PlLe.refl _) (fun _ h _ => .inl h) (c.ext (fun _ h => by cases h)) (c.block g h2.lt (by simp)), fun h => .inl (h3 h), fun h => ⟨fun hd => ?_, (h4 h).2⟩⟩
      rcases hd with hd | hd
      · exact (h4 h).1 hd
      · have := h2.lt; omega
  inj := H.inj
  fresh := H.fresh
  Dlt := fun b hb => by
    rcases hb with hb | hb
    · exact Nat.lt_of_lt_of_le (H.Dlt b hb) c.size
    · exact hb.2
  Dsub := fun b hb => by
    rcases hb with hb | hb
    · exact H.Dsub b hb
    · exact .inr (.inr (Nat.le_trans H.fr.size hb.1))
  Dsup := fun b hb => .inl (H.Dsup b hb)
  psup := H.psup
  fr := H.fr.chg c (fun _ h => by cases h)
  fin := H.fin
  gp := Lay.gpk H.gp (c.ext (fun _ h => by cases h)) (fun _ h _ => .inl h)

/-- some of one's own are frozen -/
def frz (h : Nat → Option Blk) : List Nat → List (Nat × Option Blk)
  | [] => []
  | i :: r => (i, (h i).map fun B => { B with fz := true }) :: frz h r
theorem wrs_frz (h : Nat → Option Blk) : ∀ (l : List Nat) (h' : Nat → Option Blk) (k : Nat), wrs h' (frz h l) k = if l.contains k then (h k).map (fun B => { B with fz := true }) else h' k
  | [], h', k => by simp [frz, wrs]
  | i :: r, h', k => by
    rw [frz, wrs, wrs_frz h r]
    by_cases e : r.contains k = true
    · have e' : k ∈ r := by simpa using e
      simp [e']
    · rw [if_neg e]
      by_cases e2 : k = i
      · subst e2; rw [upd_same]; simp
      · rw [upd_ne _ _ e2]
        have : (i :: r).contains k = false := by simp at e ⊢; exact ⟨e2, e⟩
        rw [this]; rfl
theorem HS.frz1 {X : Cx} {S : Nat → Prop} {h : Nat → Option Blk} {n : Nat} {w : World} {φ : Pl} {D : Nat → Prop} (H : HS X S h n w φ D) (i : Nat) : ∃ D', HS X S (upd h i ((h i).map fun B => { B with fz := true })) n w φ D' ∧ ∀ b, D b → D' b := by
  cases hi : h i with
  | none =>
    refine ⟨D, ?_, fun _ h => h⟩
    have := H.drop i
    simpa using this
  | some B =>
    simp only [Option.map_some]
    cases hf : B.fz with
    | true =>
      refine ⟨D, ?_, fun _ h => h⟩
      have e : upd h i (some { B with fz := true }) = h := by
        funext k
        by_cases e : k = i
        · subst e; rw [upd_same, hi]; congr 1; cases B; simp_all
        · rw [upd_ne _ _ e]
      rw [e]; exact H
    | false =>
      rcases H.live i B hi with ⟨q, _⟩ | ⟨g, q, _⟩
      · exact ⟨D, H.freeze_virt hi q, fun _ h => h⟩
      · exact ⟨_, H.freeze hi q hf, fun _ h => .inl h⟩
theorem HS.frzs {X : Cx} {S : Nat → Prop} {n : Nat} {w : World} {φ : Pl} : ∀ (l : List Nat) {h : Nat → Option Blk} {D : Nat → Prop}, HS X S h n w φ D → ∃ D', HS X S (wrs h (frz h l)) n w φ D' ∧ ∀ b, D b → D' b
  | [], h, D, H => ⟨D, H, fun _ h => h⟩
  | i :: r, h, D, H => by
    obtain ⟨D1, H1, hd1⟩ := H.frz1 i
    obtain ⟨D2, H2, hd2⟩ := HS.frzs r H1
    refine ⟨D2, ?_, fun b hb => hd2 b (hd1 b hb)⟩
    have e : wrs (upd h i ((h i).map fun B => { B with fz := true })) (frz (upd h i ((h i).map fun B => { B with fz := true })) r) = wrs h (frz h (i :: r)) := by
      funext k
      rw [wrs_frz, wrs_frz]
      by_cases e2 : k = i
      · subst e2
        rw [upd_same]
        cases h k <;> simp
      · rw [upd_ne _ _ e2]
        by_cases e : r.contains k = true
        · have e' : k ∈ r := by simpa using e
          simp [e']
        · have e' : (i :: r).contains k = false := by simp at e ⊢; exact ⟨e2, e⟩
          rw [if_neg e, e']; simp
    rw [← e]; exact H2

section
variable {P : Program} {σ : St} {i : Nat} {o : Oper} {F : FuncId} {first cap argsD ds : List Dat} {r : Dat} {K : St → Prop}

theorem call_run {f : Operand} {args : Array Operand} {ats : Array TypeId} (ho : o.op = .call { callee := .value f, args, argTypes := ats }) (pc : PC P F ds r) {a : Act} {w : World} {c1 c2 : List Value} (hf : a.eval f = .func (.func F) c1.toArray c2.toArray) :
    (execOp a.eval o).run P w = .ok (.enter F (c1 ++ args.toList.map a.eval ++ c2).toArray) w := by
  obtain ⟨fn, c, h1, h2, h3⟩ := pc.enter
  have e : (c1.toArray ++ Array.map a.eval args ++ c2.toArray) = (c1 ++ args.toList.map a.eval ++ c2).toArray := by
    apply Array.ext'; simp
  unfold execOp
  simp only [ho, resolve, hf, Deferred.ofValue, invoke, Sem.run_bind, Sem.run_pure, Result.andThen_ok]
  rw [e]
  have h3' : ¬ fn.name = "runtime.NumGoroutine" := by simpa using h3
  simp [callFunc, program, Sem.run, h1, h2, h3']

theorem callR_go {fr : List Nat} {fz : Bool} (pc : PC P F ds r) (hp : PurRs (wrs σ.h (frz σ.h fr)) fz (first ++ argsD ++ cap) ds) (hfr : fz = true ∨ Scal r) (hK : K (σ.app o.dst { val := r, wr := frz σ.h fr })) :
    CallR P σ i o (.fn (.func F) first cap) argsD K := by
  intro f args ats ho hf hargs
  refine ⟨_, ?_, hK⟩
  intro X S S' hn hS hS' a w φ D hsim K' Q' hK'
  have hfv := hsim.ev f
  rw [hf] at hfv
  obtain ⟨c1, c2, hfe, h1, h2⟩ := hfv.fn_inv
  have hav := hsim.evs args.toList
  rw [hargs] at hav
  have hall := (h1.append hav).append h2
  unfold Oper.wp
  rw [call_run ho pc hfe, Oper.upon_enter]
  obtain ⟨D1, H1, hd1⟩ := hsim.hs.frzs fr
  have hkeep : ∀ {v d}, RV φ D w v d → RV φ D1 w v d := fun h => RV.keep (PlLe.refl _) (fun b h _ => hd1 b h) (Ext.refl _ _) h
  have hall1 : RVs φ D1 w (c1 ++ args.toList.map a.eval ++ c2) (first ++ argsD ++ cap) := ⟨hall.1, fun i c d hc hd => hkeep (hall.2 i c d hc hd)⟩
  rcases hfr with hfz | hsc
  · -- nothing but frozen blocks
    subst hfz
    have hrs := hp.rvs H1 (D2 := D1) (fun b h => h) (fun i B g hi hz hφ => by
      rcases H1.live i B hi with ⟨q, _⟩ | ⟨g', q, _, q3, _⟩
      · rw [hφ] at q; cases q
      · rw [hφ] at q; injection q with q; injection q with q; subst q; exact q3 (hz rfl)) hall1
    refine (pc.run w D1 _ H1.Dlt H1.gp hrs).mono fun e w' hR => ?_
    obtain ⟨v, rfl, hv, hb⟩ := hR
    have hc := Chg.of_below hb
    have H2 := (H1.growD hc).more hS
    have hstep := hsim.step (dst := o.dst) (d := r) (v := v) H2 (PlLe.refl _) (fun b hb _ => .inl (hd1 b hb)) (hc.ext fun _ h => by cases h)
      (RV.keep (NP_le φ) (fun b hb hlt => by
        rcases hb with hb | hb
        · exact .inl hb
        · exact .inr ⟨hb, hlt⟩) (Ext.refl _ _) hv)
    exact hK' _ _ _ _ hstep
  · -- whatever is borrowed; the answer holds none of it
    have hrs := hp.rvs H1 (D2 := fun b => b < w.heap.size) (fun b h => H1.Dlt b h) (fun i B g hi hz hφ => by
      rcases H1.live i B hi with ⟨q, _⟩ | ⟨g', q, q2, _⟩
      · rw [hφ] at q; cases q
      · rw [hφ] at q; injection q with q; injection q with q; subst q; exact q2.lt) hall1
    refine (pc.run w (fun b => b < w.heap.size) _ (fun b h => h) (Lay.gpk H1.gp (Ext.refl _ _) (fun b _ h => h)) hrs).mono fun e w' hR => ?_
    obtain ⟨v, rfl, hv, hb⟩ := hR
    have hc := Chg.of_below hb
    have H2 := (H1.grow hc).more hS
    exact hK' _ _ _ _ (hsim.step (dst := o.dst) (d := r) (v := v) H2 (PlLe.refl _) (fun b hb _ => hd1 b hb) (hc.ext fun _ h => by cases h) (hsc.rv hv))
/-- an answer without addresses: all arguments are but borrowed -/
theorem callR_scal (pc : PC P F ds r) (hsc : Scal r) (hp : PurRs σ.h false (first ++ argsD ++ cap) ds) (hK : K (σ.app o.dst { val := r })) : CallR P σ i o (.fn (.func F) first cap) argsD K :=
  callR_go (fr := []) (fz := false) pc hp (.inr hsc) hK
/-- arguments that are frozen already -/
theorem callR_pure (pc : PC P F ds r) (hp : PurRs σ.h true (first ++ argsD ++ cap) ds) (hK : K (σ.app o.dst { val := r })) : CallR P σ i o (.fn (.func F) first cap) argsD K :=
  callR_go (fr := []) (fz := true) pc hp (.inl rfl) hK
end
end Go.Ab
/- DERIVED. The rules of a walk over abstract states. No program here. -/
namespace Go.Ab
open Go.RowKit
variable [Lay]

section
variable {P : Program} {Q : Exit → St → Prop} {σ : St}
theorem awp_skip (h : Q .normal σ) : awp P .skip Q σ := by unfold awp; exact h
theorem awp_ret (h : Q .ret σ) : awp P .ret Q σ := by unfold awp; exact h
theorem awp_exit {id : Nat} (h : Q (.exit id) σ) : awp P (.exit id) Q σ := by unfold awp; exact h
theorem awp_region {id : Nat} {ops : Array Oper} (l : List Oper) (hl : ops.toList = l) (h : AR P l l 0 σ (Q .normal)) : awp P (.region id ops false) Q σ := by
  subst hl; unfold awp; exact .inl h
theorem awp_regR {id : Nat} {ops : Array Oper} (l : List Oper) (hl : ops.toList = l) (h : RegR P l σ (Q .normal)) : awp P (.region id ops false) Q σ := by
  subst hl; unfold awp; exact .inr h
theorem awp_draw {id : Nat} {ops : Array Oper} (l : List Oper) (hl : ops.toList = l) (h : DrawR P l σ (Q .normal)) : awp P (.region id ops true) Q σ := by
  subst hl; unfold awp; exact h
end

def ent (ds : List Dat) (nt : Nat) : St := { t := fun i => ds.getD i (.oth undef), h := fun _ => none, n := 0, nt := nt }
theorem getD_map {α β : Type} (f : α → β) (l : List α) (k : Nat) (d : β) (d' : α) (h : k < l.length) : (l.map f).getD k d = f (l.getD k d') := by
  simp [List.getD_eq_getElem?_getD, h]
end Go.Ab
namespace Go.Ab
open Go.RowKit
variable [Lay]
theorem upd_apply {β : Type} (f : Nat → β) (a : Nat) (b : β) (x : Nat) : upd f a b x = if x = a then b else f x := rfl
theorem AR_nil {P : Program} {ops : List Oper} {i : Nat} {t : Nat → Dat} {h : Nat → Option Blk} {n nt : Nat} {Q : St → Prop} : AR P ops [] i ⟨t, h, n, nt⟩ Q = Q ⟨t, h, n + 8 * ops.length, nt⟩ := rfl
theorem awp_reg {P : Program} {Q : Exit → St → Prop} {σ s : St} {id : Nat} {ops : Array Oper} (l : List Oper) (hl : ops.toList = l) (h : AR P l l 0 σ (fun s' => s' = s)) (k : Q .normal s) : awp P (.region id ops false) Q σ := by
  refine awp_region l hl ?_
  have key : ∀ (ops l : List Oper) (i : Nat) (σ : St) (K1 K2 : St → Prop), (∀ σ, K1 σ → K2 σ) → AR P ops l i σ K1 → AR P ops l i σ K2 := by
    intro ops l
    induction l with
    | nil => intro i σ K1 K2 hk h; unfold AR at h ⊢; exact hk _ h
    | cons o l ih =>
      intro i σ K1 K2 hk h
      have st : ∀ {σ : St}, stepR P σ i o (fun σ' => AR P ops l (i + 1) σ' K1) → stepR P σ i o (fun σ' => AR P ops l (i + 1) σ' K2) := by
        intro σ h
        unfold stepR at h ⊢
        split at h
        · intro f args ats ho hf ha
          obtain ⟨e, he, hk'⟩ := h f args ats ho hf ha
          exact ⟨e, he, ih _ _ _ _ hk hk'⟩
        · split at h
          · exact ⟨h.1, ih _ _ _ _ hk h.2⟩
          · exact h.mono fun s hs => ih _ _ _ _ hk hs
      unfold AR at h ⊢
      split at h
      · exact st h
      · split at h
        · split at h
          · rename_i e; simp only [if_pos e]; exact st h
          · rename_i e; simp only [if_neg e]; exact ih _ _ _ _ hk h
        · exact ih _ _ _ _ hk h
        · exact h.elim
  exact key _ _ _ _ _ _ (fun σ h => by rw [h]; exact k) h
end Go.Ab

namespace Go.Ab
open Go.RowKit
variable [Lay]
/-! continuations, folded -/
def endC (P : Program) (rl : List ResultVar) (r : Dat) : Exit → St → Prop := fun ex σ => match ex with
      | .normal | .ret => resR P σ rl fun ds => PurR σ.h false (single ds) r
      | _ => False
section
variable {P : Program} {Q : Exit → St → Prop} {σ : St} {x y : Code} {id id' : Nat} {I : Nat → (Nat → Dat) → (Nat → Option Blk) → Nat → Prop} {m nt : Nat} {rl : List ResultVar} {r : Dat}
theorem e_r (h : resR P σ rl fun ds => PurR σ.h false (single ds) r) : endC P rl r .ret σ := h
end
theorem PurRs.nil {h : Nat → Option Blk} {fz : Bool} : PurRs h fz [] [] := ⟨rfl, fun i c d h => by simp at h⟩
theorem PurRs.cons {h : Nat → Option Blk} {fz : Bool} {c d : Dat} {cs ds : List Dat} (h1 : PurR h fz c d) (h2 : PurRs h fz cs ds) : PurRs h fz (c :: cs) (d :: ds) :=
  ⟨by simp [h2.1], fun i a b ha hb => by
    cases i with
    | zero => simp at ha hb; subst ha; subst hb; exact h1
    | succ i => simp at ha hb; exact h2.2 i a b ha hb⟩
theorem PurR.agg' {h : Nat → Option Blk} {fz : Bool} {cs ds : List Dat} (h1 : PurRs h fz cs ds) : PurR h fz (.agg cs) (.agg ds) := .agg cs ds h1.1 h1.2
theorem PurR.tup' {h : Nat → Option Blk} {fz : Bool} {cs ds : List Dat} (h1 : PurRs h fz cs ds) : PurR h fz (.tup cs) (.tup ds) := .tup cs ds h1.1 h1.2
theorem PurR.list' {h : Nat → Option Blk} {fz : Bool} {st : Nat} {es fs : List (List Dat)} (hl : es.length = fs.length) (H : ∀ (i : Nat) e f, es[i]? = some e → fs[i]? = some f → PurRs h fz e f) : PurR h fz (.list st es) (.list st fs) :=
  .list st es fs hl (fun i e f he hf => (H i e f he hf).1) fun i e f he hf => (H i e f he hf).2
theorem PurR.listMap {h : Nat → Option Blk} {fz : Bool} {α : Type} {st : Nat} (f : α → List Dat) (l : List α) (H : ∀ x, PurRs h fz (f x) (f x)) : PurR h fz (.list st (l.map f)) (.list st (l.map f)) :=
  .list' rfl fun i e g he hg => by
    rw [he] at hg
    injection hg with hg
    subst hg
    rw [List.getElem?_map] at he
    cases hx : l[i]? with
    | none => simp [hx] at he
    | some x => simp [hx] at he; subst he; exact H x
/-- a slice of the call's own, as a plain one -/
theorem PurR.own {h : Nat → Option Blk} {fz : Bool} {i len st : Nat} {B : Blk} {fs : List (List Dat)} (hB : h i = some B) (hz : fz = true → B.fz = true) (hst : B.st = st) (hlen : len = B.es.length) (hl : fs.length = len)
    (H : ∀ (k : Nat) e f, B.es[k]? = some e → fs[k]? = some f → PurRs h fz e f) : PurR h fz (.ref i 0 len st) (.list st fs) :=
  .ref i 0 len st B fs hB hz hst (by omega) hl (fun k e f he hf => (H k e f (by simpa using he) hf).1) fun k e f he hf => (H k e f (by simpa using he) hf).2
theorem wrap64 {x : Int} (h1 : -9223372036854775808 ≤ x) (h2 : x ≤ 9223372036854775807) : IntKind.i64.wrap x = x := by
  rw [IntKind.wrap_i64]; omega
end Go.Ab
namespace Go.Ab
variable [Lay]
theorem upd_upd {β : Type} (f : Nat → β) (a : Nat) (b c : β) : upd (upd f a b) a c = upd f a c := by
  funext x; simp only [upd]; split <;> rfl
end Go.Ab
namespace Go.Ab
variable [Lay]
section
variable (b : Bool) (k : IntKind) (n i j o l st : Nat) (z : Int) (s : ByteArray) (cs c2 : List Dat) (es : List (List Dat)) (f : Fn) (v : Value)
theorem cells_bool : (Dat.bool b).cells = [.bool b] := rfl
theorem cells_int : (Dat.int k z).cells = [.int k z] := rfl
theorem cells_str : (Dat.str s).cells = [.str s] := rfl
theorem cells_agg : (Dat.agg cs).cells = cs := rfl
theorem cells_nil : Dat.nil.cells = [.nil] := rfl
theorem cells_list : (Dat.list st es).cells = [.list st es] := rfl
theorem cells_ref : (Dat.ref i o l st).cells = [.ref i o l st] := rfl
theorem cells_ptr : (Dat.ptr i j o st).cells = [.ptr i j o st] := rfl
theorem cells_fn : (Dat.fn f cs c2).cells = [.fn f cs c2] := rfl
theorem cells_oth : (Dat.oth v).cells = v.cells.toList.map Dat.oth := rfl
theorem one_bool : (Dat.bool b).one = true := rfl
theorem one_int : (Dat.int k z).one = true := rfl
theorem one_str : (Dat.str s).one = true := rfl
theorem one_nil : Dat.nil.one = true := rfl
theorem one_list : (Dat.list st es).one = true := rfl
theorem one_ref : (Dat.ref i o l st).one = true := rfl
theorem one_ptr : (Dat.ptr i j o st).one = true := rfl
theorem one_fn : (Dat.fn f cs c2).one = true := rfl
theorem one_oth : (Dat.oth v).one = v.oneCell' := rfl
end
end Go.Ab
/- DERIVED. Regions that draw their order, where no operation writes: any order leads to the same. No program here. -/
namespace Go.Ab
open Go.RowKit
variable [Lay]

/-- values of quiet operations -/
def CallQ (P : Program) (σ : St) (i : Nat) (o : Oper) (fD : Dat) (argsD : List Dat) (K : Dat → Prop) : Prop :=
  ∀ f args ats, o.op = .call { callee := .value f, args := args, argTypes := ats } → σ.ev f = fD → args.toList.map σ.ev = argsD →
    ∃ r, (∀ σ2 : St, (∀ x ∈ o.op.operands, σ2.ev x = σ.ev x) → σ2.h = σ.h → σ2.n = σ.n → CallEff P σ2 i o { val := r }) ∧ K r
def stepQ (P : Program) (σ : St) (i : Nat) (o : Oper) (K : Dat → Prop) : Prop :=
  match o.op with
  | .call { callee := .value f, args, .. } => CallQ P σ i o (σ.ev f) (args.toList.map σ.ev) K
  | op => match evOp P σ i op with
    | some e => e.wr = [] ∧ e.side ∧ K e.val
    | none => False
def DQ (P : Program) (ops : List Oper) : List Oper → Nat → St → (St → Prop) → Prop
  | [], _, σ, Q => Q { σ with n := σ.n + 8 * ops.length }
  | o :: l, i, σ, Q => match o.guard with
    | none => stepQ P σ i o fun v => DQ P ops l (i + 1) (σ.put o.dst v) Q
    | some (j, want) => match gd ops σ j with
      | some (some b) => if b = want then stepQ P σ i o fun v => DQ P ops l (i + 1) (σ.put o.dst v) Q else DQ P ops l (i + 1) (σ.put o.dst (.oth undef)) Q
      | some none => DQ P ops l (i + 1) (σ.put o.dst (.oth undef)) Q
      | none => False

theorem DQ_nil {P : Program} {ops : List Oper} {i : Nat} {t : Nat → Dat} {h : Nat → Option Blk} {n nt : Nat} {Q : St → Prop} : DQ P ops [] i ⟨t, h, n, nt⟩ Q = Q ⟨t, h, n + 8 * ops.length, nt⟩ := rfl
/-! what the order leaves open -/
def ons (o : Oper) : List Nat := (o.after.toList.filter fun e => Region.binds .any e).map (·.on)
def befs : List Oper → List (List Nat) → List (List Nat)
  | [], acc => acc
  | o :: l, acc => befs l (acc ++ [((ons o).flatMap fun k => k :: acc.getD k []).eraseDups])
def meets (ops : Array Oper) (x y : Oper) : Bool :=
  (match x.dst with | some d => (y.looksAt ops).contains d || y.dst == some d | none => false) || (match y.dst with | some d => (x.looksAt ops).contains d | none => false)
def stat (ops : Array Oper) : Bool :=
  let l := ops.toList
  let b := befs l []
  (List.range l.length).all fun j => match l[j]? with
    | some y => (ons y).all (fun k => decide (k < j)) && (List.range j).all fun i => match l[i]? with
      | some x => !meets ops x y || (b.getD j []).contains i
      | none => true
    | none => true

theorem befs_old : ∀ (l : List Oper) (acc : List (List Nat)) (j : Nat), j < acc.length → (befs l acc).getD j [] = acc.getD j []
  | [], acc, j, _ => rfl
  | o :: l, acc, j, h => by
    rw [befs, befs_old l _ j (by simp; omega)]
    simp [List.getD_eq_getElem?_getD, List.getElem?_append_left h]
theorem befs_at : ∀ (l : List Oper) (acc : List (List Nat)) (j : Nat) (o : Oper), l[j]? = some o → (∀ o ∈ l.mapIdx (fun i o => (i, o)), ∀ k ∈ ons o.2, k < acc.length + o.1) →
    (befs l acc).getD (acc.length + j) [] = ((ons o).flatMap fun k => k :: (befs l acc).getD k []).eraseDups
  | [], acc, j, o, h, _ => by simp at h
  | o' :: l, acc, 0, o, h, hk => by
    simp at h; subst h
    have hko : ∀ k ∈ ons o', k < acc.length := fun k hk' => by
      have := hk (0, o') (by simp) k hk'
      simpa using this
    rw [befs, befs_old l _ _ (by simp)]
    simp only [Nat.add_zero, List.getD_eq_getElem?_getD, List.getElem?_append_right (Nat.le_refl _), Nat.sub_self, List.getElem?_cons_zero, Option.getD_some]
    congr 1
    have : ∀ L : List Nat, (∀ k ∈ L, k < acc.length) → (L.flatMap fun k => k :: acc[k]?.getD []) = L.flatMap fun k => k :: (befs l (acc ++ [((ons o').flatMap fun k => k :: acc[k]?.getD []).eraseDups]))[k]?.getD [] := by
      intro L
      induction L with
      | nil => intro _; rfl
      | cons a L ih =>
        intro hL
        rw [List.flatMap_cons, List.flatMap_cons, ih (fun k hk => hL k (by simp [hk]))]
        have h1 := befs_old l (acc ++ [((ons o').flatMap fun k => k :: acc[k]?.getD []).eraseDups]) a (by have := hL a (by simp); simp; omega)
        simp only [List.getD_eq_getElem?_getD] at h1
        rw [h1, List.getElem?_append_left (hL a (by simp))]
    exact this _ hko
  | o' :: l, acc, j + 1, o, h, hk => by
    have := befs_at l (acc ++ [((ons o').flatMap fun k => k :: acc.getD k []).eraseDups]) j o (by simpa using h) (fun p hp k hk' => by
      have := hk (p.1 + 1, p.2) (by
        rw [List.mapIdx_cons]
        refine List.mem_cons_of_mem _ ?_
        obtain ⟨i, hi, rfl⟩ := List.mem_iff_getElem.1 hp
        simp at hi
        refine List.mem_iff_getElem.2 ⟨i, by simpa using hi, by simp⟩) k hk'
      simp at this ⊢
      omega)
    rw [befs]
    rw [List.length_append, List.length_singleton] at this
    rw [show acc.length + (j + 1) = acc.length + 1 + j by omega]
    exact this

section
variable {ops : Array Oper}
theorem stat_on (h : stat ops = true) {j : Nat} {y : Oper} (hy : ops[j]? = some y) : ∀ k ∈ ons y, k < j := by
  intro k hk
  have hj : j < ops.toList.length := by have := (Array.getElem?_eq_some_iff.1 hy).1; simpa using this
  have h1 := List.all_eq_true.1 h j (List.mem_range.2 hj)
  have hy' : ops.toList[j]? = some y := by simpa using hy
  rw [hy'] at h1
  simp only [Bool.and_eq_true] at h1
  have := List.all_eq_true.1 h1.1 k hk
  simpa using this
theorem stat_meets (h : stat ops = true) {i j : Nat} {x y : Oper} (hij : i < j) (hx : ops[i]? = some x) (hy : ops[j]? = some y) (hm : meets ops x y = true) : i ∈ (befs ops.toList []).getD j [] := by
  have hj : j < ops.toList.length := by have := (Array.getElem?_eq_some_iff.1 hy).1; simpa using this
  have h1 := List.all_eq_true.1 h j (List.mem_range.2 hj)
  have hy' : ops.toList[j]? = some y := by simpa using hy
  have hx' : ops.toList[i]? = some x := by simpa using hx
  rw [hy'] at h1
  simp only [Bool.and_eq_true] at h1
  have := List.all_eq_true.1 h1.2 i (List.mem_range.2 hij)
  rw [hx'] at this
  simp only [hm, Bool.not_true, Bool.false_or] at this
  simpa using this
/-- what is ahead of an operation, in a set that is closed -/
theorem bef_in (h : stat ops = true) {S : Nat → Prop} (hS : ∀ k y, S k → ops[k]? = some y → ∀ m ∈ ons y, S m) : ∀ (j : Nat) (y : Oper), ops[j]? = some y → (∀ m ∈ ons y, S m) → ∀ i ∈ (befs ops.toList []).getD j [], S i := by
  intro j
  induction j using Nat.strongRecOn with
  | _ j ih =>
    intro y hy hm i hi
    have hat := befs_at ops.toList [] j y (by simpa using hy) (fun p hp k hk => by
      obtain ⟨q, hq, rfl⟩ := List.mem_iff_getElem.1 hp
      simp at hq hk ⊢
      exact stat_on h (j := q) (by simp [hq]) k hk)
    simp only [List.length_nil, Nat.zero_add] at hat
    rw [hat] at hi
    have hi' : i ∈ (ons y).flatMap fun k => k :: (befs ops.toList []).getD k [] := List.mem_eraseDups.1 hi
    obtain ⟨k, hk, hik⟩ := List.mem_flatMap.1 hi'
    have hkj := stat_on h hy k hk
    have hSk := hm k hk
    rcases List.mem_cons.1 hik with e | e
    · rw [e]; exact hSk
    · have hkl : k < ops.size := Nat.lt_trans hkj (Array.getElem?_eq_some_iff.1 hy).1
      exact ih k hkj ops[k] (by simp [hkl]) (hS k _ hSk (by simp [hkl])) i e
end

/-- the operations of a set, done in their order -/
def runT (nt : Nat) (S : Nat → Bool) : List Oper → List Dat → Nat → (Nat → Dat) → Nat → Dat
  | o :: l, v :: vs, i, t => runT nt S l vs (i + 1) (if S i then ((⟨t, fun _ => none, 0, nt⟩ : St).put o.dst v).t else t)
  | _, _, _, t => t

def putT (nt : Nat) (t : Nat → Dat) (dst : Option Tmp) (v : Dat) : Nat → Dat := ((⟨t, fun _ => none, 0, nt⟩ : St).put dst v).t
theorem putT_at (nt : Nat) (t : Nat → Dat) (dst : Option Tmp) (v : Dat) (x : Nat) : putT nt t dst v x = if dst = some x ∧ x < nt then v else t x := St.put_t _ _ _ _
theorem put_eq (σ : St) (dst : Option Tmp) (v : Dat) : σ.put dst v = ⟨putT σ.nt σ.t dst v, σ.h, σ.n, σ.nt⟩ := by
  unfold putT St.put
  cases dst with
  | none => rfl
  | some d => simp only []; split <;> rfl

theorem runT_ext (nt : Nat) {S S2 : Nat → Bool} {x : Nat} : ∀ (l : List Oper) (vs : List Dat) (i : Nat) (t t2 : Nat → Dat), t x = t2 x → (∀ k o, l[k]? = some o → S (i + k) ≠ S2 (i + k) → o.dst ≠ some x) → runT nt S l vs i t x = runT nt S2 l vs i t2 x
  | [], vs, i, t, t2, h, _ => by cases vs <;> exact h
  | o :: l, [], i, t, t2, h, _ => h
  | o :: l, v :: vs, i, t, t2, h, hd => by
    rw [runT, runT]
    refine runT_ext nt l vs (i + 1) _ _ ?_ (fun k o' ho' hne => hd (k + 1) o' (by simpa using ho') (by rw [show i + (k + 1) = i + 1 + k by omega]; exact hne))
    have h0 := hd 0 o rfl
    simp only [Nat.add_zero] at h0
    by_cases e : S i = S2 i
    · rw [e]
      split
      · show putT nt t o.dst v x = putT nt t2 o.dst v x
        rw [putT_at, putT_at, h]
      · exact h
    · have hne := h0 e
      have p1 : putT nt t o.dst v x = t x := by rw [putT_at, if_neg (fun hh => hne hh.1)]
      have p2 : putT nt t2 o.dst v x = t2 x := by rw [putT_at, if_neg (fun hh => hne hh.1)]
      show (if S i then putT nt t o.dst v else t) x = (if S2 i then putT nt t2 o.dst v else t2) x
      split <;> split <;> simp only [p1, p2, h]
theorem runT_add (nt : Nat) {S S2 : Nat → Bool} {j : Nat} {oj : Oper} {vj : Dat} (hS2 : ∀ k, S2 k = (S k || k == j)) (hj : S j = false) : ∀ (l : List Oper) (vs : List Dat) (i : Nat) (t : Nat → Dat), i ≤ j → l[j - i]? = some oj → vs[j - i]? = some vj → vs.length = l.length →
    (∀ k o, l[k]? = some o → j < i + k → S (i + k) = true → ∀ d, oj.dst = some d → o.dst ≠ some d) → runT nt S2 l vs i t = putT nt (runT nt S l vs i t) oj.dst vj
  | [], vs, i, t, _, h, _, _, _ => by simp at h
  | o :: l, [], i, t, _, _, h, _, _ => by simp at h
  | o :: l, v :: vs, i, t, hij, ho, hv, hlen, hd => by
    rw [runT, runT]
    rcases Nat.lt_or_ge i j with hlt | hge
    · have hne : (i == j) = false := by simp; omega
      rw [hS2 i, hne, Bool.or_false]
      refine runT_add nt hS2 hj l vs (i + 1) _ (by omega) ?_ ?_ (by simpa using hlen) (fun k o' ho' hlt' hs => hd (k + 1) o' (by simpa using ho') (by omega) (by rw [show i + (k + 1) = i + 1 + k by omega]; exact hs))
      · rw [show j - i = (j - (i + 1)) + 1 by omega] at ho; simpa using ho
      · rw [show j - i = (j - (i + 1)) + 1 by omega] at hv; simpa using hv
    · have e : i = j := by omega
      subst e
      rw [Nat.sub_self] at ho hv
      simp at ho hv
      subst ho; subst hv
      rw [hS2 i, hj]
      simp only [beq_self_eq_true, Bool.or_true, if_true]
      -- the rest is the same in both, and does not write there
      have key : ∀ (l : List Oper) (vs : List Dat) (q : Nat) (t : Nat → Dat), i < q → (∀ k o', l[k]? = some o' → S (q + k) = true → ∀ d, o.dst = some d → o'.dst ≠ some d) →
          runT nt S2 l vs q (putT nt t o.dst v) = putT nt (runT nt S l vs q t) o.dst v := by
        intro l
        induction l with
        | nil => intro vs q t _ _; cases vs <;> rfl
        | cons p l ih =>
          intro vs q t hq hd'
          cases vs with
          | nil => rfl
          | cons u vs =>
            rw [runT, runT, hS2 q]
            have hqi : (q == i) = false := by simp; omega
            rw [hqi, Bool.or_false]
            have h0 := hd' 0 p rfl
            simp only [Nat.add_zero] at h0
            have e : (if S q then ((⟨putT nt t o.dst v, fun _ => none, 0, nt⟩ : St).put p.dst u).t else putT nt t o.dst v) = putT nt (if S q then ((⟨t, fun _ => none, 0, nt⟩ : St).put p.dst u).t else t) o.dst v := by
              cases hs : S q with
              | false => rfl
              | true =>
                simp only [if_true]
                funext x
                show putT nt (putT nt t o.dst v) p.dst u x = putT nt (putT nt t p.dst u) o.dst v x
                simp only [putT_at]
                by_cases e1 : p.dst = some x ∧ x < nt
                · rw [if_pos e1, if_neg (fun e2 => h0 hs x e2.1 e1.1), if_pos e1]
                · by_cases e2 : o.dst = some x ∧ x < nt
                  · rw [if_neg e1, if_pos e2, if_pos e2]
                  · rw [if_neg e1, if_neg e2, if_neg e2, if_neg e1]
            rw [e]
            exact ih vs (q + 1) _ (by omega) (fun k o' ho' hs => hd' (k + 1) o' (by simpa using ho') (by rw [show q + (k + 1) = q + 1 + k by omega]; exact hs))
      exact key l vs (i + 1) t (by omega) (fun k o' ho' hs => hd (k + 1) o' (by simpa using ho') (by omega) (by rw [show i + (k + 1) = i + 1 + k by omega]; exact hs))

theorem evOp_congr {P : Program} {σ σ2 : St} {i : Nat} {op : Op} (hn : σ2.n = σ.n) (hh : σ2.h = σ.h) (he : ∀ x ∈ op.operands, σ2.ev x = σ.ev x) (hs : ∀ cs b, op ≠ .select cs b) : evOp P σ2 i op = evOp P σ i op := by
  have hmap : ∀ l : List Operand, (∀ x ∈ l, σ2.ev x = σ.ev x) → l.map σ2.ev = l.map σ.ev := fun l hl => List.map_congr_left hl
  have hel : ∀ sz d, elems σ2 sz d = elems σ sz d := fun sz d => by unfold elems; rw [hh]
  cases op <;> simp only [Op.operands] at he <;> simp only [evOp]
  case move x => rw [he x (by simp)]
  case assign x => rw [he x (by simp)]
  case pick c a b => rw [he c (by simp), he a (by simp), he b (by simp)]
  case alloc e => rw [hn]
  case box e v => rw [he v (by simp), hn]
  case build t parts =>
    have : parts.toList.map (fun p => (p.1, σ2.ev p.2)) = parts.toList.map (fun p => (p.1, σ.ev p.2)) := List.map_congr_left fun p hp => by rw [he p.2 (by simp; exact ⟨p.1, by simpa using hp⟩)]
    rw [this]
  case buildSlice t len parts =>
    have h1 : ∀ p ∈ parts.toList, σ2.ev p.2 = σ.ev p.2 := fun p hp => he p.2 (by simp; exact ⟨p.1, by simpa using hp⟩)
    have : parts.toList.map (fun p => (σ2.ev p.2).cells) = parts.toList.map (fun p => (σ.ev p.2).cells) := List.map_congr_left fun p hp => by rw [h1 p hp]
    have h2 : (∀ p ∈ parts.toList, (σ2.ev p.2).cells.length = 0 ∨ True) := fun _ _ => .inr trivial
    rw [this, hn]
    have h3 : ∀ y : Nat, (∀ p ∈ parts.toList, (σ2.ev p.2).cells.length = y ∧ allOne (σ2.ev p.2).cells = true) = (∀ p ∈ parts.toList, (σ.ev p.2).cells.length = y ∧ allOne (σ.ev p.2).cells = true) := fun y => by
      apply propext
      constructor
      · intro h p hp; have := h p hp; rwa [h1 p hp] at this
      · intro h p hp; have := h p hp; rwa [← h1 p hp] at this
    simp only [h3]
  case load t a => rw [he a (by simp)]; simp only [evLoad, hh]
  case store t a v => rw [he a (by simp), he v (by simp)]; simp only [evStore, hh]
  case nilCheck x => rw [he x (by simp)]
  case binOp op t x y t' => rw [he x (by simp), he y (by simp)]
  case unOp op t x => rw [he x (by simp)]
  case convert s d x => rw [he x (by simp)]; simp only [evToStr, hel]
  case makeFunc f a b => rw [hmap a.toList (fun x hx => he x (by simp at hx ⊢; exact .inl hx)), hmap b.toList (fun x hx => he x (by simp at hx ⊢; exact .inr hx))]
  case makeSlice t l c => rw [he l (by simp), he c (by simp), hn]
  case slice t x lo hi mx =>
    cases mx with
    | none =>
      have h1 : lo.map σ2.ev = lo.map σ.ev := by cases lo with | none => rfl | some y => simp [he y (by simp)]
      have h2 : hi.map σ2.ev = hi.map σ.ev := by cases hi with | none => rfl | some y => simp [he y (by simp)]
      simp only [he x (by simp), h1, h2, hh]
    | some m => rfl
  case fieldAddr t x f => rw [he x (by simp)]
  case field t x f => rw [he x (by simp)]
  case indexAddr t x ix => rw [he x (by simp), he ix (by simp)]; simp only [evIndexAddr]
  case index t x ix => rw [he x (by simp), he ix (by simp)]
  case extract x k => rw [he x (by simp)]
  case call c =>
    obtain ⟨callee, args, ats⟩ := c
    cases callee with
    | builtin b =>
      simp only []
      rw [hmap args.toList (fun x hx => he x (by simp [Call.operands] at hx ⊢; exact hx))]
      unfold evBuiltin
      simp only [evAppend, evClear, hel, hh, hn]
    | value f => rfl
    | invoke r m => rfl

section
variable {P : Program} {σ : St} {i : Nat} {o : Oper} {F : FuncId} {first cap argsD ds : List Dat} {r : Dat} {K : Dat → Prop}
end
end Go.Ab
/- DERIVED. Calls that are handed addresses of the caller's own, and only read there. No program here. -/
namespace Go.Ab
open Go.RowKit
variable [Lay]

/-- block number i is told of, and reads so -/
def Rd (φ : Pl) (D : Nat → Prop) (w : World) (i : Nat) (B : Blk) : Prop := (φ i = some none ∧ B.es = []) ∨ ∃ g, φ i = some (some g) ∧ Lies φ D w g B

def fzh (h : Nat → Option Blk) : Nat → Option Blk := fun i => (h i).map fun B => { B with fz := true }

theorem fzh_apply (h : Nat → Option Blk) (i : Nat) : fzh h i = (h i).map fun B => { B with fz := true } := rfl
structure QC (P : Program) (F : FuncId) (ds : List Dat) (h : Nat → Option Blk) (r : Dat) : Prop where
  enter : ∃ fn c, P.funcs[F]? = some fn ∧ fn.body = some c ∧ (fn.name == "runtime.NumGoroutine") = false
  scal : Scal r
  run : ∀ (w : World) (φ : Pl) (D : Nat → Prop) (vs : List Value), (∀ b, D b → b < w.heap.size) → Lay.gp w D → (∀ i B, h i = some B → Rd φ D w i B) → (∃ N, ∀ i, N ≤ i → φ i = none) → RVs φ D w vs ds →
    Calls P F vs.toArray w fun e w' => ∃ v, e = .returned v ∧ RV NP D w' v r ∧ Below w.heap.size w w'

def hent (ds : List Dat) (h : Nat → Option Blk) (n nt : Nat) : St := { t := fun i => ds.getD i (.oth undef), h := h, n := n, nt := nt }

theorem Sim.hent {X : Cx} {fn : Func} {ds : List Dat} {vs : List Value} {w : World} {φ : Pl} {D : Nat → Prop} {n : Nat} {h : Nat → Option Blk} (hv : RVs φ D w vs ds) (hs : HS X S0 h n w φ D) :
    Sim X S0 (Ab.hent ds h n (ds.length + (fn.ntmps - ds.length))) { tmps := vs.toArray ++ Array.replicate (fn.ntmps - vs.toArray.size) undef, defers := [] } w φ D where
  nt := by simp [Ab.hent, hv.1]
  df := rfl
  tm := fun i => by
    show RV φ D w _ (ds.getD i (.oth undef))
    rw [Array.getD_eq_getD_getElem?, List.getD_eq_getElem?_getD]
    by_cases hi : i < vs.length
    · have hi' : i < ds.length := by rw [← hv.1]; exact hi
      rw [Array.getElem?_append_left (by simpa using hi), List.getElem?_toArray, List.getElem?_eq_getElem hi, List.getElem?_eq_getElem hi']
      exact hv.2 i _ _ (List.getElem?_eq_getElem hi) (List.getElem?_eq_getElem hi')
    · rw [List.getElem?_eq_none (by rw [← hv.1]; omega)]
      have : ((vs.toArray ++ Array.replicate (fn.ntmps - vs.toArray.size) undef)[i]?).getD undef = undef := by
        rw [Array.getElem?_append_right (by simpa using hi), Array.getElem?_replicate]
        split <;> rfl
      rw [this]
      exact .oth undef
  hs := hs

section
variable {P : Program} {σ : St} {i : Nat} {o : Oper} {F : FuncId} {first cap argsD ds : List Dat} {h : Nat → Option Blk} {r : Dat}
theorem call_enter {f : Operand} {args : Array Operand} {ats : Array TypeId} (ho : o.op = .call { callee := .value f, args, argTypes := ats }) (pc : ∃ fn c, P.funcs[F]? = some fn ∧ fn.body = some c ∧ (fn.name == "runtime.NumGoroutine") = false) {a : Act} {w : World} {c1 c2 : List Value} (hf : a.eval f = .func (.func F) c1.toArray c2.toArray) :
    (execOp a.eval o).run P w = .ok (.enter F (c1 ++ args.toList.map a.eval ++ c2).toArray) w := by
  obtain ⟨fn, c, h1, h2, h3⟩ := pc
  have e : (c1.toArray ++ Array.map a.eval args ++ c2.toArray) = (c1 ++ args.toList.map a.eval ++ c2).toArray := by
    apply Array.ext'; simp
  unfold execOp
  simp only [ho, resolve, hf, Deferred.ofValue, invoke, Sem.run_bind, Sem.run_pure, Result.andThen_ok]
  rw [e]
  have h3' : ¬ fn.name = "runtime.NumGoroutine" := by simpa using h3
  simp [callFunc, program, Sem.run, h1, h2, h3']

end
end Go.Ab
namespace Go.Ab
variable [Lay]
end Go.Ab
namespace Go.Ab
variable [Lay]
end Go.Ab
namespace Go.Ab
variable [Lay]
/-! the same rules, the arguments' reading first: for 'apply' -/
section
variable {P : Program} {σ : St} {i : Nat} {o : Oper} {F : FuncId} {first cap argsD ds : List Dat} {h : Nat → Option Blk} {r : Dat}
theorem cR_s {K : St → Prop} (pc : PC P F ds r) (hp : PurRs σ.h false (first ++ argsD ++ cap) ds) (hsc : Scal r) (hK : K (σ.app o.dst { val := r })) : CallR P σ i o (.fn (.func F) first cap) argsD K := callR_scal pc hsc hp hK
theorem cR_p {K : St → Prop} (pc : PC P F ds r) (hp : PurRs σ.h true (first ++ argsD ++ cap) ds) (hK : K (σ.app o.dst { val := r })) : CallR P σ i o (.fn (.func F) first cap) argsD K := callR_pure pc hp hK
theorem cR_f {K : St → Prop} (fr : List Nat) (pc : PC P F ds r) (hp : PurRs (wrs σ.h (frz σ.h fr)) true (first ++ argsD ++ cap) ds) (hK : K (σ.app o.dst { val := r, wr := frz σ.h fr })) : CallR P σ i o (.fn (.func F) first cap) argsD K := callR_go pc hp (.inl rfl) hK
end
end Go.Ab
/- DERIVED. A guard that is not known: two ways, and simp goes into neither. No program here. -/
namespace Go.Ab
variable [Lay]
/-- an operation under a guard that is not known: nothing here that simp goes into -/
def GRD (b : Bool) (P : Program) (ops l : List Oper) (i : Nat) (σ : St) (o : Oper) (Q : St → Prop) : Prop :=
  if b = true then stepR P σ i o (fun σ' => AR P ops l (i + 1) σ' Q) else AR P ops l (i + 1) (σ.put o.dst (.oth undef)) Q
def GRQ (b : Bool) (P : Program) (ops l : List Oper) (i : Nat) (σ : St) (o : Oper) (Q : St → Prop) : Prop :=
  if b = true then stepQ P σ i o (fun v => DQ P ops l (i + 1) (σ.put o.dst v) Q) else DQ P ops l (i + 1) (σ.put o.dst (.oth undef)) Q
section
variable {P : Program} {ops l : List Oper} {i : Nat} {σ : St} {o : Oper} {Q : St → Prop} {b : Bool}
theorem GRD_t : GRD true P ops l i σ o Q = stepR P σ i o (fun σ' => AR P ops l (i + 1) σ' Q) := by simp [GRD]
theorem GRD_f : GRD false P ops l i σ o Q = AR P ops l (i + 1) (σ.put o.dst (.oth undef)) Q := by simp [GRD]
theorem GRQ_t : GRQ true P ops l i σ o Q = stepQ P σ i o (fun v => DQ P ops l (i + 1) (σ.put o.dst v) Q) := by simp [GRQ]
theorem GRQ_f : GRQ false P ops l i σ o Q = DQ P ops l (i + 1) (σ.put o.dst (.oth undef)) Q := by simp [GRQ]
end
def gdT (d : Dat) : Option (Option Bool) := match d with
  | .bool b => some (some b)
  | .oth (.tuple _) => some none
  | _ => none
theorem gdT_b (b : Bool) : gdT (.bool b) = some (some b) := rfl
theorem gdT_u : gdT (.oth undef) = some none := rfl
/-- 'gd', its list as an array: simp looks into an array in one step -/
def gdA (ops : List Oper) (t : Nat → Dat) (j : Nat) : Option (Option Bool) :=
  match (List.toArray ops)[j]? with
  | some ⟨some d, _, _, _, _, _⟩ => gdT (t d)
  | _ => none
section
variable {P : Program} {ops l : List Oper} {dst : Option Tmp} {op : Op} {ty : TypeId} {pos : String} {af : Array Edge} {i j : Nat} {want : Bool} {t : Nat → Dat} {h : Nat → Option Blk} {n nt : Nat} {Q : St → Prop}
theorem gd_A (ops : List Oper) (σ : St) (j : Nat) : gd ops σ j = gdA ops σ.t j := by
  unfold gd gdA
  rw [List.getElem?_toArray]
  rfl
theorem gdA_eq (t : Nat → Dat) : gdA ops t j = match (List.toArray ops)[j]? with
  | some ⟨some d, _, _, _, _, _⟩ => gdT (t d)
  | _ => none := rfl
theorem AR_u : AR P ops (⟨dst, op, ty, pos, af, none⟩ :: l) i ⟨t, h, n, nt⟩ Q = stepR P ⟨t, h, n, nt⟩ i ⟨dst, op, ty, pos, af, none⟩ fun σ' => AR P ops l (i + 1) σ' Q := Eq.trans rfl rfl
theorem AR_g : AR P ops (⟨dst, op, ty, pos, af, some (j, want)⟩ :: l) i ⟨t, h, n, nt⟩ Q = match gdA ops t j with
      | some (some b) => GRD (b == want) P ops l i ⟨t, h, n, nt⟩ ⟨dst, op, ty, pos, af, some (j, want)⟩ Q
      | some none => AR P ops l (i + 1) ((⟨t, h, n, nt⟩ : St).put dst (.oth undef)) Q
      | none => False := by
  rw [← gd_A ops ⟨t, h, n, nt⟩ j]
  show (match gd ops ⟨t, h, n, nt⟩ j with | some (some b) => (if b = want then _ else _) | some none => _ | none => _) = _
  cases gd ops ⟨t, h, n, nt⟩ j with
  | none => rfl
  | some x => cases x with
    | none => rfl
    | some b => cases b <;> cases want <;> simp [GRD, GRQ]
theorem DQ_u : DQ P ops (⟨dst, op, ty, pos, af, none⟩ :: l) i ⟨t, h, n, nt⟩ Q = stepQ P ⟨t, h, n, nt⟩ i ⟨dst, op, ty, pos, af, none⟩ fun v => DQ P ops l (i + 1) ((⟨t, h, n, nt⟩ : St).put dst v) Q := Eq.trans rfl rfl
theorem DQ_g : DQ P ops (⟨dst, op, ty, pos, af, some (j, want)⟩ :: l) i ⟨t, h, n, nt⟩ Q = match gdA ops t j with
      | some (some b) => GRQ (b == want) P ops l i ⟨t, h, n, nt⟩ ⟨dst, op, ty, pos, af, some (j, want)⟩ Q
      | some none => DQ P ops l (i + 1) ((⟨t, h, n, nt⟩ : St).put dst (.oth undef)) Q
      | none => False := by
  rw [← gd_A ops ⟨t, h, n, nt⟩ j]
  show (match gd ops ⟨t, h, n, nt⟩ j with | some (some b) => (if b = want then _ else _) | some none => _ | none => _) = _
  cases gd ops ⟨t, h, n, nt⟩ j with
  | none => rfl
  | some x => cases x with
    | none => rfl
    | some b => cases b <;> cases want <;> simp [GRD, GRQ]
end
end Go.Ab

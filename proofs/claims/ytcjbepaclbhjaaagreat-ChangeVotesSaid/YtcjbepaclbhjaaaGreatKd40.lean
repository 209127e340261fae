/- Parts of the proof. -/
import Derived.Test.YtcjbepaclbhjaaaGreatKd1
import Derived.Test.YtcjbepaclbhjaaaGreatKd39
import Derived.Test.YtcjbepaclbhjaaaGreatKd0
open List renaming set_cons_zero → zSet, set_cons_succ → sSet
/- 'clear' of the end of a row of the call's own, any number of elements. No program in sight. -/
set_option linter.unusedSimpArgs false
set_option linter.unusedVariables false
namespace Go.Proofs.YtcjbepaclbhjaaaGreat
open Go.RowKit Go.Lib
theorem zcells_len (z : Array Value) (n : Nat) : (Builtin.zeroCells z n).toList.length = n * z.size := by
  unfold Builtin.zeroCells; simp
theorem zcells_one {z : Array Value} (hz : z.toList.all (·.oneCell') = true) (n : Nat) : (Builtin.zeroCells z n).toList.all (·.oneCell') = true := by
  rcases Nat.eq_zero_or_pos z.size with h0 | h0
  · have : (Builtin.zeroCells z n).toList = [] := List.eq_nil_of_length_eq_zero (by rw [zcells_len, h0]; rfl)
    rw [this]; rfl
  · unfold Builtin.zeroCells
    rw [List.all_eq_true]
    intro v hv
    simp only [Array.toList_map, List.mem_map] at hv
    obtain ⟨i, _, rfl⟩ := hv
    have hl : i % z.size < z.size := Nat.mod_lt _ h0
    rw [getElem!_pos z _ hl]
    exact List.all_eq_true.1 hz _ (by simp)
section
variable {P : Program} {ops : Array Oper} {rest : List Oper} {o : Oper} {a : Act} {w : World} {Q : Exit → Act → World → Prop} {w0 : World} {L : List Blk}
theorem wpList_clearEnd {B : Nat} {e : TypeId} {g off cap c : Nat} {l : List Value} {M : List Blk} (hp : Hp B w0 w (⟨g, l, e, cap * c⟩ :: M)) (t : TypeId) (x : Operand) (ho : o.op = .call { callee := .builtin .clear, args := #[x], argTypes := #[t] }) (hw : Region.wanted o (yielded ops a.tmps) = true)
    (ht : P.underlying t = some (.slice e)) (z : Value) (hz : ∀ w, (zeroValue e).run P w = .ok z w) (q cc : Nat) (hx : a.eval x = .slice (some ⟨g, off, none⟩) q cc) (hq : 0 < q) (hc : z.cells.size = c) (h1 : z.cells.toList.all (·.oneCell') = true)
    (hoff : off = l.length) (hfit : l.length + q * c ≤ cap * c)
    (h : ∀ v w', Hp B w0 w' (⟨g, l, e, cap * c⟩ :: M) → wpList P ops Q rest (a.put o.dst v) w') : wpList P ops Q (o :: rest) a w := by
  refine BigFrame.wpList_want hw fun K hK => ?_
  subst hoff
  obtain ⟨k, rfl⟩ : ∃ k, q = k + 1 := ⟨q - 1, by omega⟩
  obtain ⟨zs, hzs⟩ : ∃ zs, (Builtin.zeroCells z.cells (k + 1)).toList = zs := ⟨_, rfl⟩
  have hlen : zs.length = (k + 1) * c := by rw [← hzs, zcells_len, hc]
  have h1' : zs.all (·.oneCell') = true := by rw [← hzs]; exact zcells_one h1 _
  obtain ⟨l2, hl2, hp2⟩ := hp.more ((k + 1) * c) hfit
  obtain ⟨w', hst, hp'⟩ := Hp.storeCells (P := P) l.length zs w _ (l ++ l2) 0 hp2 (i := 0) rfl (by rw [List.length_append, hl2, hlen]; omega) h1'
  rw [Nat.add_zero] at hp'
  have key : (Builtin.clear_ #[t] o.type #[.slice (some ⟨g, l.length, none⟩) (k + 1) cc]).run P w = .ok (.tuple #[]) w' := by
    simp [Builtin.clear_, run_underlying ht, hz, hzs, hst]
  have hp3 : Hp B w0 w' (⟨g, spl (l ++ l2) l.length zs, e, cap * c⟩ :: M) := hp'
  rw [spl_append _ _ _ (by rw [hl2, hlen])] at hp3
  unfold Oper.wp execOp
  simp only [ho, resolve, invoke, builtin, Sem.run_bind, Sem.run_pure, Result.andThen_ok, List.map_toArray, List.map_cons, List.map_nil, hx, key]
  refine hK _ _ (h _ w' ?_)
  refine ⟨hp3.below, hp3.size, by simpa using hp3.nodup, fun p hp => ?_⟩
  rcases List.mem_cons.1 hp with rfl | hp
  · obtain ⟨h1, cs, h2, h3, h4⟩ := hp3.own _ (List.mem_cons_self ..)
    refine ⟨h1, cs, h2, h3, ?_⟩
    simp only at h4 ⊢
    have := congrArg (List.take l.length) h4
    rw [List.take_take, List.length_append, Nat.min_eq_left (by omega), List.take_append_of_le_length (Nat.le_refl _), List.take_length] at this
    exact this
  · exact hp3.own p (List.mem_cons_of_mem _ hp)
end
end Go.Proofs.YtcjbepaclbhjaaaGreat
/- What DeleteFunc of votes keeps: the plain part. -/
namespace Go.Proofs.YtcjbepaclbhjaaaGreat
open Go.RowKit Go.Lib
theorem IdxV.no {p : Vt → Bool} {l : List Vt} {r : Int} (h : IdxV p l r) (hn : ∀ (i : Nat) y, l[i]? = some y → p y = false) : r = -1 := by
  rcases h with ⟨h, _⟩ | ⟨m, x, _, h1, h2, _⟩
  · exact h
  · rw [hn m x h1] at h2; cases h2
theorem IdxV.is {p : Vt → Bool} {l : List Vt} {r : Int} (h : IdxV p l r) {m : Nat} {x : Vt} (hm : l[m]? = some x) (hx : p x = true) (hn : ∀ (i : Nat) y, i < m → l[i]? = some y → p y = false) : r = m := by
  rcases h with ⟨_, h⟩ | ⟨m', x', rfl, h1, h2, h3⟩
  · rw [h m x hm] at hx; cases hx
  · rcases Nat.lt_trichotomy m m' with g | g | g
    · rw [h3 m x g hm] at hx; cases hx
    · rw [g]
    · rw [hn m' x' g h1] at h2; cases h2
theorem idx_ways (p : Vt → Bool) : ∀ l : List Vt, (∀ (i : Nat) y, l[i]? = some y → p y = false) ∨ ∃ (m : Nat) (x : Vt), l[m]? = some x ∧ p x = true ∧ ∀ (i : Nat) y, i < m → l[i]? = some y → p y = false
  | [] => .inl fun i y h => by simp at h
  | a :: r => by
    cases ha : p a with
    | true => exact .inr ⟨0, a, rfl, ha, fun i y h => by omega⟩
    | false =>
      rcases idx_ways p r with h | ⟨m, x, h1, h2, h3⟩
      · refine .inl fun i y hy => ?_
        cases i with
        | zero => simp at hy; rw [← hy]; exact ha
        | succ i => exact h i y (by simpa using hy)
      · refine .inr ⟨m + 1, x, by simpa using h1, h2, fun i y hi hy => ?_⟩
        cases i with
        | zero => simp at hy; rw [← hy]; exact ha
        | succ i => exact h3 i y (by omega) (by simpa using hy)
def keepV (c : Int) (l : List Vt) : List Vt := l.filter fun x => !eqN c x
structure DelAt (c : Int) (l zs : List Vt) (q j : Nat) : Prop where
  len : zs.length = l.length
  lt : q < j
  jl : j ≤ l.length
  kept : zs.take q = keepV c (l.take j)
  rest : zs.drop j = l.drop j
theorem keep_snoc (c : Int) (l : List Vt) (x : Vt) : keepV c (l ++ [x]) = if eqN c x = true then keepV c l else keepV c l ++ [x] := by
  unfold keepV
  rw [List.filter_append]
  cases h : eqN c x <;> simp [h]
theorem DelAt.start {c : Int} {l : List Vt} {m : Nat} {x : Vt} (hm : l[m]? = some x) (hx : eqN c x = true) (hn : ∀ (i : Nat) y, i < m → l[i]? = some y → eqN c y = false) : DelAt c l l m (m + 1) := by
  have hlt := (List.getElem?_eq_some_iff.1 hm).1
  refine ⟨rfl, by omega, by omega, ?_, rfl⟩
  rw [List.take_add_one, hm]
  show l.take m = keepV c (l.take m ++ [x])
  rw [keep_snoc, if_pos hx]
  unfold keepV
  refine (List.filter_eq_self.2 fun y hy => ?_).symm
  obtain ⟨i, hi, rfl⟩ := List.getElem_of_mem hy
  rw [List.length_take] at hi
  rw [List.getElem_take, hn i _ (by omega) (List.getElem?_eq_getElem (by omega))]; rfl
theorem DelAt.get {c : Int} {l zs : List Vt} {q j : Nat} (h : DelAt c l zs q j) (hj : j < l.length) : zs[j]? = l[j]? := by
  have h1 := congrArg (fun k => k[0]?) h.rest
  simpa using h1
theorem DelAt.skip {c : Int} {l zs : List Vt} {q j : Nat} {x : Vt} (h : DelAt c l zs q j) (hx : l[j]? = some x) (hp : eqN c x = true) : DelAt c l zs q (j + 1) := by
  have hlt := (List.getElem?_eq_some_iff.1 hx).1
  refine ⟨h.len, by have := h.lt; omega, by omega, ?_, ?_⟩
  · rw [List.take_add_one, hx]
    show _ = keepV c (l.take j ++ [x])
    rw [keep_snoc, if_pos hp]; exact h.kept
  · have := congrArg (List.drop 1) h.rest
    rw [List.drop_drop, List.drop_drop] at this
    exact this
theorem DelAt.move {c : Int} {l zs : List Vt} {q j : Nat} {x : Vt} (h : DelAt c l zs q j) (hx : l[j]? = some x) (hp : eqN c x = false) : DelAt c l (zs.set q x) (q + 1) (j + 1) := by
  have hlt := (List.getElem?_eq_some_iff.1 hx).1
  have h1 := h.lt
  have h2 := h.len
  refine ⟨by rw [List.length_set]; exact h.len, by omega, by omega, ?_, ?_⟩
  · rw [List.take_add_one (l := l), hx]
    show _ = keepV c (l.take j ++ [x])
    rw [keep_snoc, if_neg (by rw [hp]; decide), ← h.kept, List.take_add_one, List.take_set_of_le (Nat.le_refl _), List.getElem?_set_self (by omega)]
    rfl
  · rw [List.drop_set_of_lt (by omega)]
    have := congrArg (List.drop 1) h.rest
    rw [List.drop_drop, List.drop_drop] at this
    exact this
theorem DelAt.done {c : Int} {l zs : List Vt} {q : Nat} (h : DelAt c l zs q l.length) : zs.take q = keepV c l ∧ (keepV c l).length = q := by
  have h1 := h.kept
  rw [List.take_length] at h1
  refine ⟨h1, ?_⟩
  rw [← h1, List.length_take]
  have := h.lt; have := h.len
  omega
end Go.Proofs.YtcjbepaclbhjaaaGreat
/- The walk of slices.DeleteFunc of votes, with Add's first closure. -/
namespace Go.Proofs.YtcjbepaclbhjaaaGreat
open Go.RowKit Go.Lib
theorem vt_get {l : List Vt} {i : Nat} {x : Vt} (h : l[i]? = some x) {k : Nat} {v : Value} (hv : (vtV x)[k]? = some v) : (l.flatMap vtV)[i * 6 + k]? = some v := by
  have h1 := flat_at 6 vtV_len h
  rw [← h1, List.getElem?_take] at hv
  split at hv
  · rw [List.getElem?_drop] at hv; exact hv
  · cases hv
theorem Hp.ltOf {B : Nat} {w0 w : World} {L : List Blk} (hp : Hp B w0 w L) {i b : Nat} {l : List Value} {t : TypeId} {n : Nat} (hi : L[i]? = some ⟨b, l, t, n⟩) : b < w.heap.size := by
  obtain ⟨_, c, h2, _⟩ := hp.own _ (Hp.mem hi)
  exact lt_of_heap h2
theorem zv27 (w : World) : (zeroValue 27).run Tryz.prog w = .ok (.agg #[.int .i64 0, .int .i64 0, .int .i64 0, .int .i64 0, .int .i64 0, .slice none 0 0]) w := by kernel_rfl
def DelfPost (B : Nat) (w0 : World) (g cap b3 : Nat) (vs : List Value) (M : List Blk) (xs : List Vt) (e : Ending) (w' : World) : Prop := e = .returned (.slice (some ⟨g, 0, none⟩) xs.length cap) ∧ Hp B w0 w' (⟨g, xs.flatMap vtV, 27, cap * 6⟩ :: ⟨b3, vs, 27, 6⟩ :: M)
set_option maxRecDepth 100000 in
set_option maxHeartbeats 8000000 in
theorem delf39_some {B : Nat} {w0 w : World} (l : List Vt) (hl : l.length ≤ 1000) (g cap b3 : Nat) (hcap : l.length ≤ cap) (c : Int) (vs : List Value) (hvs : vs[0]? = some (.int .i64 c)) {M : List Blk} (hp : Hp B w0 w (⟨g, l.flatMap vtV, 27, cap * 6⟩ :: ⟨b3, vs, 27, 6⟩ :: M)) :
    Calls Tryz.prog 39 #[.slice (some ⟨g, 0, none⟩) l.length cap, .func (.func 41) #[] #[.pointer (some ⟨b3, 0, none⟩)]] w (DelfPost B w0 g cap b3 vs M (keepV c l)) := by
  have HRW := Lib.hid (hp.rowIs at0)
  have HLT := Lib.hid (hp.ltOf at1)
  have HB3 := Lib.hid (hp.cell at1 hvs)
  have HVS := Lib.hid hvs
  clear hvs
  rcases idx_ways (eqN c) l with hno | ⟨m, x, hm, hx, hno⟩
  · have HIX : RowKit.Hid (∀ r, IdxV (eqN c) l r → r = -1) := Lib.hid (fun r h => h.no hno)
    have HKE : RowKit.Hid (keepV c l = l) := Lib.hid (List.filter_eq_self.2 fun y hy => by
      obtain ⟨i, hi, rfl⟩ := List.getElem_of_mem hy
      rw [hno i _ (List.getElem?_eq_getElem hi)]; first | done | rfl)
    have e0 : ((-1 : Int) == -1) = true := rfl
    clear hno
    go_enter Tryz.func39, Tryz.ntmps39
    go_wp2_with (first | (go_at_call 42; (with_reducible refine (idx42_e l (some ⟨g, 0, none⟩) cap hl c b3 _ HRW.out HLT.out HB3.out).mono ?_); rintro e w1 ⟨r, rfl, hi, hb⟩; replace hp := hp.call hb; clear hb; obtain rfl := HIX.out r hi; clear hi) | go_skip | (first | (refine hA1 ?_; clear hp; intro b w1 hp) | refine hL0 ?_ | (refine hS0 ?_; clear hp; intro w1 hp)))
    go_ret
    exact ⟨by rw [HKE.out]; rfl, by rw [HKE.out]; exact hp⟩
  · have HIX : RowKit.Hid (∀ r, IdxV (eqN c) l r → r = (m : Int)) := Lib.hid (fun r h => h.is hm hx hno)
    have HST := Lib.hid (DelAt.start hm hx hno)
    have hml := (List.getElem?_eq_some_iff.1 hm).1
    have e0 : ((m : Int) == -1) = false := by simp
    clear hm hx hno x
    go_enter Tryz.func39, Tryz.ntmps39
    go_wp2_with (first | (go_at_call 42; (with_reducible refine (idx42_e l (some ⟨g, 0, none⟩) cap hl c b3 _ HRW.out HLT.out HB3.out).mono ?_); rintro e w1 ⟨r, rfl, hi, hb⟩; replace hp := hp.call hb; clear hb; obtain rfl := HIX.out r hi; clear hi) | go_skip | (first | (refine hA1 ?_; clear hp; intro b w1 hp) | refine hL0 ?_ | (refine hS0 ?_; clear hp; intro w1 hp)))
    clear HRW HLT HB3 HIX
    go_loopg [5, 6] (l.length - (m + 1)) (fun k i j wr => ∃ (q jj : Nat) (zs : List Vt), k + jj = l.length ∧ i = .int .i64 q ∧ j = .int .i64 jj ∧ RowKit.Hid (DelAt c l zs q jj) ∧ Hp B w0 wr (⟨g, zs.flatMap vtV, 27, cap * 6⟩ :: ⟨b3, vs, 27, 6⟩ :: M))
    case atStart => exact ⟨m, m + 1, l, by omega, rfl, by go_num, HST, hp⟩
    case round =>
      clear hp HST
      obtain ⟨q, jj, zs, hkj, rfl, rfl, HDA, hp⟩ := hrel
      have hzl := HDA.out.len
      have hqj := HDA.out.lt
      by_cases hlt : jj < l.length
      · have hj := List.getElem?_eq_getElem hlt
        have hzj := (HDA.out.get hlt).trans hj
        generalize l[jj] = x at hj hzj
        have hx0 : ∀ k v, (vtV x)[k]? = some v → wr.cell? ⟨g, jj * 6 + k, none⟩ = some v := fun k v hv => hp.cell at0 (vt_get hzj hv)
        have hx1 : ∀ k v, (vtV x)[k]? = some v → wr.cell? ⟨g, 0 + jj * 6 + k, none⟩ = some v := fun k v hv => by rw [Nat.zero_add]; exact hx0 k v hv
        have hfl : q * 6 + 6 ≤ (zs.flatMap vtV).length := by rw [flat_len vtV 6 vtV_len]; omega
        have HFL := Lib.hid hfl
        have f1 : (0 : Int) ≤ (jj : Int) := by omega
        have f2 : (jj : Int) < (l.length : Int) := by omega
        have f3 : (0 : Int) ≤ (q : Int) := by omega
        have f4 : (q : Int) < (l.length : Int) := by omega
        cases hpx : eqN c x with
        | true =>
          have HNX := Lib.hid (HDA.out.skip hj hpx)
          obtain ⟨nd, nm, bs, nu, cm, va, es, vc⟩ := x
          have HXC : RowKit.Hid ((nd == c) = true) := Lib.hid hpx
          simp only [vtV] at hx0 hx1
          have HX0 := Lib.hid hx0
          have HX1 := Lib.hid hx1
          clear hx0 hx1 hj hzj hpx hfl
          go_wp2_with (first | ((with_reducible refine pre_load 27 _ rfl ?_); first | refine lR (Hp.start _) rfl (sTm rfl) agg27 HX0.out ?_ | refine lR (Hp.start _) rfl (sTm rfl) agg27 HX1.out ?_) | (go_at_call 41; (with_reducible refine (cl41 nd nm bs nu cm va es.length vc c b3 _ (hp.ltOf at2) (hp.cell at2 HVS.out) _ HXC.out).mono ?_); rintro e w1 ⟨rfl, hb⟩; replace hp := hp.call hb; clear hb) | go_skip | (first | (refine hA1 ?_; clear hp; intro b w1 hp) | refine hL0 ?_ | (refine hS0 ?_; clear hp; intro w1 hp)))
          go_roundg (gk - 1)
          case measure => omega
          case rel => exact ⟨q, jj + 1, zs, by omega, rfl, by go_num, HNX, hp.tail⟩
        | false =>
          have HNX := Lib.hid (HDA.out.move hj hpx)
          obtain ⟨nd, nm, bs, nu, cm, va, es, vc⟩ := x
          have HXC : RowKit.Hid ((nd == c) = false) := Lib.hid hpx
          have HSP : RowKit.Hid (spl (zs.flatMap vtV) (q * 6) (vtV ⟨nd, nm, bs, nu, cm, va, es, vc⟩) = (zs.set q ⟨nd, nm, bs, nu, cm, va, es, vc⟩).flatMap vtV) := Lib.hid (flat_spl 6 vtV_len (by omega))
          simp only [vtV] at hx0 hx1
          have HX0 := Lib.hid hx0
          have HX1 := Lib.hid hx1
          clear hx0 hx1 hj hzj hpx hfl
          go_wp2_with (first | ((with_reducible refine pre_load 27 _ rfl ?_); first | refine lR (Hp.start _) rfl (sTm rfl) agg27 HX0.out ?_ | refine lR (Hp.start _) rfl (sTm rfl) agg27 HX1.out ?_) | (go_at_call 41; (with_reducible refine (cl41 nd nm bs nu cm va es.length vc c b3 _ (hp.ltOf at2) (hp.cell at2 HVS.out) _ HXC.out).mono ?_); rintro e w1 ⟨rfl, hb⟩; replace hp := hp.call hb; clear hb) | go_skip | (first | (refine hA1 ?_; clear hp; intro b w1 hp) | refine hL0 ?_ | (refine hS0 ?_; clear hp; intro w1 hp)) | ((with_reducible refine pre_store 27 _ _ rfl ?_); refine sG hp rfl (sTm rfl) (sTm rfl) agg27 at1 ?_ (hlen := by (have := HFL.out); simp only [List.length_cons, List.length_nil]; omega); clear hp; intro w1 hp; simp only [sSet, zSet] at hp; simp only [put_some, put_none, sSet, zSet]))
          go_roundg (gk - 1)
          case measure => omega
          case rel => exact ⟨q + 1, jj + 1, _, by omega, by go_num, by go_num, HNX, by rw [← HSP.out]; exact hp.tail⟩
      · have f2 : decide ((jj : Int) < (l.length : Int)) = false := by simp; omega
        obtain rfl : jj = l.length := by have := HDA.out.jl; omega
        obtain ⟨hk1, hk2⟩ := HDA.out.done
        have hsp : zs.flatMap vtV = (keepV c l).flatMap vtV ++ (zs.drop q).flatMap vtV := by rw [← hk1, ← List.flatMap_append, List.take_append_drop]
        rw [hsp] at hp
        replace hp := hp.less
        have HQ : RowKit.Hid (0 < l.length - q) := Lib.hid (by omega)
        have HOFF : RowKit.Hid (q * 6 = ((keepV c l).flatMap vtV).length) := Lib.hid (by rw [flat_len vtV 6 vtV_len, hk2])
        have HFC : RowKit.Hid (((keepV c l).flatMap vtV).length + (l.length - q) * 6 ≤ cap * 6) := Lib.hid (by rw [flat_len vtV 6 vtV_len, hk2]; omega)
        have HK2 := Lib.hid hk2
        clear hk1 hk2 hsp
        have f3 : (0 : Int) ≤ (q : Int) := by omega
        have f4 : (q : Int) ≤ (l.length : Int) := by omega
        have f5 : (l.length : Int) ≤ (cap : Int) := by omega
        have f6 : (q : Int) ≤ (cap : Int) := by omega
        have f7 : ¬ (cap = q) := by omega
        go_wp2_with (first | ((with_reducible refine pre_clear _ _ rfl ?_); refine wpList_clearEnd hp _ _ rfl wy Tryz.underlying25 _ zv27 _ _ (sTm rfl) HQ.out (by rfl) (by rfl) HOFF.out HFC.out ?_; clear hp; intro v1 w1 hp; simp only [put_some, put_none, sSet, zSet]) | go_skip | (first | (refine hA1 ?_; clear hp; intro b w1 hp) | refine hL0 ?_ | (refine hS0 ?_; clear hp; intro w1 hp)))
        go_ret
        exact ⟨by rw [HK2.out]; rfl, hp⟩
end Go.Proofs.YtcjbepaclbhjaaaGreat
/- slices.DeleteFunc and IndexFunc of a row of votes of the call's own, empty or not. -/
namespace Go.Proofs.YtcjbepaclbhjaaaGreat
open Go.RowKit Go.Lib
theorem idx_nil (c : Int) (bc : Nat) (w : World) (hbc : bc < w.heap.size) (hcc : w.cell? ⟨bc, 0, none⟩ = some (.int .i64 c)) :
    Calls Tryz.prog 42 #[.slice none 0 0, .func (.func 41) #[] #[.pointer (some ⟨bc, 0, none⟩)]] w fun e w' => e = .returned (.int .i64 (-1)) ∧ Below w.heap.size w w' :=
  (idx42_e [] none 0 (by decide) c bc w (RowIs.nil _ _) hbc hcc).mono fun e w' ⟨r, he, hi, hb⟩ => ⟨by rw [he, hi.no (fun i y h => by simp at h)], hb⟩
set_option maxRecDepth 100000 in
set_option maxHeartbeats 4000000 in
theorem delf39_nil (c : Int) (b3 : Nat) (w : World) (hbc : b3 < w.heap.size) (hcc : w.cell? ⟨b3, 0, none⟩ = some (.int .i64 c)) :
    Calls Tryz.prog 39 #[.slice none 0 0, .func (.func 41) #[] #[.pointer (some ⟨b3, 0, none⟩)]] w fun e w' => e = .returned (.slice none 0 0) ∧ Below w.heap.size w w' := by
  have hp := Hp.start w
  have H1 := Lib.hid hbc
  have H2 := Lib.hid hcc
  have e0 : ((-1 : Int) == -1) = true := rfl
  clear hbc hcc
  go_enter Tryz.func39, Tryz.ntmps39
  go_wp2_with (first | (go_at_call 42; (with_reducible refine (idx_nil c b3 _ H1.out H2.out).mono ?_); rintro e w1 ⟨rfl, hb⟩; replace hp := hp.call hb; clear hb) | go_skip | (first | (refine hA1 ?_; clear hp; intro b w1 hp) | refine hL0 ?_ | (refine hS0 ?_; clear hp; intro w1 hp)))
  go_ret
  exact ⟨rfl, hp.below⟩
def DelfO (B : Nat) (w0 : World) (b3 : Nat) (vs : List Value) (M : List Blk) (xs : List Vt) (e : Ending) (w' : World) : Prop := ∃ v' R', e = .returned v' ∧ OwnRow 27 6 v' xs.length (xs.flatMap vtV) R' ∧ Hp B w0 w' (⟨b3, vs, 27, 6⟩ :: (R' ++ M))
theorem delf39 {B : Nat} {w0 w : World} (l : List Vt) (hl : l.length ≤ 1000) (v : Value) (b3 : Nat) (c : Int) (vs : List Value) (hvs : vs[0]? = some (.int .i64 c)) {R M : List Blk} (hR : OwnRow 27 6 v l.length (l.flatMap vtV) R) (hp : Hp B w0 w (⟨b3, vs, 27, 6⟩ :: (R ++ M))) :
    Calls Tryz.prog 39 #[v, .func (.func 41) #[] #[.pointer (some ⟨b3, 0, none⟩)]] w (DelfO B w0 b3 vs M (keepV c l)) := by
  rcases hR with ⟨_, ⟨h0, hv, _, hr⟩ | ⟨g, cap, hv, hnc, hcm, hr⟩⟩
  · have : l = [] := List.eq_nil_of_length_eq_zero h0
    subst this hv hr
    exact (delf39_nil c b3 w (hp.ltOf at0) (hp.cell at0 hvs)).mono fun e w' ⟨he, hb⟩ => ⟨_, [], he, OwnRow.nil _ _, hp.call hb⟩
  · subst hv hr
    exact (delf39_some l hl g cap b3 hnc c vs hvs (M := M) hp.kp).mono fun e w' ⟨he, hq⟩ => ⟨_, [⟨g, (keepV c l).flatMap vtV, 27, cap * 6⟩], he, ⟨by rw [flat_len vtV 6 vtV_len], .inr ⟨g, cap, rfl, Nat.le_trans (List.length_filter_le _ _) hnc, hcm, rfl⟩⟩, hq.kp⟩
theorem idx42_O {B : Nat} {w0 w : World} (l : List Vt) (hl : l.length ≤ 1000) (v : Value) (b3 : Nat) (c : Int) (vs : List Value) (hvs : vs[0]? = some (.int .i64 c)) {R M : List Blk} (hR : OwnRow 27 6 v l.length (l.flatMap vtV) R) (hp : Hp B w0 w (⟨b3, vs, 27, 6⟩ :: (R ++ M))) :
    Calls Tryz.prog 42 #[v, .func (.func 43) #[] #[.pointer (some ⟨b3, 0, none⟩)]] w fun e w' => ∃ r : Int, e = .returned (.int .i64 r) ∧ IdxV (gtN c) l r ∧ Hp B w0 w' (⟨b3, vs, 27, 6⟩ :: (R ++ M)) := by
  obtain ⟨a, k, hv, hk⟩ := hR.kept
  subst hv
  exact (idx42_g l a k hl c b3 w (hk.at hp (fun p hm => by simp [hm])) (hp.ltOf at0) (hp.cell at0 hvs)).mono fun e w' ⟨r, he, hi, hb⟩ => ⟨r, he, hi, hp.call hb⟩
end Go.Proofs.YtcjbepaclbhjaaaGreat
/- What Add of votes makes: the plain part. -/
namespace Go.Proofs.YtcjbepaclbhjaaaGreat
open Go.RowKit Go.Lib
def vstrip (v : Vt) : Vt := ⟨v.nd, v.nm, v.bs, v.nu, v.cm, none, v.es, 0⟩
theorem vt_strip {x y : Vt} : x.Sm y ↔ vstrip x = vstrip y := by
  unfold Vt.Sm vstrip
  constructor
  · rintro ⟨h1, h2, h3, h4, h5, h6⟩; rw [h1, h2, h3, h4, h5, h6]
  · intro h; injection h with h1 h2 h3 h4 h5 _ h6 _; exact ⟨h1, h2, h3, h4, h5, h6⟩
theorem vts_strip {l k : List Vt} : VtsSm l k ↔ l.map vstrip = k.map vstrip := by
  constructor
  · rintro ⟨h1, h2⟩
    apply List.ext_getElem (by simpa using h1)
    intro i hi hj
    rw [List.getElem_map, List.getElem_map]
    simp only [List.length_map] at hi hj
    exact vt_strip.1 (h2 i _ _ (List.getElem?_eq_getElem hi) (List.getElem?_eq_getElem hj))
  · intro h
    refine ⟨by simpa using congrArg List.length h, fun i a b ha hb => ?_⟩
    have := congrArg (fun k => k[i]?) h
    simp only [List.getElem?_map, ha, hb, Option.map_some] at this
    injection this with this
    exact vt_strip.2 this
def leV (c : Int) (x : Vt) : Bool := decide (x.nd ≤ c)
def addV (l : List Vt) (v : Vt) : List Vt := (keepV v.nd l).takeWhile (leV v.nd) ++ v :: (keepV v.nd l).dropWhile (leV v.nd)
theorem keep_strip (c : Int) (l : List Vt) : (keepV c l).map vstrip = keepV c (l.map vstrip) := by
  unfold keepV; rw [List.filter_map]; rfl
theorem addV_strip (l : List Vt) (v : Vt) : (addV l v).map vstrip = addV (l.map vstrip) (vstrip v) := by
  unfold addV
  rw [List.map_append, List.map_cons, show (vstrip v).nd = v.nd from rfl, ← keep_strip, List.takeWhile_map, List.dropWhile_map]
  rfl
theorem tw_at (p : Vt → Bool) : ∀ (xs : List Vt) (i : Nat), i ≤ xs.length → (∀ (j : Nat) y, j < i → xs[j]? = some y → p y = true) → (∀ y, xs[i]? = some y → p y = false) → xs.takeWhile p = xs.take i ∧ xs.dropWhile p = xs.drop i
  | [], i, _, _, _ => by simp
  | a :: r, 0, _, _, h => by have := h a rfl; simp [this]
  | a :: r, i + 1, hi, h1, h2 => by
    have ha := h1 0 a (by omega) rfl
    have ih := tw_at p r i (by simpa using hi) (fun j y hj hy => h1 (j + 1) y (by omega) (by simpa using hy)) (fun y hy => h2 y (by simpa using hy))
    simp [ha, ih.1, ih.2]
theorem idx_place {c : Int} {xs : List Vt} {r : Int} (h : IdxV (gtN c) xs r) : ∃ i : Nat, i ≤ xs.length ∧ ((r = -1 ∧ i = xs.length) ∨ r = (i : Int)) ∧ xs.takeWhile (leV c) = xs.take i ∧ xs.dropWhile (leV c) = xs.drop i := by
  rcases h with ⟨h1, h2⟩ | ⟨m, x, h1, h2, h3, h4⟩
  · have := tw_at (leV c) xs xs.length (Nat.le_refl _) (fun j y _ hy => by have := h2 j y hy; simp [gtN, leV] at this ⊢; omega) (fun y hy => by simp at hy)
    exact ⟨xs.length, Nat.le_refl _, .inl ⟨h1, rfl⟩, this.1, this.2⟩
  · have hm := (List.getElem?_eq_some_iff.1 h2).1
    have := tw_at (leV c) xs m (by omega) (fun j y hj hy => by have := h4 j y hj hy; simp [gtN, leV] at this ⊢; omega) (fun y hy => by rw [h2] at hy; injection hy with hy; subst hy; simp [gtN, leV] at h3 ⊢; omega)
    exact ⟨m, by omega, .inr h1, this.1, this.2⟩
theorem ins_votes (xs : List Vt) (x : Vt) (i : Nat) : insLV 6 (xs.flatMap vtV) (vtV x) i = (xs.take i ++ x :: xs.drop i).flatMap vtV := by
  unfold insLV
  rw [List.flatMap_append, List.flatMap_cons, flat_drop 6 vtV_len]
  congr 1
  rcases Nat.lt_or_ge xs.length i with h | h
  · rw [List.take_of_length_le (by rw [flat_len vtV 6 vtV_len]; omega), List.take_of_length_le (by omega)]
  · have h2 : xs.flatMap vtV = (xs.take i).flatMap vtV ++ (xs.drop i).flatMap vtV := by rw [← List.flatMap_append, List.take_append_drop]
    have h3 : ((xs.take i).flatMap vtV).length = i * 6 := by rw [flat_len vtV 6 vtV_len, List.length_take, Nat.min_eq_left h]
    rw [h2, ← h3, List.take_left]
end Go.Proofs.YtcjbepaclbhjaaaGreat

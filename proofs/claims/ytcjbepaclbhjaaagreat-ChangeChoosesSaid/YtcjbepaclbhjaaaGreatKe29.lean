/- Parts of the proof. -/
import Derived.Test.YtcjbepaclbhjaaaGreatKe1
import Derived.Test.YtcjbepaclbhjaaaGreatKe28
import Derived.Test.YtcjbepaclbhjaaaGreatKe3
import Derived.Test.YtcjbepaclbhjaaaGreatKe2
import Derived.Test.YtcjbepaclbhjaaaGreatKe0
open List renaming set_cons_zero → zSet, set_cons_succ → sSet
/- The walks of the document's Place, leads, blocks and Words. -/
set_option linter.unusedSimpArgs false
set_option linter.unusedVariables false
namespace Go.Proofs.YtcjbepaclbhjaaaGreat
open Go.RowKit
set_option maxRecDepth 100000 in
set_option maxHeartbeats 4000000 in
theorem leads146 (od : Int) (oa : Option Addr) (os : List Ob) (oc : Nat) (nx t0 t1 t2 t3 : Int) (fa : Option Addr) (fl fc : Nat) (hol : os.length ≤ 1000) (t : Int) (w : World) (ha : RowIs w oa (os.flatMap obV)) :
    Calls Tryz.prog 146 #[.agg #[.int .i64 od, .slice oa os.length oc, .int .i64 nx, .int .i64 t0, .int .i64 t1, .int .i64 t2, .int .i64 t3, .slice fa fl fc], .int .i64 t] w fun e w' => e = .returned (.bool (leadsB os t)) ∧ Below w.heap.size w w' := by
  have hp := Hp.start w
  have HA := Lib.hid ha
  clear ha
  by_cases h0 : t = 0
  · subst h0
    go_enter Tryz.func146, Tryz.ntmps146
    go_wp2_with (first | go_skip | (first | (refine hA3 ?_; clear hp; intro b w1 hp) | refine hL16 ?_ | (refine hS0 ?_; clear hp; intro w1 hp)))
    go_ret
    exact ⟨ret_bool (leads_zero os).symm, hp.below⟩
  · have HN := Lib.hid h0
    have e0 : (t == 0) = false := by simpa using h0
    clear h0
    go_enter Tryz.func146, Tryz.ntmps146
    go_wp2_with (first | (go_at_call 166; (with_reducible refine (place166 od oa os oc nx t0 t1 t2 t3 fa fl fc hol t _ (HA.out.below hp.below)).mono ?_); rintro e w1 ⟨pr, rfl, hpr, hb⟩; replace hp := hp.call hb; have HPR := Lib.hid hpr; clear hb hpr) | go_skip | (first | (refine hA3 ?_; clear hp; intro b w1 hp) | refine hL16 ?_ | (refine hS0 ?_; clear hp; intro w1 hp)))
    go_ret
    exact ⟨ret_bool (HPR.out.leads HN.out), hp.below⟩
def OwnBl (w : World) (n : Nat) (xs : List Value) (e : Ending) (w' : World) : Prop := ∃ v R, e = .returned v ∧ OwnRow 150 2 v n xs R ∧ Hp w.heap.size w w' R
set_option maxRecDepth 100000 in
set_option maxHeartbeats 4000000 in
theorem owng167 (l : List Bl) (a : Option Addr) (c : Nat) (hl : l.length ≤ 2000) (w : World) (ha : RowIs w a (l.flatMap blV)) : Calls Tryz.prog 167 #[.slice a l.length c] w (OwnBl w l.length (l.flatMap blV)) := by
  obtain ⟨i0, hi0, hz0, hz1, hz2⟩ := info_parts info150
  have hp := Hp.start w
  have HA := Lib.hid ha
  have sm1 : 0 + l.length ≤ maxLen := by unfold maxLen; omega
  have sm2 : (0 + l.length) * 16 ≤ 140737488355328 := by omega
  clear ha
  go_enter Tryz.func167, Tryz.ntmps167
  go_wp2_with (first | ((with_reducible refine pre_append _ _ 81 rfl ?_); refine wpList_appendGrowRow (K := []) (R := []) (M := []) hp _ _ _ rfl wy i0 _ 16 Tryz.underlying81 hi0 hz0 hz1 hz2 rfl (by decide) (sTm rfl) (OwnRow.nil _ _) a l.length c (sTm rfl) _ (lit_len l) (HA.out.below hp.below) (blsOne l) sm1 sm2 ?_; clear hp; intro v' R' w1 hR' hp; have HR' := Lib.hid hR'; clear hR'; simp only [put_some, put_none, sSet, zSet]) | go_skip)
  go_ret
  exact ⟨v', R', rfl, by simpa using HR'.out, by simpa using hp⟩
set_option maxRecDepth 100000 in
set_option maxHeartbeats 4000000 in
theorem blocks147 (od : Int) (oa : Option Addr) (os : List Ob) (oc : Nat) (nx t0 t1 t2 t3 : Int) (fa : Option Addr) (fs : List Bl) (fc : Nat) (hol : os.length ≤ 1000) (hfl : fs.length ≤ 2000) (w : World) (ha : RowIs w oa (os.flatMap obV)) (hf : RowIs w fa (fs.flatMap blV)) :
    Calls Tryz.prog 147 #[.agg #[.int .i64 od, .slice oa os.length oc, .int .i64 nx, .int .i64 t0, .int .i64 t1, .int .i64 t2, .int .i64 t3, .slice fa fs.length fc]] w (OwnBl w (fs ++ os.map obBl).length ((fs ++ os.map obBl).flatMap blV)) := by
  obtain ⟨i0, hi0, hz0, hz1, hz2⟩ := info_parts info150
  have hp := Hp.start w
  have HA := Lib.hid ha
  have HF := Lib.hid hf
  clear ha hf
  go_enter Tryz.func147, Tryz.ntmps147
  go_wp2_with (first | (go_at_call 167; (with_reducible refine (owng167 fs fa fc hfl _ (HF.out.below hp.below)).mono ?_); rintro e w1 ⟨va, RA, rfl, hra, hpa⟩; replace hp := hp.join hpa; have HRA := Lib.hid hra; clear hpa hra; simp only [List.cons_append, List.nil_append] at hp) | go_skip | (first | (refine hA3 ?_; clear hp; intro b w1 hp) | refine hL16 ?_ | (refine hS0 ?_; clear hp; intro w1 hp)))
  obtain ⟨b1, rfl⟩ := hp.id0
  go_loopg [3, 4] os.length (fun k va i wr => ∃ (q : Nat) (RA : List Blk), k + q = os.length ∧ i = .int .i64 q ∧ RowKit.Hid (OwnRow 150 2 va (fs.length + q) ((fs ++ (os.take q).map obBl).flatMap blV) RA) ∧ Hp w.heap.size w wr (⟨b1, [.int .i64 od, .slice oa os.length oc, .int .i64 nx, .int .i64 t0, .int .i64 t1, .int .i64 t2, .int .i64 t3, .slice fa fs.length fc], 83, 8⟩ :: RA))
  case atStart => exact ⟨0, RA, by omega, rfl, Lib.hid (by simpa using HRA.out), hp⟩
  case round =>
    clear hp HRA
    obtain ⟨q, RA, hkq, rfl, HRA, hp⟩ := hrel
    by_cases hlt : q < os.length
    · obtain ⟨bq, off, rfl, hx⟩ := HA.out.elems 5 obV_len (by omega) (by omega)
      have hj := List.getElem?_eq_getElem hlt
      replace hx := hx q _ hj
      have HJ := Lib.hid hj
      clear hj
      generalize os[q] = x at hx HJ
      have HTK : RowKit.Hid (os.take (q + 1) = os.take q ++ [x]) := Lib.hid (by rw [List.take_add_one, HJ.out]; rfl)
      obtain ⟨xh, xp, xo, wa, ws, wc, la, ls, lc⟩ := x
      simp only [obV] at hx
      have HX' := Lib.hid hx
      have HX : RowKit.Hid (∀ (j : Nat) v, [Value.int .i64 xp, .int .i64 xo][j]? = some v → w.cell? ⟨bq, off + q * 5 + 1 + j, none⟩ = some v) := Lib.hid (fun j v hj => by
        have := HX'.out (1 + j) v (by rw [Nat.add_comm]; rw [List.getElem?_cons_succ]; have hlt : j < 2 := by { have := (List.getElem?_eq_some_iff.1 hj).1; simpa using this }
                                      have hc : j = 0 ∨ j = 1 := by omega
                                      rcases hc with rfl | rfl <;> exact hj)
        rw [Nat.add_assoc (off + q * 5)]; exact this)
      clear hx
      have e1 : (0 : Int) ≤ (q : Int) := by omega
      have e2 : (q : Int) < (os.length : Int) := by omega
      have sm1 : fs.length + q + 1 ≤ maxLen := by unfold maxLen; omega
      have sm2 : (fs.length + q + 1) * 16 ≤ 140737488355328 := by omega
      go_wp2_with (first | ((with_reducible refine pre_append _ _ 81 rfl ?_); refine wpList_appendGrow (K := [_]) (R := RA) (M := []) (hp.reorder (by rw [List.append_nil]; exact List.Perm.refl _)) _ _ _ rfl wy i0 _ 16 Tryz.underlying81 hi0 hz0 hz1 hz2 rfl (by decide) (sTm rfl) HRA.out 1 1 (sTm rfl) (by rfl) (by decide) (by rfl) sm1 sm2 ?_; clear hp HRA; intro va' RA' w1 hra hp; have HRA := Lib.hid hra; clear hra; rw [List.append_nil] at hp; simp only [List.cons_append, List.nil_append] at hp; simp only [put_some, put_none, sSet, zSet]) | go_skip | (first | (refine hA3 ?_; clear hp; intro b w1 hp) | refine hL16 ?_ | (refine hS0 ?_; clear hp; intro w1 hp)))
      go_roundg (gk - 1)
      case measure => omega
      case rel =>
        refine ⟨q + 1, RA', by omega, by go_num, Lib.hid ?_, hp⟩
        rw [HTK.out, obs_map_snoc]; exact HRA.out
    · have e2 : decide ((q : Int) < (os.length : Int)) = false := by simp; omega
      have hq : q = os.length := by omega
      subst hq
      rw [List.take_length] at HRA
      go_wp2_with (first | go_skip | (first | (refine hA3 ?_; clear hp; intro b w1 hp) | refine hL16 ?_ | (refine hS0 ?_; clear hp; intro w1 hp)))
      go_ret
      exact ⟨_, RA, rfl, by simpa using HRA.out, hp.tail⟩
theorem sumB_le (l : List Bl) (h : ∀ b ∈ l, b.o ≤ 8) : sumB l ≤ l.length * 256 := by
  induction l with
  | nil => simp [sumB]
  | cons b l ih =>
    rw [sumB_cons]
    have := ih (fun c hc => h c (by simp [hc]))
    have := pw_le (h b (by simp))
    simp only [List.length_cons]; omega
theorem sum_take {l : List Bl} {j : Nat} {b : Bl} (h : l[j]? = some b) (hl : l.length ≤ 2000) (ho : ∀ b ∈ l, b.o ≤ 8) : sumB (l.take j) + pw b.o = sumB (l.take (j + 1)) ∧ wrap64 (sumB (l.take j) + pw b.o) = sumB (l.take (j + 1)) := by
  have h1 : sumB (l.take j) + pw b.o = sumB (l.take (j + 1)) := by
    rw [List.take_add_one, h, sumB_append]; simp [sumB]
  refine ⟨h1, ?_⟩
  rw [h1]
  have h2 := sumB_le (l.take (j + 1)) (fun b hb => ho b (List.mem_of_mem_take hb))
  have h3 := sumB_nonneg (l.take (j + 1))
  have h4 : (l.take (j + 1)).length ≤ l.length := by rw [List.length_take]; omega
  exact IntWalk.wrap64_in _ ⟨by omega, by omega⟩
set_option maxRecDepth 100000 in
set_option maxHeartbeats 4000000 in
theorem words149 (l : List Bl) (a : Option Addr) (c : Nat) (hl : l.length ≤ 2000) (ho : ∀ b ∈ l, b.o ≤ 8) (w : World) (ha : RowIs w a (l.flatMap blV)) :
    Calls Tryz.prog 149 #[.slice a l.length c] w fun e w' => e = .returned (.int .i64 (sumB l)) ∧ Below w.heap.size w w' := by
  have hp := Hp.start w
  have HA := Lib.hid ha
  have HO := Lib.hid ho
  clear ha ho
  go_enter Tryz.func149, Tryz.ntmps149
  go_wp2_with (first | go_skip | (first | (refine hA3 ?_; clear hp; intro b w1 hp) | refine hL16 ?_ | (refine hS0 ?_; clear hp; intro w1 hp)))
  go_loopg [3, 4] l.length (fun k s i wr => ∃ (j : Nat) (sv : Int), k + j = l.length ∧ s = .int .i64 sv ∧ i = .int .i64 j ∧ RowKit.Hid (sv = sumB (l.take j)) ∧ Hp w.heap.size w wr [])
  case atStart => exact ⟨0, 0, by omega, rfl, rfl, Lib.hid (by simp [sumB]), hp⟩
  case round =>
    clear hp
    obtain ⟨j, sv, hkj, rfl, rfl, HS, hp⟩ := hrel
    by_cases hlt : j < l.length
    · obtain ⟨bq, off, rfl, hx⟩ := HA.out.elems 2 blV_len (by omega) (by omega)
      have hj := List.getElem?_eq_getElem hlt
      replace hx := hx j _ hj
      have HJ := Lib.hid hj
      have ho8 := HO.out _ (List.getElem_mem hlt)
      clear hj
      generalize l[j] = y at hx HJ ho8
      have HST := Lib.hid (sum_take HJ.out hl HO.out)
      obtain ⟨yp, yo⟩ := y
      simp only [blV] at hx
      simp only at ho8 HST
      have HX := Lib.hid hx
      clear hx
      have e1 : (0 : Int) ≤ (j : Int) := by omega
      have e2 : (j : Int) < (l.length : Int) := by omega
      go_wp2_with (first | (go_at_call 142; (with_reducible refine (size142 _ (by omega) _).mono ?_); rintro e w' ⟨rfl, rfl⟩) | go_skip | (first | (refine hA3 ?_; clear hp; intro b w1 hp) | refine hL16 ?_ | (refine hS0 ?_; clear hp; intro w1 hp)))
      go_roundg (gk - 1)
      case measure => omega
      case rel => exact ⟨j + 1, _, by omega, rfl, by go_num, Lib.hid (by rw [HS.out]; exact HST.out.2), hp⟩
    · have e2 : decide ((j : Int) < (l.length : Int)) = false := by simp; omega
      go_wp2_with (first | go_skip | (first | (refine hA3 ?_; clear hp; intro b w1 hp) | refine hL16 ?_ | (refine hS0 ?_; clear hp; intro w1 hp)))
      go_ret
      refine ⟨ret_int ?_, hp.below⟩
      rw [HS.out, List.take_of_length_le (by omega)]
end Go.Proofs.YtcjbepaclbhjaaaGreat

import Derived.Test.YtcjbepaclbhjaaaTjQA
import Derived.Test.YtcjbepaclbhjaaaTjQD
import Derived.Test.YtcjbepaclbhjaaaTjDK
/- The walk of slices.Delete of one object. -/
set_option linter.unusedSimpArgs false
set_option linter.unusedVariables false
namespace Go.Proofs.Ytcjbepaclbhjaaa
open Go.RowKit Go.Lib
theorem zv48 (w : World) : (zeroValue 48).run Try.prog w = .ok (.agg #[.int .i64 0, .int .i64 0, .int .i64 0, .slice none 0 0, .slice none 0 0]) w := by kernel_rfl
theorem zc48 : (Builtin.zeroCells (Value.agg #[.int .i64 0, .int .i64 0, .int .i64 0, .slice none 0 0, .slice none 0 0]).cells 1).toList = [.int .i64 0, .int .i64 0, .int .i64 0, .slice none 0 0, .slice none 0 0] := by kernel_rfl
def DeldO (B : Nat) (w0 : World) (g m cap : Nat) (xs : List Value) (M : List Blk) (e : Ending) (w' : World) : Prop := e = .returned (.slice (some ⟨g, 0, none⟩) m cap) ∧ Hp B w0 w' (⟨g, xs, 48, cap * 5⟩ :: M)
set_option maxRecDepth 100000 in
set_option maxHeartbeats 4000000 in
theorem del64 {B : Nat} {w0 w : World} {g cap : Nat} {l : List Ob} {M : List Blk} (hp : Hp B w0 w (⟨g, l.flatMap obV, 48, cap * 5⟩ :: M)) (hl : l.length ≤ 1000) (hcap : l.length ≤ cap) {i j m n : Nat} (hj : j = i + 1) (hn : n = l.length) (hm : n = m + 1) (hi : i < n) :
    Calls Try.prog 64 #[.slice (some ⟨g, 0, none⟩) n cap, .int .i64 i, .int .i64 j] w (DeldO B w0 g m cap ((l.eraseIdx i).flatMap obV) M) := by
  obtain ⟨i0, hi0, hz0, hz1, hz2⟩ := info_parts info48
  have hxl := obs_len l
  have hx1 := obs_one l
  have HER : RowKit.Hid ((l.flatMap obV).take (i * 5) ++ (l.flatMap obV).drop (j * 5) = (l.eraseIdx i).flatMap obV) := Lib.hid (by
    rw [flat_drop 5 obV_len, hj, List.eraseIdx_eq_take_drop_succ, List.flatMap_append]
    congr 1
    have h := flat_drop 5 obV_len l i
    have h2 : l.flatMap obV = (l.take i).flatMap obV ++ (l.drop i).flatMap obV := by rw [← List.flatMap_append, List.take_append_drop]
    have h3 : ((l.take i).flatMap obV).length = i * 5 := by rw [obs_len, List.length_take, Nat.min_eq_left (by omega)]
    rw [h2, ← h3, List.take_left])
  generalize l.flatMap obV = xs at hp hxl hx1 HER
  rw [← hn] at hxl hcap hl
  clear hn
  have HYL : RowKit.Hid ((xs.drop (j * 5)).length = (n - j) * 5) := Lib.hid (by rw [List.length_drop, hxl]; omega)
  have HY1 : RowKit.Hid ((xs.drop (j * 5)).all (·.oneCell') = true) := Lib.hid (by rw [List.all_eq_true]; intro u hu; exact List.all_eq_true.1 hx1 u (List.mem_of_mem_drop hu))
  have HFI : RowKit.Hid (i + (n - j) ≤ cap) := Lib.hid (by omega)
  have HLE : RowKit.Hid ((i + (n - j)) * 5 ≤ xs.length) := Lib.hid (by rw [hxl]; omega)
  have HSUM : RowKit.Hid (i + (n - j) = m) := Lib.hid (by omega)
  have HSPL : RowKit.Hid (spl xs (i * 5) (xs.drop (j * 5)) = (xs.take (i * 5) ++ xs.drop (j * 5)) ++ xs.drop (i * 5 + (xs.drop (j * 5)).length)) := Lib.hid (by
    rw [spl_mid _ _ _ (by rw [List.length_drop, hxl]; omega), List.append_assoc])
  have HOFF : RowKit.Hid (m * 5 = (xs.take (i * 5) ++ xs.drop (j * 5)).length) := Lib.hid (by rw [List.length_append, List.length_take, List.length_drop, hxl]; omega)
  have HFC : RowKit.Hid ((xs.take (i * 5) ++ xs.drop (j * 5)).length + 5 ≤ cap * 5) := Lib.hid (by rw [← HOFF.out]; omega)
  have HNM : RowKit.Hid (n - m = 1) := Lib.hid (by omega)
  have f1 : (0 : Int) ≤ (i : Int) := by omega
  have f2 : (i : Int) ≤ (j : Int) := by omega
  have f3 : (j : Int) ≤ (n : Int) := by omega
  have f4 : (n : Int) ≤ (cap : Int) := by omega
  have f5 : ((i : Int) == (j : Int)) = false := by simp; omega
  have f5' : (i == j) = false := by simp; omega
  have f6 : (i : Int) ≤ (cap : Int) := by omega
  have f7 : (0 : Int) ≤ (j : Int) := by omega
  have f8 : (m : Int) ≤ (n : Int) := by omega
  have f9 : ¬ (cap = m) := by omega
  have f10 : (0 : Int) ≤ (m : Int) := by omega
  have f11 : ¬ (cap = i) := by omega
  have f12 : ¬ (n = i) := by omega
  by_cases hcj : j = cap
  · subst hcj
    have HNL : RowKit.Hid (∀ w a, RowIs w a (xs.drop (j * 5))) := Lib.hid (fun w a => by rw [List.drop_eq_nil_of_le (by omega)]; exact RowIs.nil _ _)
    clear hxl hx1 hm hj hi hl hcap
    go_enter Try.func64, Try.ntmps64
    go_wp2_with fail
    refine wp_region_keeps [] (Keeps.zero hp.drew) [] [(0, true), (1, true), (2, true), (3, true), (4, true), (5, true), (6, false), (7, false)] (by kernel_rfl) (by kernel_rfl) rfl (by kernel_rfl) (fun _ _ d _ _ h => by cases d <;> exact h) ?_
    replace hp := hp.drew
    repeat' (with_reducible refine plan_is ?_); first | (with_reducible refine plan_nil ?_) | ((with_reducible refine plan_t ?_); refine plan_tk rfl ?_; (first | ((with_reducible refine tk_mv _ rfl ?_); refine tM rfl ?_) | refine tG (fun w _ => (by go_simp; try rfl)) ?_); try simp only [put_some, put_none, eval_tmp, eval_const, List.set_cons_succ, List.set_cons_zero, List.getD_cons_succ, List.getD_cons_zero, wrap_eq]) | (refine plan_do rfl (fun K hK => ?_); go_wp2_with (first | ((with_reducible refine pre_append _ _ 23 rfl ?_); first | (refine wpList_appendFit hp _ _ _ rfl wy Try.underlying23 i0 hi0 hz1 (by decide) (slot_tmp rfl) _ (n - j) _ (slot_tmp rfl) (xs.drop (j * 5)) HYL.out (by first | exact RowIs.part hp | exact HNL.out _ _) HY1.out HFI.out HLE.out ?_); clear hp; intro w1 hp; rw [HSPL.out] at hp; replace hp := hp.less; rw [HSUM.out]; simp only [put_some, put_none, List.set_cons_succ, List.set_cons_zero])); (refine hK.out _ _ (.inr (Keeps.zero hp)) ?_); clear hK K; try simp only [put_some, put_none, eval_tmp, eval_const, List.set_cons_succ, List.set_cons_zero, List.getD_cons_succ, List.getD_cons_zero, wrap_eq])
    go_wp2_with (first | ((with_reducible refine pre_clear _ _ rfl ?_); refine wpList_clearOne hp _ _ rfl wy Try.underlying23 _ zv48 _ _ (slot_tmp rfl) HNM.out _ zc48 rfl rfl HOFF.out HFC.out ?_; clear hp; intro v1 w1 hp; simp only [put_some, put_none, List.set_cons_succ, List.set_cons_zero]))
    go_ret
    exact ⟨rfl, by rw [← HER.out]; exact hp⟩
  · have f13 : ¬ (cap = j) := fun h => hcj h.symm
    have HNL : RowKit.Hid True := Lib.hid trivial
    clear hxl hx1 hm hj hi hl hcap
    go_enter Try.func64, Try.ntmps64
    go_wp2_with fail
    refine wp_region_keeps [] (Keeps.zero hp.drew) [] [(0, true), (1, true), (2, true), (3, true), (4, true), (5, true), (6, false), (7, false)] (by kernel_rfl) (by kernel_rfl) rfl (by kernel_rfl) (fun _ _ d _ _ h => by cases d <;> exact h) ?_
    replace hp := hp.drew
    repeat' (with_reducible refine plan_is ?_); first | (with_reducible refine plan_nil ?_) | ((with_reducible refine plan_t ?_); refine plan_tk rfl ?_; (first | ((with_reducible refine tk_mv _ rfl ?_); refine tM rfl ?_) | refine tG (fun w _ => (by go_simp; try rfl)) ?_); try simp only [put_some, put_none, eval_tmp, eval_const, List.set_cons_succ, List.set_cons_zero, List.getD_cons_succ, List.getD_cons_zero, wrap_eq]) | (refine plan_do rfl (fun K hK => ?_); go_wp2_with (first | ((with_reducible refine pre_append _ _ 23 rfl ?_); first | (refine wpList_appendFit hp _ _ _ rfl wy Try.underlying23 i0 hi0 hz1 (by decide) (slot_tmp rfl) _ (n - j) _ (slot_tmp rfl) (xs.drop (j * 5)) HYL.out (by first | exact RowIs.part hp | exact HNL.out _ _) HY1.out HFI.out HLE.out ?_); clear hp; intro w1 hp; rw [HSPL.out] at hp; replace hp := hp.less; rw [HSUM.out]; simp only [put_some, put_none, List.set_cons_succ, List.set_cons_zero])); (refine hK.out _ _ (.inr (Keeps.zero hp)) ?_); clear hK K; try simp only [put_some, put_none, eval_tmp, eval_const, List.set_cons_succ, List.set_cons_zero, List.getD_cons_succ, List.getD_cons_zero, wrap_eq])
    go_wp2_with (first | ((with_reducible refine pre_clear _ _ rfl ?_); refine wpList_clearOne hp _ _ rfl wy Try.underlying23 _ zv48 _ _ (slot_tmp rfl) HNM.out _ zc48 rfl rfl HOFF.out HFC.out ?_; clear hp; intro v1 w1 hp; simp only [put_some, put_none, List.set_cons_succ, List.set_cons_zero]))
    go_ret
    exact ⟨rfl, by rw [← HER.out]; exact hp⟩
end Go.Proofs.Ytcjbepaclbhjaaa

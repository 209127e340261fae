import Derived.Test.YtcjbepaclbhjaaaTjDB
/- The walks of no and lead. -/
set_option linter.unusedSimpArgs false
set_option linter.unusedVariables false
namespace Go.Proofs.Ytcjbepaclbhjaaa
open Go.RowKit
theorem agg34 : aggB Try.prog 34 2 = true := by kernel_rfl
theorem agg39 : aggB Try.prog 39 7 = true := by kernel_rfl
theorem cell37 : cellB Try.prog 37 = true := by kernel_rfl
theorem zero34 : zeroL Try.prog 34 = some ([.int .i64 0, .int .i64 0], 2) := by kernel_rfl
def resV (c v : Int) : Value := .agg #[.int .i64 c, .int .i64 v]
set_option maxRecDepth 100000 in
set_option maxHeartbeats 4000000 in
theorem no17 (e : Int) (w : World) : Calls Try.prog 17 #[.int .i64 e] w fun r w' => r = .returned (resV e 0) ∧ Below w.heap.size w w' := by
  have hp := Hp.start w
  go_enter Try.func17, Try.ntmps17
  go_wp2_with (first | go_skip | ((first | ((with_reducible refine pre_alloc _ rfl ?_); refine lZ hp rfl zero34 ?_; clear hp; intro b w1 hp) | ((with_reducible refine pre_box _ _ rfl ?_); refine lB hp rfl (slot_tmp rfl) rfl ?_; clear hp; intro b w1 hp) | ((with_reducible refine pre_load _ _ rfl ?_); first | refine lO hp rfl (slot_tmp rfl) (by with_reducible first | exact cell3 | exact cell23) aa5 ?_ | refine lA hp rfl (slot_tmp rfl) (by with_reducible first | exact agg62 | exact agg34) aa5 ?_) | ((with_reducible refine pre_store _ _ _ rfl ?_); (first | refine sO hp rfl (slot_tmp rfl) (by with_reducible first | exact cell3 | exact cell23) aa5 ?_ | refine sA hp rfl (slot_tmp rfl) (slot_tmp rfl) (by with_reducible first | exact agg62 | exact agg34) aa5 ?_ | refine sG hp rfl (slot_tmp rfl) (slot_tmp rfl) (by with_reducible first | exact agg62 | exact agg34) aa5 ?_); clear hp; intro w1 hp; simp only [spl, List.set_cons_zero, List.set_cons_succ] at hp)); simp only [put_some, put_none, List.set_cons_succ, List.set_cons_zero]))
  exact bodyPost_ret (results_one (rs := [.cell 2 34]) Try.results17 (.cell rfl (hp.loadAgg agg34 at0 0 _ (by rfl) (by rfl)) .nil)) rfl ⟨rfl, hp.below⟩
def LeadPost (B : Nat) (w0 : World) (L L' : List Blk) (ok : Bool) (e : Ending) (w' : World) : Prop := (ok = true ∧ e = .returned (resV 0 0) ∧ Hp B w0 w' L') ∨ (ok = false ∧ e = .returned (resV 51 0) ∧ Hp B w0 w' L)
set_option maxRecDepth 100000 in
set_option maxHeartbeats 4000000 in
theorem lead37 (os : List Ob) (oa : Option Addr) (oc : Nat) (hol : os.length ≤ 1000) (hs : SortedO os) (to : Int) {B : Nat} {w0 w : World} {L : List Blk} (hp : Hp B w0 w L) {i j b n m off g : Nat} {l cells : List Value} {t u : TypeId}
    (hj : L[j]? = some ⟨b, l, u, m⟩) (hl : l[1]? = some (.slice oa os.length oc)) (ho : Kept L fun w => RowIs w oa (os.flatMap obV)) (hi : L[i]? = some ⟨g, cells, t, n⟩) (hof : off < cells.length) :
    Calls Try.prog 37 #[.pointer (some ⟨b, 0, none⟩), .pointer (some ⟨g, off, none⟩), .int .i64 to] w (LeadPost B w0 L (L.set i ⟨g, cells.set off (.int .i64 to), t, n⟩) (leadsC os to)) := by
  have HS := Lib.hid hs
  have HO := Lib.hid ho
  have HJ : RowKit.Hid (∀ x : Blk, (x :: L)[j + 1]? = some ⟨b, l, u, m⟩) := Lib.hid (fun x => by simpa using hj)
  have HI : RowKit.Hid (∀ x : Blk, (x :: L)[i + 1]? = some ⟨g, cells, t, n⟩) := Lib.hid (fun x => by simpa using hi)
  have HSL := Lib.hid hl
  have HOF := Lib.hid hof
  clear hs ho hj hi hl hof
  obtain ⟨ok, hok⟩ : ∃ ok, leadsC os to = ok := ⟨_, rfl⟩
  have HE : RowKit.Hid (leadsB os to = ok) := Lib.hid (by rw [← leadsC_B]; exact hok)
  rw [hok]
  clear hok
  go_enter Try.func37, Try.ntmps37
  cases ok
  · go_wp2_with (first | ((with_reducible refine pre_load 23 _ rfl ?_); refine lO hp rfl (slot_tmp rfl) cell23 (HJ.out _) ?_ (hv := HSL.out); simp only [put_some, put_none, List.set_cons_succ, List.set_cons_zero]) | (go_at_call 31; (with_reducible refine (leads31 os oa oc hol HS.out to _ (HO.out.at hp (fun p hm => List.mem_cons_of_mem _ hm))).mono ?_); rintro e w1 ⟨rfl, hb⟩; rw [HE.out]; replace hp := hp.call hb; clear hb) | (go_at_call 17; (with_reducible refine (no17 _ _).mono ?_); rintro e w1 ⟨rfl, hb⟩; replace hp := hp.call hb; clear hb) | go_skip | ((first | ((with_reducible refine pre_alloc _ rfl ?_); refine lZ hp rfl zero34 ?_; clear hp; intro b w1 hp) | ((with_reducible refine pre_box _ _ rfl ?_); refine lB hp rfl (slot_tmp rfl) rfl ?_; clear hp; intro b w1 hp) | ((with_reducible refine pre_load _ _ rfl ?_); first | refine lO hp rfl (slot_tmp rfl) (by with_reducible first | exact cell3 | exact cell23) aa5 ?_ | refine lA hp rfl (slot_tmp rfl) (by with_reducible first | exact agg62 | exact agg34) aa5 ?_) | ((with_reducible refine pre_store _ _ _ rfl ?_); (first | refine sO hp rfl (slot_tmp rfl) (by with_reducible first | exact cell3 | exact cell23) aa5 ?_ | refine sA hp rfl (slot_tmp rfl) (slot_tmp rfl) (by with_reducible first | exact agg62 | exact agg34) aa5 ?_ | refine sG hp rfl (slot_tmp rfl) (slot_tmp rfl) (by with_reducible first | exact agg62 | exact agg34) aa5 ?_); clear hp; intro w1 hp; simp only [spl, List.set_cons_zero, List.set_cons_succ] at hp)); simp only [put_some, put_none, List.set_cons_succ, List.set_cons_zero]))
    exact bodyPost_ret (results_one (rs := [.cell 6 34]) Try.results37 (.cell rfl (hp.loadAgg agg34 at0 0 _ (by rfl) (by rfl)) .nil)) rfl (.inr ⟨rfl, rfl, hp.tail⟩)
  · go_wp2_with (first | ((with_reducible refine pre_load 23 _ rfl ?_); refine lO hp rfl (slot_tmp rfl) cell23 (HJ.out _) ?_ (hv := HSL.out); simp only [put_some, put_none, List.set_cons_succ, List.set_cons_zero]) | (go_at_call 31; (with_reducible refine (leads31 os oa oc hol HS.out to _ (HO.out.at hp (fun p hm => List.mem_cons_of_mem _ hm))).mono ?_); rintro e w1 ⟨rfl, hb⟩; rw [HE.out]; replace hp := hp.call hb; clear hb) | (go_at_call 17; (with_reducible refine (no17 _ _).mono ?_); rintro e w1 ⟨rfl, hb⟩; replace hp := hp.call hb; clear hb) | ((with_reducible refine pre_store 3 _ _ rfl ?_); refine sO hp rfl (slot_tmp rfl) cell3 (HI.out _) ?_ (hlen := HOF.out); clear hp; intro w1 hp; simp only [List.set_cons_succ] at hp; simp only [put_some, put_none, List.set_cons_succ, List.set_cons_zero]) | go_skip | ((first | ((with_reducible refine pre_alloc _ rfl ?_); refine lZ hp rfl zero34 ?_; clear hp; intro b w1 hp) | ((with_reducible refine pre_box _ _ rfl ?_); refine lB hp rfl (slot_tmp rfl) rfl ?_; clear hp; intro b w1 hp) | ((with_reducible refine pre_load _ _ rfl ?_); first | refine lO hp rfl (slot_tmp rfl) (by with_reducible first | exact cell3 | exact cell23) aa5 ?_ | refine lA hp rfl (slot_tmp rfl) (by with_reducible first | exact agg62 | exact agg34) aa5 ?_) | ((with_reducible refine pre_store _ _ _ rfl ?_); (first | refine sO hp rfl (slot_tmp rfl) (by with_reducible first | exact cell3 | exact cell23) aa5 ?_ | refine sA hp rfl (slot_tmp rfl) (slot_tmp rfl) (by with_reducible first | exact agg62 | exact agg34) aa5 ?_ | refine sG hp rfl (slot_tmp rfl) (slot_tmp rfl) (by with_reducible first | exact agg62 | exact agg34) aa5 ?_); clear hp; intro w1 hp; simp only [spl, List.set_cons_zero, List.set_cons_succ] at hp)); simp only [put_some, put_none, List.set_cons_succ, List.set_cons_zero]))
    exact bodyPost_ret (results_one (rs := [.cell 6 34]) Try.results37 (.cell rfl (hp.loadAgg agg34 at0 0 _ (by rfl) (by rfl)) .nil)) rfl (.inl ⟨rfl, rfl, hp.tail⟩)
end Go.Proofs.Ytcjbepaclbhjaaa

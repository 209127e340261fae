import Derived.Test.YtjcbpfbifbfkcaaGreatOaQC
/- The walks of New of states, the program's. -/
set_option linter.unusedSimpArgs false
set_option linter.unusedVariables false
namespace Go.Proofs.YtjcbpfbifbfkcaaGreat
open Go.RowKit
theorem gaHNewT0 {ty : TypeId} {k : Nat} (h : aggB Tryz.prog ty k = true := by with_reducible first | exact agg67 | exact agg64 | exact agg146) : aggB Tryz.prog ty k = true := h
theorem ceHNewT1 {ty : TypeId} (h : cellB Tryz.prog ty = true := by with_reducible first | exact cell3 | exact cell4 | exact cell60 | exact cell62 | exact cell65 | exact cell42) : cellB Tryz.prog ty = true := h
set_option maxRecDepth 100000 in
set_option maxHeartbeats 4000000 in
theorem news114_no (o : Int) (h : regionB o = false) (w : World) : Calls Tryz.prog 114 #[.int .i64 o] w (NewPostS w zeroHv 1) := by
  have hp := Hp.start w
  have K := Lib.hid (newh93_no o h)
  clear h
  go_enter Tryz.func114, Tryz.ntmps114
  go_wp2_with (first | (go_at_call 93; ((with_reducible refine (K.out _).mono ?_); rintro e w1 ⟨⟨od, oa, os, oc, nx, t0, t1, t2, t3, fa, fs, fc⟩, R, rfl, hsm, hk, hp5⟩; replace hp := hp.join hp5; have HSM := Lib.hid hsm; have HK := Lib.hid hk; clear hp5 hsm hk; simp only [List.cons_append, List.nil_append, hvL] at hp ⊢)) | go_skip | ((first | ((with_reducible refine pre_alloc _ rfl ?_); refine lZ hp rfl (by with_reducible first | exact zero67 | exact zero64) ?_; clear hp; intro b w1 hp) | ((with_reducible refine pre_box _ _ rfl ?_); refine lB hp rfl (slot_tmp rfl) rfl ?_; clear hp; intro b w1 hp) | ((with_reducible refine pre_load _ _ rfl ?_); first | refine lO hp rfl (slot_tmp rfl) ceHNewT1 aa14 ?_ | refine lA hp rfl (slot_tmp rfl) gaHNewT0 aa14 ?_) | ((with_reducible refine pre_store _ _ _ rfl ?_); (first | refine sO hp rfl (slot_tmp rfl) ceHNewT1 aa14 ?_ | refine sA hp rfl (slot_tmp rfl) (slot_tmp rfl) gaHNewT0 aa14 ?_ | refine sG hp rfl (slot_tmp rfl) (slot_tmp rfl) gaHNewT0 aa14 ?_); clear hp; intro w1 hp; simp only [spl, List.set_cons_zero, List.set_cons_succ] at hp) | ((with_reducible refine pre_build _ _ _ rfl ?_); refine lS hp rfl (by intro w; go_simp; rfl) ?_; clear hp; intro b w1 hp; simp only [List.length_cons, List.length_nil, Nat.reduceAdd] at hp)); simp only [put_some, put_none, List.set_cons_succ, List.set_cons_zero]))
  exact bodyPost_ret (results_many (rs := [.cell 2 67, .tmp 3]) Tryz.results114 (.cell rfl (hp.loadAgg agg67 at1 0 _ (by rfl) (by rfl)) (.tmp rfl .nil))) rfl ⟨⟨zeroHv, none, [], 0⟩, [], rfl, ⟨Hv.Sm.refl _, rfl⟩, (is_none.mono (fun _ h => h) (fun w h => ⟨h, RowIs.nil _ _⟩)), (hp.tail.tail).sub0⟩
set_option maxRecDepth 100000 in
set_option maxHeartbeats 4000000 in
theorem news114_yes (o : Int) (h : regionB o = true) (w : World) : Calls Tryz.prog 114 #[.int .i64 o] w (NewPostS w (oneHv o) 0) := by
  have hp := Hp.start w
  have K := Lib.hid (newh93_yes o h)
  clear h
  go_enter Tryz.func114, Tryz.ntmps114
  go_wp2_with (first | (go_at_call 93; ((with_reducible refine (K.out _).mono ?_); rintro e w1 ⟨⟨od, oa, os, oc, nx, t0, t1, t2, t3, fa, fs, fc⟩, R, rfl, hsm, hk, hp5⟩; replace hp := hp.join hp5; have HSM := Lib.hid hsm; have HK := Lib.hid hk; clear hp5 hsm hk; simp only [List.cons_append, List.nil_append, hvL] at hp ⊢)) | go_skip | ((first | ((with_reducible refine pre_alloc _ rfl ?_); refine lZ hp rfl (by with_reducible first | exact zero67 | exact zero64) ?_; clear hp; intro b w1 hp) | ((with_reducible refine pre_box _ _ rfl ?_); refine lB hp rfl (slot_tmp rfl) rfl ?_; clear hp; intro b w1 hp) | ((with_reducible refine pre_load _ _ rfl ?_); first | refine lO hp rfl (slot_tmp rfl) ceHNewT1 aa14 ?_ | refine lA hp rfl (slot_tmp rfl) gaHNewT0 aa14 ?_) | ((with_reducible refine pre_store _ _ _ rfl ?_); (first | refine sO hp rfl (slot_tmp rfl) ceHNewT1 aa14 ?_ | refine sA hp rfl (slot_tmp rfl) (slot_tmp rfl) gaHNewT0 aa14 ?_ | refine sG hp rfl (slot_tmp rfl) (slot_tmp rfl) gaHNewT0 aa14 ?_); clear hp; intro w1 hp; simp only [spl, List.set_cons_zero, List.set_cons_succ] at hp) | ((with_reducible refine pre_build _ _ _ rfl ?_); refine lS hp rfl (by intro w; go_simp; rfl) ?_; clear hp; intro b w1 hp; simp only [List.length_cons, List.length_nil, Nat.reduceAdd] at hp)); simp only [put_some, put_none, List.set_cons_succ, List.set_cons_zero]))
  exact bodyPost_ret (results_many (rs := [.cell 2 67, .tmp 3]) Tryz.results114 (.cell rfl (hp.loadAgg agg67 at1 0 _ (by rfl) (by rfl)) (.tmp rfl .nil))) rfl ⟨⟨⟨od, oa, os, oc, nx, t0, t1, t2, t3, fa, fs, fc⟩, none, [], 0⟩, R, rfl, ⟨HSM.out, rfl⟩, (HK.out.mono (fun _ h => h) (fun w h => ⟨h, RowIs.nil _ _⟩)), hp.tail.tail⟩
end Go.Proofs.YtjcbpfbifbfkcaaGreat

import Derived.Test.YtjcbpfbifbfkcaaGreatOaOH
import Derived.Test.YtjcbpfbifbfkcaaGreatOaXH
import Derived.Test.YtjcbpfbifbfkcaaGreatOaHNewT
/- The walk of New, and what the examples lay. -/
set_option linter.unusedSimpArgs false
set_option linter.unusedVariables false
namespace Go.Proofs.YtjcbpfbifbfkcaaGreat
open Go.RowKit
theorem gaOI0 {ty : TypeId} {k : Nat} (h : aggB Tryz.prog ty k = true := by with_reducible first | exact agg28 | exact agg67 | exact agg40 | exact agg38) : aggB Tryz.prog ty k = true := h
theorem ceOI1 {ty : TypeId} (h : cellB Tryz.prog ty = true := by with_reducible first | exact cell3 | exact cell4 | exact cell42) : cellB Tryz.prog ty = true := h
theorem zero40 : zeroL Tryz.prog 40 = some ([.int .i64 0, .int .i64 0, .int .i64 0, .int .i64 0, .string ⟨#[]⟩, .int .i64 0, .int .i64 0, .int .i64 0, .int .i64 0, .int .i64 0, .int .i64 0, .int .i64 0, .int .i64 0, .int .i64 0, .int .i64 0, .int .i64 0, .slice none 0 0], 17) := by kernel_rfl
def st3 : Sv := ⟨oneHv 3, none, [], 0⟩
def b36 : List Nat := stateB st3
theorem b36_bytes : Bytes b36 := by
  intro x hx
  have : b36 = [0, 0, 0, 28] ++ b28 ++ [0, 0, 0, 0] := rfl
  rw [this] at hx
  simp [b28] at hx
  omega
theorem st3_right : StR st3 := ⟨hright_of right_one3, rfl⟩
theorem stateR_36 : stateR b36 = some (clearS st3) := stateR_put st3_right ⟨(fun o ho => by cases ho), (fun r hr => by cases hr)⟩
def im3 : ByteArray := strOfNums (nI b36)
theorem strB_im3 : strB im3 = b36 := strB_of b36_bytes
theorem im3_size : im3.size = 36 := by rw [← strB_len, strB_im3]; rfl
theorem stateR_im3 : stateR (strB im3) = some (clearS st3) := by rw [strB_im3]; exact stateR_36
def GotSK (w : World) (e : Ending) (w' : World) : Prop := ∃ od oa os oc nx t0 t1 t2 t3 fa fs fc ra rs rc R, e = .returned (.tuple #[.agg #[.int .i64 od, .slice oa (List.length os) oc, .int .i64 nx, .int .i64 t0, .int .i64 t1, .int .i64 t2, .int .i64 t3, .slice fa (List.length fs) fc, .slice ra (List.length rs) rc], .int .i64 0]) ∧ Sv.Sm ⟨⟨od, oa, os, oc, nx, t0, t1, t2, t3, fa, fs, fc⟩, ra, rs, rc⟩ st3 ∧ Kept R (fun w => Sv.Is w ⟨⟨od, oa, os, oc, nx, t0, t1, t2, t3, fa, fs, fc⟩, ra, rs, rc⟩) ∧ Hp w.heap.size w w' R
theorem newt_3 (w : World) : Calls Tryz.prog 114 #[.int .i64 3] w (GotSK w) := by
  refine (news114_yes 3 rfl w).mono fun e w' h => ?_
  obtain ⟨y, R, h1, h2, h3, h4⟩ := h
  obtain ⟨⟨od, oa, os, oc, nx, t0, t1, t2, t3, fa, fs, fc⟩, ra, rs, rc⟩ := y
  exact ⟨od, oa, os, oc, nx, t0, t1, t2, t3, fa, fs, fc, ra, rs, rc, R, h1, h2, h3, h4⟩
theorem newt_9 (w : World) : Calls Tryz.prog 114 #[.int .i64 9] w fun e w' => ∃ od oa on oc nx t0 t1 t2 t3 fa fn fc ra rn rc R, e = .returned (.tuple #[.agg #[.int .i64 od, .slice oa on oc, .int .i64 nx, .int .i64 t0, .int .i64 t1, .int .i64 t2, .int .i64 t3, .slice fa fn fc, .slice ra rn rc], .int .i64 1]) ∧ Hp w.heap.size w w' R := by
  refine (news114_no 9 rfl w).mono fun e w' h => ?_
  obtain ⟨y, R, h1, h2, h3, h4⟩ := h
  obtain ⟨⟨od, oa, os, oc, nx, t0, t1, t2, t3, fa, fs, fc⟩, ra, rs, rc⟩ := y
  exact ⟨od, oa, _, oc, nx, t0, t1, t2, t3, fa, _, fc, ra, _, rc, R, h1, h4⟩
theorem puts_3 (od : Int) (oa : Option Addr) (os : List Ob) (oc : Nat) (nx t0 t1 t2 t3 : Int) (fa : Option Addr) (fs : List Bl) (fc : Nat) (ra : Option Addr) (rs : List Rw) (rc : Nat) (hsm : Sv.Sm ⟨⟨od, oa, os, oc, nx, t0, t1, t2, t3, fa, fs, fc⟩, ra, rs, rc⟩ st3) (w : World) (hx0 : Sv.Is w ⟨⟨od, oa, os, oc, nx, t0, t1, t2, t3, fa, fs, fc⟩, ra, rs, rc⟩) :
    Calls Tryz.prog 35 #[.agg #[.int .i64 od, .slice oa os.length oc, .int .i64 nx, .int .i64 t0, .int .i64 t1, .int .i64 t2, .int .i64 t3, .slice fa fs.length fc, .slice ra rs.length rc]] w fun e w' => ∃ a c R, e = .returned (.tuple #[.slice a 36 c, .int .i64 0]) ∧ Kept R (fun w => RowIs w a (b36.flatMap byV)) ∧ Hp w.heap.size w w' R := by
  have hb : stB ⟨⟨od, oa, os, oc, nx, t0, t1, t2, t3, fa, fs, fc⟩, ra, rs, rc⟩ = true := (stB_sm hsm).trans (st_yes st3_right)
  have h := puts35_yes _ hb w hx0
  rw [stateB_sm hsm] at h
  refine h.mono fun e w' h => ?_
  obtain ⟨a, c, R, h1, h2, h3⟩ := h
  exact ⟨a, c, R, h1, h2.keptS, h3⟩
set_option maxRecDepth 100000 in
set_option maxHeartbeats 8000000 in
theorem newo_3 (w : World) : Calls Tryz.prog 64 #[.int .i64 3] w fun e w' => e = .returned (.tuple #[.agg #[.int .i64 0, .int .i64 0, .int .i64 0, .string im3, .slice none 0 0], .int .i64 0]) ∧ Below w.heap.size w w' := by
  have hp := Hp.start w
  have HNI : RowKit.Hid ((nI b36).length = 36) := Lib.hid (by rw [nI_len]; rfl)
  go_enter Tryz.func64, Tryz.ntmps64
  go_wp2_with (first | (go_at_call 114; (with_reducible refine (newt_3 _).mono ?_); rintro e w1 ⟨od, oa, os, oc, nx, t0, t1, t2, t3, fa, fs, fc, ra, rs, rc, RN, rfl, hsm, hk, hpn⟩; replace hp := hp.join hpn; have HSM := Lib.hid hsm; have HK := Lib.hid hk; clear hpn hsm hk; simp only [List.cons_append, List.nil_append] at hp) | (go_at_call 35; (with_reducible refine (puts_3 od oa os oc nx t0 t1 t2 t3 fa fs fc ra rs rc HSM.out _ (HK.out.at hp (fun p hm => by simp [hm]))).mono ?_); rintro e w1 ⟨ab, cb, RB, rfl, hkb, hpn⟩; replace hp := hp.join hpn; have HKB := Lib.hid hkb; clear hpn hkb; simp only [List.cons_append, List.nil_append] at hp) | ((with_reducible refine pre_convert _ _ _ rfl ?_); refine wpList_conv_row 74 9 5 _ rfl wy Tryz.underlying74 Tryz.underlying5 Tryz.underlying9 ab 36 cb (slot_tmp rfl) (nI b36) HNI.out (by rw [nI_cells]; exact HKB.out.at hp (by intro p hp2; simp [hp2])) ?_; simp only [put_some, put_none, List.set_cons_succ, List.set_cons_zero]) | go_skip | ((first | ((with_reducible refine pre_alloc _ rfl ?_); refine lZ hp rfl (by with_reducible first | exact zero28 | exact zero67 | exact zero40 | exact zero38) ?_; clear hp; intro b w1 hp) | ((with_reducible refine pre_box _ _ rfl ?_); refine lB hp rfl (slot_tmp rfl) rfl ?_; clear hp; intro b w1 hp) | ((with_reducible refine pre_load _ _ rfl ?_); first | refine lO hp rfl (slot_tmp rfl) ceOI1 aa5 ?_ | refine lA hp rfl (slot_tmp rfl) gaOI0 aa5 ?_) | ((with_reducible refine pre_store _ _ _ rfl ?_); (first | refine sO hp rfl (slot_tmp rfl) ceOI1 aa5 ?_ | refine sA hp rfl (slot_tmp rfl) (slot_tmp rfl) gaOI0 aa5 ?_ | refine sG hp rfl (slot_tmp rfl) (slot_tmp rfl) gaOI0 aa5 ?_); clear hp; intro w1 hp; simp only [spl, List.set_cons_zero, List.set_cons_succ] at hp)); simp only [put_some, put_none, List.set_cons_succ, List.set_cons_zero]))
  exact bodyPost_ret (results_many (rs := [.cell 2 28, .tmp 3]) Tryz.results64 (.cell rfl (hp.loadAgg agg28 at1 0 _ (by rfl) (by rfl)) (.tmp rfl .nil))) rfl ⟨rfl, hp.below⟩
set_option maxRecDepth 100000 in
set_option maxHeartbeats 8000000 in
theorem newo_9 (w : World) : Calls Tryz.prog 64 #[.int .i64 9] w fun e w' => e = .returned (.tuple #[.agg #[.int .i64 0, .int .i64 0, .int .i64 0, .string ⟨#[]⟩, .slice none 0 0], .int .i64 1]) ∧ Below w.heap.size w w' := by
  have hp := Hp.start w
  go_enter Tryz.func64, Tryz.ntmps64
  go_wp2_with (first | (go_at_call 114; (with_reducible refine (newt_9 _).mono ?_); rintro e w1 ⟨od, oa, on, oc, nx, t0, t1, t2, t3, fa, fn, fc, ra, rn, rc, RN, rfl, hpn⟩; replace hp := hp.join hpn; clear hpn; simp only [List.cons_append, List.nil_append] at hp) | go_skip | ((first | ((with_reducible refine pre_alloc _ rfl ?_); refine lZ hp rfl (by with_reducible first | exact zero28 | exact zero67 | exact zero40 | exact zero38) ?_; clear hp; intro b w1 hp) | ((with_reducible refine pre_box _ _ rfl ?_); refine lB hp rfl (slot_tmp rfl) rfl ?_; clear hp; intro b w1 hp) | ((with_reducible refine pre_load _ _ rfl ?_); first | refine lO hp rfl (slot_tmp rfl) ceOI1 aa5 ?_ | refine lA hp rfl (slot_tmp rfl) gaOI0 aa5 ?_) | ((with_reducible refine pre_store _ _ _ rfl ?_); (first | refine sO hp rfl (slot_tmp rfl) ceOI1 aa5 ?_ | refine sA hp rfl (slot_tmp rfl) (slot_tmp rfl) gaOI0 aa5 ?_ | refine sG hp rfl (slot_tmp rfl) (slot_tmp rfl) gaOI0 aa5 ?_); clear hp; intro w1 hp; simp only [spl, List.set_cons_zero, List.set_cons_succ] at hp)); simp only [put_some, put_none, List.set_cons_succ, List.set_cons_zero]))
  exact bodyPost_ret (results_many (rs := [.cell 2 28, .tmp 3]) Tryz.results64 (.cell rfl (hp.loadAgg agg28 at1 0 _ (by rfl) (by rfl)) (.tmp rfl .nil))) rfl ⟨rfl, hp.below⟩
theorem entry66 (n : Int) (w : World) : Calls Tryz.prog 66 #[.int .i64 n] w fun e w' => e = .returned (.agg #[.int .i64 n, .int .i64 0, .int .i64 0, .int .i64 0, .int .i64 0, .int .i64 0, .int .i64 0, .int .i64 0, .int .i64 0, .int .i64 0, .int .i64 0]) ∧ Below w.heap.size w w' := by
  have hp := Hp.start w
  go_enter Tryz.func66, Tryz.ntmps66
  go_wp2_with (first | go_skip | ((first | ((with_reducible refine pre_alloc _ rfl ?_); refine lZ hp rfl (by with_reducible first | exact zero28 | exact zero67 | exact zero40 | exact zero38) ?_; clear hp; intro b w1 hp) | ((with_reducible refine pre_box _ _ rfl ?_); refine lB hp rfl (slot_tmp rfl) rfl ?_; clear hp; intro b w1 hp) | ((with_reducible refine pre_load _ _ rfl ?_); first | refine lO hp rfl (slot_tmp rfl) ceOI1 aa5 ?_ | refine lA hp rfl (slot_tmp rfl) gaOI0 aa5 ?_) | ((with_reducible refine pre_store _ _ _ rfl ?_); (first | refine sO hp rfl (slot_tmp rfl) ceOI1 aa5 ?_ | refine sA hp rfl (slot_tmp rfl) (slot_tmp rfl) gaOI0 aa5 ?_ | refine sG hp rfl (slot_tmp rfl) (slot_tmp rfl) gaOI0 aa5 ?_); clear hp; intro w1 hp; simp only [spl, List.set_cons_zero, List.set_cons_succ] at hp)); simp only [put_some, put_none, List.set_cons_succ, List.set_cons_zero]))
  exact bodyPost_ret (results_one (rs := [.cell 2 38]) Tryz.results66 (.cell rfl (hp.loadAgg agg38 at0 0 _ (by rfl) (by rfl)) .nil)) rfl ⟨rfl, hp.below⟩
theorem laid65 (n : Int) (w : World) : Calls Tryz.prog 65 #[.int .i64 n] w fun e w' => e = .returned (.agg #[.int .i64 2, .int .i64 0, .int .i64 0, .int .i64 0, .string ⟨#[]⟩, .int .i64 n, .int .i64 0, .int .i64 0, .int .i64 0, .int .i64 0, .int .i64 0, .int .i64 0, .int .i64 0, .int .i64 0, .int .i64 0, .int .i64 0, .slice none 0 0]) ∧ Below w.heap.size w w' := by
  have hp := Hp.start w
  go_enter Tryz.func65, Tryz.ntmps65
  go_wp2_with (first | (go_at_call 66; (with_reducible refine (entry66 _ _).mono ?_); rintro e w1 ⟨rfl, hb⟩; replace hp := hp.call hb; clear hb) | go_skip | ((first | ((with_reducible refine pre_alloc _ rfl ?_); refine lZ hp rfl (by with_reducible first | exact zero28 | exact zero67 | exact zero40 | exact zero38) ?_; clear hp; intro b w1 hp) | ((with_reducible refine pre_box _ _ rfl ?_); refine lB hp rfl (slot_tmp rfl) rfl ?_; clear hp; intro b w1 hp) | ((with_reducible refine pre_load _ _ rfl ?_); first | refine lO hp rfl (slot_tmp rfl) ceOI1 aa5 ?_ | refine lA hp rfl (slot_tmp rfl) gaOI0 aa5 ?_) | ((with_reducible refine pre_store _ _ _ rfl ?_); (first | refine sO hp rfl (slot_tmp rfl) ceOI1 aa5 ?_ | refine sA hp rfl (slot_tmp rfl) (slot_tmp rfl) gaOI0 aa5 ?_ | refine sG hp rfl (slot_tmp rfl) (slot_tmp rfl) gaOI0 aa5 ?_); clear hp; intro w1 hp; simp only [spl, List.set_cons_zero, List.set_cons_succ] at hp)); simp only [put_some, put_none, List.set_cons_succ, List.set_cons_zero]))
  exact bodyPost_ret (results_one (rs := [.cell 2 40]) Tryz.results65 (.cell rfl (hp.loadAgg agg40 at0 0 _ (by rfl) (by rfl)) .nil)) rfl ⟨rfl, hp.below⟩
end Go.Proofs.YtjcbpfbifbfkcaaGreat

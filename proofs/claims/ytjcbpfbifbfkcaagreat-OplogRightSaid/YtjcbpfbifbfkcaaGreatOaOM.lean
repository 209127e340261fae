import Derived.Test.YtjcbpfbifbfkcaaGreatOaOK
import Derived.Test.YtjcbpfbifbfkcaaGreatOaOL
/- The walk of the law OplogRight. -/
set_option linter.unusedSimpArgs false
set_option linter.unusedVariables false
namespace Go.Proofs.YtjcbpfbifbfkcaaGreat
open Go.RowKit
theorem ceOM0 {ty : TypeId} (h : cellB Tryz.prog ty = true := by with_reducible first | exact cell3 | exact cell4 | exact cell23 | exact cell9) : cellB Tryz.prog ty = true := h
theorem ceOM1 {ty : TypeId} (h : cellB Tryz.prog ty = true := by with_reducible first | exact cell3 | exact cell4 | exact cell23 | exact cell9 | exact cell42 | exact cell33) : cellB Tryz.prog ty = true := h
theorem gaOM2 {ty : TypeId} {k : Nat} (h : aggB Tryz.prog ty k = true := by with_reducible first | exact agg28 | exact agg40 | exact agg38) : aggB Tryz.prog ty k = true := h
def BigP (w : World) (n m p q : Nat) (e : Ending) (w' : World) : Prop := ∃ bb, e = .returned (.bool bb) ∧ (bb = false → n ≤ 300 ∧ m ≤ 300 ∧ p ≤ 100000 ∧ q ≤ 100000) ∧ Below w.heap.size w w'
set_option maxRecDepth 100000 in
theorem big18 (vw nm bs : Int) (im : ByteArray) (ea : Option Addr) (es : List Env) (ec : Nat) (kd rv rf rn : Int) (rim : ByteArray) (nu vi cl sq kk hh ii nn cc vv tt : Int) (ra : Option Addr) (rs : List Env) (rc : Nat) (w : World) : Calls Tryz.prog 18 #[.agg #[.int .i64 vw, .int .i64 nm, .int .i64 bs, .string im, .slice ea es.length ec], .agg #[.int .i64 kd, .int .i64 rv, .int .i64 rf, .int .i64 rn, .string rim, .int .i64 nu, .int .i64 vi, .int .i64 cl, .int .i64 sq, .int .i64 kk, .int .i64 hh, .int .i64 ii, .int .i64 nn, .int .i64 cc, .int .i64 vv, .int .i64 tt, .slice ra rs.length rc]] w (BigP w es.length rs.length im.size rim.size) := by
  have hp := Hp.start w
  by_cases h1 : es.length ≤ 300
  · have e1 : decide ((300 : Int) < (es.length : Int)) = false := by simp; omega
    by_cases h2 : rs.length ≤ 300
    · have e2 : decide ((300 : Int) < (rs.length : Int)) = false := by simp; omega
      by_cases h3 : im.size ≤ 100000
      · have e3 : decide ((100000 : Int) < (im.size : Int)) = false := by simp; omega
        by_cases h4 : rim.size ≤ 100000
        · have e4 : decide ((100000 : Int) < (rim.size : Int)) = false := by simp; omega
          go_enter Tryz.func18, Tryz.ntmps18
          go_wp2_with (first | go_skip | ((first | ((with_reducible refine pre_box _ _ rfl ?_); refine lB hp rfl (slot_tmp rfl) rfl ?_; clear hp; intro b w1 hp) | ((with_reducible refine pre_load _ _ rfl ?_); first | refine lO hp rfl (slot_tmp rfl) ceOM0 aa5 ?_ | refine lA hp rfl (slot_tmp rfl) (by with_reducible first | exact agg28 | exact agg40) aa5 ?_) | ((with_reducible refine pre_store _ _ _ rfl ?_); (first | refine sO hp rfl (slot_tmp rfl) ceOM0 aa5 ?_ | refine sA hp rfl (slot_tmp rfl) (slot_tmp rfl) (by with_reducible first | exact agg28 | exact agg40) aa5 ?_ | refine sG hp rfl (slot_tmp rfl) (slot_tmp rfl) (by with_reducible first | exact agg28 | exact agg40) aa5 ?_); clear hp; intro w1 hp; simp only [spl, List.set_cons_zero, List.set_cons_succ] at hp)); simp only [put_some, put_none, List.set_cons_succ, List.set_cons_zero]))
          go_ret
          exact ⟨_, rfl, fun _ => ⟨h1, h2, h3, h4⟩, hp.below⟩
        · have e4 : decide ((100000 : Int) < (rim.size : Int)) = true := by simp; omega
          go_enter Tryz.func18, Tryz.ntmps18
          go_wp2_with (first | go_skip | ((first | ((with_reducible refine pre_box _ _ rfl ?_); refine lB hp rfl (slot_tmp rfl) rfl ?_; clear hp; intro b w1 hp) | ((with_reducible refine pre_load _ _ rfl ?_); first | refine lO hp rfl (slot_tmp rfl) ceOM0 aa5 ?_ | refine lA hp rfl (slot_tmp rfl) (by with_reducible first | exact agg28 | exact agg40) aa5 ?_) | ((with_reducible refine pre_store _ _ _ rfl ?_); (first | refine sO hp rfl (slot_tmp rfl) ceOM0 aa5 ?_ | refine sA hp rfl (slot_tmp rfl) (slot_tmp rfl) (by with_reducible first | exact agg28 | exact agg40) aa5 ?_ | refine sG hp rfl (slot_tmp rfl) (slot_tmp rfl) (by with_reducible first | exact agg28 | exact agg40) aa5 ?_); clear hp; intro w1 hp; simp only [spl, List.set_cons_zero, List.set_cons_succ] at hp)); simp only [put_some, put_none, List.set_cons_succ, List.set_cons_zero]))
          go_ret
          exact ⟨true, rfl, fun h => (by cases h), hp.below⟩
      · have e3 : decide ((100000 : Int) < (im.size : Int)) = true := by simp; omega
        go_enter Tryz.func18, Tryz.ntmps18
        go_wp2_with (first | go_skip | ((first | ((with_reducible refine pre_box _ _ rfl ?_); refine lB hp rfl (slot_tmp rfl) rfl ?_; clear hp; intro b w1 hp) | ((with_reducible refine pre_load _ _ rfl ?_); first | refine lO hp rfl (slot_tmp rfl) ceOM0 aa5 ?_ | refine lA hp rfl (slot_tmp rfl) (by with_reducible first | exact agg28 | exact agg40) aa5 ?_) | ((with_reducible refine pre_store _ _ _ rfl ?_); (first | refine sO hp rfl (slot_tmp rfl) ceOM0 aa5 ?_ | refine sA hp rfl (slot_tmp rfl) (slot_tmp rfl) (by with_reducible first | exact agg28 | exact agg40) aa5 ?_ | refine sG hp rfl (slot_tmp rfl) (slot_tmp rfl) (by with_reducible first | exact agg28 | exact agg40) aa5 ?_); clear hp; intro w1 hp; simp only [spl, List.set_cons_zero, List.set_cons_succ] at hp)); simp only [put_some, put_none, List.set_cons_succ, List.set_cons_zero]))
        go_ret
        exact ⟨true, rfl, fun h => (by cases h), hp.below⟩
    · have e2 : decide ((300 : Int) < (rs.length : Int)) = true := by simp; omega
      go_enter Tryz.func18, Tryz.ntmps18
      go_wp2_with (first | go_skip | ((first | ((with_reducible refine pre_box _ _ rfl ?_); refine lB hp rfl (slot_tmp rfl) rfl ?_; clear hp; intro b w1 hp) | ((with_reducible refine pre_load _ _ rfl ?_); first | refine lO hp rfl (slot_tmp rfl) ceOM0 aa5 ?_ | refine lA hp rfl (slot_tmp rfl) (by with_reducible first | exact agg28 | exact agg40) aa5 ?_) | ((with_reducible refine pre_store _ _ _ rfl ?_); (first | refine sO hp rfl (slot_tmp rfl) ceOM0 aa5 ?_ | refine sA hp rfl (slot_tmp rfl) (slot_tmp rfl) (by with_reducible first | exact agg28 | exact agg40) aa5 ?_ | refine sG hp rfl (slot_tmp rfl) (slot_tmp rfl) (by with_reducible first | exact agg28 | exact agg40) aa5 ?_); clear hp; intro w1 hp; simp only [spl, List.set_cons_zero, List.set_cons_succ] at hp)); simp only [put_some, put_none, List.set_cons_succ, List.set_cons_zero]))
      go_ret
      exact ⟨true, rfl, fun h => (by cases h), hp.below⟩
  · have e1 : decide ((300 : Int) < (es.length : Int)) = true := by simp; omega
    go_enter Tryz.func18, Tryz.ntmps18
    go_wp2_with (first | go_skip | ((first | ((with_reducible refine pre_box _ _ rfl ?_); refine lB hp rfl (slot_tmp rfl) rfl ?_; clear hp; intro b w1 hp) | ((with_reducible refine pre_load _ _ rfl ?_); first | refine lO hp rfl (slot_tmp rfl) ceOM0 aa5 ?_ | refine lA hp rfl (slot_tmp rfl) (by with_reducible first | exact agg28 | exact agg40) aa5 ?_) | ((with_reducible refine pre_store _ _ _ rfl ?_); (first | refine sO hp rfl (slot_tmp rfl) ceOM0 aa5 ?_ | refine sA hp rfl (slot_tmp rfl) (slot_tmp rfl) (by with_reducible first | exact agg28 | exact agg40) aa5 ?_ | refine sG hp rfl (slot_tmp rfl) (slot_tmp rfl) (by with_reducible first | exact agg28 | exact agg40) aa5 ?_); clear hp; intro w1 hp; simp only [spl, List.set_cons_zero, List.set_cons_succ] at hp)); simp only [put_some, put_none, List.set_cons_succ, List.set_cons_zero]))
    go_ret
    exact ⟨true, rfl, fun h => (by cases h), hp.below⟩
theorem fold_nL (vw nm bs : Int) (im : ByteArray) (ea : Option Addr) (es : List Env) (ec : Nat) (kd rv rf rn : Int) (rim : ByteArray) (nu vi cl sq kk hh ii nn cc vv tt : Int) (ra : Option Addr) (rs : List Env) (rc : Nat) (c0 : Int) (y : Kv) (hc : c0 ≠ 0) (hr : foldO ⟨vw, nm, bs, im, ea, es, ec⟩ ⟨kd, rv, rf, rn, rim, ⟨nu, vi, cl, sq, ⟨kk, hh, ii, nn, cc, vv, tt⟩⟩, ra, rs, rc⟩ = (c0, y)) (hes : es.length ≤ 1500) (him : im.size ≤ 1000000) (hrs : rs.length ≤ 1500) (hrc : rs.length ≤ rc) (hri : rim.size ≤ 1000000) (w : World) (ha : RowIs w ea (es.flatMap envL)) (hra : RowIs w ra (rs.flatMap envL)) : Calls Tryz.prog 19 #[.agg #[.int .i64 vw, .int .i64 nm, .int .i64 bs, .string im, .slice ea es.length ec], .agg #[.int .i64 kd, .int .i64 rv, .int .i64 rf, .int .i64 rn, .string rim, .int .i64 nu, .int .i64 vi, .int .i64 cl, .int .i64 sq, .int .i64 kk, .int .i64 hh, .int .i64 ii, .int .i64 nn, .int .i64 cc, .int .i64 vv, .int .i64 tt, .slice ra rs.length rc]] w fun e w' => e = .returned (.tuple #[.agg #[.int .i64 0, .int .i64 0, .int .i64 0, .string ⟨#[]⟩, .slice none 0 0], .int .i64 c0]) ∧ Below w.heap.size w w' :=
  fold_n vw nm bs im ea es _ ec rfl kd rv rf rn rim nu vi cl sq kk hh ii nn cc vv tt ra rs _ rc rfl c0 y hc hr hes him hrs hrc hri w ha hra
theorem fold_yL (vw nm bs : Int) (im : ByteArray) (ea : Option Addr) (es : List Env) (ec : Nat) (kd rv rf rn : Int) (rim : ByteArray) (nu vi cl sq kk hh ii nn cc vv tt : Int) (ra : Option Addr) (rs : List Env) (rc : Nat) (vw' nm' bs' : Int) (im' : ByteArray) (es' : List Env) (a0 : Option Addr) (c0 : Nat) (hr : foldO ⟨vw, nm, bs, im, ea, es, ec⟩ ⟨kd, rv, rf, rn, rim, ⟨nu, vi, cl, sq, ⟨kk, hh, ii, nn, cc, vv, tt⟩⟩, ra, rs, rc⟩ = (0, ⟨vw', nm', bs', im', a0, es', c0⟩)) (hes : es.length ≤ 1500) (him : im.size ≤ 1000000) (hrs : rs.length ≤ 1500) (hrc : rs.length ≤ rc) (hri : rim.size ≤ 1000000) (w : World) (ha : RowIs w ea (es.flatMap envL)) (hra : RowIs w ra (rs.flatMap envL)) : Calls Tryz.prog 19 #[.agg #[.int .i64 vw, .int .i64 nm, .int .i64 bs, .string im, .slice ea es.length ec], .agg #[.int .i64 kd, .int .i64 rv, .int .i64 rf, .int .i64 rn, .string rim, .int .i64 nu, .int .i64 vi, .int .i64 cl, .int .i64 sq, .int .i64 kk, .int .i64 hh, .int .i64 ii, .int .i64 nn, .int .i64 cc, .int .i64 vv, .int .i64 tt, .slice ra rs.length rc]] w fun e w' => ∃ a c R, e = .returned (.tuple #[.agg #[.int .i64 vw', .int .i64 nm', .int .i64 bs', .string im', .slice a es'.length c], .int .i64 0]) ∧ es'.length ≤ c ∧ SubRow 38 11 (.slice a es'.length c) es'.length (es'.flatMap envL) R ∧ Hp w.heap.size w w' R :=
  fold_y vw nm bs im ea es _ ec rfl kd rv rf rn rim nu vi cl sq kk hh ii nn cc vv tt ra rs _ rc rfl vw' nm' bs' im' es' _ rfl a0 c0 hr hes him hrs hrc hri w ha hra
theorem made_im {x y : Kv} {r : Rv} {c : Int} (h : madeK x r = (c, y)) : y.im = x.im ∨ y.im = r.im := by
  unfold madeK at h
  repeat' split at h
  all_goals (injection h with _ h; subst h; first | exact .inl rfl | exact .inr rfl)
set_option maxRecDepth 100000 in
set_option maxHeartbeats 16000000 in
theorem law4 (vw nm bs : Int) (im : ByteArray) (ea : Option Addr) (es : List Env) (ec : Nat) (kd rv rf rn : Int) (rim : ByteArray) (nu vi cl sq kk hh ii nn cc vv tt : Int) (ra : Option Addr) (rs : List Env) (rc : Nat) (hec : es.length ≤ ec) (hrc : rs.length ≤ rc) (w : World) (ha : RowIs w ea (es.flatMap envL)) (hra : RowIs w ra (rs.flatMap envL)) :
    Calls Tryz.prog 4 #[.agg #[.int .i64 vw, .int .i64 nm, .int .i64 bs, .string im, .slice ea es.length ec], .agg #[.int .i64 kd, .int .i64 rv, .int .i64 rf, .int .i64 rn, .string rim, .int .i64 nu, .int .i64 vi, .int .i64 cl, .int .i64 sq, .int .i64 kk, .int .i64 hh, .int .i64 ii, .int .i64 nn, .int .i64 cc, .int .i64 vv, .int .i64 tt, .slice ra rs.length rc]] w fun e w' => e = .returned (.bool true) ∧ Below w.heap.size w w' := by
  have hp := Hp.start w
  have HA := Lib.hid ha
  have HRA := Lib.hid hra
  have HEC := Lib.hid hec
  have HRC := Lib.hid hrc
  obtain ⟨⟨c, ⟨vw', nm', bs', im', ea', es', ec'⟩⟩, hk⟩ : ∃ p, foldO ⟨vw, nm, bs, im, ea, es, ec⟩ ⟨kd, rv, rf, rn, rim, ⟨nu, vi, cl, sq, ⟨kk, hh, ii, nn, cc, vv, tt⟩⟩, ra, rs, rc⟩ = p := ⟨_, rfl⟩
  have HFK := Lib.hid hk
  clear ha hra hec hrc
  go_enter Tryz.func4, Tryz.ntmps4
  go_wp2_with (first | (go_at_call 18; (with_reducible refine (big18 vw nm bs im ea es ec kd rv rf rn rim nu vi cl sq kk hh ii nn cc vv tt ra rs rc _).mono ?_); rintro e w1 ⟨bb, rfl, hbb, hb⟩; replace hp := hp.call hb; clear hb; cases bb) | go_skip | ((first | ((with_reducible refine pre_alloc _ rfl ?_); refine lZ hp rfl zero28 ?_; clear hp; intro b w1 hp) | ((with_reducible refine pre_box _ _ rfl ?_); refine lB hp rfl (slot_tmp rfl) rfl ?_; clear hp; intro b w1 hp) | ((with_reducible refine pre_load _ _ rfl ?_); first | refine lO hp rfl (slot_tmp rfl) ceOM1 aa5 ?_ | refine lA hp rfl (slot_tmp rfl) (by with_reducible first | exact agg28 | exact agg40) aa5 ?_) | ((with_reducible refine pre_store _ _ _ rfl ?_); (first | refine sO hp rfl (slot_tmp rfl) ceOM1 aa5 ?_ | refine sA hp rfl (slot_tmp rfl) (slot_tmp rfl) (by with_reducible first | exact agg28 | exact agg40) aa5 ?_ | refine sG hp rfl (slot_tmp rfl) (slot_tmp rfl) (by with_reducible first | exact agg28 | exact agg40) aa5 ?_); clear hp; intro w1 hp; simp only [spl, List.set_cons_zero, List.set_cons_succ] at hp)); simp only [put_some, put_none, List.set_cons_succ, List.set_cons_zero]))
  · obtain ⟨s1, s3, s2, s4⟩ := hbb (by first | rfl | trivial)
    clear hbb
    have HS1 : RowKit.Hid (es.length ≤ 1500) := Lib.hid (by omega)
    have HS2 : RowKit.Hid (im.size ≤ 1000000) := Lib.hid (by omega)
    have HS3 : RowKit.Hid (rs.length ≤ 1500) := Lib.hid (by omega)
    have HS4 : RowKit.Hid (rim.size ≤ 1000000) := Lib.hid (by omega)
    clear s1 s2 s3 s4
    by_cases hc : c = 0
    · subst hc
      obtain ⟨g1, g2, g3, g4, g5⟩ := right_law hk
      have hfy := ok_facts g2
      have hfx := ok_facts g1
      simp only at g3 g4 hfy hfx
      have HB := Lib.hid g1
      have HBY : RowKit.Hid (∀ a c, okC ⟨vw', nm', bs', im', a, es', c⟩ = true) := Lib.hid (fun a c => by rw [← g2]; exact okC_sm ⟨rfl, rfl, rfl, rfl, rfl⟩)
      have HSX : RowKit.Hid (Kv.Small ⟨vw, nm, bs, im, ea, es, ec⟩) := Lib.hid ⟨by simp only; have := HS1.out; omega, HS2.out⟩
      have himy : im'.size ≤ 1000000 := by
        have h := made_im (foldO_facts hk).2.2
        simp only at h
        rcases h with h | h
        · rw [h]; exact HS2.out
        · rw [h]; exact HS4.out
      have HSY : RowKit.Hid (∀ a c, Kv.Small ⟨vw', nm', bs', im', a, es', c⟩) := Lib.hid (fun a c => ⟨by simp only; omega, himy⟩)
      have e0 : wrap64 (bs + es.length) = bs + es.length := by unfold wrap64; have := HS1.out; omega
      have e1 : decide (vw' < vw) = false := by simp; omega
      have e2 : decide (nm' < nm) = false := by simp; omega
      have HN1 : RowKit.Hid (-1000000000 ≤ bs') := Lib.hid (by omega)
      obtain ⟨la, hla⟩ : ∃ la, abvC ⟨vw, nm, bs, im, ea, es, ec⟩ bs' 4000 = la := ⟨_, rfl⟩
      have hlb : ∀ a c, abvC ⟨vw', nm', bs', im', a, es', c⟩ bs' 4000 = es' := fun a c => by
        rw [abv_all (HBY.out a c) (Int.le_refl _), Int.sub_self]; rfl
      have HLA := Lib.hid hla
      have HLB := Lib.hid hlb
      have hlal : la.length ≤ 100000 := by
        have := HS1.out
        rw [← hla]; unfold abvC; split
        · simp
        · rw [List.length_take, List.length_drop]; omega
      rw [hla, hlb] at g5
      have HG5 := Lib.hid g5
      clear hk g1 g2 g3 g4 g5 hfy hfx himy hla hlb
      by_cases k3 : kd = 3
      · have e3 : (kd == 3) = true := by simpa using k3
        have e5 : (kd == 5) = false := by rw [k3]; rfl
        have HST : RowKit.Hid (stayK ⟨vw, nm, bs, im, ea, es, ec⟩ ⟨kd, rv, rf, rn, rim, ⟨nu, vi, cl, sq, ⟨kk, hh, ii, nn, cc, vv, tt⟩⟩, ra, rs, rc⟩ = rf) := Lib.hid (by unfold stayK; simp only; rw [if_neg (by rw [k3]; decide), if_pos k3])
        clear k3
        go_wp2_with (first | (go_at_call 19; (with_reducible refine (fold_yL vw nm bs im ea es ec kd rv rf rn rim nu vi cl sq kk hh ii nn cc vv tt ra rs rc vw' nm' bs' im' es' _ _ HFK.out HS1.out HS2.out HS3.out HRC.out HS4.out _ (HA.out.below hp.below) (HRA.out.below hp.below)).mono ?_); rintro e w1 ⟨ax, cx, RX, rfl, hcx, hrx, hpn⟩; replace hp := hp.join hpn; have HCX := Lib.hid hcx; have HRX := Lib.hid hrx; clear hpn hcx hrx; simp only [List.cons_append, List.nil_append, List.append_assoc] at hp) | (go_at_call 21; (with_reducible refine (check21L vw nm bs im ea es ec _ HB.out HSX.out _ (HA.out.below hp.below)).mono ?_); rintro e w1 ⟨rfl, hb⟩; replace hp := hp.call hb; clear hb; simp only [if_true]) | (go_at_call 21; (with_reducible refine (check21L vw' nm' bs' im' ax es' cx _ (HBY.out _ _) (HSY.out _ _) _ (HRX.out.keptS.at hp (fun p hm => by simp [hm]))).mono ?_); rintro e w1 ⟨rfl, hb⟩; replace hp := hp.call hb; clear hb; simp only [if_true]) | (go_at_call 22; (with_reducible refine (last22L vw nm bs im ea es ec _ HB.out HSX.out _ (HA.out.below hp.below)).mono ?_); rintro e w1 ⟨rfl, hb⟩; replace hp := hp.call hb; clear hb; simp only [if_true]) | (go_at_call 23; (with_reducible refine (above23L vw nm bs im ea es ec bs' 4000 la HB.out HLA.out HSX.out HEC.out HN1.out _ (HA.out.below hp.below)).mono ?_); rintro e w1 ⟨aa, ca, RA, rfl, _, hra, hpn⟩; replace hp := hp.join hpn; have HRL := Lib.hid hra; clear hpn hra; simp only [List.cons_append, List.nil_append, List.append_assoc] at hp) | (go_at_call 23; (with_reducible refine (above23L vw' nm' bs' im' ax es' cx bs' 4000 es' (HBY.out _ _) (HLB.out _ _) (HSY.out _ _) HCX.out HN1.out _ (HRX.out.keptS.at hp (fun p hm => by simp [hm]))).mono ?_); rintro e w1 ⟨ab, cb, RB, rfl, _, hrb, hpn⟩; replace hp := hp.join hpn; have HRM := Lib.hid hrb; clear hpn hrb; simp only [List.cons_append, List.nil_append, List.append_assoc] at hp) | go_skip | ((first | ((with_reducible refine pre_alloc _ rfl ?_); refine lZ hp rfl zero28 ?_; clear hp; intro b w1 hp) | ((with_reducible refine pre_box _ _ rfl ?_); refine lB hp rfl (slot_tmp rfl) rfl ?_; clear hp; intro b w1 hp) | ((with_reducible refine pre_load _ _ rfl ?_); first | refine lO hp rfl (slot_tmp rfl) ceOM1 aa5 ?_ | refine lA hp rfl (slot_tmp rfl) (by with_reducible first | exact agg28 | exact agg40) aa5 ?_) | ((with_reducible refine pre_store _ _ _ rfl ?_); (first | refine sO hp rfl (slot_tmp rfl) ceOM1 aa5 ?_ | refine sA hp rfl (slot_tmp rfl) (slot_tmp rfl) (by with_reducible first | exact agg28 | exact agg40) aa5 ?_ | refine sG hp rfl (slot_tmp rfl) (slot_tmp rfl) (by with_reducible first | exact agg28 | exact agg40) aa5 ?_); clear hp; intro w1 hp; simp only [spl, List.set_cons_zero, List.set_cons_succ] at hp)); simp only [put_some, put_none, List.set_cons_succ, List.set_cons_zero]))
        have HWA : RowKit.Hid (RowIs w1 aa (la.flatMap envL)) := Lib.hid (HRL.out.keptS.at hp (fun p hm => by simp [hm]))
        have HWB : RowKit.Hid (RowIs w1 ab (es'.flatMap envL)) := Lib.hid (HRM.out.keptS.at hp (fun p hm => by simp [hm]))
        have HBW := Lib.hid hp.below
        replace hp := Hp.start w1
        go_loopg [10] la.length (fun k i wr => ∃ q : Nat, k + q = la.length ∧ i = .int .i64 q ∧ Hp w1.heap.size w1 wr [])
        case atStart => exact ⟨0, by omega, rfl, hp⟩
        case round =>
          clear hp
          obtain ⟨q, hkq, rfl, hp⟩ := hrel
          by_cases hlt : q < la.length
          · obtain ⟨bq, off, rfl, hx⟩ := HWA.out.elems 11 envL_len11 (by omega) (by omega)
            have hj := List.getElem?_eq_getElem hlt
            replace hx := hx q _ hj
            have hg := HG5.out q _ hj
            clear hj
            generalize la[q] = en at hx hg
            obtain ⟨nu2, vi2, cl2, sq2, ⟨k2, h2, i2, n2, c2, v2, t2⟩⟩ := en
            have f1 : (0 : Int) ≤ (q : Int) := by omega
            have f2 : (q : Int) < (la.length : Int) := by omega
            by_cases hs : nu2 ≤ rf
            · have hgq := hg (by rw [HST.out]; exact hs)
              have hlt2 := (List.getElem?_eq_some_iff.1 hgq).1
              obtain ⟨bq2, off2, rfl, hy⟩ := HWB.out.elems 11 envL_len11 (by omega) (by omega)
              replace hy := hy q _ hgq
              simp only [envL, opL, List.cons_append, List.nil_append] at hx hy
              have HX := Lib.hid hx
              have HY := Lib.hid hy
              have f3 : decide (nu2 ≤ rf) = true := by simpa using hs
              have f4 : (q : Int) < (es'.length : Int) := by omega
              have f5 : decide ((es'.length : Int) ≤ (q : Int)) = false := by simp; omega
              have f6 : decide (es'.length ≤ q) = false := by simp; omega
              clear hx hy hg hgq hs hlt2
              go_wp2_with (first | go_skip | ((first | ((with_reducible refine pre_alloc _ rfl ?_); refine lZ hp rfl zero28 ?_; clear hp; intro b w1 hp) | ((with_reducible refine pre_box _ _ rfl ?_); refine lB hp rfl (slot_tmp rfl) rfl ?_; clear hp; intro b w1 hp) | ((with_reducible refine pre_load _ _ rfl ?_); first | refine lO hp rfl (slot_tmp rfl) ceOM1 aa5 ?_ | first | refine lRO hp rfl (slot_tmp rfl) ceOM1 (HX.out 0 _ rfl) ?_ | first | refine lRO hp rfl (slot_tmp rfl) ceOM1 (HY.out 0 _ rfl) ?_ | refine lA hp rfl (slot_tmp rfl) gaOM2 aa5 ?_ | refine lR hp rfl (slot_tmp rfl) gaOM2 HX.out ?_ | refine lR hp rfl (slot_tmp rfl) gaOM2 HY.out ?_) | ((with_reducible refine pre_store _ _ _ rfl ?_); (first | refine sO hp rfl (slot_tmp rfl) ceOM1 aa5 ?_ | refine sA hp rfl (slot_tmp rfl) (slot_tmp rfl) gaOM2 aa5 ?_ | refine sG hp rfl (slot_tmp rfl) (slot_tmp rfl) gaOM2 aa5 ?_); clear hp; intro w1 hp; simp only [spl, List.set_cons_zero, List.set_cons_succ] at hp)); simp only [put_some, put_none, List.set_cons_succ, List.set_cons_zero]))
              refine wp_region_keeps _ (Keeps.all hp.drew) [] [(0, true), (1, true), (2, true), (3, true), (4, true), (5, true), (6, true), (7, true), (8, true), (9, true), (10, true), (11, true), (12, true), (13, true), (14, true)] (by kernel_rfl) (by kernel_rfl) rfl (by kernel_rfl) (fun _ _ d _ _ h => by cases d <;> exact h) ?_
              replace hp := hp.drew
              repeat' (with_reducible refine plan_is ?_); first | (with_reducible refine plan_nil ?_) | ((with_reducible refine plan_t ?_); refine plan_tk rfl ?_; (first | ((with_reducible refine tk_gd _ _ rfl ?_); refine tS (by first | exact wanted_no rfl rfl rfl rfl | exact wanted_nu rfl rfl rfl rfl) ?_) | ((with_reducible refine tk_mv _ rfl ?_); refine tM rfl ?_) | ((with_reducible refine tk_ld _ _ rfl ?_); first | refine tA rfl (slot_tmp rfl) agg38 aa5 ?_ | refine tR rfl (slot_tmp rfl) agg38 HX.out ?_ | refine tR rfl (slot_tmp rfl) agg38 HY.out ?_) | refine tG (fun w _ => (by go_simp; try rfl)) ?_); try simp only [put_some, put_none, eval_tmp, eval_const, List.set_cons_succ, List.set_cons_zero, List.getD_cons_succ, List.getD_cons_zero, wrap_eq])
              go_wp2_with (first | go_skip | ((first | ((with_reducible refine pre_alloc _ rfl ?_); refine lZ hp rfl zero28 ?_; clear hp; intro b w1 hp) | ((with_reducible refine pre_box _ _ rfl ?_); refine lB hp rfl (slot_tmp rfl) rfl ?_; clear hp; intro b w1 hp) | ((with_reducible refine pre_load _ _ rfl ?_); first | refine lO hp rfl (slot_tmp rfl) ceOM1 aa5 ?_ | first | refine lRO hp rfl (slot_tmp rfl) ceOM1 (HX.out 0 _ rfl) ?_ | first | refine lRO hp rfl (slot_tmp rfl) ceOM1 (HY.out 0 _ rfl) ?_ | refine lA hp rfl (slot_tmp rfl) gaOM2 aa5 ?_ | refine lR hp rfl (slot_tmp rfl) gaOM2 HX.out ?_ | refine lR hp rfl (slot_tmp rfl) gaOM2 HY.out ?_) | ((with_reducible refine pre_store _ _ _ rfl ?_); (first | refine sO hp rfl (slot_tmp rfl) ceOM1 aa5 ?_ | refine sA hp rfl (slot_tmp rfl) (slot_tmp rfl) gaOM2 aa5 ?_ | refine sG hp rfl (slot_tmp rfl) (slot_tmp rfl) gaOM2 aa5 ?_); clear hp; intro w1 hp; simp only [spl, List.set_cons_zero, List.set_cons_succ] at hp)); simp only [put_some, put_none, List.set_cons_succ, List.set_cons_zero]))
              go_roundg (gk - 1)
              case measure => omega
              case rel => exact ⟨q + 1, by omega, by go_num, hp⟩
            · simp only [envL, opL, List.cons_append, List.nil_append] at hx
              have HX := Lib.hid hx
              have HY := Lib.hid hx
              have f3 : decide (nu2 ≤ rf) = false := by simpa using hs
              clear hx hg hs
              go_wp2_with (first | (go_at_call 20; (with_reducible refine (folds20 _).mono ?_); rintro e w1 ⟨rfl, hb⟩; replace hp := hp.call hb; clear hb) | go_skip | ((first | ((with_reducible refine pre_alloc _ rfl ?_); refine lZ hp rfl zero28 ?_; clear hp; intro b w1 hp) | ((with_reducible refine pre_box _ _ rfl ?_); refine lB hp rfl (slot_tmp rfl) rfl ?_; clear hp; intro b w1 hp) | ((with_reducible refine pre_load _ _ rfl ?_); first | refine lO hp rfl (slot_tmp rfl) ceOM1 aa5 ?_ | first | refine lRO hp rfl (slot_tmp rfl) ceOM1 (HX.out 0 _ rfl) ?_ | first | refine lRO hp rfl (slot_tmp rfl) ceOM1 (HY.out 0 _ rfl) ?_ | refine lA hp rfl (slot_tmp rfl) gaOM2 aa5 ?_ | refine lR hp rfl (slot_tmp rfl) gaOM2 HX.out ?_ | refine lR hp rfl (slot_tmp rfl) gaOM2 HY.out ?_) | ((with_reducible refine pre_store _ _ _ rfl ?_); (first | refine sO hp rfl (slot_tmp rfl) ceOM1 aa5 ?_ | refine sA hp rfl (slot_tmp rfl) (slot_tmp rfl) gaOM2 aa5 ?_ | refine sG hp rfl (slot_tmp rfl) (slot_tmp rfl) gaOM2 aa5 ?_); clear hp; intro w1 hp; simp only [spl, List.set_cons_zero, List.set_cons_succ] at hp)); simp only [put_some, put_none, List.set_cons_succ, List.set_cons_zero]))
              go_ret
              exact ⟨rfl, HBW.out.trans (hp.below.mono HBW.out.size)⟩
          · obtain rfl : q = la.length := by omega
            have f2 : decide ((la.length : Int) < (la.length : Int)) = false := by simp
            clear hkq hlt
            go_wp2_with (first | (go_at_call 20; (with_reducible refine (folds20 _).mono ?_); rintro e w1 ⟨rfl, hb⟩; replace hp := hp.call hb; clear hb) | go_skip | ((first | ((with_reducible refine pre_alloc _ rfl ?_); refine lZ hp rfl zero28 ?_; clear hp; intro b w1 hp) | ((with_reducible refine pre_box _ _ rfl ?_); refine lB hp rfl (slot_tmp rfl) rfl ?_; clear hp; intro b w1 hp) | ((with_reducible refine pre_load _ _ rfl ?_); first | refine lO hp rfl (slot_tmp rfl) ceOM1 aa5 ?_ | refine lA hp rfl (slot_tmp rfl) (by with_reducible first | exact agg28 | exact agg40) aa5 ?_) | ((with_reducible refine pre_store _ _ _ rfl ?_); (first | refine sO hp rfl (slot_tmp rfl) ceOM1 aa5 ?_ | refine sA hp rfl (slot_tmp rfl) (slot_tmp rfl) (by with_reducible first | exact agg28 | exact agg40) aa5 ?_ | refine sG hp rfl (slot_tmp rfl) (slot_tmp rfl) (by with_reducible first | exact agg28 | exact agg40) aa5 ?_); clear hp; intro w1 hp; simp only [spl, List.set_cons_zero, List.set_cons_succ] at hp)); simp only [put_some, put_none, List.set_cons_succ, List.set_cons_zero]))
            go_ret
            exact ⟨rfl, HBW.out.trans (hp.below.mono HBW.out.size)⟩
      · by_cases k5 : kd = 5
        · have e3 : (kd == 3) = false := by simpa using k3
          have e5 : (kd == 5) = true := by simpa using k5
          have HST : RowKit.Hid (stayK ⟨vw, nm, bs, im, ea, es, ec⟩ ⟨kd, rv, rf, rn, rim, ⟨nu, vi, cl, sq, ⟨kk, hh, ii, nn, cc, vv, tt⟩⟩, ra, rs, rc⟩ = -1) := Lib.hid (by unfold stayK; simp only; rw [if_pos k5])
          clear k3 k5
          go_wp2_with (first | (go_at_call 19; (with_reducible refine (fold_yL vw nm bs im ea es ec kd rv rf rn rim nu vi cl sq kk hh ii nn cc vv tt ra rs rc vw' nm' bs' im' es' _ _ HFK.out HS1.out HS2.out HS3.out HRC.out HS4.out _ (HA.out.below hp.below) (HRA.out.below hp.below)).mono ?_); rintro e w1 ⟨ax, cx, RX, rfl, hcx, hrx, hpn⟩; replace hp := hp.join hpn; have HCX := Lib.hid hcx; have HRX := Lib.hid hrx; clear hpn hcx hrx; simp only [List.cons_append, List.nil_append, List.append_assoc] at hp) | (go_at_call 21; (with_reducible refine (check21L vw nm bs im ea es ec _ HB.out HSX.out _ (HA.out.below hp.below)).mono ?_); rintro e w1 ⟨rfl, hb⟩; replace hp := hp.call hb; clear hb; simp only [if_true]) | (go_at_call 21; (with_reducible refine (check21L vw' nm' bs' im' ax es' cx _ (HBY.out _ _) (HSY.out _ _) _ (HRX.out.keptS.at hp (fun p hm => by simp [hm]))).mono ?_); rintro e w1 ⟨rfl, hb⟩; replace hp := hp.call hb; clear hb; simp only [if_true]) | (go_at_call 22; (with_reducible refine (last22L vw nm bs im ea es ec _ HB.out HSX.out _ (HA.out.below hp.below)).mono ?_); rintro e w1 ⟨rfl, hb⟩; replace hp := hp.call hb; clear hb; simp only [if_true]) | (go_at_call 23; (with_reducible refine (above23L vw nm bs im ea es ec bs' 4000 la HB.out HLA.out HSX.out HEC.out HN1.out _ (HA.out.below hp.below)).mono ?_); rintro e w1 ⟨aa, ca, RA, rfl, _, hra, hpn⟩; replace hp := hp.join hpn; have HRL := Lib.hid hra; clear hpn hra; simp only [List.cons_append, List.nil_append, List.append_assoc] at hp) | (go_at_call 23; (with_reducible refine (above23L vw' nm' bs' im' ax es' cx bs' 4000 es' (HBY.out _ _) (HLB.out _ _) (HSY.out _ _) HCX.out HN1.out _ (HRX.out.keptS.at hp (fun p hm => by simp [hm]))).mono ?_); rintro e w1 ⟨ab, cb, RB, rfl, _, hrb, hpn⟩; replace hp := hp.join hpn; have HRM := Lib.hid hrb; clear hpn hrb; simp only [List.cons_append, List.nil_append, List.append_assoc] at hp) | go_skip | ((first | ((with_reducible refine pre_alloc _ rfl ?_); refine lZ hp rfl zero28 ?_; clear hp; intro b w1 hp) | ((with_reducible refine pre_box _ _ rfl ?_); refine lB hp rfl (slot_tmp rfl) rfl ?_; clear hp; intro b w1 hp) | ((with_reducible refine pre_load _ _ rfl ?_); first | refine lO hp rfl (slot_tmp rfl) ceOM1 aa5 ?_ | refine lA hp rfl (slot_tmp rfl) (by with_reducible first | exact agg28 | exact agg40) aa5 ?_) | ((with_reducible refine pre_store _ _ _ rfl ?_); (first | refine sO hp rfl (slot_tmp rfl) ceOM1 aa5 ?_ | refine sA hp rfl (slot_tmp rfl) (slot_tmp rfl) (by with_reducible first | exact agg28 | exact agg40) aa5 ?_ | refine sG hp rfl (slot_tmp rfl) (slot_tmp rfl) (by with_reducible first | exact agg28 | exact agg40) aa5 ?_); clear hp; intro w1 hp; simp only [spl, List.set_cons_zero, List.set_cons_succ] at hp)); simp only [put_some, put_none, List.set_cons_succ, List.set_cons_zero]))
          have HWA : RowKit.Hid (RowIs w1 aa (la.flatMap envL)) := Lib.hid (HRL.out.keptS.at hp (fun p hm => by simp [hm]))
          have HWB : RowKit.Hid (RowIs w1 ab (es'.flatMap envL)) := Lib.hid (HRM.out.keptS.at hp (fun p hm => by simp [hm]))
          have HBW := Lib.hid hp.below
          replace hp := Hp.start w1
          go_loopg [10] la.length (fun k i wr => ∃ q : Nat, k + q = la.length ∧ i = .int .i64 q ∧ Hp w1.heap.size w1 wr [])
          case atStart => exact ⟨0, by omega, rfl, hp⟩
          case round =>
            clear hp
            obtain ⟨q, hkq, rfl, hp⟩ := hrel
            by_cases hlt : q < la.length
            · obtain ⟨bq, off, rfl, hx⟩ := HWA.out.elems 11 envL_len11 (by omega) (by omega)
              have hj := List.getElem?_eq_getElem hlt
              replace hx := hx q _ hj
              have hg := HG5.out q _ hj
              clear hj
              generalize la[q] = en at hx hg
              obtain ⟨nu2, vi2, cl2, sq2, ⟨k2, h2, i2, n2, c2, v2, t2⟩⟩ := en
              have f1 : (0 : Int) ≤ (q : Int) := by omega
              have f2 : (q : Int) < (la.length : Int) := by omega
              by_cases hs : nu2 ≤ -1
              · have hgq := hg (by rw [HST.out]; exact hs)
                have hlt2 := (List.getElem?_eq_some_iff.1 hgq).1
                obtain ⟨bq2, off2, rfl, hy⟩ := HWB.out.elems 11 envL_len11 (by omega) (by omega)
                replace hy := hy q _ hgq
                simp only [envL, opL, List.cons_append, List.nil_append] at hx hy
                have HX := Lib.hid hx
                have HY := Lib.hid hy
                have f3 : decide (nu2 ≤ -1) = true := by simpa using hs
                have f4 : (q : Int) < (es'.length : Int) := by omega
                have f5 : decide ((es'.length : Int) ≤ (q : Int)) = false := by simp; omega
                have f6 : decide (es'.length ≤ q) = false := by simp; omega
                clear hx hy hg hgq hs hlt2
                go_wp2_with (first | go_skip | ((first | ((with_reducible refine pre_alloc _ rfl ?_); refine lZ hp rfl zero28 ?_; clear hp; intro b w1 hp) | ((with_reducible refine pre_box _ _ rfl ?_); refine lB hp rfl (slot_tmp rfl) rfl ?_; clear hp; intro b w1 hp) | ((with_reducible refine pre_load _ _ rfl ?_); first | refine lO hp rfl (slot_tmp rfl) ceOM1 aa5 ?_ | first | refine lRO hp rfl (slot_tmp rfl) ceOM1 (HX.out 0 _ rfl) ?_ | first | refine lRO hp rfl (slot_tmp rfl) ceOM1 (HY.out 0 _ rfl) ?_ | refine lA hp rfl (slot_tmp rfl) gaOM2 aa5 ?_ | refine lR hp rfl (slot_tmp rfl) gaOM2 HX.out ?_ | refine lR hp rfl (slot_tmp rfl) gaOM2 HY.out ?_) | ((with_reducible refine pre_store _ _ _ rfl ?_); (first | refine sO hp rfl (slot_tmp rfl) ceOM1 aa5 ?_ | refine sA hp rfl (slot_tmp rfl) (slot_tmp rfl) gaOM2 aa5 ?_ | refine sG hp rfl (slot_tmp rfl) (slot_tmp rfl) gaOM2 aa5 ?_); clear hp; intro w1 hp; simp only [spl, List.set_cons_zero, List.set_cons_succ] at hp)); simp only [put_some, put_none, List.set_cons_succ, List.set_cons_zero]))
                refine wp_region_keeps _ (Keeps.all hp.drew) [] [(0, true), (1, true), (2, true), (3, true), (4, true), (5, true), (6, true), (7, true), (8, true), (9, true), (10, true), (11, true), (12, true), (13, true), (14, true)] (by kernel_rfl) (by kernel_rfl) rfl (by kernel_rfl) (fun _ _ d _ _ h => by cases d <;> exact h) ?_
                replace hp := hp.drew
                repeat' (with_reducible refine plan_is ?_); first | (with_reducible refine plan_nil ?_) | ((with_reducible refine plan_t ?_); refine plan_tk rfl ?_; (first | ((with_reducible refine tk_gd _ _ rfl ?_); refine tS (by first | exact wanted_no rfl rfl rfl rfl | exact wanted_nu rfl rfl rfl rfl) ?_) | ((with_reducible refine tk_mv _ rfl ?_); refine tM rfl ?_) | ((with_reducible refine tk_ld _ _ rfl ?_); first | refine tA rfl (slot_tmp rfl) agg38 aa5 ?_ | refine tR rfl (slot_tmp rfl) agg38 HX.out ?_ | refine tR rfl (slot_tmp rfl) agg38 HY.out ?_) | refine tG (fun w _ => (by go_simp; try rfl)) ?_); try simp only [put_some, put_none, eval_tmp, eval_const, List.set_cons_succ, List.set_cons_zero, List.getD_cons_succ, List.getD_cons_zero, wrap_eq])
                go_wp2_with (first | go_skip | ((first | ((with_reducible refine pre_alloc _ rfl ?_); refine lZ hp rfl zero28 ?_; clear hp; intro b w1 hp) | ((with_reducible refine pre_box _ _ rfl ?_); refine lB hp rfl (slot_tmp rfl) rfl ?_; clear hp; intro b w1 hp) | ((with_reducible refine pre_load _ _ rfl ?_); first | refine lO hp rfl (slot_tmp rfl) ceOM1 aa5 ?_ | first | refine lRO hp rfl (slot_tmp rfl) ceOM1 (HX.out 0 _ rfl) ?_ | first | refine lRO hp rfl (slot_tmp rfl) ceOM1 (HY.out 0 _ rfl) ?_ | refine lA hp rfl (slot_tmp rfl) gaOM2 aa5 ?_ | refine lR hp rfl (slot_tmp rfl) gaOM2 HX.out ?_ | refine lR hp rfl (slot_tmp rfl) gaOM2 HY.out ?_) | ((with_reducible refine pre_store _ _ _ rfl ?_); (first | refine sO hp rfl (slot_tmp rfl) ceOM1 aa5 ?_ | refine sA hp rfl (slot_tmp rfl) (slot_tmp rfl) gaOM2 aa5 ?_ | refine sG hp rfl (slot_tmp rfl) (slot_tmp rfl) gaOM2 aa5 ?_); clear hp; intro w1 hp; simp only [spl, List.set_cons_zero, List.set_cons_succ] at hp)); simp only [put_some, put_none, List.set_cons_succ, List.set_cons_zero]))
                go_roundg (gk - 1)
                case measure => omega
                case rel => exact ⟨q + 1, by omega, by go_num, hp⟩
              · simp only [envL, opL, List.cons_append, List.nil_append] at hx
                have HX := Lib.hid hx
                have HY := Lib.hid hx
                have f3 : decide (nu2 ≤ -1) = false := by simpa using hs
                clear hx hg hs
                go_wp2_with (first | (go_at_call 20; (with_reducible refine (folds20 _).mono ?_); rintro e w1 ⟨rfl, hb⟩; replace hp := hp.call hb; clear hb) | go_skip | ((first | ((with_reducible refine pre_alloc _ rfl ?_); refine lZ hp rfl zero28 ?_; clear hp; intro b w1 hp) | ((with_reducible refine pre_box _ _ rfl ?_); refine lB hp rfl (slot_tmp rfl) rfl ?_; clear hp; intro b w1 hp) | ((with_reducible refine pre_load _ _ rfl ?_); first | refine lO hp rfl (slot_tmp rfl) ceOM1 aa5 ?_ | first | refine lRO hp rfl (slot_tmp rfl) ceOM1 (HX.out 0 _ rfl) ?_ | first | refine lRO hp rfl (slot_tmp rfl) ceOM1 (HY.out 0 _ rfl) ?_ | refine lA hp rfl (slot_tmp rfl) gaOM2 aa5 ?_ | refine lR hp rfl (slot_tmp rfl) gaOM2 HX.out ?_ | refine lR hp rfl (slot_tmp rfl) gaOM2 HY.out ?_) | ((with_reducible refine pre_store _ _ _ rfl ?_); (first | refine sO hp rfl (slot_tmp rfl) ceOM1 aa5 ?_ | refine sA hp rfl (slot_tmp rfl) (slot_tmp rfl) gaOM2 aa5 ?_ | refine sG hp rfl (slot_tmp rfl) (slot_tmp rfl) gaOM2 aa5 ?_); clear hp; intro w1 hp; simp only [spl, List.set_cons_zero, List.set_cons_succ] at hp)); simp only [put_some, put_none, List.set_cons_succ, List.set_cons_zero]))
                go_ret
                exact ⟨rfl, HBW.out.trans (hp.below.mono HBW.out.size)⟩
            · obtain rfl : q = la.length := by omega
              have f2 : decide ((la.length : Int) < (la.length : Int)) = false := by simp
              clear hkq hlt
              go_wp2_with (first | (go_at_call 20; (with_reducible refine (folds20 _).mono ?_); rintro e w1 ⟨rfl, hb⟩; replace hp := hp.call hb; clear hb) | go_skip | ((first | ((with_reducible refine pre_alloc _ rfl ?_); refine lZ hp rfl zero28 ?_; clear hp; intro b w1 hp) | ((with_reducible refine pre_box _ _ rfl ?_); refine lB hp rfl (slot_tmp rfl) rfl ?_; clear hp; intro b w1 hp) | ((with_reducible refine pre_load _ _ rfl ?_); first | refine lO hp rfl (slot_tmp rfl) ceOM1 aa5 ?_ | refine lA hp rfl (slot_tmp rfl) (by with_reducible first | exact agg28 | exact agg40) aa5 ?_) | ((with_reducible refine pre_store _ _ _ rfl ?_); (first | refine sO hp rfl (slot_tmp rfl) ceOM1 aa5 ?_ | refine sA hp rfl (slot_tmp rfl) (slot_tmp rfl) (by with_reducible first | exact agg28 | exact agg40) aa5 ?_ | refine sG hp rfl (slot_tmp rfl) (slot_tmp rfl) (by with_reducible first | exact agg28 | exact agg40) aa5 ?_); clear hp; intro w1 hp; simp only [spl, List.set_cons_zero, List.set_cons_succ] at hp)); simp only [put_some, put_none, List.set_cons_succ, List.set_cons_zero]))
              go_ret
              exact ⟨rfl, HBW.out.trans (hp.below.mono HBW.out.size)⟩
        · have e3 : (kd == 3) = false := by simpa using k3
          have e5 : (kd == 5) = false := by simpa using k5
          have HST : RowKit.Hid (stayK ⟨vw, nm, bs, im, ea, es, ec⟩ ⟨kd, rv, rf, rn, rim, ⟨nu, vi, cl, sq, ⟨kk, hh, ii, nn, cc, vv, tt⟩⟩, ra, rs, rc⟩ = bs + es.length) := Lib.hid (by unfold stayK lastK; rw [if_neg k5, if_neg k3])
          clear k3 k5
          go_wp2_with (first | (go_at_call 19; (with_reducible refine (fold_yL vw nm bs im ea es ec kd rv rf rn rim nu vi cl sq kk hh ii nn cc vv tt ra rs rc vw' nm' bs' im' es' _ _ HFK.out HS1.out HS2.out HS3.out HRC.out HS4.out _ (HA.out.below hp.below) (HRA.out.below hp.below)).mono ?_); rintro e w1 ⟨ax, cx, RX, rfl, hcx, hrx, hpn⟩; replace hp := hp.join hpn; have HCX := Lib.hid hcx; have HRX := Lib.hid hrx; clear hpn hcx hrx; simp only [List.cons_append, List.nil_append, List.append_assoc] at hp) | (go_at_call 21; (with_reducible refine (check21L vw nm bs im ea es ec _ HB.out HSX.out _ (HA.out.below hp.below)).mono ?_); rintro e w1 ⟨rfl, hb⟩; replace hp := hp.call hb; clear hb; simp only [if_true]) | (go_at_call 21; (with_reducible refine (check21L vw' nm' bs' im' ax es' cx _ (HBY.out _ _) (HSY.out _ _) _ (HRX.out.keptS.at hp (fun p hm => by simp [hm]))).mono ?_); rintro e w1 ⟨rfl, hb⟩; replace hp := hp.call hb; clear hb; simp only [if_true]) | (go_at_call 22; (with_reducible refine (last22L vw nm bs im ea es ec _ HB.out HSX.out _ (HA.out.below hp.below)).mono ?_); rintro e w1 ⟨rfl, hb⟩; replace hp := hp.call hb; clear hb; simp only [if_true]) | (go_at_call 23; (with_reducible refine (above23L vw nm bs im ea es ec bs' 4000 la HB.out HLA.out HSX.out HEC.out HN1.out _ (HA.out.below hp.below)).mono ?_); rintro e w1 ⟨aa, ca, RA, rfl, _, hra, hpn⟩; replace hp := hp.join hpn; have HRL := Lib.hid hra; clear hpn hra; simp only [List.cons_append, List.nil_append, List.append_assoc] at hp) | (go_at_call 23; (with_reducible refine (above23L vw' nm' bs' im' ax es' cx bs' 4000 es' (HBY.out _ _) (HLB.out _ _) (HSY.out _ _) HCX.out HN1.out _ (HRX.out.keptS.at hp (fun p hm => by simp [hm]))).mono ?_); rintro e w1 ⟨ab, cb, RB, rfl, _, hrb, hpn⟩; replace hp := hp.join hpn; have HRM := Lib.hid hrb; clear hpn hrb; simp only [List.cons_append, List.nil_append, List.append_assoc] at hp) | go_skip | ((first | ((with_reducible refine pre_alloc _ rfl ?_); refine lZ hp rfl zero28 ?_; clear hp; intro b w1 hp) | ((with_reducible refine pre_box _ _ rfl ?_); refine lB hp rfl (slot_tmp rfl) rfl ?_; clear hp; intro b w1 hp) | ((with_reducible refine pre_load _ _ rfl ?_); first | refine lO hp rfl (slot_tmp rfl) ceOM1 aa5 ?_ | refine lA hp rfl (slot_tmp rfl) (by with_reducible first | exact agg28 | exact agg40) aa5 ?_) | ((with_reducible refine pre_store _ _ _ rfl ?_); (first | refine sO hp rfl (slot_tmp rfl) ceOM1 aa5 ?_ | refine sA hp rfl (slot_tmp rfl) (slot_tmp rfl) (by with_reducible first | exact agg28 | exact agg40) aa5 ?_ | refine sG hp rfl (slot_tmp rfl) (slot_tmp rfl) (by with_reducible first | exact agg28 | exact agg40) aa5 ?_); clear hp; intro w1 hp; simp only [spl, List.set_cons_zero, List.set_cons_succ] at hp)); simp only [put_some, put_none, List.set_cons_succ, List.set_cons_zero]))
          have HWA : RowKit.Hid (RowIs w1 aa (la.flatMap envL)) := Lib.hid (HRL.out.keptS.at hp (fun p hm => by simp [hm]))
          have HWB : RowKit.Hid (RowIs w1 ab (es'.flatMap envL)) := Lib.hid (HRM.out.keptS.at hp (fun p hm => by simp [hm]))
          have HBW := Lib.hid hp.below
          replace hp := Hp.start w1
          go_loopg [10] la.length (fun k i wr => ∃ q : Nat, k + q = la.length ∧ i = .int .i64 q ∧ Hp w1.heap.size w1 wr [])
          case atStart => exact ⟨0, by omega, rfl, hp⟩
          case round =>
            clear hp
            obtain ⟨q, hkq, rfl, hp⟩ := hrel
            by_cases hlt : q < la.length
            · obtain ⟨bq, off, rfl, hx⟩ := HWA.out.elems 11 envL_len11 (by omega) (by omega)
              have hj := List.getElem?_eq_getElem hlt
              replace hx := hx q _ hj
              have hg := HG5.out q _ hj
              clear hj
              generalize la[q] = en at hx hg
              obtain ⟨nu2, vi2, cl2, sq2, ⟨k2, h2, i2, n2, c2, v2, t2⟩⟩ := en
              have f1 : (0 : Int) ≤ (q : Int) := by omega
              have f2 : (q : Int) < (la.length : Int) := by omega
              by_cases hs : nu2 ≤ bs + (es.length : Int)
              · have hgq := hg (by rw [HST.out]; exact hs)
                have hlt2 := (List.getElem?_eq_some_iff.1 hgq).1
                obtain ⟨bq2, off2, rfl, hy⟩ := HWB.out.elems 11 envL_len11 (by omega) (by omega)
                replace hy := hy q _ hgq
                simp only [envL, opL, List.cons_append, List.nil_append] at hx hy
                have HX := Lib.hid hx
                have HY := Lib.hid hy
                have f3 : decide (nu2 ≤ bs + (es.length : Int)) = true := by simpa using hs
                have f4 : (q : Int) < (es'.length : Int) := by omega
                have f5 : decide ((es'.length : Int) ≤ (q : Int)) = false := by simp; omega
                have f6 : decide (es'.length ≤ q) = false := by simp; omega
                clear hx hy hg hgq hs hlt2
                go_wp2_with (first | go_skip | ((first | ((with_reducible refine pre_alloc _ rfl ?_); refine lZ hp rfl zero28 ?_; clear hp; intro b w1 hp) | ((with_reducible refine pre_box _ _ rfl ?_); refine lB hp rfl (slot_tmp rfl) rfl ?_; clear hp; intro b w1 hp) | ((with_reducible refine pre_load _ _ rfl ?_); first | refine lO hp rfl (slot_tmp rfl) ceOM1 aa5 ?_ | first | refine lRO hp rfl (slot_tmp rfl) ceOM1 (HX.out 0 _ rfl) ?_ | first | refine lRO hp rfl (slot_tmp rfl) ceOM1 (HY.out 0 _ rfl) ?_ | refine lA hp rfl (slot_tmp rfl) gaOM2 aa5 ?_ | refine lR hp rfl (slot_tmp rfl) gaOM2 HX.out ?_ | refine lR hp rfl (slot_tmp rfl) gaOM2 HY.out ?_) | ((with_reducible refine pre_store _ _ _ rfl ?_); (first | refine sO hp rfl (slot_tmp rfl) ceOM1 aa5 ?_ | refine sA hp rfl (slot_tmp rfl) (slot_tmp rfl) gaOM2 aa5 ?_ | refine sG hp rfl (slot_tmp rfl) (slot_tmp rfl) gaOM2 aa5 ?_); clear hp; intro w1 hp; simp only [spl, List.set_cons_zero, List.set_cons_succ] at hp)); simp only [put_some, put_none, List.set_cons_succ, List.set_cons_zero]))
                refine wp_region_keeps _ (Keeps.all hp.drew) [] [(0, true), (1, true), (2, true), (3, true), (4, true), (5, true), (6, true), (7, true), (8, true), (9, true), (10, true), (11, true), (12, true), (13, true), (14, true)] (by kernel_rfl) (by kernel_rfl) rfl (by kernel_rfl) (fun _ _ d _ _ h => by cases d <;> exact h) ?_
                replace hp := hp.drew
                repeat' (with_reducible refine plan_is ?_); first | (with_reducible refine plan_nil ?_) | ((with_reducible refine plan_t ?_); refine plan_tk rfl ?_; (first | ((with_reducible refine tk_gd _ _ rfl ?_); refine tS (by first | exact wanted_no rfl rfl rfl rfl | exact wanted_nu rfl rfl rfl rfl) ?_) | ((with_reducible refine tk_mv _ rfl ?_); refine tM rfl ?_) | ((with_reducible refine tk_ld _ _ rfl ?_); first | refine tA rfl (slot_tmp rfl) agg38 aa5 ?_ | refine tR rfl (slot_tmp rfl) agg38 HX.out ?_ | refine tR rfl (slot_tmp rfl) agg38 HY.out ?_) | refine tG (fun w _ => (by go_simp; try rfl)) ?_); try simp only [put_some, put_none, eval_tmp, eval_const, List.set_cons_succ, List.set_cons_zero, List.getD_cons_succ, List.getD_cons_zero, wrap_eq])
                go_wp2_with (first | go_skip | ((first | ((with_reducible refine pre_alloc _ rfl ?_); refine lZ hp rfl zero28 ?_; clear hp; intro b w1 hp) | ((with_reducible refine pre_box _ _ rfl ?_); refine lB hp rfl (slot_tmp rfl) rfl ?_; clear hp; intro b w1 hp) | ((with_reducible refine pre_load _ _ rfl ?_); first | refine lO hp rfl (slot_tmp rfl) ceOM1 aa5 ?_ | first | refine lRO hp rfl (slot_tmp rfl) ceOM1 (HX.out 0 _ rfl) ?_ | first | refine lRO hp rfl (slot_tmp rfl) ceOM1 (HY.out 0 _ rfl) ?_ | refine lA hp rfl (slot_tmp rfl) gaOM2 aa5 ?_ | refine lR hp rfl (slot_tmp rfl) gaOM2 HX.out ?_ | refine lR hp rfl (slot_tmp rfl) gaOM2 HY.out ?_) | ((with_reducible refine pre_store _ _ _ rfl ?_); (first | refine sO hp rfl (slot_tmp rfl) ceOM1 aa5 ?_ | refine sA hp rfl (slot_tmp rfl) (slot_tmp rfl) gaOM2 aa5 ?_ | refine sG hp rfl (slot_tmp rfl) (slot_tmp rfl) gaOM2 aa5 ?_); clear hp; intro w1 hp; simp only [spl, List.set_cons_zero, List.set_cons_succ] at hp)); simp only [put_some, put_none, List.set_cons_succ, List.set_cons_zero]))
                go_roundg (gk - 1)
                case measure => omega
                case rel => exact ⟨q + 1, by omega, by go_num, hp⟩
              · simp only [envL, opL, List.cons_append, List.nil_append] at hx
                have HX := Lib.hid hx
                have HY := Lib.hid hx
                have f3 : decide (nu2 ≤ bs + (es.length : Int)) = false := by simpa using hs
                clear hx hg hs
                go_wp2_with (first | (go_at_call 20; (with_reducible refine (folds20 _).mono ?_); rintro e w1 ⟨rfl, hb⟩; replace hp := hp.call hb; clear hb) | go_skip | ((first | ((with_reducible refine pre_alloc _ rfl ?_); refine lZ hp rfl zero28 ?_; clear hp; intro b w1 hp) | ((with_reducible refine pre_box _ _ rfl ?_); refine lB hp rfl (slot_tmp rfl) rfl ?_; clear hp; intro b w1 hp) | ((with_reducible refine pre_load _ _ rfl ?_); first | refine lO hp rfl (slot_tmp rfl) ceOM1 aa5 ?_ | first | refine lRO hp rfl (slot_tmp rfl) ceOM1 (HX.out 0 _ rfl) ?_ | first | refine lRO hp rfl (slot_tmp rfl) ceOM1 (HY.out 0 _ rfl) ?_ | refine lA hp rfl (slot_tmp rfl) gaOM2 aa5 ?_ | refine lR hp rfl (slot_tmp rfl) gaOM2 HX.out ?_ | refine lR hp rfl (slot_tmp rfl) gaOM2 HY.out ?_) | ((with_reducible refine pre_store _ _ _ rfl ?_); (first | refine sO hp rfl (slot_tmp rfl) ceOM1 aa5 ?_ | refine sA hp rfl (slot_tmp rfl) (slot_tmp rfl) gaOM2 aa5 ?_ | refine sG hp rfl (slot_tmp rfl) (slot_tmp rfl) gaOM2 aa5 ?_); clear hp; intro w1 hp; simp only [spl, List.set_cons_zero, List.set_cons_succ] at hp)); simp only [put_some, put_none, List.set_cons_succ, List.set_cons_zero]))
                go_ret
                exact ⟨rfl, HBW.out.trans (hp.below.mono HBW.out.size)⟩
            · obtain rfl : q = la.length := by omega
              have f2 : decide ((la.length : Int) < (la.length : Int)) = false := by simp
              clear hkq hlt
              go_wp2_with (first | (go_at_call 20; (with_reducible refine (folds20 _).mono ?_); rintro e w1 ⟨rfl, hb⟩; replace hp := hp.call hb; clear hb) | go_skip | ((first | ((with_reducible refine pre_alloc _ rfl ?_); refine lZ hp rfl zero28 ?_; clear hp; intro b w1 hp) | ((with_reducible refine pre_box _ _ rfl ?_); refine lB hp rfl (slot_tmp rfl) rfl ?_; clear hp; intro b w1 hp) | ((with_reducible refine pre_load _ _ rfl ?_); first | refine lO hp rfl (slot_tmp rfl) ceOM1 aa5 ?_ | refine lA hp rfl (slot_tmp rfl) (by with_reducible first | exact agg28 | exact agg40) aa5 ?_) | ((with_reducible refine pre_store _ _ _ rfl ?_); (first | refine sO hp rfl (slot_tmp rfl) ceOM1 aa5 ?_ | refine sA hp rfl (slot_tmp rfl) (slot_tmp rfl) (by with_reducible first | exact agg28 | exact agg40) aa5 ?_ | refine sG hp rfl (slot_tmp rfl) (slot_tmp rfl) (by with_reducible first | exact agg28 | exact agg40) aa5 ?_); clear hp; intro w1 hp; simp only [spl, List.set_cons_zero, List.set_cons_succ] at hp)); simp only [put_some, put_none, List.set_cons_succ, List.set_cons_zero]))
              go_ret
              exact ⟨rfl, HBW.out.trans (hp.below.mono HBW.out.size)⟩
    · have HC0 := Lib.hid hc
      have e1 : (c == 0) = false := by simpa using hc
      clear hk hc
      go_wp2_with (first | (go_at_call 19; (with_reducible refine (fold_nL vw nm bs im ea es ec kd rv rf rn rim nu vi cl sq kk hh ii nn cc vv tt ra rs rc c _ HC0.out HFK.out HS1.out HS2.out HS3.out HRC.out HS4.out _ (HA.out.below hp.below) (HRA.out.below hp.below)).mono ?_); rintro e w1 ⟨rfl, hb⟩; replace hp := hp.call hb; clear hb) | (go_at_call 20; (with_reducible refine (folds20 _).mono ?_); rintro e w1 ⟨rfl, hb⟩; replace hp := hp.call hb; clear hb) | go_skip | ((first | ((with_reducible refine pre_alloc _ rfl ?_); refine lZ hp rfl zero28 ?_; clear hp; intro b w1 hp) | ((with_reducible refine pre_box _ _ rfl ?_); refine lB hp rfl (slot_tmp rfl) rfl ?_; clear hp; intro b w1 hp) | ((with_reducible refine pre_load _ _ rfl ?_); first | refine lO hp rfl (slot_tmp rfl) ceOM1 aa5 ?_ | refine lA hp rfl (slot_tmp rfl) (by with_reducible first | exact agg28 | exact agg40) aa5 ?_) | ((with_reducible refine pre_store _ _ _ rfl ?_); (first | refine sO hp rfl (slot_tmp rfl) ceOM1 aa5 ?_ | refine sA hp rfl (slot_tmp rfl) (slot_tmp rfl) (by with_reducible first | exact agg28 | exact agg40) aa5 ?_ | refine sG hp rfl (slot_tmp rfl) (slot_tmp rfl) (by with_reducible first | exact agg28 | exact agg40) aa5 ?_); clear hp; intro w1 hp; simp only [spl, List.set_cons_zero, List.set_cons_succ] at hp)); simp only [put_some, put_none, List.set_cons_succ, List.set_cons_zero]))
      go_ret
      exact ⟨rfl, hp.below⟩
  · go_wp2_with (first | go_skip | ((first | ((with_reducible refine pre_alloc _ rfl ?_); refine lZ hp rfl zero28 ?_; clear hp; intro b w1 hp) | ((with_reducible refine pre_box _ _ rfl ?_); refine lB hp rfl (slot_tmp rfl) rfl ?_; clear hp; intro b w1 hp) | ((with_reducible refine pre_load _ _ rfl ?_); first | refine lO hp rfl (slot_tmp rfl) ceOM1 aa5 ?_ | refine lA hp rfl (slot_tmp rfl) (by with_reducible first | exact agg28 | exact agg40) aa5 ?_) | ((with_reducible refine pre_store _ _ _ rfl ?_); (first | refine sO hp rfl (slot_tmp rfl) ceOM1 aa5 ?_ | refine sA hp rfl (slot_tmp rfl) (slot_tmp rfl) (by with_reducible first | exact agg28 | exact agg40) aa5 ?_ | refine sG hp rfl (slot_tmp rfl) (slot_tmp rfl) (by with_reducible first | exact agg28 | exact agg40) aa5 ?_); clear hp; intro w1 hp; simp only [spl, List.set_cons_zero, List.set_cons_succ] at hp)); simp only [put_some, put_none, List.set_cons_succ, List.set_cons_zero]))
    go_ret
    exact ⟨rfl, hp.below⟩
end Go.Proofs.YtjcbpfbifbfkcaaGreat

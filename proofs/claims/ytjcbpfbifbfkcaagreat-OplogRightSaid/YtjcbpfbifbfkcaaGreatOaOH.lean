import Derived.Test.YtjcbpfbifbfkcaaGreatOaOG
/- The walk of Fold. -/
set_option linter.unusedSimpArgs false
set_option linter.unusedVariables false
namespace Go.Proofs.YtjcbpfbifbfkcaaGreat
open Go.RowKit
theorem gaOH0 {ty : TypeId} {k : Nat} (h : aggB Tryz.prog ty k = true := by with_reducible first | exact agg28 | exact agg40 | exact agg108) : aggB Tryz.prog ty k = true := h
theorem ceOH1 {ty : TypeId} (h : cellB Tryz.prog ty = true := by with_reducible first | exact cell3 | exact cell4 | exact cell23 | exact cell9 | exact cell42) : cellB Tryz.prog ty = true := h
noncomputable def foldO (x : Kv) (r : Rv) : Int × Kv := if okC x = true then foldK x r else (1, x)
def GotKv (w : World) (r : Int × Kv) (e : Ending) (w' : World) : Prop :=
  (r.1 = 0 → ∃ a c R, e = .returned (.tuple #[.agg #[.int .i64 r.2.vw, .int .i64 r.2.nm, .int .i64 r.2.bs, .string r.2.im, .slice a r.2.es.length c], .int .i64 0]) ∧ r.2.es.length ≤ c ∧ SubRow 38 11 (.slice a r.2.es.length c) r.2.es.length (r.2.es.flatMap envL) R ∧ Hp w.heap.size w w' R) ∧
  (r.1 ≠ 0 → e = .returned (.tuple #[.agg #[.int .i64 0, .int .i64 0, .int .i64 0, .string ⟨#[]⟩, .slice none 0 0], .int .i64 r.1]) ∧ Below w.heap.size w w')
def at_ (x : Kv) (a : Option Addr) (c : Nat) : Kv := ⟨x.vw, x.nm, x.bs, x.im, a, x.es, c⟩
theorem made_at (x : Kv) (r : Rv) (a : Option Addr) (c : Nat) : madeK (at_ x a c) r = ((madeK x r).1, at_ (madeK x r).2 a c) := by
  unfold madeK lastK at_
  simp only
  repeat' split
  all_goals rfl
theorem fold_at (x : Kv) (r : Rv) (a : Option Addr) (c : Nat) : foldK (at_ x a c) r = ((foldK x r).1, at_ (foldK x r).2 a c) := by
  unfold foldK
  rw [made_at]
  simp only
  have : okC (at_ (madeK x r).2 a c) = okC (madeK x r).2 := okC_sm ⟨rfl, rfl, rfl, rfl, rfl⟩
  rw [this]
  repeat' split
  all_goals rfl
theorem to_work {B : Nat} {w0 w : World} {b1 b2 b3 b4 : Blk} {R : List Blk} (hp : Hp B w0 w (b1 :: b2 :: b3 :: b4 :: R)) : Hp B w0 w (b1 :: (R ++ [b2, b3, b4])) := hp.kp
theorem of_work {B : Nat} {w0 w : World} {b1 b2 b3 b4 : Blk} {R : List Blk} (hp : Hp B w0 w (b1 :: (R ++ [b2, b3, b4]))) : Hp B w0 w (b1 :: b2 :: b3 :: b4 :: R) := hp.kp
theorem fold_call (bw : Nat) (vw nm bs : Int) (im : ByteArray) (ea ad : Option Addr) (es : List Env) (ec cd : Nat) (kd rv rf rn : Int) (rim : ByteArray) (nu vi cl sq kk hh ii nn cc vv tt : Int) (ra : Option Addr) (rs : List Env) (rc : Nat) {R TT : List Blk} {w0 w : World} (hR : SubRow 38 11 (.slice ad es.length cd) es.length (es.flatMap envL) R) (hec : es.length ≤ cd) (hes : es.length ≤ 1500) (him : im.size ≤ 1000000) (hrs : rs.length ≤ 1500) (hrc : rs.length ≤ rc) (hri : rim.size ≤ 1000000) (hok : okC ⟨vw, nm, bs, im, ea, es, ec⟩ = true)
    (c : Int) (y : Kv) (hk : foldK ⟨vw, nm, bs, im, ea, es, ec⟩ ⟨kd, rv, rf, rn, rim, ⟨nu, vi, cl, sq, ⟨kk, hh, ii, nn, cc, vv, tt⟩⟩, ra, rs, rc⟩ = (c, y)) (hp : Hp w0.heap.size w0 w (⟨bw, [.int .i64 vw, .int .i64 nm, .int .i64 bs, .string im, .slice ad es.length cd], 108, 5⟩ :: (R ++ TT))) (ha : RowIs w0 ra (rs.flatMap envL)) :
    Calls Tryz.prog 63 #[.pointer (some ⟨bw, 0, none⟩), .agg #[.int .i64 kd, .int .i64 rv, .int .i64 rf, .int .i64 rn, .string rim, .int .i64 nu, .int .i64 vi, .int .i64 cl, .int .i64 sq, .int .i64 kk, .int .i64 hh, .int .i64 ii, .int .i64 nn, .int .i64 cc, .int .i64 vv, .int .i64 tt, .slice ra rs.length rc]] w fun e w' => e = .returned (.int .i64 c) ∧ (c = 0 → ∃ a cp R, y.es.length ≤ cp ∧ SubRow 38 11 (.slice a y.es.length cp) y.es.length (y.es.flatMap envL) R ∧ Hp w0.heap.size w0 w' (⟨bw, [.int .i64 y.vw, .int .i64 y.nm, .int .i64 y.bs, .string y.im, .slice a y.es.length cp], 108, 5⟩ :: (R ++ TT))) ∧ (c ≠ 0 → Hp w0.heap.size w0 w' TT) := by
  have hok2 : okC ⟨vw, nm, bs, im, ad, es, cd⟩ = true := by rw [← hok]; exact okC_sm ⟨rfl, rfl, rfl, rfl, rfl⟩
  have h := fold63 bw vw nm bs im ad es cd rv rf rn rim nu vi cl sq kk hh ii nn cc vv tt ra rs rc hR hec hes him hrs hrc hri hok2 kd hp ha
  have h2 := fold_at ⟨vw, nm, bs, im, ea, es, ec⟩ ⟨kd, rv, rf, rn, rim, ⟨nu, vi, cl, sq, ⟨kk, hh, ii, nn, cc, vv, tt⟩⟩, ra, rs, rc⟩ ad cd
  rw [hk] at h2
  rw [show (⟨vw, nm, bs, im, ad, es, cd⟩ : Kv) = at_ ⟨vw, nm, bs, im, ea, es, ec⟩ ad cd from rfl, h2] at h
  exact h
set_option maxRecDepth 100000 in
set_option maxHeartbeats 16000000 in
theorem fold19L (vw nm bs : Int) (im : ByteArray) (ea : Option Addr) (es : List Env) (ec : Nat) (kd rv rf rn : Int) (rim : ByteArray) (nu vi cl sq kk hh ii nn cc vv tt : Int) (ra : Option Addr) (rs : List Env) (rc : Nat) (r : Int × Kv) (hr : foldO ⟨vw, nm, bs, im, ea, es, ec⟩ ⟨kd, rv, rf, rn, rim, ⟨nu, vi, cl, sq, ⟨kk, hh, ii, nn, cc, vv, tt⟩⟩, ra, rs, rc⟩ = r)
    (hes : es.length ≤ 1500) (him : im.size ≤ 1000000) (hrs : rs.length ≤ 1500) (hrc : rs.length ≤ rc) (hri : rim.size ≤ 1000000) (w : World) (ha : RowIs w ea (es.flatMap envL)) (hra : RowIs w ra (rs.flatMap envL)) :
    Calls Tryz.prog 19 #[.agg #[.int .i64 vw, .int .i64 nm, .int .i64 bs, .string im, .slice ea es.length ec], .agg #[.int .i64 kd, .int .i64 rv, .int .i64 rf, .int .i64 rn, .string rim, .int .i64 nu, .int .i64 vi, .int .i64 cl, .int .i64 sq, .int .i64 kk, .int .i64 hh, .int .i64 ii, .int .i64 nn, .int .i64 cc, .int .i64 vv, .int .i64 tt, .slice ra rs.length rc]] w (GotKv w r) := by
  subst hr
  have hp := Hp.start w
  have HA := Lib.hid ha
  have HRA := Lib.hid hra
  have HEL : RowKit.Hid (es.length ≤ 100000) := Lib.hid (by omega)
  have HE1 := Lib.hid hes
  have HR1 := Lib.hid hrs
  have HIM := Lib.hid him
  have HRC := Lib.hid hrc
  have HRI := Lib.hid hri
  have HSS : RowKit.Hid (Kv.Small ⟨vw, nm, bs, im, ea, es, ec⟩) := Lib.hid ⟨by simp only; omega, him⟩
  cases hok : okC ⟨vw, nm, bs, im, ea, es, ec⟩ with
  | false =>
    have hf : foldO ⟨vw, nm, bs, im, ea, es, ec⟩ ⟨kd, rv, rf, rn, rim, ⟨nu, vi, cl, sq, ⟨kk, hh, ii, nn, cc, vv, tt⟩⟩, ra, rs, rc⟩ = (1, ⟨vw, nm, bs, im, ea, es, ec⟩) := by unfold foldO; rw [if_neg (by rw [hok]; decide)]
    rw [hf]
    have HB := Lib.hid hok
    clear hok hf hes him hrs hrc hri ha hra
    go_enter Tryz.func19, Tryz.ntmps19
    go_wp2_with (first | (go_at_call 21; (with_reducible refine (check21L vw nm bs im ea es ec _ HB.out HSS.out _ (HA.out.below hp.below)).mono ?_); rintro e w1 ⟨rfl, hb⟩; replace hp := hp.call hb; clear hb; simp only [if_true, Bool.false_eq_true, if_false]) | go_skip | ((first | ((with_reducible refine pre_alloc _ rfl ?_); refine lZ hp rfl zero28 ?_; clear hp; intro b w1 hp) | ((with_reducible refine pre_box _ _ rfl ?_); refine lB hp rfl (slot_tmp rfl) rfl ?_; clear hp; intro b w1 hp) | ((with_reducible refine pre_load _ _ rfl ?_); first | refine lO hp rfl (slot_tmp rfl) ceOH1 aa5 ?_ | refine lA hp rfl (slot_tmp rfl) gaOH0 aa5 ?_) | ((with_reducible refine pre_store _ _ _ rfl ?_); (first | refine sO hp rfl (slot_tmp rfl) ceOH1 aa5 ?_ | refine sA hp rfl (slot_tmp rfl) (slot_tmp rfl) gaOH0 aa5 ?_ | refine sG hp rfl (slot_tmp rfl) (slot_tmp rfl) gaOH0 aa5 ?_); clear hp; intro w1 hp; simp only [spl, List.set_cons_zero, List.set_cons_succ] at hp)); simp only [put_some, put_none, List.set_cons_succ, List.set_cons_zero]))
    exact bodyPost_ret (results_many (rs := [.cell 4 28, .tmp 5]) Tryz.results19 (.cell rfl (hp.loadAgg agg28 at0 0 _ (by rfl) (by rfl)) (.tmp rfl .nil))) rfl ⟨fun h => absurd h (by show (1 : Int) ≠ 0; decide), fun _ => ⟨rfl, hp.below⟩⟩
  | true =>
    have HB := Lib.hid hok
    have HOK : RowKit.Hid (∀ a c, okC ⟨vw, nm, bs, im, a, es, c⟩ = true) := Lib.hid (fun a c => by rw [← hok]; exact okC_sm ⟨rfl, rfl, rfl, rfl, rfl⟩)
    have hfo : foldO ⟨vw, nm, bs, im, ea, es, ec⟩ ⟨kd, rv, rf, rn, rim, ⟨nu, vi, cl, sq, ⟨kk, hh, ii, nn, cc, vv, tt⟩⟩, ra, rs, rc⟩ = foldK ⟨vw, nm, bs, im, ea, es, ec⟩ ⟨kd, rv, rf, rn, rim, ⟨nu, vi, cl, sq, ⟨kk, hh, ii, nn, cc, vv, tt⟩⟩, ra, rs, rc⟩ := by unfold foldO; rw [if_pos hok]
    rw [hfo]
    obtain ⟨⟨c, ⟨vw', nm', bs', im', ea', es', ec'⟩⟩, hk⟩ : ∃ p, foldK ⟨vw, nm, bs, im, ea, es, ec⟩ ⟨kd, rv, rf, rn, rim, ⟨nu, vi, cl, sq, ⟨kk, hh, ii, nn, cc, vv, tt⟩⟩, ra, rs, rc⟩ = p := ⟨_, rfl⟩
    rw [hk]
    have HFK := Lib.hid hk
    clear hok hfo hes him hrs hrc hri ha hra hk
    by_cases hc : c = 0
    · subst hc
      go_enter Tryz.func19, Tryz.ntmps19
      go_wp2_with (first | (go_at_call 21; (with_reducible refine (check21L vw nm bs im ea es ec _ HB.out HSS.out _ (HA.out.below hp.below)).mono ?_); rintro e w1 ⟨rfl, hb⟩; replace hp := hp.call hb; clear hb; simp only [if_true, Bool.false_eq_true, if_false]) | (go_at_call 62; (with_reducible refine (clone_ents es _ _ ec rfl HEL.out _ (HA.out.below hp.below)).mono ?_); rintro e w1 ⟨ad, cd, RD, rfl, hcd, hrd, hpn⟩; replace hp := hp.join hpn; have HCD := Lib.hid hcd; have HRD := Lib.hid (SubRow.of_own hrd); clear hpn hcd hrd; simp only [List.cons_append, List.nil_append, List.append_assoc] at hp) | (go_at_call 63; (with_reducible refine (fold_call _ vw nm bs im ea ad es ec cd kd rv rf rn rim nu vi cl sq kk hh ii nn cc vv tt ra rs rc HRD.out HCD.out HE1.out HIM.out HR1.out HRC.out HRI.out HB.out 0 _ HFK.out (to_work hp) HRA.out).mono ?_); rintro e w1 ⟨rfl, hq, _⟩; clear hp; obtain ⟨ax, cx, RX, hcx, hrx, hp⟩ := hq rfl; clear hq; have HCX := Lib.hid hcx; have HRX := Lib.hid hrx; clear hcx hrx; replace hp := of_work hp) | go_skip | ((first | ((with_reducible refine pre_alloc _ rfl ?_); refine lZ hp rfl zero28 ?_; clear hp; intro b w1 hp) | ((with_reducible refine pre_box _ _ rfl ?_); refine lB hp rfl (slot_tmp rfl) rfl ?_; clear hp; intro b w1 hp) | ((with_reducible refine pre_load _ _ rfl ?_); first | refine lO hp rfl (slot_tmp rfl) ceOH1 aa5 ?_ | refine lA hp rfl (slot_tmp rfl) gaOH0 aa5 ?_) | ((with_reducible refine pre_store _ _ _ rfl ?_); (first | refine sO hp rfl (slot_tmp rfl) ceOH1 aa5 ?_ | refine sA hp rfl (slot_tmp rfl) (slot_tmp rfl) gaOH0 aa5 ?_ | refine sG hp rfl (slot_tmp rfl) (slot_tmp rfl) gaOH0 aa5 ?_); clear hp; intro w1 hp; simp only [spl, List.set_cons_zero, List.set_cons_succ] at hp)); simp only [put_some, put_none, List.set_cons_succ, List.set_cons_zero]))
      exact bodyPost_ret (results_many (rs := [.cell 4 28, .tmp 5]) Tryz.results19 (.cell rfl (hp.loadAgg agg28 at1 0 _ (by rfl) (by rfl)) (.tmp rfl .nil))) rfl ⟨fun _ => ⟨ax, cx, RX, rfl, HCX.out, HRX.out, hp.kp⟩, fun h => absurd rfl h⟩
    · have HC0 : RowKit.Hid (c ≠ 0) := Lib.hid hc
      have e1 : (c == 0) = false := by simpa using hc
      clear hc
      go_enter Tryz.func19, Tryz.ntmps19
      go_wp2_with (first | (go_at_call 21; (with_reducible refine (check21L vw nm bs im ea es ec _ HB.out HSS.out _ (HA.out.below hp.below)).mono ?_); rintro e w1 ⟨rfl, hb⟩; replace hp := hp.call hb; clear hb; simp only [if_true, Bool.false_eq_true, if_false]) | (go_at_call 62; (with_reducible refine (clone_ents es _ _ ec rfl HEL.out _ (HA.out.below hp.below)).mono ?_); rintro e w1 ⟨ad, cd, RD, rfl, hcd, hrd, hpn⟩; replace hp := hp.join hpn; have HCD := Lib.hid hcd; have HRD := Lib.hid (SubRow.of_own hrd); clear hpn hcd hrd; simp only [List.cons_append, List.nil_append, List.append_assoc] at hp) | (go_at_call 63; (with_reducible refine (fold_call _ vw nm bs im ea ad es ec cd kd rv rf rn rim nu vi cl sq kk hh ii nn cc vv tt ra rs rc HRD.out HCD.out HE1.out HIM.out HR1.out HRC.out HRI.out HB.out c _ HFK.out (to_work hp) HRA.out).mono ?_); rintro e w1 ⟨rfl, _, hq⟩; clear hp; have hp := hq HC0.out; clear hq) | go_skip | ((first | ((with_reducible refine pre_alloc _ rfl ?_); refine lZ hp rfl zero28 ?_; clear hp; intro b w1 hp) | ((with_reducible refine pre_box _ _ rfl ?_); refine lB hp rfl (slot_tmp rfl) rfl ?_; clear hp; intro b w1 hp) | ((with_reducible refine pre_load _ _ rfl ?_); first | refine lO hp rfl (slot_tmp rfl) ceOH1 aa5 ?_ | refine lA hp rfl (slot_tmp rfl) gaOH0 aa5 ?_) | ((with_reducible refine pre_store _ _ _ rfl ?_); (first | refine sO hp rfl (slot_tmp rfl) ceOH1 aa5 ?_ | refine sA hp rfl (slot_tmp rfl) (slot_tmp rfl) gaOH0 aa5 ?_ | refine sG hp rfl (slot_tmp rfl) (slot_tmp rfl) gaOH0 aa5 ?_); clear hp; intro w1 hp; simp only [spl, List.set_cons_zero, List.set_cons_succ] at hp)); simp only [put_some, put_none, List.set_cons_succ, List.set_cons_zero]))
      exact bodyPost_ret (results_many (rs := [.cell 4 28, .tmp 5]) Tryz.results19 (.cell rfl (hp.loadAgg agg28 at0 0 _ (by rfl) (by rfl)) (.tmp rfl .nil))) rfl ⟨fun h => absurd h HC0.out, fun _ => ⟨rfl, hp.below⟩⟩
end Go.Proofs.YtjcbpfbifbfkcaaGreat

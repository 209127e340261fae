/- Parts of the proof. -/
import Derived.Test.YtaafajaadfgaoaaGreatPk41
import Derived.Test.YtaafajaadfgaoaaGreatPk2
import Derived.Test.YtaafajaadfgaoaaGreatPk33
open List renaming set_cons_zero → zSet, set_cons_succ → sSet
/- The walk of Fold. -/
set_option linter.unusedSimpArgs false
set_option linter.unusedVariables false
namespace Go.Proofs.YtaafajaadfgaoaaGreat
open Go.RowKit
theorem gaOH0 {ty : TypeId} {k : Nat} (h : aggB Tryz.prog ty k = true := by with_reducible first | exact agg24 | exact agg33 | exact agg103) : aggB Tryz.prog ty k = true := h
theorem ceOH1 {ty : TypeId} (h : cellB Tryz.prog ty = true := by with_reducible first | exact cell3 | exact cell4 | exact cell22 | exact cell9 | exact cell37) : cellB Tryz.prog ty = true := h
noncomputable def foldO (x : Kv) (r : Rv) : Int × Kv := if okC x = true then foldK x r else (1, x)
def GotKv (w : World) (r : Int × Kv) (e : Ending) (w' : World) : Prop :=
  (r.1 = 0 → ∃ a c R, e = .returned (.tuple #[.agg #[.int .i64 r.2.vw, .int .i64 r.2.nm, .int .i64 r.2.bs, .string r.2.im, .slice a r.2.es.length c], .int .i64 0]) ∧ r.2.es.length ≤ c ∧ SubRow 31 11 (.slice a r.2.es.length c) r.2.es.length (r.2.es.flatMap envL) R ∧ Hp w.heap.size w w' R) ∧
  (r.1 ≠ 0 → e = .returned (.tuple #[.agg #[.int .i64 0, .int .i64 0, .int .i64 0, .string ⟨#[]⟩, .slice none 0 0], .int .i64 r.1]) ∧ Below w.heap.size w w')
def at_ (x : Kv) (a : Option Addr) (c : Nat) : Kv := ⟨x.vw, x.nm, x.bs, x.im, a, x.es, c⟩
theorem made_at (x : Kv) (r : Rv) (a : Option Addr) (c : Nat) : madeK (at_ x a c) r = ((madeK x r).1, at_ (madeK x r).2 a c) := by
  unfold madeK lastK at_
  simp only
  repeat' split
  all_goals rfl
theorem fold_at (x : Kv) (r : Rv) (a : Option Addr) (c : Nat) : foldK (at_ x a c) r = ((foldK x r).1, at_ (foldK x r).2 a c) := by
  unfold foldK
  rw [made_at]
  simp only
  have : okC (at_ (madeK x r).2 a c) = okC (madeK x r).2 := okC_sm ⟨rfl, rfl, rfl, rfl, rfl⟩
  rw [this]
  repeat' split
  all_goals rfl
theorem to_work {B : Nat} {w0 w : World} {b1 b2 b3 b4 : Blk} {R : List Blk} (hp : Hp B w0 w (b1 :: b2 :: b3 :: b4 :: R)) : Hp B w0 w (b1 :: (R ++ [b2, b3, b4])) := hp.kp
theorem of_work {B : Nat} {w0 w : World} {b1 b2 b3 b4 : Blk} {R : List Blk} (hp : Hp B w0 w (b1 :: (R ++ [b2, b3, b4]))) : Hp B w0 w (b1 :: b2 :: b3 :: b4 :: R) := hp.kp
theorem fold_call (bw : Nat) (vw nm bs : Int) (im : ByteArray) (ea ad : Option Addr) (es : List Env) (ec cd : Nat) (kd rv rf rn : Int) (rim : ByteArray) (nu vi cl sq kk hh ii nn cc vv tt : Int) (ra : Option Addr) (rs : List Env) (rc : Nat) {R TT : List Blk} {w0 w : World} (hR : SubRow 31 11 (.slice ad es.length cd) es.length (es.flatMap envL) R) (hec : es.length ≤ cd) (hes : es.length ≤ 1500) (him : im.size ≤ 1000000) (hrs : rs.length ≤ 1500) (hrc : rs.length ≤ rc) (hri : rim.size ≤ 1000000) (hok : okC ⟨vw, nm, bs, im, ea, es, ec⟩ = true)
    (c : Int) (y : Kv) (hk : foldK ⟨vw, nm, bs, im, ea, es, ec⟩ ⟨kd, rv, rf, rn, rim, ⟨nu, vi, cl, sq, ⟨kk, hh, ii, nn, cc, vv, tt⟩⟩, ra, rs, rc⟩ = (c, y)) (hp : Hp w0.heap.size w0 w (⟨bw, [.int .i64 vw, .int .i64 nm, .int .i64 bs, .string im, .slice ad es.length cd], 103, 5⟩ :: (R ++ TT))) (ha : RowIs w0 ra (rs.flatMap envL)) :
    Calls Tryz.prog 70 #[.pointer (some ⟨bw, 0, none⟩), .agg #[.int .i64 kd, .int .i64 rv, .int .i64 rf, .int .i64 rn, .string rim, .int .i64 nu, .int .i64 vi, .int .i64 cl, .int .i64 sq, .int .i64 kk, .int .i64 hh, .int .i64 ii, .int .i64 nn, .int .i64 cc, .int .i64 vv, .int .i64 tt, .slice ra rs.length rc]] w fun e w' => e = .returned (.int .i64 c) ∧ (c = 0 → ∃ a cp R, y.es.length ≤ cp ∧ SubRow 31 11 (.slice a y.es.length cp) y.es.length (y.es.flatMap envL) R ∧ Hp w0.heap.size w0 w' (⟨bw, [.int .i64 y.vw, .int .i64 y.nm, .int .i64 y.bs, .string y.im, .slice a y.es.length cp], 103, 5⟩ :: (R ++ TT))) ∧ (c ≠ 0 → Hp w0.heap.size w0 w' TT) := by
  have hok2 : okC ⟨vw, nm, bs, im, ad, es, cd⟩ = true := by rw [← hok]; exact okC_sm ⟨rfl, rfl, rfl, rfl, rfl⟩
  have h := fold70 bw vw nm bs im ad es cd rv rf rn rim nu vi cl sq kk hh ii nn cc vv tt ra rs rc hR hec hes him hrs hrc hri hok2 kd hp ha
  have h2 := fold_at ⟨vw, nm, bs, im, ea, es, ec⟩ ⟨kd, rv, rf, rn, rim, ⟨nu, vi, cl, sq, ⟨kk, hh, ii, nn, cc, vv, tt⟩⟩, ra, rs, rc⟩ ad cd
  rw [hk] at h2
  rw [show (⟨vw, nm, bs, im, ad, es, cd⟩ : Kv) = at_ ⟨vw, nm, bs, im, ea, es, ec⟩ ad cd from rfl, h2] at h
  exact h
set_option maxRecDepth 100000 in
set_option maxHeartbeats 16000000 in
theorem fold16L (vw nm bs : Int) (im : ByteArray) (ea : Option Addr) (es : List Env) (ec : Nat) (kd rv rf rn : Int) (rim : ByteArray) (nu vi cl sq kk hh ii nn cc vv tt : Int) (ra : Option Addr) (rs : List Env) (rc : Nat) (r : Int × Kv) (hr : foldO ⟨vw, nm, bs, im, ea, es, ec⟩ ⟨kd, rv, rf, rn, rim, ⟨nu, vi, cl, sq, ⟨kk, hh, ii, nn, cc, vv, tt⟩⟩, ra, rs, rc⟩ = r)
    (hes : es.length ≤ 1500) (him : im.size ≤ 1000000) (hrs : rs.length ≤ 1500) (hrc : rs.length ≤ rc) (hri : rim.size ≤ 1000000) (w : World) (ha : RowIs w ea (es.flatMap envL)) (hra : RowIs w ra (rs.flatMap envL)) :
    Calls Tryz.prog 16 #[.agg #[.int .i64 vw, .int .i64 nm, .int .i64 bs, .string im, .slice ea es.length ec], .agg #[.int .i64 kd, .int .i64 rv, .int .i64 rf, .int .i64 rn, .string rim, .int .i64 nu, .int .i64 vi, .int .i64 cl, .int .i64 sq, .int .i64 kk, .int .i64 hh, .int .i64 ii, .int .i64 nn, .int .i64 cc, .int .i64 vv, .int .i64 tt, .slice ra rs.length rc]] w (GotKv w r) := by
  subst hr
  have hp := Hp.start w
  have HA := Lib.hid ha
  have HRA := Lib.hid hra
  have HEL : RowKit.Hid (es.length ≤ 100000) := Lib.hid (by omega)
  have HE1 := Lib.hid hes
  have HR1 := Lib.hid hrs
  have HIM := Lib.hid him
  have HRC := Lib.hid hrc
  have HRI := Lib.hid hri
  have HSS : RowKit.Hid (Kv.Small ⟨vw, nm, bs, im, ea, es, ec⟩) := Lib.hid ⟨by simp only; omega, him⟩
  cases hok : okC ⟨vw, nm, bs, im, ea, es, ec⟩ with
  | false =>
    have hf : foldO ⟨vw, nm, bs, im, ea, es, ec⟩ ⟨kd, rv, rf, rn, rim, ⟨nu, vi, cl, sq, ⟨kk, hh, ii, nn, cc, vv, tt⟩⟩, ra, rs, rc⟩ = (1, ⟨vw, nm, bs, im, ea, es, ec⟩) := by unfold foldO; rw [if_neg (by rw [hok]; decide)]
    rw [hf]
    have HB := Lib.hid hok
    clear hok hf hes him hrs hrc hri ha hra
    go_enter Tryz.func16, Tryz.ntmps16
    go_wp2_with (first | (go_at_call 64; (with_reducible refine (check64L vw nm bs im ea es ec _ HB.out HSS.out _ (HA.out.below hp.below)).mono ?_); rintro e w1 ⟨rfl, hb⟩; replace hp := hp.call hb; clear hb; simp only [if_true, Bool.false_eq_true, if_false]) | go_skip | ((first | ((with_reducible refine pre_alloc _ rfl ?_); refine lZ hp rfl zero24 ?_; clear hp; intro b w1 hp) | ((with_reducible refine pre_box _ _ rfl ?_); refine lB hp rfl (sTm rfl) rfl ?_; clear hp; intro b w1 hp) | ((with_reducible refine pre_load _ _ rfl ?_); first | refine lO hp rfl (sTm rfl) ceOH1 aa5 ?_ | refine lA hp rfl (sTm rfl) gaOH0 aa5 ?_) | ((with_reducible refine pre_store _ _ _ rfl ?_); (first | refine sO hp rfl (sTm rfl) ceOH1 aa5 ?_ | refine sA hp rfl (sTm rfl) (sTm rfl) gaOH0 aa5 ?_ | refine sG hp rfl (sTm rfl) (sTm rfl) gaOH0 aa5 ?_); clear hp; intro w1 hp; simp only [spl, zSet, sSet] at hp)); simp only [put_some, put_none, sSet, zSet]))
    exact bodyPost_ret (results_many (rs := [.cell 4 24, .tmp 5]) Tryz.results16 (.cell rfl (hp.loadAgg agg24 at0 0 _ (by rfl) (by rfl)) (.tmp rfl .nil))) rfl ⟨fun h => absurd h (by show (1 : Int) ≠ 0; decide), fun _ => ⟨rfl, hp.below⟩⟩
  | true =>
    have HB := Lib.hid hok
    have HOK : RowKit.Hid (∀ a c, okC ⟨vw, nm, bs, im, a, es, c⟩ = true) := Lib.hid (fun a c => by rw [← hok]; exact okC_sm ⟨rfl, rfl, rfl, rfl, rfl⟩)
    have hfo : foldO ⟨vw, nm, bs, im, ea, es, ec⟩ ⟨kd, rv, rf, rn, rim, ⟨nu, vi, cl, sq, ⟨kk, hh, ii, nn, cc, vv, tt⟩⟩, ra, rs, rc⟩ = foldK ⟨vw, nm, bs, im, ea, es, ec⟩ ⟨kd, rv, rf, rn, rim, ⟨nu, vi, cl, sq, ⟨kk, hh, ii, nn, cc, vv, tt⟩⟩, ra, rs, rc⟩ := by unfold foldO; rw [if_pos hok]
    rw [hfo]
    obtain ⟨⟨c, ⟨vw', nm', bs', im', ea', es', ec'⟩⟩, hk⟩ : ∃ p, foldK ⟨vw, nm, bs, im, ea, es, ec⟩ ⟨kd, rv, rf, rn, rim, ⟨nu, vi, cl, sq, ⟨kk, hh, ii, nn, cc, vv, tt⟩⟩, ra, rs, rc⟩ = p := ⟨_, rfl⟩
    rw [hk]
    have HFK := Lib.hid hk
    clear hok hfo hes him hrs hrc hri ha hra hk
    by_cases hc : c = 0
    · subst hc
      go_enter Tryz.func16, Tryz.ntmps16
      go_wp2_with (first | (go_at_call 64; (with_reducible refine (check64L vw nm bs im ea es ec _ HB.out HSS.out _ (HA.out.below hp.below)).mono ?_); rintro e w1 ⟨rfl, hb⟩; replace hp := hp.call hb; clear hb; simp only [if_true, Bool.false_eq_true, if_false]) | (go_at_call 67; (with_reducible refine (clone_ents es _ _ ec rfl HEL.out _ (HA.out.below hp.below)).mono ?_); rintro e w1 ⟨ad, cd, RD, rfl, hcd, hrd, hpn⟩; replace hp := hp.join hpn; have HCD := Lib.hid hcd; have HRD := Lib.hid (SubRow.of_own hrd); clear hpn hcd hrd; simp only [List.cons_append, List.nil_append, List.append_assoc] at hp) | (go_at_call 70; (with_reducible refine (fold_call _ vw nm bs im ea ad es ec cd kd rv rf rn rim nu vi cl sq kk hh ii nn cc vv tt ra rs rc HRD.out HCD.out HE1.out HIM.out HR1.out HRC.out HRI.out HB.out 0 _ HFK.out (to_work hp) HRA.out).mono ?_); rintro e w1 ⟨rfl, hq, _⟩; clear hp; obtain ⟨ax, cx, RX, hcx, hrx, hp⟩ := hq rfl; clear hq; have HCX := Lib.hid hcx; have HRX := Lib.hid hrx; clear hcx hrx; replace hp := of_work hp) | go_skip | ((first | ((with_reducible refine pre_alloc _ rfl ?_); refine lZ hp rfl zero24 ?_; clear hp; intro b w1 hp) | ((with_reducible refine pre_box _ _ rfl ?_); refine lB hp rfl (sTm rfl) rfl ?_; clear hp; intro b w1 hp) | ((with_reducible refine pre_load _ _ rfl ?_); first | refine lO hp rfl (sTm rfl) ceOH1 aa5 ?_ | refine lA hp rfl (sTm rfl) gaOH0 aa5 ?_) | ((with_reducible refine pre_store _ _ _ rfl ?_); (first | refine sO hp rfl (sTm rfl) ceOH1 aa5 ?_ | refine sA hp rfl (sTm rfl) (sTm rfl) gaOH0 aa5 ?_ | refine sG hp rfl (sTm rfl) (sTm rfl) gaOH0 aa5 ?_); clear hp; intro w1 hp; simp only [spl, zSet, sSet] at hp)); simp only [put_some, put_none, sSet, zSet]))
      exact bodyPost_ret (results_many (rs := [.cell 4 24, .tmp 5]) Tryz.results16 (.cell rfl (hp.loadAgg agg24 at1 0 _ (by rfl) (by rfl)) (.tmp rfl .nil))) rfl ⟨fun _ => ⟨ax, cx, RX, rfl, HCX.out, HRX.out, hp.kp⟩, fun h => absurd rfl h⟩
    · have HC0 : RowKit.Hid (c ≠ 0) := Lib.hid hc
      have e1 : (c == 0) = false := by simpa using hc
      clear hc
      go_enter Tryz.func16, Tryz.ntmps16
      go_wp2_with (first | (go_at_call 64; (with_reducible refine (check64L vw nm bs im ea es ec _ HB.out HSS.out _ (HA.out.below hp.below)).mono ?_); rintro e w1 ⟨rfl, hb⟩; replace hp := hp.call hb; clear hb; simp only [if_true, Bool.false_eq_true, if_false]) | (go_at_call 67; (with_reducible refine (clone_ents es _ _ ec rfl HEL.out _ (HA.out.below hp.below)).mono ?_); rintro e w1 ⟨ad, cd, RD, rfl, hcd, hrd, hpn⟩; replace hp := hp.join hpn; have HCD := Lib.hid hcd; have HRD := Lib.hid (SubRow.of_own hrd); clear hpn hcd hrd; simp only [List.cons_append, List.nil_append, List.append_assoc] at hp) | (go_at_call 70; (with_reducible refine (fold_call _ vw nm bs im ea ad es ec cd kd rv rf rn rim nu vi cl sq kk hh ii nn cc vv tt ra rs rc HRD.out HCD.out HE1.out HIM.out HR1.out HRC.out HRI.out HB.out c _ HFK.out (to_work hp) HRA.out).mono ?_); rintro e w1 ⟨rfl, _, hq⟩; clear hp; have hp := hq HC0.out; clear hq) | go_skip | ((first | ((with_reducible refine pre_alloc _ rfl ?_); refine lZ hp rfl zero24 ?_; clear hp; intro b w1 hp) | ((with_reducible refine pre_box _ _ rfl ?_); refine lB hp rfl (sTm rfl) rfl ?_; clear hp; intro b w1 hp) | ((with_reducible refine pre_load _ _ rfl ?_); first | refine lO hp rfl (sTm rfl) ceOH1 aa5 ?_ | refine lA hp rfl (sTm rfl) gaOH0 aa5 ?_) | ((with_reducible refine pre_store _ _ _ rfl ?_); (first | refine sO hp rfl (sTm rfl) ceOH1 aa5 ?_ | refine sA hp rfl (sTm rfl) (sTm rfl) gaOH0 aa5 ?_ | refine sG hp rfl (sTm rfl) (sTm rfl) gaOH0 aa5 ?_); clear hp; intro w1 hp; simp only [spl, zSet, sSet] at hp)); simp only [put_some, put_none, sSet, zSet]))
      exact bodyPost_ret (results_many (rs := [.cell 4 24, .tmp 5]) Tryz.results16 (.cell rfl (hp.loadAgg agg24 at0 0 _ (by rfl) (by rfl)) (.tmp rfl .nil))) rfl ⟨fun h => absurd h HC0.out, fun _ => ⟨rfl, hp.below⟩⟩
end Go.Proofs.YtaafajaadfgaoaaGreat
/- The walks of New of states, the program's. -/
namespace Go.Proofs.YtaafajaadfgaoaaGreat
open Go.RowKit
theorem gaHNewT0 {ty : TypeId} {k : Nat} (h : aggB Tryz.prog ty k = true := by with_reducible first | exact agg50 | exact agg47 | exact agg124) : aggB Tryz.prog ty k = true := h
theorem ceHNewT1 {ty : TypeId} (h : cellB Tryz.prog ty = true := by with_reducible first | exact cell3 | exact cell4 | exact cell43 | exact cell45 | exact cell48 | exact cell37) : cellB Tryz.prog ty = true := h
set_option maxRecDepth 100000 in
set_option maxHeartbeats 4000000 in
theorem news127_yes (o : Int) (h : regionB o = true) (w : World) : Calls Tryz.prog 127 #[.int .i64 o] w (NewPostS w (oneHv o) 0) := by
  have hp := Hp.start w
  have K := Lib.hid (newh81_yes o h)
  clear h
  go_enter Tryz.func127, Tryz.ntmps127
  go_wp2_with (first | (go_at_call 81; ((with_reducible refine (K.out _).mono ?_); rintro e w1 ⟨⟨od, oa, os, oc, nx, t0, t1, t2, t3, fa, fs, fc⟩, R, rfl, hsm, hk, hp5⟩; replace hp := hp.join hp5; have HSM := Lib.hid hsm; have HK := Lib.hid hk; clear hp5 hsm hk; simp only [List.cons_append, List.nil_append, hvL] at hp ⊢)) | go_skip | ((first | ((with_reducible refine pre_alloc _ rfl ?_); refine lZ hp rfl (by with_reducible first | exact zero50 | exact zero47) ?_; clear hp; intro b w1 hp) | ((with_reducible refine pre_box _ _ rfl ?_); refine lB hp rfl (sTm rfl) rfl ?_; clear hp; intro b w1 hp) | ((with_reducible refine pre_load _ _ rfl ?_); first | refine lO hp rfl (sTm rfl) ceHNewT1 aa14 ?_ | refine lA hp rfl (sTm rfl) gaHNewT0 aa14 ?_) | ((with_reducible refine pre_store _ _ _ rfl ?_); (first | refine sO hp rfl (sTm rfl) ceHNewT1 aa14 ?_ | refine sA hp rfl (sTm rfl) (sTm rfl) gaHNewT0 aa14 ?_ | refine sG hp rfl (sTm rfl) (sTm rfl) gaHNewT0 aa14 ?_); clear hp; intro w1 hp; simp only [spl, zSet, sSet] at hp) | ((with_reducible refine pre_build _ _ _ rfl ?_); refine lS hp rfl (by intro w; go_simp; rfl) ?_; clear hp; intro b w1 hp; simp only [List.length_cons, List.length_nil, Nat.reduceAdd] at hp)); simp only [put_some, put_none, sSet, zSet]))
  exact bodyPost_ret (results_many (rs := [.cell 2 50, .tmp 3]) Tryz.results127 (.cell rfl (hp.loadAgg agg50 at1 0 _ (by rfl) (by rfl)) (.tmp rfl .nil))) rfl ⟨⟨⟨od, oa, os, oc, nx, t0, t1, t2, t3, fa, fs, fc⟩, none, [], 0⟩, R, rfl, ⟨HSM.out, rfl⟩, (HK.out.mono (fun _ h => h) (fun w h => ⟨h, RowIs.nil _ _⟩)), hp.tail.tail⟩
end Go.Proofs.YtaafajaadfgaoaaGreat
/- The walk of New, and what the examples lay. -/
namespace Go.Proofs.YtaafajaadfgaoaaGreat
open Go.RowKit
theorem gaOI0 {ty : TypeId} {k : Nat} (h : aggB Tryz.prog ty k = true := by with_reducible first | exact agg24 | exact agg50 | exact agg33 | exact agg31) : aggB Tryz.prog ty k = true := h
theorem ceOI1 {ty : TypeId} (h : cellB Tryz.prog ty = true := by with_reducible first | exact cell3 | exact cell4 | exact cell37) : cellB Tryz.prog ty = true := h
theorem zero33 : zeroL Tryz.prog 33 = some ([.int .i64 0, .int .i64 0, .int .i64 0, .int .i64 0, .string ⟨#[]⟩, .int .i64 0, .int .i64 0, .int .i64 0, .int .i64 0, .int .i64 0, .int .i64 0, .int .i64 0, .int .i64 0, .int .i64 0, .int .i64 0, .int .i64 0, .slice none 0 0], 17) := by kernel_rfl
def st3 : Sv := ⟨oneHv 3, none, [], 0⟩
def b36 : List Nat := stateB st3
theorem b36_bytes : Bytes b36 := by
  intro x hx
  have : b36 = [0, 0, 0, 28] ++ b28 ++ [0, 0, 0, 0] := rfl
  rw [this] at hx
  simp [b28] at hx
  omega
theorem st3_right : StR st3 := ⟨hright_of right_one3, rfl⟩
theorem stateR_36 : stateR b36 = some (clearS st3) := stateR_put st3_right ⟨(fun o ho => by cases ho), (fun r hr => by cases hr)⟩
def im3 : ByteArray := strOfNums (nI b36)
theorem strB_im3 : strB im3 = b36 := strB_of b36_bytes
theorem im3_size : im3.size = 36 := by rw [← strB_len, strB_im3]; rfl
theorem stateR_im3 : stateR (strB im3) = some (clearS st3) := by rw [strB_im3]; exact stateR_36
def GotSK (w : World) (e : Ending) (w' : World) : Prop := ∃ od oa os oc nx t0 t1 t2 t3 fa fs fc ra rs rc R, e = .returned (.tuple #[.agg #[.int .i64 od, .slice oa (List.length os) oc, .int .i64 nx, .int .i64 t0, .int .i64 t1, .int .i64 t2, .int .i64 t3, .slice fa (List.length fs) fc, .slice ra (List.length rs) rc], .int .i64 0]) ∧ Sv.Sm ⟨⟨od, oa, os, oc, nx, t0, t1, t2, t3, fa, fs, fc⟩, ra, rs, rc⟩ st3 ∧ Kept R (fun w => Sv.Is w ⟨⟨od, oa, os, oc, nx, t0, t1, t2, t3, fa, fs, fc⟩, ra, rs, rc⟩) ∧ Hp w.heap.size w w' R
theorem newt_3 (w : World) : Calls Tryz.prog 127 #[.int .i64 3] w (GotSK w) := by
  refine (news127_yes 3 rfl w).mono fun e w' h => ?_
  obtain ⟨y, R, h1, h2, h3, h4⟩ := h
  obtain ⟨⟨od, oa, os, oc, nx, t0, t1, t2, t3, fa, fs, fc⟩, ra, rs, rc⟩ := y
  exact ⟨od, oa, os, oc, nx, t0, t1, t2, t3, fa, fs, fc, ra, rs, rc, R, h1, h2, h3, h4⟩
theorem puts_3 (od : Int) (oa : Option Addr) (os : List Ob) (oc : Nat) (nx t0 t1 t2 t3 : Int) (fa : Option Addr) (fs : List Bl) (fc : Nat) (ra : Option Addr) (rs : List Rw) (rc : Nat) (hsm : Sv.Sm ⟨⟨od, oa, os, oc, nx, t0, t1, t2, t3, fa, fs, fc⟩, ra, rs, rc⟩ st3) (w : World) (hx0 : Sv.Is w ⟨⟨od, oa, os, oc, nx, t0, t1, t2, t3, fa, fs, fc⟩, ra, rs, rc⟩) :
    Calls Tryz.prog 22 #[.agg #[.int .i64 od, .slice oa os.length oc, .int .i64 nx, .int .i64 t0, .int .i64 t1, .int .i64 t2, .int .i64 t3, .slice fa fs.length fc, .slice ra rs.length rc]] w fun e w' => ∃ a c R, e = .returned (.tuple #[.slice a 36 c, .int .i64 0]) ∧ Kept R (fun w => RowIs w a (b36.flatMap byV)) ∧ Hp w.heap.size w w' R := by
  have hb : stB ⟨⟨od, oa, os, oc, nx, t0, t1, t2, t3, fa, fs, fc⟩, ra, rs, rc⟩ = true := (stB_sm hsm).trans (st_yes st3_right)
  have h := puts22_yes _ hb w hx0
  rw [stateB_sm hsm] at h
  refine h.mono fun e w' h => ?_
  obtain ⟨a, c, R, h1, h2, h3⟩ := h
  exact ⟨a, c, R, h1, h2.keptS, h3⟩
set_option maxRecDepth 100000 in
set_option maxHeartbeats 8000000 in
theorem newo_3 (w : World) : Calls Tryz.prog 89 #[.int .i64 3] w fun e w' => e = .returned (.tuple #[.agg #[.int .i64 0, .int .i64 0, .int .i64 0, .string im3, .slice none 0 0], .int .i64 0]) ∧ Below w.heap.size w w' := by
  have hp := Hp.start w
  have HNI : RowKit.Hid ((nI b36).length = 36) := Lib.hid (by rw [nI_len]; rfl)
  go_enter Tryz.func89, Tryz.ntmps89
  go_wp2_with (first | (go_at_call 127; (with_reducible refine (newt_3 _).mono ?_); rintro e w1 ⟨od, oa, os, oc, nx, t0, t1, t2, t3, fa, fs, fc, ra, rs, rc, RN, rfl, hsm, hk, hpn⟩; replace hp := hp.join hpn; have HSM := Lib.hid hsm; have HK := Lib.hid hk; clear hpn hsm hk; simp only [List.cons_append, List.nil_append] at hp) | (go_at_call 22; (with_reducible refine (puts_3 od oa os oc nx t0 t1 t2 t3 fa fs fc ra rs rc HSM.out _ (HK.out.at hp (fun p hm => by simp [hm]))).mono ?_); rintro e w1 ⟨ab, cb, RB, rfl, hkb, hpn⟩; replace hp := hp.join hpn; have HKB := Lib.hid hkb; clear hpn hkb; simp only [List.cons_append, List.nil_append] at hp) | ((with_reducible refine pre_convert _ _ _ rfl ?_); refine wpList_conv_row 57 9 5 _ rfl wy Tryz.underlying57 Tryz.underlying5 Tryz.underlying9 ab 36 cb (sTm rfl) (nI b36) HNI.out (by rw [nI_cells]; exact HKB.out.at hp (by intro p hp2; simp [hp2])) ?_; simp only [put_some, put_none, sSet, zSet]) | go_skip | ((first | ((with_reducible refine pre_alloc _ rfl ?_); refine lZ hp rfl (by with_reducible first | exact zero24 | exact zero50 | exact zero33 | exact zero31) ?_; clear hp; intro b w1 hp) | ((with_reducible refine pre_box _ _ rfl ?_); refine lB hp rfl (sTm rfl) rfl ?_; clear hp; intro b w1 hp) | ((with_reducible refine pre_load _ _ rfl ?_); first | refine lO hp rfl (sTm rfl) ceOI1 aa5 ?_ | refine lA hp rfl (sTm rfl) gaOI0 aa5 ?_) | ((with_reducible refine pre_store _ _ _ rfl ?_); (first | refine sO hp rfl (sTm rfl) ceOI1 aa5 ?_ | refine sA hp rfl (sTm rfl) (sTm rfl) gaOI0 aa5 ?_ | refine sG hp rfl (sTm rfl) (sTm rfl) gaOI0 aa5 ?_); clear hp; intro w1 hp; simp only [spl, zSet, sSet] at hp)); simp only [put_some, put_none, sSet, zSet]))
  exact bodyPost_ret (results_many (rs := [.cell 2 24, .tmp 3]) Tryz.results89 (.cell rfl (hp.loadAgg agg24 at1 0 _ (by rfl) (by rfl)) (.tmp rfl .nil))) rfl ⟨rfl, hp.below⟩
end Go.Proofs.YtaafajaadfgaoaaGreat
/- The chapter's examples of Fold. -/
namespace Go.Proofs.YtaafajaadfgaoaaGreat
open Go.RowKit
def En (n : Int) : Env := ⟨n, 0, 0, 0, ⟨0, 0, 0, 0, 0, 0, 0⟩⟩
def okP (x : Kv) : Bool := inM x.vw 0 900000000 && (inM x.nm 0 x.vw && (inM x.bs 0 900000000 && (decide (x.es.length ≤ 4000) && (folB x.bs 0 x.es && entsB x.nm 0 x.es))))
theorem okC_im3 {x : Kv} (h : okP x = true) (hi : x.im = im3) : okC x = true := by
  unfold okP at h
  simp only [Bool.and_eq_true] at h
  obtain ⟨h1, h2, h3, h4, h5, h6⟩ := h
  unfold okC
  rw [h1, h2, h3, h4, h5, h6, hi, stateR_im3]; rfl
theorem foldO_ok {x y : Kv} {r : Rv} (hx : okP x = true) (hi : x.im = im3) (hm : madeK x r = (0, y)) (hy : okP y = true) (hj : y.im = im3) : foldO x r = (0, y) := by
  unfold foldO
  rw [if_pos (okC_im3 hx hi)]
  unfold foldK
  rw [hm, if_pos rfl, if_pos (okC_im3 hy hj)]
theorem fold_y (vw nm bs : Int) (im : ByteArray) (ea : Option Addr) (es : List Env) (n ec : Nat) (hn : es.length = n) (kd rv rf rn : Int) (rim : ByteArray) (nu vi cl sq kk hh ii nn cc vv tt : Int) (ra : Option Addr) (rs : List Env) (m rc : Nat) (hm : rs.length = m) (vw' nm' bs' : Int) (im' : ByteArray) (es' : List Env) (q : Nat) (hq : es'.length = q) (a0 : Option Addr) (c0 : Nat) (hr : foldO ⟨vw, nm, bs, im, ea, es, ec⟩ ⟨kd, rv, rf, rn, rim, ⟨nu, vi, cl, sq, ⟨kk, hh, ii, nn, cc, vv, tt⟩⟩, ra, rs, rc⟩ = (0, ⟨vw', nm', bs', im', a0, es', c0⟩)) (hes : n ≤ 1500) (him : im.size ≤ 1000000) (hrs : m ≤ 1500) (hrc : m ≤ rc) (hri : rim.size ≤ 1000000) (w : World) (ha : RowIs w ea (es.flatMap envL)) (hra : RowIs w ra (rs.flatMap envL)) :
    Calls Tryz.prog 16 #[.agg #[.int .i64 vw, .int .i64 nm, .int .i64 bs, .string im, .slice ea n ec], .agg #[.int .i64 kd, .int .i64 rv, .int .i64 rf, .int .i64 rn, .string rim, .int .i64 nu, .int .i64 vi, .int .i64 cl, .int .i64 sq, .int .i64 kk, .int .i64 hh, .int .i64 ii, .int .i64 nn, .int .i64 cc, .int .i64 vv, .int .i64 tt, .slice ra m rc]] w fun e w' => ∃ a c R, e = .returned (.tuple #[.agg #[.int .i64 vw', .int .i64 nm', .int .i64 bs', .string im', .slice a q c], .int .i64 0]) ∧ q ≤ c ∧ SubRow 31 11 (.slice a q c) q (es'.flatMap envL) R ∧ Hp w.heap.size w w' R := by
  subst hn hm hq
  refine (fold16L vw nm bs im ea es ec kd rv rf rn rim nu vi cl sq kk hh ii nn cc vv tt ra rs rc _ hr hes him hrs hrc hri w ha hra).mono fun e w' h => ?_
  obtain ⟨a, c, R, h1, h2, h3, h4⟩ := h.1 rfl
  exact ⟨a, c, R, h1, h2, h3, h4⟩
theorem im3_small : im3.size ≤ 1000000 := by rw [im3_size]; decide
end Go.Proofs.YtaafajaadfgaoaaGreat
/- The walk of the examples of Fold. -/
namespace Go.Proofs.YtaafajaadfgaoaaGreat
open Go.RowKit
theorem e0_small : (⟨#[]⟩ : ByteArray).size ≤ 1000000 := by decide
end Go.Proofs.YtaafajaadfgaoaaGreat
/- The walk of the law OplogRight. -/
namespace Go.Proofs.YtaafajaadfgaoaaGreat
open Go.RowKit
theorem ceOMa0 {ty : TypeId} (h : cellB Tryz.prog ty = true := by with_reducible first | exact cell3 | exact cell4 | exact cell22 | exact cell9) : cellB Tryz.prog ty = true := h
def BigP (w : World) (n m p q : Nat) (e : Ending) (w' : World) : Prop := ∃ bb, e = .returned (.bool bb) ∧ (bb = false → n ≤ 300 ∧ m ≤ 300 ∧ p ≤ 100000 ∧ q ≤ 100000) ∧ Below w.heap.size w w'
set_option maxRecDepth 100000 in
theorem big13 (vw nm bs : Int) (im : ByteArray) (ea : Option Addr) (es : List Env) (ec : Nat) (kd rv rf rn : Int) (rim : ByteArray) (nu vi cl sq kk hh ii nn cc vv tt : Int) (ra : Option Addr) (rs : List Env) (rc : Nat) (w : World) : Calls Tryz.prog 13 #[.agg #[.int .i64 vw, .int .i64 nm, .int .i64 bs, .string im, .slice ea es.length ec], .agg #[.int .i64 kd, .int .i64 rv, .int .i64 rf, .int .i64 rn, .string rim, .int .i64 nu, .int .i64 vi, .int .i64 cl, .int .i64 sq, .int .i64 kk, .int .i64 hh, .int .i64 ii, .int .i64 nn, .int .i64 cc, .int .i64 vv, .int .i64 tt, .slice ra rs.length rc]] w (BigP w es.length rs.length im.size rim.size) := by
  have hp := Hp.start w
  by_cases h1 : es.length ≤ 300
  · have e1 : decide ((300 : Int) < (es.length : Int)) = false := by simp; omega
    by_cases h2 : rs.length ≤ 300
    · have e2 : decide ((300 : Int) < (rs.length : Int)) = false := by simp; omega
      by_cases h3 : im.size ≤ 100000
      · have e3 : decide ((100000 : Int) < (im.size : Int)) = false := by simp; omega
        by_cases h4 : rim.size ≤ 100000
        · have e4 : decide ((100000 : Int) < (rim.size : Int)) = false := by simp; omega
          go_enter Tryz.func13, Tryz.ntmps13
          go_wp2_with (first | go_skip | ((first | ((with_reducible refine pre_box _ _ rfl ?_); refine lB hp rfl (sTm rfl) rfl ?_; clear hp; intro b w1 hp) | ((with_reducible refine pre_load _ _ rfl ?_); first | refine lO hp rfl (sTm rfl) ceOMa0 aa5 ?_ | refine lA hp rfl (sTm rfl) (by with_reducible first | exact agg24 | exact agg33) aa5 ?_) | ((with_reducible refine pre_store _ _ _ rfl ?_); (first | refine sO hp rfl (sTm rfl) ceOMa0 aa5 ?_ | refine sA hp rfl (sTm rfl) (sTm rfl) (by with_reducible first | exact agg24 | exact agg33) aa5 ?_ | refine sG hp rfl (sTm rfl) (sTm rfl) (by with_reducible first | exact agg24 | exact agg33) aa5 ?_); clear hp; intro w1 hp; simp only [spl, zSet, sSet] at hp)); simp only [put_some, put_none, sSet, zSet]))
          go_ret
          exact ⟨_, rfl, fun _ => ⟨h1, h2, h3, h4⟩, hp.below⟩
        · have e4 : decide ((100000 : Int) < (rim.size : Int)) = true := by simp; omega
          go_enter Tryz.func13, Tryz.ntmps13
          go_wp2_with (first | go_skip | ((first | ((with_reducible refine pre_box _ _ rfl ?_); refine lB hp rfl (sTm rfl) rfl ?_; clear hp; intro b w1 hp) | ((with_reducible refine pre_load _ _ rfl ?_); first | refine lO hp rfl (sTm rfl) ceOMa0 aa5 ?_ | refine lA hp rfl (sTm rfl) (by with_reducible first | exact agg24 | exact agg33) aa5 ?_) | ((with_reducible refine pre_store _ _ _ rfl ?_); (first | refine sO hp rfl (sTm rfl) ceOMa0 aa5 ?_ | refine sA hp rfl (sTm rfl) (sTm rfl) (by with_reducible first | exact agg24 | exact agg33) aa5 ?_ | refine sG hp rfl (sTm rfl) (sTm rfl) (by with_reducible first | exact agg24 | exact agg33) aa5 ?_); clear hp; intro w1 hp; simp only [spl, zSet, sSet] at hp)); simp only [put_some, put_none, sSet, zSet]))
          go_ret
          exact ⟨true, rfl, fun h => (by cases h), hp.below⟩
      · have e3 : decide ((100000 : Int) < (im.size : Int)) = true := by simp; omega
        go_enter Tryz.func13, Tryz.ntmps13
        go_wp2_with (first | go_skip | ((first | ((with_reducible refine pre_box _ _ rfl ?_); refine lB hp rfl (sTm rfl) rfl ?_; clear hp; intro b w1 hp) | ((with_reducible refine pre_load _ _ rfl ?_); first | refine lO hp rfl (sTm rfl) ceOMa0 aa5 ?_ | refine lA hp rfl (sTm rfl) (by with_reducible first | exact agg24 | exact agg33) aa5 ?_) | ((with_reducible refine pre_store _ _ _ rfl ?_); (first | refine sO hp rfl (sTm rfl) ceOMa0 aa5 ?_ | refine sA hp rfl (sTm rfl) (sTm rfl) (by with_reducible first | exact agg24 | exact agg33) aa5 ?_ | refine sG hp rfl (sTm rfl) (sTm rfl) (by with_reducible first | exact agg24 | exact agg33) aa5 ?_); clear hp; intro w1 hp; simp only [spl, zSet, sSet] at hp)); simp only [put_some, put_none, sSet, zSet]))
        go_ret
        exact ⟨true, rfl, fun h => (by cases h), hp.below⟩
    · have e2 : decide ((300 : Int) < (rs.length : Int)) = true := by simp; omega
      go_enter Tryz.func13, Tryz.ntmps13
      go_wp2_with (first | go_skip | ((first | ((with_reducible refine pre_box _ _ rfl ?_); refine lB hp rfl (sTm rfl) rfl ?_; clear hp; intro b w1 hp) | ((with_reducible refine pre_load _ _ rfl ?_); first | refine lO hp rfl (sTm rfl) ceOMa0 aa5 ?_ | refine lA hp rfl (sTm rfl) (by with_reducible first | exact agg24 | exact agg33) aa5 ?_) | ((with_reducible refine pre_store _ _ _ rfl ?_); (first | refine sO hp rfl (sTm rfl) ceOMa0 aa5 ?_ | refine sA hp rfl (sTm rfl) (sTm rfl) (by with_reducible first | exact agg24 | exact agg33) aa5 ?_ | refine sG hp rfl (sTm rfl) (sTm rfl) (by with_reducible first | exact agg24 | exact agg33) aa5 ?_); clear hp; intro w1 hp; simp only [spl, zSet, sSet] at hp)); simp only [put_some, put_none, sSet, zSet]))
      go_ret
      exact ⟨true, rfl, fun h => (by cases h), hp.below⟩
  · have e1 : decide ((300 : Int) < (es.length : Int)) = true := by simp; omega
    go_enter Tryz.func13, Tryz.ntmps13
    go_wp2_with (first | go_skip | ((first | ((with_reducible refine pre_box _ _ rfl ?_); refine lB hp rfl (sTm rfl) rfl ?_; clear hp; intro b w1 hp) | ((with_reducible refine pre_load _ _ rfl ?_); first | refine lO hp rfl (sTm rfl) ceOMa0 aa5 ?_ | refine lA hp rfl (sTm rfl) (by with_reducible first | exact agg24 | exact agg33) aa5 ?_) | ((with_reducible refine pre_store _ _ _ rfl ?_); (first | refine sO hp rfl (sTm rfl) ceOMa0 aa5 ?_ | refine sA hp rfl (sTm rfl) (sTm rfl) (by with_reducible first | exact agg24 | exact agg33) aa5 ?_ | refine sG hp rfl (sTm rfl) (sTm rfl) (by with_reducible first | exact agg24 | exact agg33) aa5 ?_); clear hp; intro w1 hp; simp only [spl, zSet, sSet] at hp)); simp only [put_some, put_none, sSet, zSet]))
    go_ret
    exact ⟨true, rfl, fun h => (by cases h), hp.below⟩
end Go.Proofs.YtaafajaadfgaoaaGreat

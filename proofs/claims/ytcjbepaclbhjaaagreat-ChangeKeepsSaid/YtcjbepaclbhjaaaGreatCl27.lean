/- Parts of the proof. -/
import Derived.Test.YtcjbepaclbhjaaaGreatCl26
import Derived.Test.YtcjbepaclbhjaaaGreatCl22
import Derived.Test.YtcjbepaclbhjaaaGreatCl4
import Derived.Test.YtcjbepaclbhjaaaGreatCl6
import Derived.Test.YtcjbepaclbhjaaaGreatCl2
import Derived.Test.YtcjbepaclbhjaaaGreatCl25
import Derived.Test.YtcjbepaclbhjaaaGreatCl24
import Derived.Test.YtcjbepaclbhjaaaGreatCl12
import Derived.Test.YtcjbepaclbhjaaaGreatCl20
import Derived.Test.YtcjbepaclbhjaaaGreatCl10
import Derived.Test.YtcjbepaclbhjaaaGreatCl0
open List renaming set_cons_zero → zSet, set_cons_succ → sSet
/- Own rows cut short; the walks of Last and Above. -/
set_option linter.unusedSimpArgs false
set_option linter.unusedVariables false
namespace Go.Proofs.YtcjbepaclbhjaaaGreat
open Go.RowKit
theorem ceOC0 {ty : TypeId} (h : cellB Tryz.prog ty = true := by with_reducible first | exact cell3 | exact cell4 | exact cell22 | exact cell9 | exact cell33) : cellB Tryz.prog ty = true := h
theorem SubRow.drop {e : TypeId} {c n cap off g k : Nat} {xs : List Value} {R : List Blk} (h : SubRow e c (.slice (some ⟨g, off, none⟩) n cap) n xs R) (hk : k ≤ n) (hn : 0 < n) :
    SubRow e c (.slice (some ⟨g, off + k * c, none⟩) (n - k) (cap - k)) (n - k) (xs.drop (k * c)) R := by
  obtain ⟨hl, ⟨h0, _, _⟩ | ⟨g', off', cap', pre, hv, h1, h2, h3, h4⟩⟩ := h
  · omega
  · injection hv with hv _ hc
    injection hv with hv
    injection hv with hg ho _
    subst hg ho hc
    have hm := Nat.mul_le_mul_right c hk
    refine ⟨by rw [List.length_drop, hl, Nat.sub_mul], .inr ⟨g, off + k * c, cap - k, pre ++ xs.take (k * c), rfl, by omega, by omega, by rw [List.length_append, List.length_take, h3, hl]; omega, ?_⟩⟩
    rw [h4, List.append_assoc, List.take_append_drop]
    have hm2 := Nat.mul_le_mul_right c (show k ≤ cap by omega)
    rw [Nat.sub_mul, show off + k * c + (cap * c - k * c) = off + cap * c by omega]
theorem SubRow.take {e : TypeId} {c n cap off g k : Nat} {xs : List Value} {R : List Blk} (h : SubRow e c (.slice (some ⟨g, off, none⟩) n cap) n xs R) (hk : k ≤ n) (hn : 0 < n) :
    ∃ R', SubRow e c (.slice (some ⟨g, off, none⟩) k cap) k (xs.take (k * c)) R' ∧ ∀ {B : Nat} {w0 w : World} {M : List Blk}, Hp B w0 w (R ++ M) → Hp B w0 w (R' ++ M) := by
  obtain ⟨hl, ⟨h0, _, _⟩ | ⟨g', off', cap', pre, hv, h1, h2, h3, h4⟩⟩ := h
  · omega
  · injection hv with hv _ hc
    injection hv with hv
    injection hv with hg ho _
    subst hg ho hc
    have hm := Nat.mul_le_mul_right c hk
    refine ⟨[⟨g, pre ++ xs.take (k * c), e, off + cap * c⟩], ⟨by rw [List.length_take, hl]; omega, .inr ⟨g, off, cap, pre, rfl, by omega, h2, h3, rfl⟩⟩, fun {B w0 w M} hp => ?_⟩
    subst h4
    refine Hp.less (l2 := xs.drop (k * c)) ?_
    rw [List.append_assoc, List.take_append_drop]; exact hp
theorem ent_drop (es : List Env) (k : Nat) : (es.flatMap envL).drop (k * 11) = (es.drop k).flatMap envL := by
  induction k generalizing es with
  | zero => simp
  | succ k ih =>
    cases es with
    | nil => simp
    | cons e es =>
      rw [List.flatMap_cons, List.drop_succ_cons, ← ih es, show (k + 1) * 11 = 11 + k * 11 by omega, ← List.drop_drop, List.drop_left' (envL_len11 e)]
theorem ent_take (es : List Env) (k : Nat) : (es.flatMap envL).take (k * 11) = (es.take k).flatMap envL := by
  have h1 := ent_drop es k
  have h2 := List.take_append_drop (k * 11) (es.flatMap envL)
  conv at h2 => rhs; rw [← List.take_append_drop k es, List.flatMap_append]
  rw [h1] at h2
  exact List.append_cancel_right h2
theorem check27N (vw nm bs : Int) (im : ByteArray) (ea : Option Addr) (es : List Env) (n ec : Nat) (hn : es.length = n) (b : Bool) (hb : okC ⟨vw, nm, bs, im, ea, es, ec⟩ = b) (hs : Kv.Small ⟨vw, nm, bs, im, ea, es, ec⟩) (w : World) (ha : RowIs w ea (es.flatMap envL)) :
    Calls Tryz.prog 27 #[.agg #[.int .i64 vw, .int .i64 nm, .int .i64 bs, .string im, .slice ea n ec]] w fun e w' => e = .returned (.int .i64 (if b = true then 0 else 1)) ∧ Below w.heap.size w w' := by
  subst hn
  exact check27L vw nm bs im ea es ec b hb hs w ha
theorem last29L (vw nm bs : Int) (im : ByteArray) (ea : Option Addr) (es : List Env) (ec : Nat) (b : Bool) (hb : okC ⟨vw, nm, bs, im, ea, es, ec⟩ = b) (hs : Kv.Small ⟨vw, nm, bs, im, ea, es, ec⟩) (w : World) (ha : RowIs w ea (es.flatMap envL)) :
    Calls Tryz.prog 29 #[.agg #[.int .i64 vw, .int .i64 nm, .int .i64 bs, .string im, .slice ea es.length ec]] w fun e w' => e = .returned (.int .i64 (if b = true then wrap64 (bs + es.length) else 0)) ∧ Below w.heap.size w w' := by
  have hp := Hp.start w
  have HB := Lib.hid hb
  have HSS := Lib.hid hs
  have HA := Lib.hid ha
  have HN : RowKit.Hid (es.length = es.length) := Lib.hid rfl
  clear hb hs ha
  cases b
  all_goals
    go_enter Tryz.func29, Tryz.ntmps29
    go_wp2_with (first | (go_at_call 27; (with_reducible refine (check27N vw nm bs im _ _ _ ec HN.out _ HB.out HSS.out _ (HA.out.below hp.below)).mono ?_); rintro e w1 ⟨rfl, hb⟩; replace hp := hp.call hb; clear hb; simp only [if_true, Bool.false_eq_true, if_false]) | (go_at_call 61; (with_reducible refine (last61 vw nm bs im _ _ ec _).mono ?_); rintro e w1 ⟨rfl, hb⟩; replace hp := hp.call hb; clear hb) | go_skip | ((first | ((with_reducible refine pre_box _ _ rfl ?_); refine lB hp rfl (sTm rfl) rfl ?_; clear hp; intro b w1 hp) | ((with_reducible refine pre_load _ _ rfl ?_); first | refine lO hp rfl (sTm rfl) ceOC0 aa5 ?_ | refine lA hp rfl (sTm rfl) agg24 aa5 ?_) | ((with_reducible refine pre_store _ _ _ rfl ?_); (first | refine sO hp rfl (sTm rfl) ceOC0 aa5 ?_ | refine sA hp rfl (sTm rfl) (sTm rfl) agg24 aa5 ?_ | refine sG hp rfl (sTm rfl) (sTm rfl) agg24 aa5 ?_); clear hp; intro w1 hp; simp only [spl, zSet, sSet] at hp)); simp only [put_some, put_none, sSet, zSet]))
    go_ret
    exact ⟨rfl, hp.below⟩
theorem OwnRow.cap {e : TypeId} {c n m : Nat} {a : Option Addr} {k : Nat} {xs : List Value} {R : List Blk} (h : OwnRow e c (.slice a n k) m xs R) : m ≤ k := by
  obtain ⟨_, ⟨h0, hv, _, _⟩ | ⟨g, cap, hv, h1, h2, _⟩⟩ := h
  · omega
  · injection hv with _ _ hk
    omega
theorem clone_ents (l : List Env) (a : Option Addr) (n c : Nat) (hn : l.length = n) (hl : n ≤ 100000) (w : World) (ha : RowIs w a (l.flatMap envL)) : Calls Tryz.prog 60 #[.slice a n c] w fun e w' => ∃ a c R, e = .returned (.slice a n c) ∧ n ≤ c ∧ OwnRow 47 11 (.slice a n c) n (l.flatMap envL) R ∧ Hp w.heap.size w w' R := by
  subst hn
  refine (clone60 a l.length c hl (l.flatMap envL) (flat_len envL 11 envL_len11 l) (by rw [List.all_flatMap]; exact List.all_eq_true.2 fun x _ => rfl) w ha).mono fun e w' h => ?_
  obtain ⟨v, R, h1, h2, h3⟩ := h
  obtain ⟨a', c', rfl, _⟩ := h2.kept
  exact ⟨a', c', R, h1, h2.cap, h2, h3⟩
theorem ents_row {w : World} {b off : Nat} {es : List Env} (ha : RowIs w (some ⟨b, off, none⟩) (es.flatMap envL)) (k j : Nat) : RowIs w (some ⟨b, off + k * 11, none⟩) (((es.drop k).take j).flatMap envL) := by
  rw [← ent_take, ← ent_drop]
  intro i v hi
  rw [List.getElem?_take] at hi
  split at hi
  · rw [List.getElem?_drop] at hi
    obtain ⟨b', off', he, hc⟩ := ha _ _ hi
    injection he with he; injection he with e1 e2; subst e1 e2
    exact ⟨b, off + k * 11, rfl, by rw [Nat.add_assoc]; exact hc⟩
  · cases hi
end Go.Proofs.YtcjbepaclbhjaaaGreat
/- The walk of fold: a record is done on what is kept. -/
namespace Go.Proofs.YtcjbepaclbhjaaaGreat
open Go.RowKit
def lastK (x : Kv) : Int := x.bs + x.es.length
theorem ok_facts {x : Kv} (h : okC x = true) : (0 ≤ x.vw ∧ x.vw ≤ 900000000) ∧ (0 ≤ x.nm ∧ x.nm ≤ x.vw) ∧ (0 ≤ x.bs ∧ x.bs ≤ 900000000) ∧ x.es.length ≤ 4000 := by
  unfold okC at h
  simp only [Bool.and_eq_true, inM, decide_eq_true_eq] at h
  exact ⟨h.1, h.2.1, h.2.2.1, h.2.2.2.1⟩
end Go.Proofs.YtcjbepaclbhjaaaGreat
/- The walk of fold: another log is taken. -/
namespace Go.Proofs.YtcjbepaclbhjaaaGreat
open Go.RowKit
theorem SubRow.cut {e : TypeId} {c n cap k : Nat} {a : Option Addr} {xs : List Value} {R : List Blk} (h : SubRow e c (.slice a n cap) n xs R) (hk : k ≤ n) :
    ∃ R', SubRow e c (.slice a k cap) k (xs.take (k * c)) R' ∧ ∀ (B : Nat) (w0 w : World) (M : List Blk), Hp B w0 w (R ++ M) → Hp B w0 w (R' ++ M) := by
  obtain ⟨hl, ⟨h0, ⟨a', hv⟩, hr⟩ | ⟨g', off', cap', pre, hv, h1, h2, h3, h4⟩⟩ := h
  · injection hv with _ _ hc
    subst h0 hc hr
    obtain rfl : k = 0 := by omega
    have hx : xs = [] := List.eq_nil_of_length_eq_zero (by simpa using hl)
    subst hx
    exact ⟨[], by simpa using SubRow.nil e c a, fun _ _ _ _ hp => hp⟩
  · injection hv with hv _ hc
    subst hv hc
    have hm := Nat.mul_le_mul_right c hk
    refine ⟨[⟨g', pre ++ xs.take (k * c), e, off' + cap * c⟩], ⟨by rw [List.length_take, hl]; omega, .inr ⟨g', off', cap, pre, rfl, by omega, h2, h3, rfl⟩⟩, fun B w0 w M hp => ?_⟩
    subst h4
    refine Hp.less (l2 := xs.drop (k * c)) ?_
    rw [List.append_assoc, List.take_append_drop]; exact hp
end Go.Proofs.YtcjbepaclbhjaaaGreat
/- The walks of New of states, the program's. -/
namespace Go.Proofs.YtcjbepaclbhjaaaGreat
open Go.RowKit
theorem gaHNewT0 {ty : TypeId} {k : Nat} (h : aggB Tryz.prog ty k = true := by with_reducible first | exact agg86 | exact agg83 | exact agg150) : aggB Tryz.prog ty k = true := h
theorem ceHNewT1 {ty : TypeId} (h : cellB Tryz.prog ty = true := by with_reducible first | exact cell3 | exact cell4 | exact cell79 | exact cell81 | exact cell84 | exact cell33) : cellB Tryz.prog ty = true := h
set_option maxRecDepth 100000 in
set_option maxHeartbeats 4000000 in
theorem news97_yes (o : Int) (h : regionB o = true) (w : World) : Calls Tryz.prog 97 #[.int .i64 o] w (NewPostS w (oneHv o) 0) := by
  have hp := Hp.start w
  have K := Lib.hid (newh119_yes o h)
  clear h
  go_enter Tryz.func97, Tryz.ntmps97
  go_wp2_with (first | (go_at_call 119; ((with_reducible refine (K.out _).mono ?_); rintro e w1 ⟨⟨od, oa, os, oc, nx, t0, t1, t2, t3, fa, fs, fc⟩, R, rfl, hsm, hk, hp5⟩; replace hp := hp.join hp5; have HSM := Lib.hid hsm; have HK := Lib.hid hk; clear hp5 hsm hk; simp only [List.cons_append, List.nil_append, hvL] at hp ⊢)) | go_skip | ((first | ((with_reducible refine pre_alloc _ rfl ?_); refine lZ hp rfl (by with_reducible first | exact zero86 | exact zero83) ?_; clear hp; intro b w1 hp) | ((with_reducible refine pre_box _ _ rfl ?_); refine lB hp rfl (sTm rfl) rfl ?_; clear hp; intro b w1 hp) | ((with_reducible refine pre_load _ _ rfl ?_); first | refine lO hp rfl (sTm rfl) ceHNewT1 aa14 ?_ | refine lA hp rfl (sTm rfl) gaHNewT0 aa14 ?_) | ((with_reducible refine pre_store _ _ _ rfl ?_); (first | refine sO hp rfl (sTm rfl) ceHNewT1 aa14 ?_ | refine sA hp rfl (sTm rfl) (sTm rfl) gaHNewT0 aa14 ?_ | refine sG hp rfl (sTm rfl) (sTm rfl) gaHNewT0 aa14 ?_); clear hp; intro w1 hp; simp only [spl, zSet, sSet] at hp) | ((with_reducible refine pre_build _ _ _ rfl ?_); refine lS hp rfl (by intro w; go_simp; rfl) ?_; clear hp; intro b w1 hp; simp only [List.length_cons, List.length_nil, Nat.reduceAdd] at hp)); simp only [put_some, put_none, sSet, zSet]))
  exact bodyPost_ret (results_many (rs := [.cell 2 86, .tmp 3]) Tryz.results97 (.cell rfl (hp.loadAgg agg86 at1 0 _ (by rfl) (by rfl)) (.tmp rfl .nil))) rfl ⟨⟨⟨od, oa, os, oc, nx, t0, t1, t2, t3, fa, fs, fc⟩, none, [], 0⟩, R, rfl, ⟨HSM.out, rfl⟩, (HK.out.mono (fun _ h => h) (fun w h => ⟨h, RowIs.nil _ _⟩)), hp.tail.tail⟩
end Go.Proofs.YtcjbepaclbhjaaaGreat
/- The walk of New, and what the examples lay. -/
namespace Go.Proofs.YtcjbepaclbhjaaaGreat
open Go.RowKit
theorem gaOI0 {ty : TypeId} {k : Nat} (h : aggB Tryz.prog ty k = true := by with_reducible first | exact agg24 | exact agg86 | exact agg51 | exact agg47) : aggB Tryz.prog ty k = true := h
theorem ceOI1 {ty : TypeId} (h : cellB Tryz.prog ty = true := by with_reducible first | exact cell3 | exact cell4 | exact cell33) : cellB Tryz.prog ty = true := h
theorem zero51 : zeroL Tryz.prog 51 = some ([.int .i64 0, .int .i64 0, .int .i64 0, .int .i64 0, .string ⟨#[]⟩, .int .i64 0, .int .i64 0, .int .i64 0, .int .i64 0, .int .i64 0, .int .i64 0, .int .i64 0, .int .i64 0, .int .i64 0, .int .i64 0, .int .i64 0, .slice none 0 0], 17) := by kernel_rfl
def st3 : Sv := ⟨oneHv 3, none, [], 0⟩
def b36 : List Nat := stateB st3
theorem b36_bytes : Bytes b36 := by
  intro x hx
  have : b36 = [0, 0, 0, 28] ++ b28 ++ [0, 0, 0, 0] := rfl
  rw [this] at hx
  simp [b28] at hx
  omega
theorem st3_right : StR st3 := ⟨hright_of right_one3, rfl⟩
theorem stateR_36 : stateR b36 = some (clearS st3) := stateR_put st3_right ⟨(fun o ho => by cases ho), (fun r hr => by cases hr)⟩
def im3 : ByteArray := strOfNums (nI b36)
theorem strB_im3 : strB im3 = b36 := strB_of b36_bytes
theorem im3_size : im3.size = 36 := by rw [← strB_len, strB_im3]; rfl
theorem stateR_im3 : stateR (strB im3) = some (clearS st3) := by rw [strB_im3]; exact stateR_36
def GotSK (w : World) (e : Ending) (w' : World) : Prop := ∃ od oa os oc nx t0 t1 t2 t3 fa fs fc ra rs rc R, e = .returned (.tuple #[.agg #[.int .i64 od, .slice oa (List.length os) oc, .int .i64 nx, .int .i64 t0, .int .i64 t1, .int .i64 t2, .int .i64 t3, .slice fa (List.length fs) fc, .slice ra (List.length rs) rc], .int .i64 0]) ∧ Sv.Sm ⟨⟨od, oa, os, oc, nx, t0, t1, t2, t3, fa, fs, fc⟩, ra, rs, rc⟩ st3 ∧ Kept R (fun w => Sv.Is w ⟨⟨od, oa, os, oc, nx, t0, t1, t2, t3, fa, fs, fc⟩, ra, rs, rc⟩) ∧ Hp w.heap.size w w' R
theorem newt_3 (w : World) : Calls Tryz.prog 97 #[.int .i64 3] w (GotSK w) := by
  refine (news97_yes 3 rfl w).mono fun e w' h => ?_
  obtain ⟨y, R, h1, h2, h3, h4⟩ := h
  obtain ⟨⟨od, oa, os, oc, nx, t0, t1, t2, t3, fa, fs, fc⟩, ra, rs, rc⟩ := y
  exact ⟨od, oa, os, oc, nx, t0, t1, t2, t3, fa, fs, fc, ra, rs, rc, R, h1, h2, h3, h4⟩
theorem puts_3 (od : Int) (oa : Option Addr) (os : List Ob) (oc : Nat) (nx t0 t1 t2 t3 : Int) (fa : Option Addr) (fs : List Bl) (fc : Nat) (ra : Option Addr) (rs : List Rw) (rc : Nat) (hsm : Sv.Sm ⟨⟨od, oa, os, oc, nx, t0, t1, t2, t3, fa, fs, fc⟩, ra, rs, rc⟩ st3) (w : World) (hx0 : Sv.Is w ⟨⟨od, oa, os, oc, nx, t0, t1, t2, t3, fa, fs, fc⟩, ra, rs, rc⟩) :
    Calls Tryz.prog 98 #[.agg #[.int .i64 od, .slice oa os.length oc, .int .i64 nx, .int .i64 t0, .int .i64 t1, .int .i64 t2, .int .i64 t3, .slice fa fs.length fc, .slice ra rs.length rc]] w fun e w' => ∃ a c R, e = .returned (.tuple #[.slice a 36 c, .int .i64 0]) ∧ Kept R (fun w => RowIs w a (b36.flatMap byV)) ∧ Hp w.heap.size w w' R := by
  have hb : stB ⟨⟨od, oa, os, oc, nx, t0, t1, t2, t3, fa, fs, fc⟩, ra, rs, rc⟩ = true := (stB_sm hsm).trans (st_yes st3_right)
  have h := puts98_yes _ hb w hx0
  rw [stateB_sm hsm] at h
  refine h.mono fun e w' h => ?_
  obtain ⟨a, c, R, h1, h2, h3⟩ := h
  exact ⟨a, c, R, h1, h2.keptS, h3⟩
set_option maxRecDepth 100000 in
set_option maxHeartbeats 8000000 in
theorem newo_3 (w : World) : Calls Tryz.prog 69 #[.int .i64 3] w fun e w' => e = .returned (.tuple #[.agg #[.int .i64 0, .int .i64 0, .int .i64 0, .string im3, .slice none 0 0], .int .i64 0]) ∧ Below w.heap.size w w' := by
  have hp := Hp.start w
  have HNI : RowKit.Hid ((nI b36).length = 36) := Lib.hid (by rw [nI_len]; rfl)
  go_enter Tryz.func69, Tryz.ntmps69
  go_wp2_with (first | (go_at_call 97; (with_reducible refine (newt_3 _).mono ?_); rintro e w1 ⟨od, oa, os, oc, nx, t0, t1, t2, t3, fa, fs, fc, ra, rs, rc, RN, rfl, hsm, hk, hpn⟩; replace hp := hp.join hpn; have HSM := Lib.hid hsm; have HK := Lib.hid hk; clear hpn hsm hk; simp only [List.cons_append, List.nil_append] at hp) | (go_at_call 98; (with_reducible refine (puts_3 od oa os oc nx t0 t1 t2 t3 fa fs fc ra rs rc HSM.out _ (HK.out.at hp (fun p hm => by simp [hm]))).mono ?_); rintro e w1 ⟨ab, cb, RB, rfl, hkb, hpn⟩; replace hp := hp.join hpn; have HKB := Lib.hid hkb; clear hpn hkb; simp only [List.cons_append, List.nil_append] at hp) | ((with_reducible refine pre_convert _ _ _ rfl ?_); refine wpList_conv_row 89 9 5 _ rfl wy Tryz.underlying89 Tryz.underlying5 Tryz.underlying9 ab 36 cb (sTm rfl) (nI b36) HNI.out (by rw [nI_cells]; exact HKB.out.at hp (by intro p hp2; simp [hp2])) ?_; simp only [put_some, put_none, sSet, zSet]) | go_skip | ((first | ((with_reducible refine pre_alloc _ rfl ?_); refine lZ hp rfl (by with_reducible first | exact zero24 | exact zero86 | exact zero51 | exact zero47) ?_; clear hp; intro b w1 hp) | ((with_reducible refine pre_box _ _ rfl ?_); refine lB hp rfl (sTm rfl) rfl ?_; clear hp; intro b w1 hp) | ((with_reducible refine pre_load _ _ rfl ?_); first | refine lO hp rfl (sTm rfl) ceOI1 aa5 ?_ | refine lA hp rfl (sTm rfl) gaOI0 aa5 ?_) | ((with_reducible refine pre_store _ _ _ rfl ?_); (first | refine sO hp rfl (sTm rfl) ceOI1 aa5 ?_ | refine sA hp rfl (sTm rfl) (sTm rfl) gaOI0 aa5 ?_ | refine sG hp rfl (sTm rfl) (sTm rfl) gaOI0 aa5 ?_); clear hp; intro w1 hp; simp only [spl, zSet, sSet] at hp)); simp only [put_some, put_none, sSet, zSet]))
  exact bodyPost_ret (results_many (rs := [.cell 2 24, .tmp 3]) Tryz.results69 (.cell rfl (hp.loadAgg agg24 at1 0 _ (by rfl) (by rfl)) (.tmp rfl .nil))) rfl ⟨rfl, hp.below⟩
end Go.Proofs.YtcjbepaclbhjaaaGreat
/- The chapter's examples of Fold. -/
namespace Go.Proofs.YtcjbepaclbhjaaaGreat
open Go.RowKit
def En (n : Int) : Env := ⟨n, 0, 0, 0, ⟨0, 0, 0, 0, 0, 0, 0⟩⟩
def okP (x : Kv) : Bool := inM x.vw 0 900000000 && (inM x.nm 0 x.vw && (inM x.bs 0 900000000 && (decide (x.es.length ≤ 4000) && (folB x.bs 0 x.es && entsB x.nm 0 x.es))))
theorem okC_im3 {x : Kv} (h : okP x = true) (hi : x.im = im3) : okC x = true := by
  unfold okP at h
  simp only [Bool.and_eq_true] at h
  obtain ⟨h1, h2, h3, h4, h5, h6⟩ := h
  unfold okC
  rw [h1, h2, h3, h4, h5, h6, hi, stateR_im3]; rfl
theorem im3_small : im3.size ≤ 1000000 := by rw [im3_size]; decide
end Go.Proofs.YtcjbepaclbhjaaaGreat
/- What comes of what is right: the plain law of OplogRight. No program in sight. -/
namespace Go.Proofs.YtcjbepaclbhjaaaGreat
open Go.RowKit
theorem may_nu {e : Env} (h : mayE e = true) : 1 ≤ e.nu ∧ e.nu ≤ 900000000 := by
  unfold mayE at h
  simp only [Bool.and_eq_true, inM, decide_eq_true_eq] at h
  exact h.1.1
theorem fol_nu {fr : Int} : ∀ {l : List Env} {q : Nat}, q + l.length ≤ 100000 → (∀ e ∈ l, 1 ≤ e.nu ∧ e.nu ≤ 900000000) → folB fr q l = true → ∀ (i : Nat) (h : i < l.length), l[i].nu = fr + 1 + (q + i : Nat)
  | [], _, _, _, _, i, h => by simp at h
  | e :: r, q, hq, hn, hf, i, h => by
    unfold folB at hf
    rw [Bool.and_eq_true, decide_eq_true_eq] at hf
    obtain ⟨h1, h2⟩ := hf
    have he := hn e (by simp)
    simp only [List.length_cons] at hq
    have e1 : wrap64 (e.nu - 1) = e.nu - 1 := by unfold wrap64; omega
    rw [e1] at h1
    have e2 : wrap64 (e.nu - 1 - (q : Int)) = e.nu - 1 - (q : Int) := by unfold wrap64; omega
    rw [e2] at h1
    cases i with
    | zero => simp only [List.getElem_cons_zero]; omega
    | succ i =>
      have h3 := fol_nu (l := r) (q := q + 1) (by omega) (fun x hx => hn x (by simp [hx])) h2 i (by simpa using h)
      simp only [List.getElem_cons_succ]
      rw [h3]; push_cast; omega
end Go.Proofs.YtcjbepaclbhjaaaGreat
/- The walk of the law OplogRight. -/
namespace Go.Proofs.YtcjbepaclbhjaaaGreat
open Go.RowKit
theorem ceOMa0 {ty : TypeId} (h : cellB Tryz.prog ty = true := by with_reducible first | exact cell3 | exact cell4 | exact cell22 | exact cell9) : cellB Tryz.prog ty = true := h
def BigP (w : World) (n m p q : Nat) (e : Ending) (w' : World) : Prop := ∃ bb, e = .returned (.bool bb) ∧ (bb = false → n ≤ 300 ∧ m ≤ 300 ∧ p ≤ 100000 ∧ q ≤ 100000) ∧ Below w.heap.size w w'
set_option maxRecDepth 100000 in
theorem big26 (vw nm bs : Int) (im : ByteArray) (ea : Option Addr) (es : List Env) (ec : Nat) (kd rv rf rn : Int) (rim : ByteArray) (nu vi cl sq kk hh ii nn cc vv tt : Int) (ra : Option Addr) (rs : List Env) (rc : Nat) (w : World) : Calls Tryz.prog 26 #[.agg #[.int .i64 vw, .int .i64 nm, .int .i64 bs, .string im, .slice ea es.length ec], .agg #[.int .i64 kd, .int .i64 rv, .int .i64 rf, .int .i64 rn, .string rim, .int .i64 nu, .int .i64 vi, .int .i64 cl, .int .i64 sq, .int .i64 kk, .int .i64 hh, .int .i64 ii, .int .i64 nn, .int .i64 cc, .int .i64 vv, .int .i64 tt, .slice ra rs.length rc]] w (BigP w es.length rs.length im.size rim.size) := by
  have hp := Hp.start w
  by_cases h1 : es.length ≤ 300
  · have e1 : decide ((300 : Int) < (es.length : Int)) = false := by simp; omega
    by_cases h2 : rs.length ≤ 300
    · have e2 : decide ((300 : Int) < (rs.length : Int)) = false := by simp; omega
      by_cases h3 : im.size ≤ 100000
      · have e3 : decide ((100000 : Int) < (im.size : Int)) = false := by simp; omega
        by_cases h4 : rim.size ≤ 100000
        · have e4 : decide ((100000 : Int) < (rim.size : Int)) = false := by simp; omega
          go_enter Tryz.func26, Tryz.ntmps26
          go_wp2_with (first | go_skip | ((first | ((with_reducible refine pre_box _ _ rfl ?_); refine lB hp rfl (sTm rfl) rfl ?_; clear hp; intro b w1 hp) | ((with_reducible refine pre_load _ _ rfl ?_); first | refine lO hp rfl (sTm rfl) ceOMa0 aa5 ?_ | refine lA hp rfl (sTm rfl) (by with_reducible first | exact agg24 | exact agg51) aa5 ?_) | ((with_reducible refine pre_store _ _ _ rfl ?_); (first | refine sO hp rfl (sTm rfl) ceOMa0 aa5 ?_ | refine sA hp rfl (sTm rfl) (sTm rfl) (by with_reducible first | exact agg24 | exact agg51) aa5 ?_ | refine sG hp rfl (sTm rfl) (sTm rfl) (by with_reducible first | exact agg24 | exact agg51) aa5 ?_); clear hp; intro w1 hp; simp only [spl, zSet, sSet] at hp)); simp only [put_some, put_none, sSet, zSet]))
          go_ret
          exact ⟨_, rfl, fun _ => ⟨h1, h2, h3, h4⟩, hp.below⟩
        · have e4 : decide ((100000 : Int) < (rim.size : Int)) = true := by simp; omega
          go_enter Tryz.func26, Tryz.ntmps26
          go_wp2_with (first | go_skip | ((first | ((with_reducible refine pre_box _ _ rfl ?_); refine lB hp rfl (sTm rfl) rfl ?_; clear hp; intro b w1 hp) | ((with_reducible refine pre_load _ _ rfl ?_); first | refine lO hp rfl (sTm rfl) ceOMa0 aa5 ?_ | refine lA hp rfl (sTm rfl) (by with_reducible first | exact agg24 | exact agg51) aa5 ?_) | ((with_reducible refine pre_store _ _ _ rfl ?_); (first | refine sO hp rfl (sTm rfl) ceOMa0 aa5 ?_ | refine sA hp rfl (sTm rfl) (sTm rfl) (by with_reducible first | exact agg24 | exact agg51) aa5 ?_ | refine sG hp rfl (sTm rfl) (sTm rfl) (by with_reducible first | exact agg24 | exact agg51) aa5 ?_); clear hp; intro w1 hp; simp only [spl, zSet, sSet] at hp)); simp only [put_some, put_none, sSet, zSet]))
          go_ret
          exact ⟨true, rfl, fun h => (by cases h), hp.below⟩
      · have e3 : decide ((100000 : Int) < (im.size : Int)) = true := by simp; omega
        go_enter Tryz.func26, Tryz.ntmps26
        go_wp2_with (first | go_skip | ((first | ((with_reducible refine pre_box _ _ rfl ?_); refine lB hp rfl (sTm rfl) rfl ?_; clear hp; intro b w1 hp) | ((with_reducible refine pre_load _ _ rfl ?_); first | refine lO hp rfl (sTm rfl) ceOMa0 aa5 ?_ | refine lA hp rfl (sTm rfl) (by with_reducible first | exact agg24 | exact agg51) aa5 ?_) | ((with_reducible refine pre_store _ _ _ rfl ?_); (first | refine sO hp rfl (sTm rfl) ceOMa0 aa5 ?_ | refine sA hp rfl (sTm rfl) (sTm rfl) (by with_reducible first | exact agg24 | exact agg51) aa5 ?_ | refine sG hp rfl (sTm rfl) (sTm rfl) (by with_reducible first | exact agg24 | exact agg51) aa5 ?_); clear hp; intro w1 hp; simp only [spl, zSet, sSet] at hp)); simp only [put_some, put_none, sSet, zSet]))
        go_ret
        exact ⟨true, rfl, fun h => (by cases h), hp.below⟩
    · have e2 : decide ((300 : Int) < (rs.length : Int)) = true := by simp; omega
      go_enter Tryz.func26, Tryz.ntmps26
      go_wp2_with (first | go_skip | ((first | ((with_reducible refine pre_box _ _ rfl ?_); refine lB hp rfl (sTm rfl) rfl ?_; clear hp; intro b w1 hp) | ((with_reducible refine pre_load _ _ rfl ?_); first | refine lO hp rfl (sTm rfl) ceOMa0 aa5 ?_ | refine lA hp rfl (sTm rfl) (by with_reducible first | exact agg24 | exact agg51) aa5 ?_) | ((with_reducible refine pre_store _ _ _ rfl ?_); (first | refine sO hp rfl (sTm rfl) ceOMa0 aa5 ?_ | refine sA hp rfl (sTm rfl) (sTm rfl) (by with_reducible first | exact agg24 | exact agg51) aa5 ?_ | refine sG hp rfl (sTm rfl) (sTm rfl) (by with_reducible first | exact agg24 | exact agg51) aa5 ?_); clear hp; intro w1 hp; simp only [spl, zSet, sSet] at hp)); simp only [put_some, put_none, sSet, zSet]))
      go_ret
      exact ⟨true, rfl, fun h => (by cases h), hp.below⟩
  · have e1 : decide ((300 : Int) < (es.length : Int)) = true := by simp; omega
    go_enter Tryz.func26, Tryz.ntmps26
    go_wp2_with (first | go_skip | ((first | ((with_reducible refine pre_box _ _ rfl ?_); refine lB hp rfl (sTm rfl) rfl ?_; clear hp; intro b w1 hp) | ((with_reducible refine pre_load _ _ rfl ?_); first | refine lO hp rfl (sTm rfl) ceOMa0 aa5 ?_ | refine lA hp rfl (sTm rfl) (by with_reducible first | exact agg24 | exact agg51) aa5 ?_) | ((with_reducible refine pre_store _ _ _ rfl ?_); (first | refine sO hp rfl (sTm rfl) ceOMa0 aa5 ?_ | refine sA hp rfl (sTm rfl) (sTm rfl) (by with_reducible first | exact agg24 | exact agg51) aa5 ?_ | refine sG hp rfl (sTm rfl) (sTm rfl) (by with_reducible first | exact agg24 | exact agg51) aa5 ?_); clear hp; intro w1 hp; simp only [spl, zSet, sSet] at hp)); simp only [put_some, put_none, sSet, zSet]))
    go_ret
    exact ⟨true, rfl, fun h => (by cases h), hp.below⟩
end Go.Proofs.YtcjbepaclbhjaaaGreat
/- 'clear' of the end of a row of the call's own, any number of elements. No program in sight. -/
namespace Go.Proofs.YtcjbepaclbhjaaaGreat
open Go.RowKit Go.Lib
theorem zcells_len (z : Array Value) (n : Nat) : (Builtin.zeroCells z n).toList.length = n * z.size := by
  unfold Builtin.zeroCells; simp
theorem zcells_one {z : Array Value} (hz : z.toList.all (·.oneCell') = true) (n : Nat) : (Builtin.zeroCells z n).toList.all (·.oneCell') = true := by
  rcases Nat.eq_zero_or_pos z.size with h0 | h0
  · have : (Builtin.zeroCells z n).toList = [] := List.eq_nil_of_length_eq_zero (by rw [zcells_len, h0]; rfl)
    rw [this]; rfl
  · unfold Builtin.zeroCells
    rw [List.all_eq_true]
    intro v hv
    simp only [Array.toList_map, List.mem_map] at hv
    obtain ⟨i, _, rfl⟩ := hv
    have hl : i % z.size < z.size := Nat.mod_lt _ h0
    rw [getElem!_pos z _ hl]
    exact List.all_eq_true.1 hz _ (by simp)
section
variable {P : Program} {ops : Array Oper} {rest : List Oper} {o : Oper} {a : Act} {w : World} {Q : Exit → Act → World → Prop} {w0 : World} {L : List Blk}
theorem wpList_clearEnd {B : Nat} {e : TypeId} {g off cap c : Nat} {l : List Value} {M : List Blk} (hp : Hp B w0 w (⟨g, l, e, cap * c⟩ :: M)) (t : TypeId) (x : Operand) (ho : o.op = .call { callee := .builtin .clear, args := #[x], argTypes := #[t] }) (hw : Region.wanted o (yielded ops a.tmps) = true)
    (ht : P.underlying t = some (.slice e)) (z : Value) (hz : ∀ w, (zeroValue e).run P w = .ok z w) (q cc : Nat) (hx : a.eval x = .slice (some ⟨g, off, none⟩) q cc) (hq : 0 < q) (hc : z.cells.size = c) (h1 : z.cells.toList.all (·.oneCell') = true)
    (hoff : off = l.length) (hfit : l.length + q * c ≤ cap * c)
    (h : ∀ v w', Hp B w0 w' (⟨g, l, e, cap * c⟩ :: M) → wpList P ops Q rest (a.put o.dst v) w') : wpList P ops Q (o :: rest) a w := by
  refine BigFrame.wpList_want hw fun K hK => ?_
  subst hoff
  obtain ⟨k, rfl⟩ : ∃ k, q = k + 1 := ⟨q - 1, by omega⟩
  obtain ⟨zs, hzs⟩ : ∃ zs, (Builtin.zeroCells z.cells (k + 1)).toList = zs := ⟨_, rfl⟩
  have hlen : zs.length = (k + 1) * c := by rw [← hzs, zcells_len, hc]
  have h1' : zs.all (·.oneCell') = true := by rw [← hzs]; exact zcells_one h1 _
  obtain ⟨l2, hl2, hp2⟩ := hp.more ((k + 1) * c) hfit
  obtain ⟨w', hst, hp'⟩ := Hp.storeCells (P := P) l.length zs w _ (l ++ l2) 0 hp2 (i := 0) rfl (by rw [List.length_append, hl2, hlen]; omega) h1'
  rw [Nat.add_zero] at hp'
  have key : (Builtin.clear_ #[t] o.type #[.slice (some ⟨g, l.length, none⟩) (k + 1) cc]).run P w = .ok (.tuple #[]) w' := by
    simp [Builtin.clear_, run_underlying ht, hz, hzs, hst]
  have hp3 : Hp B w0 w' (⟨g, spl (l ++ l2) l.length zs, e, cap * c⟩ :: M) := hp'
  rw [spl_append _ _ _ (by rw [hl2, hlen])] at hp3
  unfold Oper.wp execOp
  simp only [ho, resolve, invoke, builtin, Sem.run_bind, Sem.run_pure, Result.andThen_ok, List.map_toArray, List.map_cons, List.map_nil, hx, key]
  refine hK _ _ (h _ w' ?_)
  refine ⟨hp3.below, hp3.size, by simpa using hp3.nodup, fun p hp => ?_⟩
  rcases List.mem_cons.1 hp with rfl | hp
  · obtain ⟨h1, cs, h2, h3, h4⟩ := hp3.own _ (List.mem_cons_self ..)
    refine ⟨h1, cs, h2, h3, ?_⟩
    simp only at h4 ⊢
    have := congrArg (List.take l.length) h4
    rw [List.take_take, List.length_append, Nat.min_eq_left (by omega), List.take_append_of_le_length (Nat.le_refl _), List.take_length] at this
    exact this
  · exact hp3.own p (List.mem_cons_of_mem _ hp)
end
end Go.Proofs.YtcjbepaclbhjaaaGreat

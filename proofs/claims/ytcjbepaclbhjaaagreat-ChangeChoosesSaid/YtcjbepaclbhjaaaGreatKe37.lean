/- Parts of the proof. -/
import Derived.Test.YtcjbepaclbhjaaaGreatKe1
import Derived.Test.YtcjbepaclbhjaaaGreatKe35
import Derived.Test.YtcjbepaclbhjaaaGreatKe3
import Derived.Test.YtcjbepaclbhjaaaGreatKe32
import Derived.Test.YtcjbepaclbhjaaaGreatKe36
import Derived.Test.YtcjbepaclbhjaaaGreatKe25
import Derived.Test.YtcjbepaclbhjaaaGreatKe0
open List renaming set_cons_zero → zSet, set_cons_succ → sSet
/- The walk of fold: a record is done on what is kept. -/
set_option linter.unusedSimpArgs false
set_option linter.unusedVariables false
namespace Go.Proofs.YtcjbepaclbhjaaaGreat
open Go.RowKit
def lastK (x : Kv) : Int := x.bs + x.es.length
theorem ok_facts {x : Kv} (h : okC x = true) : (0 ≤ x.vw ∧ x.vw ≤ 900000000) ∧ (0 ≤ x.nm ∧ x.nm ≤ x.vw) ∧ (0 ≤ x.bs ∧ x.bs ≤ 900000000) ∧ x.es.length ≤ 4000 := by
  unfold okC at h
  simp only [Bool.and_eq_true, inM, decide_eq_true_eq] at h
  exact ⟨h.1, h.2.1, h.2.2.1, h.2.2.2.1⟩
end Go.Proofs.YtcjbepaclbhjaaaGreat
/- The walk of fold: another log is taken. -/
namespace Go.Proofs.YtcjbepaclbhjaaaGreat
open Go.RowKit
theorem SubRow.cut {e : TypeId} {c n cap k : Nat} {a : Option Addr} {xs : List Value} {R : List Blk} (h : SubRow e c (.slice a n cap) n xs R) (hk : k ≤ n) :
    ∃ R', SubRow e c (.slice a k cap) k (xs.take (k * c)) R' ∧ ∀ (B : Nat) (w0 w : World) (M : List Blk), Hp B w0 w (R ++ M) → Hp B w0 w (R' ++ M) := by
  obtain ⟨hl, ⟨h0, ⟨a', hv⟩, hr⟩ | ⟨g', off', cap', pre, hv, h1, h2, h3, h4⟩⟩ := h
  · injection hv with _ _ hc
    subst h0 hc hr
    obtain rfl : k = 0 := by omega
    have hx : xs = [] := List.eq_nil_of_length_eq_zero (by simpa using hl)
    subst hx
    exact ⟨[], by simpa using SubRow.nil e c a, fun _ _ _ _ hp => hp⟩
  · injection hv with hv _ hc
    subst hv hc
    have hm := Nat.mul_le_mul_right c hk
    refine ⟨[⟨g', pre ++ xs.take (k * c), e, off' + cap * c⟩], ⟨by rw [List.length_take, hl]; omega, .inr ⟨g', off', cap, pre, rfl, by omega, h2, h3, rfl⟩⟩, fun B w0 w M hp => ?_⟩
    subst h4
    refine Hp.less (l2 := xs.drop (k * c)) ?_
    rw [List.append_assoc, List.take_append_drop]; exact hp
end Go.Proofs.YtcjbepaclbhjaaaGreat
/- The walks of New of states, the program's. -/
namespace Go.Proofs.YtcjbepaclbhjaaaGreat
open Go.RowKit
set_option maxRecDepth 100000 in
set_option maxHeartbeats 4000000 in
theorem news97_yes (o : Int) (h : regionB o = true) (w : World) : Calls Tryz.prog 97 #[.int .i64 o] w (NewPostS w (oneHv o) 0) := by
  have hp := Hp.start w
  have K := Lib.hid (newh119_yes o h)
  clear h
  go_enter Tryz.func97, Tryz.ntmps97
  go_wp2_with (first | (go_at_call 119; ((with_reducible refine (K.out _).mono ?_); rintro e w1 ⟨⟨od, oa, os, oc, nx, t0, t1, t2, t3, fa, fs, fc⟩, R, rfl, hsm, hk, hp5⟩; replace hp := hp.join hp5; have HSM := Lib.hid hsm; have HK := Lib.hid hk; clear hp5 hsm hk; simp only [List.cons_append, List.nil_append, hvL] at hp ⊢)) | go_skip | (first | (refine hA0 ?_; clear hp; intro b w1 hp) | refine hL2 ?_ | (refine hS1 ?_; clear hp; intro w1 hp)))
  exact bodyPost_ret (results_many (rs := [.cell 2 86, .tmp 3]) Tryz.results97 (.cell rfl (hp.loadAgg agg86 at1 0 _ (by rfl) (by rfl)) (.tmp rfl .nil))) rfl ⟨⟨⟨od, oa, os, oc, nx, t0, t1, t2, t3, fa, fs, fc⟩, none, [], 0⟩, R, rfl, ⟨HSM.out, rfl⟩, (HK.out.mono (fun _ h => h) (fun w h => ⟨h, RowIs.nil _ _⟩)), hp.tail.tail⟩
end Go.Proofs.YtcjbepaclbhjaaaGreat
/- The walk of New, and what the examples lay. -/
namespace Go.Proofs.YtcjbepaclbhjaaaGreat
open Go.RowKit
def st3 : Sv := ⟨oneHv 3, none, [], 0⟩
def b36 : List Nat := stateB st3
theorem b36_bytes : Bytes b36 := by
  intro x hx
  have : b36 = [0, 0, 0, 28] ++ b28 ++ [0, 0, 0, 0] := rfl
  rw [this] at hx
  simp [b28] at hx
  omega
theorem st3_right : StR st3 := ⟨hright_of right_one3, rfl⟩
theorem stateR_36 : stateR b36 = some (clearS st3) := stateR_put st3_right ⟨(fun o ho => by cases ho), (fun r hr => by cases hr)⟩
def im3 : ByteArray := strOfNums (nI b36)
theorem strB_im3 : strB im3 = b36 := strB_of b36_bytes
theorem im3_size : im3.size = 36 := by rw [← strB_len, strB_im3]; rfl
theorem stateR_im3 : stateR (strB im3) = some (clearS st3) := by rw [strB_im3]; exact stateR_36
def GotSK (w : World) (e : Ending) (w' : World) : Prop := ∃ od oa os oc nx t0 t1 t2 t3 fa fs fc ra rs rc R, e = .returned (.tuple #[.agg #[.int .i64 od, .slice oa (List.length os) oc, .int .i64 nx, .int .i64 t0, .int .i64 t1, .int .i64 t2, .int .i64 t3, .slice fa (List.length fs) fc, .slice ra (List.length rs) rc], .int .i64 0]) ∧ Sv.Sm ⟨⟨od, oa, os, oc, nx, t0, t1, t2, t3, fa, fs, fc⟩, ra, rs, rc⟩ st3 ∧ Kept R (fun w => Sv.Is w ⟨⟨od, oa, os, oc, nx, t0, t1, t2, t3, fa, fs, fc⟩, ra, rs, rc⟩) ∧ Hp w.heap.size w w' R
theorem newt_3 (w : World) : Calls Tryz.prog 97 #[.int .i64 3] w (GotSK w) := by
  refine (news97_yes 3 rfl w).mono fun e w' h => ?_
  obtain ⟨y, R, h1, h2, h3, h4⟩ := h
  obtain ⟨⟨od, oa, os, oc, nx, t0, t1, t2, t3, fa, fs, fc⟩, ra, rs, rc⟩ := y
  exact ⟨od, oa, os, oc, nx, t0, t1, t2, t3, fa, fs, fc, ra, rs, rc, R, h1, h2, h3, h4⟩
theorem puts_3 (od : Int) (oa : Option Addr) (os : List Ob) (oc : Nat) (nx t0 t1 t2 t3 : Int) (fa : Option Addr) (fs : List Bl) (fc : Nat) (ra : Option Addr) (rs : List Rw) (rc : Nat) (hsm : Sv.Sm ⟨⟨od, oa, os, oc, nx, t0, t1, t2, t3, fa, fs, fc⟩, ra, rs, rc⟩ st3) (w : World) (hx0 : Sv.Is w ⟨⟨od, oa, os, oc, nx, t0, t1, t2, t3, fa, fs, fc⟩, ra, rs, rc⟩) :
    Calls Tryz.prog 98 #[.agg #[.int .i64 od, .slice oa os.length oc, .int .i64 nx, .int .i64 t0, .int .i64 t1, .int .i64 t2, .int .i64 t3, .slice fa fs.length fc, .slice ra rs.length rc]] w fun e w' => ∃ a c R, e = .returned (.tuple #[.slice a 36 c, .int .i64 0]) ∧ Kept R (fun w => RowIs w a (b36.flatMap byV)) ∧ Hp w.heap.size w w' R := by
  have hb : stB ⟨⟨od, oa, os, oc, nx, t0, t1, t2, t3, fa, fs, fc⟩, ra, rs, rc⟩ = true := (stB_sm hsm).trans (st_yes st3_right)
  have h := puts98_yes _ hb w hx0
  rw [stateB_sm hsm] at h
  refine h.mono fun e w' h => ?_
  obtain ⟨a, c, R, h1, h2, h3⟩ := h
  exact ⟨a, c, R, h1, h2.keptS, h3⟩
set_option maxRecDepth 100000 in
set_option maxHeartbeats 8000000 in
theorem newo_3 (w : World) : Calls Tryz.prog 69 #[.int .i64 3] w fun e w' => e = .returned (.tuple #[.agg #[.int .i64 0, .int .i64 0, .int .i64 0, .string im3, .slice none 0 0], .int .i64 0]) ∧ Below w.heap.size w w' := by
  have hp := Hp.start w
  have HNI : RowKit.Hid ((nI b36).length = 36) := Lib.hid (by rw [nI_len]; rfl)
  go_enter Tryz.func69, Tryz.ntmps69
  go_wp2_with (first | (go_at_call 97; (with_reducible refine (newt_3 _).mono ?_); rintro e w1 ⟨od, oa, os, oc, nx, t0, t1, t2, t3, fa, fs, fc, ra, rs, rc, RN, rfl, hsm, hk, hpn⟩; replace hp := hp.join hpn; have HSM := Lib.hid hsm; have HK := Lib.hid hk; clear hpn hsm hk; simp only [List.cons_append, List.nil_append] at hp) | (go_at_call 98; (with_reducible refine (puts_3 od oa os oc nx t0 t1 t2 t3 fa fs fc ra rs rc HSM.out _ (HK.out.at hp (fun p hm => by simp [hm]))).mono ?_); rintro e w1 ⟨ab, cb, RB, rfl, hkb, hpn⟩; replace hp := hp.join hpn; have HKB := Lib.hid hkb; clear hpn hkb; simp only [List.cons_append, List.nil_append] at hp) | ((with_reducible refine pre_convert _ _ _ rfl ?_); refine wpList_conv_row 89 9 5 _ rfl wy Tryz.underlying89 Tryz.underlying5 Tryz.underlying9 ab 36 cb (sTm rfl) (nI b36) HNI.out (by rw [nI_cells]; exact HKB.out.at hp (by intro p hp2; simp [hp2])) ?_; simp only [put_some, put_none, sSet, zSet]) | go_skip | (first | (refine hA1 ?_; clear hp; intro b w1 hp) | refine hL0 ?_ | (refine hS0 ?_; clear hp; intro w1 hp)))
  exact bodyPost_ret (results_many (rs := [.cell 2 24, .tmp 3]) Tryz.results69 (.cell rfl (hp.loadAgg agg24 at1 0 _ (by rfl) (by rfl)) (.tmp rfl .nil))) rfl ⟨rfl, hp.below⟩
end Go.Proofs.YtcjbepaclbhjaaaGreat
/- The chapter's examples of Fold. -/
namespace Go.Proofs.YtcjbepaclbhjaaaGreat
open Go.RowKit
def En (n : Int) : Env := ⟨n, 0, 0, 0, ⟨0, 0, 0, 0, 0, 0, 0⟩⟩
def okP (x : Kv) : Bool := inM x.vw 0 900000000 && (inM x.nm 0 x.vw && (inM x.bs 0 900000000 && (decide (x.es.length ≤ 4000) && (folB x.bs 0 x.es && entsB x.nm 0 x.es))))
theorem okC_im3 {x : Kv} (h : okP x = true) (hi : x.im = im3) : okC x = true := by
  unfold okP at h
  simp only [Bool.and_eq_true] at h
  obtain ⟨h1, h2, h3, h4, h5, h6⟩ := h
  unfold okC
  rw [h1, h2, h3, h4, h5, h6, hi, stateR_im3]; rfl
theorem im3_small : im3.size ≤ 1000000 := by rw [im3_size]; decide
end Go.Proofs.YtcjbepaclbhjaaaGreat
/- The walk of the law OplogRight. -/
namespace Go.Proofs.YtcjbepaclbhjaaaGreat
open Go.RowKit
def BigP (w : World) (n m p q : Nat) (e : Ending) (w' : World) : Prop := ∃ bb, e = .returned (.bool bb) ∧ (bb = false → n ≤ 300 ∧ m ≤ 300 ∧ p ≤ 100000 ∧ q ≤ 100000) ∧ Below w.heap.size w w'
set_option maxRecDepth 100000 in
theorem big26 (vw nm bs : Int) (im : ByteArray) (ea : Option Addr) (es : List Env) (ec : Nat) (kd rv rf rn : Int) (rim : ByteArray) (nu vi cl sq kk hh ii nn cc vv tt : Int) (ra : Option Addr) (rs : List Env) (rc : Nat) (w : World) : Calls Tryz.prog 26 #[.agg #[.int .i64 vw, .int .i64 nm, .int .i64 bs, .string im, .slice ea es.length ec], .agg #[.int .i64 kd, .int .i64 rv, .int .i64 rf, .int .i64 rn, .string rim, .int .i64 nu, .int .i64 vi, .int .i64 cl, .int .i64 sq, .int .i64 kk, .int .i64 hh, .int .i64 ii, .int .i64 nn, .int .i64 cc, .int .i64 vv, .int .i64 tt, .slice ra rs.length rc]] w (BigP w es.length rs.length im.size rim.size) := by
  have hp := Hp.start w
  by_cases h1 : es.length ≤ 300
  · have e1 : decide ((300 : Int) < (es.length : Int)) = false := by simp; omega
    by_cases h2 : rs.length ≤ 300
    · have e2 : decide ((300 : Int) < (rs.length : Int)) = false := by simp; omega
      by_cases h3 : im.size ≤ 100000
      · have e3 : decide ((100000 : Int) < (im.size : Int)) = false := by simp; omega
        by_cases h4 : rim.size ≤ 100000
        · have e4 : decide ((100000 : Int) < (rim.size : Int)) = false := by simp; omega
          go_enter Tryz.func26, Tryz.ntmps26
          go_wp2_with (first | go_skip | (first | (refine hA2 ?_; clear hp; intro b w1 hp) | refine hL0 ?_ | (refine hS0 ?_; clear hp; intro w1 hp)))
          go_ret
          exact ⟨_, rfl, fun _ => ⟨h1, h2, h3, h4⟩, hp.below⟩
        · have e4 : decide ((100000 : Int) < (rim.size : Int)) = true := by simp; omega
          go_enter Tryz.func26, Tryz.ntmps26
          go_wp2_with (first | go_skip | (first | (refine hA2 ?_; clear hp; intro b w1 hp) | refine hL0 ?_ | (refine hS0 ?_; clear hp; intro w1 hp)))
          go_ret
          exact ⟨true, rfl, fun h => (by cases h), hp.below⟩
      · have e3 : decide ((100000 : Int) < (im.size : Int)) = true := by simp; omega
        go_enter Tryz.func26, Tryz.ntmps26
        go_wp2_with (first | go_skip | (first | (refine hA2 ?_; clear hp; intro b w1 hp) | refine hL0 ?_ | (refine hS0 ?_; clear hp; intro w1 hp)))
        go_ret
        exact ⟨true, rfl, fun h => (by cases h), hp.below⟩
    · have e2 : decide ((300 : Int) < (rs.length : Int)) = true := by simp; omega
      go_enter Tryz.func26, Tryz.ntmps26
      go_wp2_with (first | go_skip | (first | (refine hA2 ?_; clear hp; intro b w1 hp) | refine hL0 ?_ | (refine hS0 ?_; clear hp; intro w1 hp)))
      go_ret
      exact ⟨true, rfl, fun h => (by cases h), hp.below⟩
  · have e1 : decide ((300 : Int) < (es.length : Int)) = true := by simp; omega
    go_enter Tryz.func26, Tryz.ntmps26
    go_wp2_with (first | go_skip | (first | (refine hA2 ?_; clear hp; intro b w1 hp) | refine hL0 ?_ | (refine hS0 ?_; clear hp; intro w1 hp)))
    go_ret
    exact ⟨true, rfl, fun h => (by cases h), hp.below⟩
end Go.Proofs.YtcjbepaclbhjaaaGreat
/- The walks of the document: rows that are the same, copies, a row behind a number. -/
namespace Go.Proofs.YtcjbepaclbhjaaaGreat
open Go.RowKit
set_option maxRecDepth 100000 in
set_option maxHeartbeats 4000000 in
theorem entries12S (l : List Env) (a a' : Option Addr) (n n' c c' : Nat) (hn : l.length = n) (hn' : l.length = n') (hl : l.length ≤ 100000) (w : World) (ha : RowIs w a (l.flatMap envL)) (ha' : RowIs w a' (l.flatMap envL)) :
    Calls Tryz.prog 30 #[.slice a n c, .slice a' n' c'] w fun e w' => e = .returned (.bool true) ∧ Below w.heap.size w w' := by
  subst hn hn'
  have HA := Lib.hid ha
  have HB := Lib.hid ha'
  clear ha ha'
  have hp := Hp.start w
  go_enter Tryz.func30, Tryz.ntmps30
  go_wp2_with (first | go_skip | (first | (refine hA1 ?_; clear hp; intro b w1 hp) | refine hL0 ?_ | (refine hS0 ?_; clear hp; intro w1 hp)))
  go_loopg [5] l.length (fun k i wr => ∃ q : Nat, k + q = l.length ∧ i = .int .i64 q ∧ Hp w.heap.size w wr [])
  case atStart => exact ⟨0, by omega, rfl, hp⟩
  case round =>
    clear hp
    obtain ⟨q, hkq, rfl, hp⟩ := hrel
    by_cases hlt : q < l.length
    · obtain ⟨bq, off, rfl, hx⟩ := HA.out.elems 11 envL_len11 (by omega) (by omega)
      obtain ⟨br, ofr, rfl, hy⟩ := HB.out.elems 11 envL_len11 (by omega) (by omega)
      have hj := List.getElem?_eq_getElem hlt
      replace hx := hx q _ hj
      replace hy := hy q _ hj
      clear hj
      generalize l[q] = en at hx hy
      obtain ⟨nu, vi, cl, sq, ⟨kk, hh, ii, nn, cc, vv, tt⟩⟩ := en
      simp only [envL, opL, List.cons_append, List.nil_append] at hx hy
      have HX := Lib.hid hx
      have HY := Lib.hid hy
      have f1 : (0 : Int) ≤ (q : Int) := by omega
      have f2 : (q : Int) < (l.length : Int) := by omega
      clear hx hy
      go_wp2_with (first | go_skip | (first | (refine hA2 ?_; clear hp; intro b w1 hp) | refine hL18 ?_ | (refine hS0 ?_; clear hp; intro w1 hp)))
      refine wp_region_keeps _ (Keeps.all hp.drew) [] [(0, true), (1, true), (2, true), (3, true), (4, true), (5, true), (6, true), (7, true), (8, true)] (by kernel_rfl) (by kernel_rfl) rfl (by kernel_rfl) (fun _ _ d _ _ h => by cases d <;> exact h) ?_
      replace hp := hp.drew
      repeat' (with_reducible refine plan_is ?_); first | (with_reducible refine plan_nil ?_) | refine tk21 ?_
      go_wp2_with (first | go_skip | (first | (refine hA2 ?_; clear hp; intro b w1 hp) | refine hL18 ?_ | (refine hS0 ?_; clear hp; intro w1 hp)))
      go_roundg (gk - 1)
      case measure => omega
      case rel => exact ⟨q + 1, by omega, by go_num, hp⟩
    · obtain rfl : q = l.length := by omega
      have e2 : decide ((l.length : Int) < (l.length : Int)) = false := by simp
      go_wp2_with (first | go_skip | (first | (refine hA1 ?_; clear hp; intro b w1 hp) | refine hL0 ?_ | (refine hS0 ?_; clear hp; intro w1 hp)))
      go_ret
      exact ⟨rfl, hp.below⟩
set_option maxRecDepth 100000 in
set_option maxHeartbeats 4000000 in
theorem sameRec15S (kd rv rf rn : Int) (rim : ByteArray) (nu vi cl sq kk hh ii nn cc vv tt : Int) (ea ea2 : Option Addr) (es : List Env) (ec ec2 : Nat) (hl : es.length ≤ 100000) (w : World) (ha : RowIs w ea (es.flatMap envL)) (hb : RowIs w ea2 (es.flatMap envL)) :
    Calls Tryz.prog 25 #[.agg (#[.int .i64 kd, .int .i64 rv, .int .i64 rf, .int .i64 rn, .string rim, .int .i64 nu, .int .i64 vi, .int .i64 cl, .int .i64 sq, .int .i64 kk, .int .i64 hh, .int .i64 ii, .int .i64 nn, .int .i64 cc, .int .i64 vv, .int .i64 tt] ++ #[.slice ea es.length ec]), .agg (#[.int .i64 kd, .int .i64 rv, .int .i64 rf, .int .i64 rn, .string rim, .int .i64 nu, .int .i64 vi, .int .i64 cl, .int .i64 sq, .int .i64 kk, .int .i64 hh, .int .i64 ii, .int .i64 nn, .int .i64 cc, .int .i64 vv, .int .i64 tt] ++ #[.slice ea2 es.length ec2])] w fun e w' => e = .returned (.bool true) ∧ Below w.heap.size w w' := by
  have hp := Hp.start w
  have HA := Lib.hid ha
  have HB := Lib.hid hb
  clear ha hb
  simp only [List.append_toArray, List.cons_append, List.nil_append]
  go_enter Tryz.func25, Tryz.ntmps25
  go_wp2_with (first | (go_at_call 30; (with_reducible refine (entries12S es ea ea2 _ _ ec ec2 rfl rfl hl _ (HA.out.below hp.below) (HB.out.below hp.below)).mono ?_); rintro e w1 ⟨rfl, hb⟩; replace hp := hp.call hb; clear hb) | go_skip | (first | (refine hA1 ?_; clear hp; intro b w1 hp) | refine hL0 ?_ | (refine hS0 ?_; clear hp; intro w1 hp)))
  go_ret
  exact ⟨rfl, hp.below⟩
theorem rrow1637 (l : List Env) (fr : Int) (a : Option Addr) (c : Nat) (b : Bool) (hb : folB fr 0 l = b) (hl : l.length ≤ 100000) (w : World) (ha : RowIs w a (l.flatMap envL)) :
    Calls Tryz.prog 37 #[.slice a l.length c, .int .i64 fr] w fun e w' => e = .returned (.bool b) ∧ Below w.heap.size w w' := by
  subst hb
  have HA := Lib.hid ha
  clear ha
  have hp := Hp.start w
  go_enter Tryz.func37, Tryz.ntmps37
  go_wp2_with (first | go_skip | (first | (refine hA1 ?_; clear hp; intro b w1 hp) | refine hL0 ?_ | (refine hS0 ?_; clear hp; intro w1 hp)))
  go_loopg [5] l.length (fun k i wr => ∃ q : Nat, k + q = l.length ∧ i = .int .i64 q ∧ RowKit.Hid (folB fr 0 l = folB fr q (l.drop q)) ∧ Hp w.heap.size w wr [])
  case atStart => exact ⟨0, by omega, rfl, Lib.hid rfl, hp⟩
  case round =>
    clear hp
    obtain ⟨q, hkq, rfl, HF, hp⟩ := hrel
    by_cases hlt : q < l.length
    · obtain ⟨bq, off, rfl, hx⟩ := HA.out.elems 11 envL_len11 (by omega) (by omega)
      have hj := List.getElem?_eq_getElem hlt
      replace hx := hx q _ hj
      have hd := List.drop_eq_getElem_cons hlt
      clear hj
      generalize l[q] = en at hx hd
      obtain ⟨nu, vi, cl, sq, ⟨kk, hh, ii, nn, cc, vv, tt⟩⟩ := en
      simp only [envL, opL, List.cons_append, List.nil_append] at hx
      have HX := Lib.hid hx
      have HF2 : RowKit.Hid (folB fr 0 l = (decide (wrap64 (wrap64 (nu - 1) - (q : Int)) = fr) && folB fr (q + 1) (l.drop (q + 1)))) := Lib.hid (by rw [HF.out, hd]; rfl)
      have f1 : (0 : Int) ≤ (q : Int) := by omega
      have f2 : (q : Int) < (l.length : Int) := by omega
      clear hx hd HF
      by_cases heq : wrap64 (wrap64 (nu - 1) - (q : Int)) = fr
      · have e3 : (wrap64 (wrap64 (nu - 1) - (q : Int)) == fr) = true := by simpa using heq
        have HE := Lib.hid heq
        clear heq
        go_wp2_with (first | go_skip | (first | (refine hA2 ?_; clear hp; intro b w1 hp) | refine hL5 ?_ | (refine hS0 ?_; clear hp; intro w1 hp)))
        go_roundg (gk - 1)
        case measure => omega
        case rel => exact ⟨q + 1, by omega, by go_num, Lib.hid (by rw [HF2.out, HE.out]; simp), hp⟩
      · have e3 : (wrap64 (wrap64 (nu - 1) - (q : Int)) == fr) = false := by simpa using heq
        have HE := Lib.hid heq
        clear heq
        go_wp2_with (first | go_skip | (first | (refine hA2 ?_; clear hp; intro b w1 hp) | refine hL5 ?_ | (refine hS0 ?_; clear hp; intro w1 hp)))
        go_ret
        refine ⟨?_, hp.below⟩
        rw [HF2.out, decide_eq_false HE.out]; rfl
    · obtain rfl : q = l.length := by omega
      have e2 : decide ((l.length : Int) < (l.length : Int)) = false := by simp
      clear hkq hlt
      go_wp2_with (first | go_skip | (first | (refine hA1 ?_; clear hp; intro b w1 hp) | refine hL0 ?_ | (refine hS0 ?_; clear hp; intro w1 hp)))
      go_ret
      refine ⟨?_, hp.below⟩
      rw [HF.out, List.drop_length]; rfl
theorem last15_lit (vw nm bs : Int) (im : ByteArray) (ea : Option Addr) (n ec : Nat) (x : Int) (hx : wrap64 (bs + (n : Int)) = x) (w : World) : Calls Tryz.prog 32 #[.agg #[.int .i64 vw, .int .i64 nm, .int .i64 bs, .string im, .slice ea n ec]] w fun e w' => e = .returned (.int .i64 x) ∧ Below w.heap.size w w' := hx ▸ last1532 vw nm bs im ea n ec w
end Go.Proofs.YtcjbepaclbhjaaaGreat
/- What DeleteFunc of votes keeps: the plain part. -/
namespace Go.Proofs.YtcjbepaclbhjaaaGreat
open Go.RowKit Go.Lib
theorem IdxV.no {p : Vt → Bool} {l : List Vt} {r : Int} (h : IdxV p l r) (hn : ∀ (i : Nat) y, l[i]? = some y → p y = false) : r = -1 := by
  rcases h with ⟨h, _⟩ | ⟨m, x, _, h1, h2, _⟩
  · exact h
  · rw [hn m x h1] at h2; cases h2
theorem IdxV.is {p : Vt → Bool} {l : List Vt} {r : Int} (h : IdxV p l r) {m : Nat} {x : Vt} (hm : l[m]? = some x) (hx : p x = true) (hn : ∀ (i : Nat) y, i < m → l[i]? = some y → p y = false) : r = m := by
  rcases h with ⟨_, h⟩ | ⟨m', x', rfl, h1, h2, h3⟩
  · rw [h m x hm] at hx; cases hx
  · rcases Nat.lt_trichotomy m m' with g | g | g
    · rw [h3 m x g hm] at hx; cases hx
    · rw [g]
    · rw [hn m' x' g h1] at h2; cases h2
def keepV (c : Int) (l : List Vt) : List Vt := l.filter fun x => !eqN c x
structure DelAt (c : Int) (l zs : List Vt) (q j : Nat) : Prop where
  len : zs.length = l.length
  lt : q < j
  jl : j ≤ l.length
  kept : zs.take q = keepV c (l.take j)
  rest : zs.drop j = l.drop j
theorem keep_snoc (c : Int) (l : List Vt) (x : Vt) : keepV c (l ++ [x]) = if eqN c x = true then keepV c l else keepV c l ++ [x] := by
  unfold keepV
  rw [List.filter_append]
  cases h : eqN c x <;> simp [h]
theorem DelAt.start {c : Int} {l : List Vt} {m : Nat} {x : Vt} (hm : l[m]? = some x) (hx : eqN c x = true) (hn : ∀ (i : Nat) y, i < m → l[i]? = some y → eqN c y = false) : DelAt c l l m (m + 1) := by
  have hlt := (List.getElem?_eq_some_iff.1 hm).1
  refine ⟨rfl, by omega, by omega, ?_, rfl⟩
  rw [List.take_add_one, hm]
  show l.take m = keepV c (l.take m ++ [x])
  rw [keep_snoc, if_pos hx]
  unfold keepV
  refine (List.filter_eq_self.2 fun y hy => ?_).symm
  obtain ⟨i, hi, rfl⟩ := List.getElem_of_mem hy
  rw [List.length_take] at hi
  rw [List.getElem_take, hn i _ (by omega) (List.getElem?_eq_getElem (by omega))]; rfl
theorem DelAt.get {c : Int} {l zs : List Vt} {q j : Nat} (h : DelAt c l zs q j) (hj : j < l.length) : zs[j]? = l[j]? := by
  have h1 := congrArg (fun k => k[0]?) h.rest
  simpa using h1
theorem DelAt.skip {c : Int} {l zs : List Vt} {q j : Nat} {x : Vt} (h : DelAt c l zs q j) (hx : l[j]? = some x) (hp : eqN c x = true) : DelAt c l zs q (j + 1) := by
  have hlt := (List.getElem?_eq_some_iff.1 hx).1
  refine ⟨h.len, by have := h.lt; omega, by omega, ?_, ?_⟩
  · rw [List.take_add_one, hx]
    show _ = keepV c (l.take j ++ [x])
    rw [keep_snoc, if_pos hp]; exact h.kept
  · have := congrArg (List.drop 1) h.rest
    rw [List.drop_drop, List.drop_drop] at this
    exact this
theorem DelAt.move {c : Int} {l zs : List Vt} {q j : Nat} {x : Vt} (h : DelAt c l zs q j) (hx : l[j]? = some x) (hp : eqN c x = false) : DelAt c l (zs.set q x) (q + 1) (j + 1) := by
  have hlt := (List.getElem?_eq_some_iff.1 hx).1
  have h1 := h.lt
  have h2 := h.len
  refine ⟨by rw [List.length_set]; exact h.len, by omega, by omega, ?_, ?_⟩
  · rw [List.take_add_one (l := l), hx]
    show _ = keepV c (l.take j ++ [x])
    rw [keep_snoc, if_neg (by rw [hp]; decide), ← h.kept, List.take_add_one, List.take_set_of_le (Nat.le_refl _), List.getElem?_set_self (by omega)]
    rfl
  · rw [List.drop_set_of_lt (by omega)]
    have := congrArg (List.drop 1) h.rest
    rw [List.drop_drop, List.drop_drop] at this
    exact this
theorem DelAt.done {c : Int} {l zs : List Vt} {q : Nat} (h : DelAt c l zs q l.length) : zs.take q = keepV c l ∧ (keepV c l).length = q := by
  have h1 := h.kept
  rw [List.take_length] at h1
  refine ⟨h1, ?_⟩
  rw [← h1, List.length_take]
  have := h.lt; have := h.len
  omega
end Go.Proofs.YtcjbepaclbhjaaaGreat
/- The walk of slices.DeleteFunc of votes, with Add's first closure. -/
namespace Go.Proofs.YtcjbepaclbhjaaaGreat
open Go.RowKit Go.Lib
theorem Hp.ltOf {B : Nat} {w0 w : World} {L : List Blk} (hp : Hp B w0 w L) {i b : Nat} {l : List Value} {t : TypeId} {n : Nat} (hi : L[i]? = some ⟨b, l, t, n⟩) : b < w.heap.size := by
  obtain ⟨_, c, h2, _⟩ := hp.own _ (Hp.mem hi)
  exact lt_of_heap h2
end Go.Proofs.YtcjbepaclbhjaaaGreat

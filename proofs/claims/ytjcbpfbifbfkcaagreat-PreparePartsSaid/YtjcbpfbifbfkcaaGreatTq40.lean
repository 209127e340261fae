import Derived.Test.YtjcbpfbifbfkcaaGreatTq39
import Derived.Test.YtjcbpfbifbfkcaaGreatTq33
import Derived.Test.YtjcbpfbifbfkcaaGreatTq35
import Derived.Test.YtjcbpfbifbfkcaaGreatTq18
set_option linter.unusedSimpArgs false
set_option linter.unusedVariables false
set_option maxRecDepth 100000
set_option maxHeartbeats 60000000
namespace Go.Proofs.YtjcbpfbifbfkcaaGreat
open Go.RowKit
theorem zss {ty : TypeId} {k : Nat} (h : ZM Tryz.prog ty k = true := by with_reducible first | exact zI | exact zy | exact ziG | exact Zq) : ZM Tryz.prog ty k = true := h
theorem ztZ {ty : TypeId} (h : zF Tryz.prog ty = true := by with_reducible first | exact zm | exact Zt | exact Za) : zF Tryz.prog ty = true := h
theorem zpX : zaL Tryz.prog 40 = some ([.int .i64 0, .int .i64 0, .int .i64 0, .int .i64 0, .string ⟨#[]⟩, .int .i64 0, .int .i64 0, .int .i64 0, .int .i64 0, .int .i64 0, .int .i64 0, .int .i64 0, .int .i64 0, .int .i64 0, .int .i64 0, .int .i64 0, .slice none 0 0], 17) := by kernel_rfl
def st3 : Sv := ⟨zdf 3, none, [], 0⟩
def b36 : List Nat := zec st3
theorem znQ : zbj b36 := by
 intro x hx
 have : b36 = [0, 0, 0, 28] ++ b28 ++ [0, 0, 0, 0] := rfl
 rw [this] at hx
 simp [b28] at hx
 omega
theorem zck : StR st3 := ⟨zcV zlP, rfl⟩
theorem zno : za5 b36 = some (zhA st3) := zlr zck ⟨(fun o ho => by cases ho), (fun r hr => by cases hr)⟩
def im3 : ByteArray := strOfNums (nI b36)
theorem zjQ : zdP im3 = b36 := zeq znQ
theorem zpv : im3.size = 36 := by rw [← zao, zjQ]; rfl
theorem zkL : za5 (zdP im3) = some (zhA st3) := by rw [zjQ]; exact zno
def ztF (w : World) (e : Ending) (w' : World) : Prop := ∃ od oa os oc nx t0 t1 t2 t3 fa fs fc ra rs rc R, e = .returned (.tuple #[.agg #[.int .i64 od, .slice oa (List.length os) oc, .int .i64 nx, .int .i64 t0, .int .i64 t1, .int .i64 t2, .int .i64 t3, .slice fa (List.length fs) fc, .slice ra (List.length rs) rc], .int .i64 0]) ∧ Sv.Sm ⟨⟨od, oa, os, oc, nx, t0, t1, t2, t3, fa, fs, fc⟩, ra, rs, rc⟩ st3 ∧ ZD R (fun w => Sv.Is w ⟨⟨od, oa, os, oc, nx, t0, t1, t2, t3, fa, fs, fc⟩, ra, rs, rc⟩) ∧ Hp w.heap.size w w' R
theorem zpY (w : World) : Calls Tryz.prog 114 #[.int .i64 3] w (ztF w) := by
 refine (zjz 3 rfl w).mono fun e w' h => ?_
 obtain ⟨y, R, h1, h2, h3, h4⟩ := h
 obtain ⟨⟨od, oa, os, oc, nx, t0, t1, t2, t3, fa, fs, fc⟩, ra, rs, rc⟩ := y
 exact ⟨od, oa, os, oc, nx, t0, t1, t2, t3, fa, fs, fc, ra, rs, rc, R, h1, h2, h3, h4⟩
theorem zsu (od : Int) (oa : Option Addr) (os : List Ob) (oc : Nat) (nx t0 t1 t2 t3 : Int) (fa : Option Addr) (fs : List Bl) (fc : Nat) (ra : Option Addr) (rs : List Rw) (rc : Nat) (hsm : Sv.Sm ⟨⟨od, oa, os, oc, nx, t0, t1, t2, t3, fa, fs, fc⟩, ra, rs, rc⟩ st3) (w : World) (hx0 : Sv.Is w ⟨⟨od, oa, os, oc, nx, t0, t1, t2, t3, fa, fs, fc⟩, ra, rs, rc⟩) :
  Calls Tryz.prog 35 #[.agg #[.int .i64 od, .slice oa os.length oc, .int .i64 nx, .int .i64 t0, .int .i64 t1, .int .i64 t2, .int .i64 t3, .slice fa fs.length fc, .slice ra rs.length rc]] w fun e w' => ∃ a c R, e = .returned (.tuple #[.slice a 36 c, .int .i64 0]) ∧ ZD R (fun w => zr w a (b36.flatMap byV)) ∧ Hp w.heap.size w w' R := by
 have hb : stB ⟨⟨od, oa, os, oc, nx, t0, t1, t2, t3, fa, fs, fc⟩, ra, rs, rc⟩ = true := (zea hsm).trans (zd2 zck)
 have h := zlt _ hb w hx0
 rw [zm9 hsm] at h
 refine h.mono fun e w' h => ?_
 obtain ⟨a, c, R, h1, h2, h3⟩ := h
 exact ⟨a, c, R, h1, h2.keptS, h3⟩
theorem zsj (w : World) : Calls Tryz.prog 64 #[.int .i64 3] w fun e w' => e = .returned (.tuple #[.agg #[.int .i64 0, .int .i64 0, .int .i64 0, .string im3, .slice none 0 0], .int .i64 0]) ∧ Below w.heap.size w w' := by
 have hp := Hp.start w
 have HNI : Hid ((nI b36).length = 36) := z0j (by rw [znT]; rfl)
 go_enter Tryz.func64, Tryz.ntmps64
 go_wp2_with (first | (go_at_call 114; (with_reducible refine (zpY _).mono ?_); rintro e w1 ⟨od, oa, os, oc, nx, t0, t1, t2, t3, fa, fs, fc, ra, rs, rc, RN, rfl, hsm, hk, hpn⟩; replace hp := hp.join hpn; have HSM := z0j hsm; have HK := z0j hk; clear hpn hsm hk; simp only [z0f, z0e] at hp) | (go_at_call 35; (with_reducible refine (zsu od oa os oc nx t0 t1 t2 t3 fa fs fc ra rs rc HSM.out _ (HK.out.at hp (fun p hm => by simp [hm]))).mono ?_); rintro e w1 ⟨ab, cb, RB, rfl, hkb, hpn⟩; replace hp := hp.join hpn; have HKB := z0j hkb; clear hpn hkb; simp only [z0f, z0e] at hp) | ((refine ZZ _ _ _ rfl ?_); refine zbF 74 9 5 _ rfl wy Tryz.underlying74 Tryz.underlying5 Tryz.underlying9 ab 36 cb (za rfl) (nI b36) HNI.out (by rw [zgy]; exact HKB.out.at hp (by intro p hp2; simp [hp2])) ?_; simp only [zc, zb, z0b, z0a]) | go_skip | ((first | ((refine zf _ rfl ?_); refine lZ hp rfl (by with_reducible first | exact zhE | exact zN | exact zpX | exact zab) ?_; clear hp; intro b w1 hp) | ((refine ze _ _ rfl ?_); refine lA hp rfl (za rfl) zy aa5 ?_) | ((refine zd _ _ _ rfl ?_); (first | refine sA hp rfl (za rfl) (za rfl) zss aa5 ?_ | refine sG hp rfl (za rfl) (za rfl) zss aa5 ?_); clear hp; intro w1 hp; simp only [spl, z0a, z0b] at hp)); simp only [zc, zb, z0b, z0a]))
 exact bodyPost_ret (zD (rs := [.cell 2 28, .tmp 3]) Tryz.results64 (.cell rfl (hp.loadAgg zI at1 0 _ (by rfl) (by rfl)) (.tmp rfl .nil))) rfl ⟨rfl, hp.below⟩
open Go.RowKit
def En (n : Int) : Env := ⟨n, 0, 0, 0, ⟨0, 0, 0, 0, 0, 0, 0⟩⟩
def okP (x : Kv) : Bool := inM x.vw 0 900000000 && (inM x.nm 0 x.vw && (inM x.bs 0 900000000 && (decide (x.es.length ≤ 4000) && (zg0 x.bs 0 x.es && zgY x.nm 0 x.es))))
theorem zeu {x : Kv} (h : okP x = true) (hi : x.im = im3) : okC x = true := by
 unfold okP at h
 simp only [Bool.and_eq_true] at h
 obtain ⟨h1, h2, h3, h4, h5, h6⟩ := h
 unfold okC
 rw [h1, h2, h3, h4, h5, h6, hi, zkL]; rfl
theorem zha {x y : Kv} {r : Rv} (hx : okP x = true) (hi : x.im = im3) (hm : za8 x r = (0, y)) (hy : okP y = true) (hj : y.im = im3) : zg4 x r = (0, y) := by
 unfold zg4
 rw [if_pos (zeu hx hi)]
 unfold ZH
 rw [hm, if_pos rfl, if_pos (zeu hy hj)]
theorem zsS (vw nm bs : Int) (im : ByteArray) (ea : Option Addr) (es : List Env) (n ec : Nat) (hn : es.length = n) (kd rv rf rn : Int) (rim : ByteArray) (nu vi cl sq kk hh ii nn cc vv tt : Int) (ra : Option Addr) (rs : List Env) (m rc : Nat) (hm : rs.length = m) (vw' nm' bs' : Int) (im' : ByteArray) (es' : List Env) (q : Nat) (hq : es'.length = q) (a0 : Option Addr) (c0 : Nat) (hr : zg4 ⟨vw, nm, bs, im, ea, es, ec⟩ ⟨kd, rv, rf, rn, rim, ⟨nu, vi, cl, sq, ⟨kk, hh, ii, nn, cc, vv, tt⟩⟩, ra, rs, rc⟩ = (0, ⟨vw', nm', bs', im', a0, es', c0⟩)) (hes : n ≤ 1500) (him : im.size ≤ 1000000) (hrs : m ≤ 1500) (hrc : m ≤ rc) (hri : rim.size ≤ 1000000) (w : World) (ha : zr w ea (es.flatMap ZI)) (hra : zr w ra (rs.flatMap ZI)) :
  Calls Tryz.prog 19 #[.agg #[.int .i64 vw, .int .i64 nm, .int .i64 bs, .string im, .slice ea n ec], .agg #[.int .i64 kd, .int .i64 rv, .int .i64 rf, .int .i64 rn, .string rim, .int .i64 nu, .int .i64 vi, .int .i64 cl, .int .i64 sq, .int .i64 kk, .int .i64 hh, .int .i64 ii, .int .i64 nn, .int .i64 cc, .int .i64 vv, .int .i64 tt, .slice ra m rc]] w fun e w' => ∃ a c R, e = .returned (.tuple #[.agg #[.int .i64 vw', .int .i64 nm', .int .i64 bs', .string im', .slice a q c], .int .i64 0]) ∧ q ≤ c ∧ zM 38 11 (.slice a q c) q (es'.flatMap ZI) R ∧ Hp w.heap.size w w' R := by
 subst hn hm hq
 refine (zrj vw nm bs im ea es ec kd rv rf rn rim nu vi cl sq kk hh ii nn cc vv tt ra rs rc _ hr hes him hrs hrc hri w ha hra).mono fun e w' h => ?_
 obtain ⟨a, c, R, h1, h2, h3, h4⟩ := h.1 rfl
 exact ⟨a, c, R, h1, h2, h3, h4⟩
theorem zhn : im3.size ≤ 1000000 := by rw [zpv]; decide
open Go.RowKit
theorem zo6 : (⟨#[]⟩ : ByteArray).size ≤ 1000000 := by decide
open Go.RowKit
theorem zuj {ty : TypeId} (h : zF Tryz.prog ty = true := by with_reducible first | exact zm | exact Zt | exact Za | exact Zf) : zF Tryz.prog ty = true := h
theorem zre {ty : TypeId} {l : List Value} {n : Nat} (h : zaL Tryz.prog ty = some (l, n) := by with_reducible first | exact zhE | exact zpX | exact zab) : zaL Tryz.prog ty = some (l, n) := h
theorem zt6 {ty : TypeId} {k : Nat} (h : ZM Tryz.prog ty k = true := by with_reducible first | exact zI | exact ziG | exact Zq) : ZM Tryz.prog ty k = true := h
def knE (cm ci si : Int) (e : Env) : Bool := decide (cm < e.nu) && (decide (e.cl = ci) && decide (si ≤ e.sq))
theorem zlS {l : List Env} {f : Env → Bool} {j : Nat} {x : Env} (h : l[j]? = some x) : (l.take (j + 1)).any f = ((l.take j).any f || f x) := by
 rw [List.take_add_one, h]; simp [List.any_append]
theorem zpz {l : List Env} {f : Env → Bool} {j : Nat} {x : Env} (h : l[j]? = some x) (hw : f x = true) : l.any f = true := List.any_eq_true.2 ⟨x, List.mem_of_getElem? h, hw⟩
theorem zmH (nu vi cl sq kk hh ii nn cc vv tt : Int) (cm ci si : Int) (b1 b2 b3 : Nat) (w : World) (h1 : Zx w b1 (.int .i64 cm)) (h2 : Zx w b2 (.int .i64 ci)) (h3 : Zx w b3 (.int .i64 si)) :
  Calls Tryz.prog 177 #[.agg #[.int .i64 nu, .int .i64 vi, .int .i64 cl, .int .i64 sq, .int .i64 kk, .int .i64 hh, .int .i64 ii, .int .i64 nn, .int .i64 cc, .int .i64 vv, .int .i64 tt], .pointer (some ⟨b1, 0, none⟩), .pointer (some ⟨b2, 0, none⟩), .pointer (some ⟨b3, 0, none⟩)] w fun e w' => e = .returned (.bool (knE cm ci si ⟨nu, vi, cl, sq, ⟨kk, hh, ii, nn, cc, vv, tt⟩⟩)) ∧ Below w.heap.size w w' := by
 have hp := Hp.start w
 have H1 := z0j h1
 have H2 := z0j h2
 have H3 := z0j h3
 clear h1 h2 h3
 by_cases d1 : cm < nu
 ·have e1 : decide (cm < nu) = true := by simpa using d1
  by_cases d2 : cl = ci
  ·subst d2
   go_enter Tryz.func177, Tryz.ntmps177
   go_wp2_with (first | go_skip | ((first | ((refine zi _ _ rfl ?_); refine lB hp rfl (za rfl) rfl ?_; clear hp; intro b w1 hp) | ((refine ze _ _ rfl ?_); first | refine lO hp rfl (za rfl) zm aa5 ?_ | first | refine lRO hp rfl (za rfl) zm (H1.out 0 _ rfl) ?_ | first | refine lRO hp rfl (za rfl) zm (H2.out 0 _ rfl) ?_ | first | refine lRO hp rfl (za rfl) zm (H3.out 0 _ rfl) ?_)); simp only [zc, zb, z0b, z0a]))
   go_ret
   exact ⟨Zk (by unfold knE; simp [d1]), hp.below⟩
  ·have e2 : (cl == ci) = false := by simpa using d2
   go_enter Tryz.func177, Tryz.ntmps177
   go_wp2_with (first | go_skip | ((first | ((refine zi _ _ rfl ?_); refine lB hp rfl (za rfl) rfl ?_; clear hp; intro b w1 hp) | ((refine ze _ _ rfl ?_); first | refine lO hp rfl (za rfl) zm aa5 ?_ | first | refine lRO hp rfl (za rfl) zm (H1.out 0 _ rfl) ?_ | first | refine lRO hp rfl (za rfl) zm (H2.out 0 _ rfl) ?_ | first | refine lRO hp rfl (za rfl) zm (H3.out 0 _ rfl) ?_)); simp only [zc, zb, z0b, z0a]))
   go_ret
   exact ⟨Zk (by unfold knE; simp [d2]), hp.below⟩
 ·have e1 : decide (cm < nu) = false := by simpa using d1
  have HN := z0j d1
  go_enter Tryz.func177, Tryz.ntmps177
  go_wp2_with (first | go_skip | ((first | ((refine zi _ _ rfl ?_); refine lB hp rfl (za rfl) rfl ?_; clear hp; intro b w1 hp) | ((refine ze _ _ rfl ?_); first | refine lO hp rfl (za rfl) zm aa5 ?_ | first | refine lRO hp rfl (za rfl) zm (H1.out 0 _ rfl) ?_ | first | refine lRO hp rfl (za rfl) zm (H2.out 0 _ rfl) ?_ | first | refine lRO hp rfl (za rfl) zm (H3.out 0 _ rfl) ?_)); simp only [zc, zb, z0b, z0a]))
  go_ret
  exact ⟨Zk (by unfold knE; rw [decide_eq_false (show ¬ cm < nu from Int.not_lt.2 HN.out)]; rfl), hp.below⟩
theorem zqq (cm ci si : Int) (l : List Env) (a : Option Addr) (c : Nat) (hl : l.length ≤ 100000) (b1 b2 b3 : Nat) (w : World) (ha : zr w a (l.flatMap ZI)) (h1 : Zx w b1 (.int .i64 cm)) (h2 : Zx w b2 (.int .i64 ci)) (h3 : Zx w b3 (.int .i64 si)) :
  Calls Tryz.prog 178 #[.slice a l.length c, .func (.func 177) #[] #[.pointer (some ⟨b1, 0, none⟩), .pointer (some ⟨b2, 0, none⟩), .pointer (some ⟨b3, 0, none⟩)]] w (zjS w (l.any (knE cm ci si))) := by
 have hp := Hp.start w
 have HA := z0j ha
 have H1 := z0j h1
 have H2 := z0j h2
 have H3 := z0j h3
 clear ha h1 h2 h3
 go_enter Tryz.func178, Tryz.ntmps178
 go_wp2_with (first | go_skip | (((refine ze _ _ rfl ?_); refine lA hp rfl (za rfl) Zq aa5 ?_); simp only [zc, zb, z0b, z0a]))
 go_loopg [8] l.length (fun k i wr => ∃ j : Nat, k + j = l.length ∧ i = .int .i64 j ∧ Hid ((l.take j).any (knE cm ci si) = false) ∧ Hp w.heap.size w wr [])
 case atStart => exact ⟨0, by omega, rfl, z0j (by simp), hp⟩
 case round =>
  clear hp
  obtain ⟨j, hkj, rfl, HG, hp⟩ := hrel
  by_cases hlt : j < l.length
  ·obtain ⟨bq, off, rfl, hx⟩ := HA.out.elems 11 Z8 (by omega) (by omega)
   have hj := List.getElem?_eq_getElem hlt
   replace hx := hx j _ hj
   generalize l[j] = x at hx hj
   have HJ := z0j hj
   obtain ⟨r, hr⟩ : ∃ r, knE cm ci si x = r := ⟨_, rfl⟩
   have HR := z0j hr
   obtain ⟨nu, vi, cl, sq, ⟨kk, hh, ii, nn, cc, vv, tt⟩⟩ := x
   simp only [ZI, opL, z0f, z0e] at hx
   have HX := z0j hx
   have HK : Hid (∀ w1, Below w.heap.size w w1 → Calls Tryz.prog 177 #[.agg #[.int .i64 nu, .int .i64 vi, .int .i64 cl, .int .i64 sq, .int .i64 kk, .int .i64 hh, .int .i64 ii, .int .i64 nn, .int .i64 cc, .int .i64 vv, .int .i64 tt], .pointer (some ⟨b1, 0, none⟩), .pointer (some ⟨b2, 0, none⟩), .pointer (some ⟨b3, 0, none⟩)] w1 fun e w' => e = .returned (.bool r) ∧ Below w1.heap.size w1 w') := z0j (fun w1 hw => by
    have h := zmH nu vi cl sq kk hh ii nn cc vv tt cm ci si b1 b2 b3 w1 (H1.out.below hw) (H2.out.below hw) (H3.out.below hw)
    rw [HR.out] at h
    exact h)
   clear hx hj hr
   have e1 : (0 : Int) ≤ (j : Int) := by omega
   have e2 : (j : Int) < (l.length : Int) := by omega
   cases r with
   | true =>
    go_wp2_with (first | (go_at_call 177; (with_reducible refine (HK.out _ hp.below).mono ?_); rintro e w1 ⟨rfl, hb⟩; replace hp := hp.call hb; clear hb) | go_skip | (((refine ze _ _ rfl ?_); first | refine lA hp rfl (za rfl) Zq aa5 ?_ | refine lR hp rfl (za rfl) Zq HX.out ?_); simp only [zc, zb, z0b, z0a]))
    go_ret
    exact ⟨j, rfl, by rw [zpz HJ.out HR.out]; simp, hp.below⟩
   | false =>
    go_wp2_with (first | (go_at_call 177; (with_reducible refine (HK.out _ hp.below).mono ?_); rintro e w1 ⟨rfl, hb⟩; replace hp := hp.call hb; clear hb) | go_skip | (((refine ze _ _ rfl ?_); first | refine lA hp rfl (za rfl) Zq aa5 ?_ | refine lR hp rfl (za rfl) Zq HX.out ?_); simp only [zc, zb, z0b, z0a]))
    go_roundg (gk - 1)
    case measure => omega
    case rel => exact ⟨j + 1, by omega, by go_num, z0j (by rw [zlS HJ.out, HG.out, HR.out]; rfl), hp⟩
  ·have e2 : decide ((j : Int) < (l.length : Int)) = false := by simp; omega
   go_wp2_with fail
   go_ret
   exact ⟨-1, rfl, by have := HG.out; rw [List.take_of_length_le (by omega)] at this; rw [this]; decide, hp.below⟩
theorem zpp (cm ci si : Int) (l : List Env) (a : Option Addr) (c : Nat) (hl : l.length ≤ 100000) (b1 b2 b3 : Nat) (w : World) (ha : zr w a (l.flatMap ZI)) (h1 : Zx w b1 (.int .i64 cm)) (h2 : Zx w b2 (.int .i64 ci)) (h3 : Zx w b3 (.int .i64 si)) :
  Calls Tryz.prog 116 #[.slice a l.length c, .func (.func 177) #[] #[.pointer (some ⟨b1, 0, none⟩), .pointer (some ⟨b2, 0, none⟩), .pointer (some ⟨b3, 0, none⟩)]] w fun e w' => e = .returned (.bool (l.any (knE cm ci si))) ∧ Below w.heap.size w w' := by
 have hp := Hp.start w
 have K := z0j (zqq cm ci si l a c hl b1 b2 b3 w ha h1 h2 h3)
 clear ha h1 h2 h3
 go_enter Tryz.func116, Tryz.ntmps116
 go_wp2_with (go_at_call 178; refine K.out.mono ?_; rintro e w1 ⟨i, rfl, hi, hb⟩; replace hp := hp.call hb; have HI := z0j hi; clear hi hb)
 go_ret
 exact ⟨Zk HI.out, hp.below⟩
noncomputable def zfe (x : Kv) (cm ci si : Int) : Bool := okC x && x.es.any (knE cm ci si)
theorem zhk (vw nm bs : Int) (im : ByteArray) (ea : Option Addr) (es : List Env) (ec : Nat) (cm ci si : Int) (hs : Kv.Small ⟨vw, nm, bs, im, ea, es, ec⟩) (w : World) (ha : zr w ea (es.flatMap ZI)) :
  Calls Tryz.prog 115 #[.agg #[.int .i64 vw, .int .i64 nm, .int .i64 bs, .string im, .slice ea es.length ec], .int .i64 cm, .int .i64 ci, .int .i64 si] w fun e w' => e = .returned (.bool (zfe ⟨vw, nm, bs, im, ea, es, ec⟩ cm ci si)) ∧ Below w.heap.size w w' := by
 have hp := Hp.start w
 have HSS := z0j hs
 have HA := z0j ha
 have HL : Hid (es.length ≤ 100000) := z0j hs.1
 clear hs ha
 obtain ⟨b, hb⟩ : ∃ b, okC ⟨vw, nm, bs, im, ea, es, ec⟩ = b := ⟨_, rfl⟩
 have HB := z0j hb
 clear hb
 cases b
 ·go_enter Tryz.func115, Tryz.ntmps115
  go_wp2_with (first | (go_at_call 21; (with_reducible refine (zbN vw nm bs im ea es ec _ HB.out HSS.out _ (HA.out.below hp.below)).mono ?_); rintro e w1 ⟨rfl, hb⟩; replace hp := hp.call hb; clear hb; simp only [if_true, Bool.false_eq_true, if_false]) | go_skip | ((first | ((refine zi _ _ rfl ?_); refine lB hp rfl (za rfl) rfl ?_; clear hp; intro b w1 hp) | ((refine ze _ _ rfl ?_); first | refine lO hp rfl (za rfl) Zf aa5 ?_ | refine lA hp rfl (za rfl) zI aa5 ?_)); simp only [zc, zb, z0b, z0a]))
  go_ret
  exact ⟨Zk (by unfold zfe; rw [HB.out]; rfl), hp.below⟩
 ·go_enter Tryz.func115, Tryz.ntmps115
  go_wp2_with (first | (go_at_call 21; (with_reducible refine (zbN vw nm bs im ea es ec _ HB.out HSS.out _ (HA.out.below hp.below)).mono ?_); rintro e w1 ⟨rfl, hb⟩; replace hp := hp.call hb; clear hb; simp only [if_true, Bool.false_eq_true, if_false]) | (go_at_call 116; (with_reducible refine (zpp cm ci si es ea ec HL.out _ _ _ _ (HA.out.below hp.below) (Zx.of (hp.cell at2 rfl)) (Zx.of (hp.cell at1 rfl)) (Zx.of (hp.cell at0 rfl))).mono ?_); rintro e w1 ⟨rfl, hb⟩; replace hp := hp.call hb; clear hb) | go_skip | ((first | ((refine zi _ _ rfl ?_); refine lB hp rfl (za rfl) rfl ?_; clear hp; intro b w1 hp) | ((refine ze _ _ rfl ?_); first | refine lO hp rfl (za rfl) Zf aa5 ?_ | refine lA hp rfl (za rfl) zI aa5 ?_)); simp only [zc, zb, z0b, z0a]))
  go_ret
  exact ⟨Zk (by unfold zfe; rw [HB.out]; rfl), hp.below⟩
def kE (n : Nat) : List Env := (List.range n).map fun (j : Nat) => En ((j : Int) + 1)
theorem znh (n : Nat) : (kE n).length = n := by simp [kE]
theorem zqB (j : Nat) (h : j < 3) (a : Option Addr) (c : Nat) : zg4 ⟨0, 0, 0, im3, a, kE j, c⟩ ⟨2, 0, 0, 0, ⟨#[]⟩, ⟨(j : Int) + 1, 0, 0, 0, ⟨0, 0, 0, 0, 0, 0, 0⟩⟩, none, [], 0⟩ = (0, ⟨0, 0, 0, im3, a, kE (j + 1), c⟩) := by
 match j, h with
 | 0, _ => exact zha (by kernel_rfl) rfl (by kernel_rfl) (by kernel_rfl) rfl
 | 1, _ => exact zha (by kernel_rfl) rfl (by kernel_rfl) (by kernel_rfl) rfl
 | 2, _ => exact zha (by kernel_rfl) rfl (by kernel_rfl) (by kernel_rfl) rfl
theorem zqv (j : Nat) (h : j < 3) (a : Option Addr) (c : Nat) (w : World) (ha : zr w a ((kE j).flatMap ZI)) : Calls Tryz.prog 19 #[.agg #[.int .i64 0, .int .i64 0, .int .i64 0, .string im3, .slice a j c], .agg #[.int .i64 2, .int .i64 0, .int .i64 0, .int .i64 0, .string ⟨#[]⟩, .int .i64 ((j : Int) + 1), .int .i64 0, .int .i64 0, .int .i64 0, .int .i64 0, .int .i64 0, .int .i64 0, .int .i64 0, .int .i64 0, .int .i64 0, .int .i64 0, .slice none 0 0]] w fun e w' => ∃ a c R, e = .returned (.tuple #[.agg #[.int .i64 0, .int .i64 0, .int .i64 0, .string im3, .slice a (j + 1) c], .int .i64 0]) ∧ j + 1 ≤ c ∧ zM 38 11 (.slice a (j + 1) c) (j + 1) ((kE (j + 1)).flatMap ZI) R ∧ Hp w.heap.size w w' R :=
 zsS 0 0 0 im3 a (kE j) j c (znh j) 2 0 0 0 ⟨#[]⟩ ((j : Int) + 1) 0 0 0 0 0 0 0 0 0 0 none [] 0 0 rfl 0 0 0 im3 (kE (j + 1)) (j + 1) (znh _) _ _ (zqB j h a c) (by omega) zhn (by decide) (by decide) zo6 w ha (zr.nil _ _)
def zrD (w : World) (n : Nat) (e : Ending) (w' : World) : Prop := ∃ a c R, e = .returned (.agg #[.int .i64 0, .int .i64 0, .int .i64 0, .string im3, .slice a n c]) ∧ n ≤ c ∧ ZD R (fun w => zr w a ((kE n).flatMap ZI)) ∧ Hp w.heap.size w w' R
theorem zso (n : Nat) (hn : n ≤ 3) (w : World) : Calls Tryz.prog 73 #[.int .i64 n] w (zrD w n) := by
 have hp := Hp.start w
 go_enter Tryz.func73, Tryz.ntmps73
 go_wp2_with (first | (go_at_call 64; (with_reducible refine (zsj _).mono ?_); rintro e w1 ⟨rfl, hb⟩; replace hp := hp.call hb; clear hb) | go_skip | ((first | ((refine zf _ rfl ?_); refine lZ hp rfl zre ?_; clear hp; intro b w1 hp) | ((refine ze _ _ rfl ?_); refine lA hp rfl (za rfl) zI zn ?_) | ((refine zd _ _ _ rfl ?_); (first | refine sA hp rfl (za rfl) (za rfl) zI zn ?_ | refine sG hp rfl (za rfl) (za rfl) zI zn ?_); clear hp; intro w1 hp; simp only [spl, z0a, z0b] at hp)); simp only [zc, zb, z0b, z0a]))
 obtain ⟨b3, hb3⟩ := hp.id0
 obtain ⟨b2, hb2⟩ := hp.id1
 subst hb3 hb2
 go_loopg [5] n (fun k i wr => ∃ (j : Nat) (a : Option Addr) (c : Nat) (R : List Blk), k + j = n ∧ i = .int .i64 ((j : Int) + 1) ∧ Hid (j ≤ c) ∧ Hid (ZD R fun w => zr w a ((kE j).flatMap ZI)) ∧ Hp w.heap.size w wr (⟨b3, [.int .i64 0, .int .i64 0, .int .i64 0, .string im3, .slice a j c], 28, 5⟩ :: ⟨b2, [.int .i64 0, .int .i64 0, .int .i64 0, .string ⟨#[]⟩, .slice none 0 0], 28, 5⟩ :: R))
 case atStart => exact ⟨0, none, 0, [], by omega, rfl, z0j (Nat.le_refl _), z0j (ZD.none_ (fun w => zr.nil _ _) _), hp⟩
 case round =>
  clear hp
  obtain ⟨j, a, c, R, hkj, rfl, HC, HK, hp⟩ := hrel
  by_cases hlt : j < n
  ·have HJ3 : Hid (j < 3) := z0j (by omega)
   have e1 : decide ((j : Int) + 1 ≤ (n : Int)) = true := by simp; omega
   go_wp2_with (first | (go_at_call 19; (with_reducible refine (zqv j HJ3.out _ _ _ (HK.out.at hp (fun p hm => by simp [hm]))).mono ?_); rintro e w1 ⟨aN, cN, RN, rfl, hcn, hrn, hpn⟩; replace hp := hp.join hpn; have HKN := z0j hrn.keptS; have HCN := z0j hcn; clear hpn hrn hcn; simp only [z0f, z0e, z0i] at hp) | go_skip | ((first | ((refine zf _ rfl ?_); refine lZ hp rfl zre ?_; clear hp; intro b w1 hp) | ((refine ze _ _ rfl ?_); refine lA hp rfl (za rfl) zI zn ?_) | ((refine zd _ _ _ rfl ?_); (first | refine sA hp rfl (za rfl) (za rfl) zI zn ?_ | refine sG hp rfl (za rfl) (za rfl) zI zn ?_); clear hp; intro w1 hp; simp only [spl, z0a, z0b] at hp)); simp only [zc, zb, z0b, z0a]))
   go_roundg (gk - 1)
   case measure => omega
   case rel => exact ⟨j + 1, aN, cN, RN, by omega, by go_num, HCN, HKN, hp.kp⟩
  ·obtain rfl : j = n := by omega
   have e1 : decide ((j : Int) + 1 ≤ (j : Int)) = false := by simp; omega
   go_wp2_with (first | go_skip | ((first | ((refine zf _ rfl ?_); refine lZ hp rfl zre ?_; clear hp; intro b w1 hp) | ((refine ze _ _ rfl ?_); refine lA hp rfl (za rfl) zI zn ?_) | ((refine zd _ _ _ rfl ?_); (first | refine sA hp rfl (za rfl) (za rfl) zI zn ?_ | refine sG hp rfl (za rfl) (za rfl) zI zn ?_); clear hp; intro w1 hp; simp only [spl, z0a, z0b] at hp)); simp only [zc, zb, z0b, z0a]))
   exact bodyPost_ret (zA (rs := [.cell 2 28]) Tryz.results73 (.cell rfl (hp.loadAgg zI at1 0 _ (by rfl) (by rfl)) .nil)) rfl ⟨a, c, R, rfl, HC.out, HK.out, hp.kp⟩
theorem zsF (n : Nat) (h : n ≤ 3) (a : Option Addr) (c : Nat) : okC ⟨0, 0, 0, im3, a, kE n, c⟩ = true := by
 match n, h with
 | 0, _ => exact zeu (by kernel_rfl) rfl
 | 1, _ => exact zeu (by kernel_rfl) rfl
 | 2, _ => exact zeu (by kernel_rfl) rfl
 | 3, _ => exact zeu (by kernel_rfl) rfl
theorem zku (n : Nat) (h : n ≤ 3) (a : Option Addr) (c : Nat) : Kv.Small ⟨0, 0, 0, im3, a, kE n, c⟩ := ⟨by simp only [znh]; omega, zhn⟩
open Go.RowKit
theorem ztj {ty : TypeId} {l : List Value} {n : Nat} (h : zaL Tryz.prog ty = some (l, n) := by with_reducible first | exact zN | exact zL | exact zab) : zaL Tryz.prog ty = some (l, n) := h
theorem zt2 {ty : TypeId} {k : Nat} (h : ZM Tryz.prog ty k = true := by with_reducible first | exact zy | exact Zq | exact zt | exact zbS | exact zI) : ZM Tryz.prog ty k = true := h
theorem ztn {ty : TypeId} (h : zF Tryz.prog ty = true := by with_reducible first | exact zm | exact Zt | exact zat | exact Zf | exact Za | exact Zd) : zF Tryz.prog ty = true := h
def Ex : Env := ⟨1, 0, 2, 3, ⟨1, 0, 0, 0, 0, 0, 0⟩⟩
theorem zoS {x : Sv} (h : x.Sm st3) : ∃ y, zaO x [Ex] = (y, [⟨2, 3, 0, 1⟩]) ∧ y.hv.os.length = 1 := by
 have hx : StR x := zdh ((zea h).trans (zd2 zck))
 have hm : zbn Ex = true := by kernel_rfl
 have h1 : zaO x [Ex] = (za2 x [Ex], zbu x [Ex]) := by
  unfold zaO
  rw [if_pos ⟨zd2 hx, fun e he => by rw [List.mem_singleton.1 he]; exact hm⟩]
 have h2 : zbu st3 [Ex] = [⟨2, 3, 0, 1⟩] := by
  unfold zbu zbu
  rw [zaF zck hm]
  kernel_rfl
 have h3 : (za2 st3 [Ex]).hv.os.length = 1 := by
  unfold za2 za2
  rw [zaF zck hm]
  kernel_rfl
 refine ⟨za2 x [Ex], by rw [h1, zj4 h, h2], ?_⟩
 have := (zke (l := [Ex]) h).1.os.1
 omega
theorem zrd (od : Int) (oa : Option Addr) (os : List Ob) (oc : Nat) (nx t0 t1 t2 t3 : Int) (fa : Option Addr) (fs : List Bl) (fc : Nat) (ra : Option Addr) (rs : List Rw) (rc : Nat) (hsm : Sv.Sm ⟨⟨od, oa, os, oc, nx, t0, t1, t2, t3, fa, fs, fc⟩, ra, rs, rc⟩ st3) (la : Option Addr) (w : World) (hx0 : Sv.Is w ⟨⟨od, oa, os, oc, nx, t0, t1, t2, t3, fa, fs, fc⟩, ra, rs, rc⟩) (hla : zr w la ([Ex].flatMap ZI)) :
  Calls Tryz.prog 49 #[.int .i64 1, .int .i64 7, .agg #[.int .i64 od, .slice oa os.length oc, .int .i64 nx, .int .i64 t0, .int .i64 t1, .int .i64 t2, .int .i64 t3, .slice fa fs.length fc, .slice ra rs.length rc], .slice la 1 1] w fun e w' => ∃ od oa oc nx t0 t1 t2 t3 fa fn fc ra rn rc b off c R, e = .returned (.tuple #[.agg #[.int .i64 od, .slice oa 1 oc, .int .i64 nx, .int .i64 t0, .int .i64 t1, .int .i64 t2, .int .i64 t3, .slice fa fn fc, .slice ra rn rc], .slice (some ⟨b, off, none⟩) 1 c]) ∧
   ZD R (fun w => ∀ j v, [Value.int .i64 2, .int .i64 1, .int .i64 (-2), .int .i64 7, .int .i64 0, .int .i64 0, .int .i64 0, .int .i64 0, .slice none 0 0, .int .i64 0, .int .i64 0, .string ⟨#[]⟩, .int .i64 3, .int .i64 0, .int .i64 0, .int .i64 0, .int .i64 0, .int .i64 0, .int .i64 0, .int .i64 0, .int .i64 0, .int .i64 1, .bool true][j]? = some v → w.cell? ⟨b, off + j, none⟩ = some v) ∧ Hp w.heap.size w w' R := by
 obtain ⟨y, h1, h2⟩ := zoS hsm
 refine (zcT 1 7 od oa os oc nx t0 t1 t2 t3 fa fs fc ra rs rc la [Ex] 1 (zck.small.sm hsm.symm) (by decide) w hx0 hla _ h1).mono fun e w' h => ?_
 obtain ⟨z, v, RO, R, rfl, hz, hk, ho, hp⟩ := h
 obtain ⟨a, c, rfl, hm⟩ := ho.kept
 have hr := hm.at hp (fun p hq => List.mem_append_left _ hq)
 obtain ⟨b, off, rfl, _⟩ := hr.elems 23 (ze2 1 7) Nat.zero_lt_one (by decide)
 obtain ⟨⟨od2, oa2, os2, oc2, nx2, t02, t12, t22, t32, fa2, fs2, fc2⟩, ra2, rs2, rc2⟩ := z
 have e1 : os2.length = 1 := hz.1.os.1.trans h2
 simp only [svL, hvL, z0f, z0e]
 rw [e1]
 refine ⟨od2, oa2, oc2, nx2, t02, t12, t22, t32, fa2, _, fc2, ra2, _, rc2, b, off, c, RO ++ R, rfl, hm.mono (fun p hq => List.mem_append_left _ hq) (fun w hw => ?_), hp⟩
 have h5 := hw.fixC
 intro j v hj
 have hw2 : wrap64 (-2) = -2 := by kernel_rfl
 exact h5 j v (by simpa [zgh, hw2] using hj)
theorem zrS (w : World) : Calls Tryz.prog 73 #[.int .i64 1] w (zrD w 1) := zso 1 (by decide) w
theorem zrq (a : Option Addr) (c : Nat) (w : World) (ha : zr w a ((kE 1).flatMap ZI)) : Calls Tryz.prog 115 #[.agg #[.int .i64 0, .int .i64 0, .int .i64 0, .string im3, .slice a 1 c], .int .i64 0, .int .i64 0, .int .i64 0] w fun e w' => e = .returned (.bool true) ∧ Below w.heap.size w w' := by
 have h := zhk 0 0 0 im3 a (kE 1) c 0 0 0 (zku 1 (by decide) a c) w ha
 rw [show zfe ⟨0, 0, 0, im3, a, kE 1, c⟩ 0 0 0 = true by unfold zfe; rw [zsF 1 (by decide)]; kernel_rfl] at h
 exact h
theorem zqg (a : Option Addr) (c : Nat) (w : World) (ha : zr w a ((kE 1).flatMap ZI)) : Calls Tryz.prog 115 #[.agg #[.int .i64 0, .int .i64 0, .int .i64 0, .string im3, .slice a 1 c], .int .i64 1, .int .i64 0, .int .i64 0] w fun e w' => e = .returned (.bool false) ∧ Below w.heap.size w w' := by
 have h := zhk 0 0 0 im3 a (kE 1) c 1 0 0 (zku 1 (by decide) a c) w ha
 rw [show zfe ⟨0, 0, 0, im3, a, kE 1, c⟩ 1 0 0 = false by unfold zfe; rw [zsF 1 (by decide)]; kernel_rfl] at h
 exact h
theorem zaE (w : World) : Calls Tryz.prog 48 #[] w fun e w' => e = .returned (.bool true) ∧ Below w.heap.size w w' := by
 have hp := Hp.start w
 go_enter Tryz.func48, Tryz.ntmps48
 go_wp2_with (first | (go_at_call 114; (with_reducible refine (zpY _).mono ?_); rintro e w1 ⟨od, oa, os, oc, nx, t0, t1, t2, t3, fa, fs, fc, ra, rs, rc, RN, rfl, hsm, hk, hpn⟩; replace hp := hp.join hpn; have HSM := z0j hsm; have HK := z0j hk; clear hpn hsm hk; simp only [z0f, z0e] at hp) | (go_at_call 49; (with_reducible refine (zrd od oa os oc nx t0 t1 t2 t3 fa fs fc ra rs rc HSM.out _ _ (HK.out.at hp (fun p hm => by simp [hm])) (hp.rowIs at0)).mono ?_); rintro e w1 ⟨od2, oa2, oc2, nx2, t02, t12, t22, t32, fa2, fn2, fc2, ra2, rn2, rc2, bm, om, cm, RM, rfl, hkm, hpn⟩; replace hp := hp.join hpn; have HKM := z0j hkm; clear hpn hkm; simp only [z0f, z0e, z0i] at hp) | (go_at_call 73; (with_reducible refine (zrS _).mono ?_); rintro e w1 ⟨ak, ck, RK, rfl, hck, hkk, hpn⟩; replace hp := hp.join hpn; have HKK := z0j hkk; clear hpn hkk hck; simp only [z0f, z0e, z0i] at hp) | (go_at_call 115; (with_reducible refine (zrq _ _ _ (HKK.out.at hp (fun p hm => by simp [hm]))).mono ?_); rintro e w1 ⟨rfl, hb⟩; replace hp := hp.call hb; clear hb; clear HKK) | (go_at_call 115; (with_reducible refine (zqg _ _ _ (HKK.out.at hp (fun p hm => by simp [hm]))).mono ?_); rintro e w1 ⟨rfl, hb⟩; replace hp := hp.call hb; clear hb) | ((refine ze _ _ rfl ?_); first | (refine lRO (Hp.start _) rfl (za rfl) zm (HKM.out.at hp (fun p hm => by simp [hm]) _ _ rfl) ?_; simp only [zc, zb, z0b, z0a]) | (refine lRO (Hp.start _) rfl (za rfl) zm (HKM.out.at hp (fun p hm => by simp [hm]) 21 _ rfl) ?_; simp only [zc, zb, z0b, z0a]) | (refine lRO (Hp.start _) rfl (za rfl) Zt (HKM.out.at hp (fun p hm => by simp [hm]) _ _ rfl) ?_; simp only [zc, zb, z0b, z0a])) | go_skip | ((first | ((refine zf _ rfl ?_); refine lZ hp rfl ztj ?_; clear hp; intro b w1 hp) | ((refine ze _ _ rfl ?_); first | refine lO hp rfl (za rfl) ztn zn ?_ | refine lA hp rfl (za rfl) zy zn ?_) | ((refine zd _ _ _ rfl ?_); (first | refine sA hp rfl (za rfl) (za rfl) zy zn ?_ | refine sG hp rfl (za rfl) (za rfl) zy zn ?_); clear hp; intro w1 hp; simp only [spl, z0a, z0b] at hp) | ((refine zk _ _ _ rfl ?_); refine lS hp rfl (by intro w; go_simp; rfl) ?_; clear hp; intro b w1 hp; simp only [z0g, z0h, Nat.reduceAdd] at hp)); simp only [zc, zb, z0b, z0a]))
 go_ret
 exact ⟨rfl, hp.below⟩
open Go.RowKit
theorem zmz {ty : TypeId} {l : List Value} {n : Nat} (h : zaL Tryz.prog ty = some (l, n) := by with_reducible first | exact zN | exact zX | exact z8) : zaL Tryz.prog ty = some (l, n) := h
theorem zfz {ty : TypeId} {k : Nat} (h : ZM Tryz.prog ty k = true := by with_reducible first | exact zy | exact zP | exact zG | exact zsk | exact zw) : ZM Tryz.prog ty k = true := h
theorem zmx {ty : TypeId} (h : zF Tryz.prog ty = true := by with_reducible first | exact zm | exact Zt | exact Zi | exact Zd | exact Zj | exact ZS) : zF Tryz.prog ty = true := h
theorem ziE (od : Int) (oa : Option Addr) (on oc : Nat) (nx t0 t1 t2 t3 : Int) (fa : Option Addr) (fn fc : Nat) (od' : Int) (oa' : Option Addr) (on' oc' : Nat) (nx' t0' t1' t2' t3' : Int) (fa' : Option Addr) (fn' fc' : Nat) (hn : od ≠ od') (w : World) :
  Calls Tryz.prog 40 #[.agg #[.int .i64 od, .slice oa on oc, .int .i64 nx, .int .i64 t0, .int .i64 t1, .int .i64 t2, .int .i64 t3, .slice fa fn fc], .agg #[.int .i64 od', .slice oa' on' oc', .int .i64 nx', .int .i64 t0', .int .i64 t1', .int .i64 t2', .int .i64 t3', .slice fa' fn' fc']] w fun e w' => e = .returned (.bool false) ∧ Below w.heap.size w w' := by
 have hp := Hp.start w
 have e1 : (od == od') = false := by simpa using hn
 go_enter Tryz.func40, Tryz.ntmps40
 go_wp2_with (first | go_skip | ((first | ((refine zf _ rfl ?_); refine lZ hp rfl zmz ?_; clear hp; intro b w1 hp) | ((refine zi _ _ rfl ?_); refine lB hp rfl (za rfl) rfl ?_; clear hp; intro b w1 hp) | ((refine ze _ _ rfl ?_); first | refine lO hp rfl (za rfl) zmx aa5 ?_ | refine lA hp rfl (za rfl) zfz aa5 ?_ | refine lR hp rfl (za rfl) zfz HX.out ?_ | refine lR hp rfl (za rfl) zfz HY.out ?_) | ((refine zd _ _ _ rfl ?_); (first | refine sA hp rfl (za rfl) (za rfl) zG aa5 ?_ | refine sG hp rfl (za rfl) (za rfl) zG aa5 ?_); clear hp; intro w1 hp; simp only [spl, z0a, z0b] at hp)); simp only [zc, zb, z0b, z0a]))
 go_ret
 exact ⟨rfl, hp.below⟩
theorem zmn (od : Int) (oa : Option Addr) (on oc : Nat) (nx t0 t1 t2 t3 : Int) (fa : Option Addr) (fn fc : Nat) (ra : Option Addr) (rn rc : Nat) (od' : Int) (oa' : Option Addr) (on' oc' : Nat) (nx' t0' t1' t2' t3' : Int) (fa' : Option Addr) (fn' fc' : Nat) (ra' : Option Addr) (rn' rc' : Nat) (hn : od ≠ od') (w : World) :
  Calls Tryz.prog 39 #[.agg #[.int .i64 od, .slice oa on oc, .int .i64 nx, .int .i64 t0, .int .i64 t1, .int .i64 t2, .int .i64 t3, .slice fa fn fc, .slice ra rn rc], .agg #[.int .i64 od', .slice oa' on' oc', .int .i64 nx', .int .i64 t0', .int .i64 t1', .int .i64 t2', .int .i64 t3', .slice fa' fn' fc', .slice ra' rn' rc']] w fun e w' => e = .returned (.bool false) ∧ Below w.heap.size w w' := by
 have hp := Hp.start w
 have HN := z0j hn
 clear hn
 by_cases hr : rn = rn'
 ·subst hr
  go_enter Tryz.func39, Tryz.ntmps39
  go_wp2_with (first | (go_at_call 40; (with_reducible refine (ziE od oa on oc nx t0 t1 t2 t3 fa fn fc od' oa' on' oc' nx' t0' t1' t2' t3' fa' fn' fc' HN.out _).mono ?_); rintro e w1 ⟨rfl, hb⟩; replace hp := hp.call hb; clear hb) | go_skip | ((first | ((refine zi _ _ rfl ?_); refine lB hp rfl (za rfl) rfl ?_; clear hp; intro b w1 hp) | ((refine ze _ _ rfl ?_); first | refine lO hp rfl (za rfl) ZS aa5 ?_ | refine lA hp rfl (za rfl) zP aa5 ?_ | refine lR hp rfl (za rfl) zP HX.out ?_ | refine lR hp rfl (za rfl) zP HY.out ?_)); simp only [zc, zb, z0b, z0a]))
  go_ret
  exact ⟨rfl, hp.below⟩
 ·have e1 : ((rn : Int) == (rn' : Int)) = false := by simp; omega
  go_enter Tryz.func39, Tryz.ntmps39
  go_wp2_with (first | (go_at_call 40; (with_reducible refine (ziE od oa on oc nx t0 t1 t2 t3 fa fn fc od' oa' on' oc' nx' t0' t1' t2' t3' fa' fn' fc' HN.out _).mono ?_); rintro e w1 ⟨rfl, hb⟩; replace hp := hp.call hb; clear hb) | go_skip | ((first | ((refine zi _ _ rfl ?_); refine lB hp rfl (za rfl) rfl ?_; clear hp; intro b w1 hp) | ((refine ze _ _ rfl ?_); first | refine lO hp rfl (za rfl) ZS aa5 ?_ | refine lA hp rfl (za rfl) zP aa5 ?_ | refine lR hp rfl (za rfl) zP HX.out ?_ | refine lR hp rfl (za rfl) zP HY.out ?_)); simp only [zc, zb, z0b, z0a]))
  go_ret
  exact ⟨rfl, hp.below⟩
end Go.Proofs.YtjcbpfbifbfkcaaGreat

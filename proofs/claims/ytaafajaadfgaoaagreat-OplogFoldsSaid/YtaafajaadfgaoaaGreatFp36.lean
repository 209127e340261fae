import Derived.Test.YtaafajaadfgaoaaGreatFp2
import Derived.Test.YtaafajaadfgaoaaGreatFp35
import Derived.Test.YtaafajaadfgaoaaGreatFp27
set_option linter.unusedSimpArgs false
set_option linter.unusedVariables false
set_option maxRecDepth 100000
set_option maxHeartbeats 60000000
namespace Go.Proofs.YtaafajaadfgaoaaGreat
open Go.RowKit
theorem zcN {ty : TypeId} {k : Nat} (h : zac Tryz.prog ty k = true := by with_reducible first | exact zaR | exact zN | exact zt) : zac Tryz.prog ty k = true := h
theorem zeh {ty : TypeId} (h : zB Tryz.prog ty = true := by with_reducible first | exact zq | exact zA | exact za8 | exact zcq | exact za9 | exact Ze) : zB Tryz.prog ty = true := h
theorem ziA (o : Int) (h : Zg o = false) (w : World) : Calls Tryz.prog 127 #[.int .i64 o] w (zhu w zaY 1) := by
 have hp := Hp.start w
 have K := z0j (zjU o h)
 clear h
 go_enter Tryz.func127, Tryz.ntmps127
 go_wp2_with (first | (go_at_call 81; ((with_reducible refine (K.out _).mono ?_); rintro e w1 ⟨⟨od, oa, os, oc, nx, t0, t1, t2, t3, fa, fs, fc⟩, R, rfl, hsm, hk, hp5⟩; replace hp := hp.join hp5; have HSM := z0j hsm; have HK := z0j hk; clear hp5 hsm hk; simp only [z0f, z0e, hvL] at hp ⊢)) | go_skip | ((first | ((refine zg _ rfl ?_); refine lZ hp rfl (by with_reducible first | exact zU | exact ZA) ?_; clear hp; intro b w1 hp) | ((refine zh _ _ rfl ?_); refine lB hp rfl (za rfl) rfl ?_; clear hp; intro b w1 hp) | ((refine zf _ _ rfl ?_); first | refine lO hp rfl (za rfl) zeh zu ?_ | refine lA hp rfl (za rfl) zcN zu ?_) | ((refine zd _ _ _ rfl ?_); (first | refine sO hp rfl (za rfl) zeh zu ?_ | refine sA hp rfl (za rfl) (za rfl) zcN zu ?_ | refine sG hp rfl (za rfl) (za rfl) zcN zu ?_); clear hp; intro w1 hp; simp only [spl, z0a, z0b] at hp) | ((refine zi _ _ _ rfl ?_); refine lS hp rfl (by intro w; go_simp; rfl) ?_; clear hp; intro b w1 hp; simp only [z0g, z0h, Nat.reduceAdd] at hp)); simp only [zc, zb, z0b, z0a]))
 exact bodyPost_ret (zl (rs := [.cell 2 50, .tmp 3]) Tryz.results127 (.cell rfl (hp.loadAgg zaR at1 0 _ (by rfl) (by rfl)) (.tmp rfl .nil))) rfl ⟨⟨zaY, none, [], 0⟩, [], rfl, ⟨Hv.Sm.refl _, rfl⟩, (zjD.mono (fun _ h => h) (fun w h => ⟨h, zr.nil _ _⟩)), (hp.tail.tail).sub0⟩
theorem zhj (o : Int) (h : Zg o = true) (w : World) : Calls Tryz.prog 127 #[.int .i64 o] w (zhu w (zcT o) 0) := by
 have hp := Hp.start w
 have K := z0j (ziz o h)
 clear h
 go_enter Tryz.func127, Tryz.ntmps127
 go_wp2_with (first | (go_at_call 81; ((with_reducible refine (K.out _).mono ?_); rintro e w1 ⟨⟨od, oa, os, oc, nx, t0, t1, t2, t3, fa, fs, fc⟩, R, rfl, hsm, hk, hp5⟩; replace hp := hp.join hp5; have HSM := z0j hsm; have HK := z0j hk; clear hp5 hsm hk; simp only [z0f, z0e, hvL] at hp ⊢)) | go_skip | ((first | ((refine zg _ rfl ?_); refine lZ hp rfl (by with_reducible first | exact zU | exact ZA) ?_; clear hp; intro b w1 hp) | ((refine zh _ _ rfl ?_); refine lB hp rfl (za rfl) rfl ?_; clear hp; intro b w1 hp) | ((refine zf _ _ rfl ?_); first | refine lO hp rfl (za rfl) zeh zu ?_ | refine lA hp rfl (za rfl) zcN zu ?_) | ((refine zd _ _ _ rfl ?_); (first | refine sO hp rfl (za rfl) zeh zu ?_ | refine sA hp rfl (za rfl) (za rfl) zcN zu ?_ | refine sG hp rfl (za rfl) (za rfl) zcN zu ?_); clear hp; intro w1 hp; simp only [spl, z0a, z0b] at hp) | ((refine zi _ _ _ rfl ?_); refine lS hp rfl (by intro w; go_simp; rfl) ?_; clear hp; intro b w1 hp; simp only [z0g, z0h, Nat.reduceAdd] at hp)); simp only [zc, zb, z0b, z0a]))
 exact bodyPost_ret (zl (rs := [.cell 2 50, .tmp 3]) Tryz.results127 (.cell rfl (hp.loadAgg zaR at1 0 _ (by rfl) (by rfl)) (.tmp rfl .nil))) rfl ⟨⟨⟨od, oa, os, oc, nx, t0, t1, t2, t3, fa, fs, fc⟩, none, [], 0⟩, R, rfl, ⟨HSM.out, rfl⟩, (HK.out.mono (fun _ h => h) (fun w h => ⟨h, zr.nil _ _⟩)), hp.tail.tail⟩
open Go.RowKit
theorem zed {ty : TypeId} {k : Nat} (h : zac Tryz.prog ty k = true := by with_reducible first | exact zF | exact zaR | exact Zr | exact Zq) : zac Tryz.prog ty k = true := h
theorem zf7 {ty : TypeId} (h : zB Tryz.prog ty = true := by with_reducible first | exact zq | exact zA | exact Ze) : zB Tryz.prog ty = true := h
theorem zbD : zcW Tryz.prog 33 = some ([.int .i64 0, .int .i64 0, .int .i64 0, .int .i64 0, .string ⟨#[]⟩, .int .i64 0, .int .i64 0, .int .i64 0, .int .i64 0, .int .i64 0, .int .i64 0, .int .i64 0, .int .i64 0, .int .i64 0, .int .i64 0, .int .i64 0, .slice none 0 0], 17) := by kernel_rfl
def st3 : Sv := ⟨zcT 3, none, [], 0⟩
def b36 : List Nat := zdz st3
theorem zi8 : za4 b36 := by
 intro x hx
 have : b36 = [0, 0, 0, 28] ++ b28 ++ [0, 0, 0, 0] := rfl
 rw [this] at hx
 simp [b28] at hx
 omega
theorem zgK : StR st3 := ⟨zcB ziG, rfl⟩
theorem zkk : Zz b36 = some (zga st3) := ziL zgK ⟨(fun o ho => by cases ho), (fun r hr => by cases hr)⟩
def im3 : ByteArray := strOfNums (nI b36)
theorem zhZ : zbG im3 = b36 := zcJ zi8
theorem zk4 : im3.size = 36 := by rw [← ZP, zhZ]; rfl
theorem ziK : Zz (zbG im3) = some (zga st3) := by rw [zhZ]; exact zkk
def zn4 (w : World) (e : Ending) (w' : World) : Prop := ∃ od oa os oc nx t0 t1 t2 t3 fa fs fc ra rs rc R, e = .returned (.tuple #[.agg #[.int .i64 od, .slice oa (List.length os) oc, .int .i64 nx, .int .i64 t0, .int .i64 t1, .int .i64 t2, .int .i64 t3, .slice fa (List.length fs) fc, .slice ra (List.length rs) rc], .int .i64 0]) ∧ Sv.Sm ⟨⟨od, oa, os, oc, nx, t0, t1, t2, t3, fa, fs, fc⟩, ra, rs, rc⟩ st3 ∧ zaG R (fun w => Sv.Is w ⟨⟨od, oa, os, oc, nx, t0, t1, t2, t3, fa, fs, fc⟩, ra, rs, rc⟩) ∧ Hp w.heap.size w w' R
theorem znC (w : World) : Calls Tryz.prog 127 #[.int .i64 3] w (zn4 w) := by
 refine (zhj 3 rfl w).mono fun e w' h => ?_
 obtain ⟨y, R, h1, h2, h3, h4⟩ := h
 obtain ⟨⟨od, oa, os, oc, nx, t0, t1, t2, t3, fa, fs, fc⟩, ra, rs, rc⟩ := y
 exact ⟨od, oa, os, oc, nx, t0, t1, t2, t3, fa, fs, fc, ra, rs, rc, R, h1, h2, h3, h4⟩
theorem znD (w : World) : Calls Tryz.prog 127 #[.int .i64 9] w fun e w' => ∃ od oa on oc nx t0 t1 t2 t3 fa fn fc ra rn rc R, e = .returned (.tuple #[.agg #[.int .i64 od, .slice oa on oc, .int .i64 nx, .int .i64 t0, .int .i64 t1, .int .i64 t2, .int .i64 t3, .slice fa fn fc, .slice ra rn rc], .int .i64 1]) ∧ Hp w.heap.size w w' R := by
 refine (ziA 9 rfl w).mono fun e w' h => ?_
 obtain ⟨y, R, h1, h2, h3, h4⟩ := h
 obtain ⟨⟨od, oa, os, oc, nx, t0, t1, t2, t3, fa, fs, fc⟩, ra, rs, rc⟩ := y
 exact ⟨od, oa, _, oc, nx, t0, t1, t2, t3, fa, _, fc, ra, _, rc, R, h1, h4⟩
theorem znL (od : Int) (oa : Option Addr) (os : List Ob) (oc : Nat) (nx t0 t1 t2 t3 : Int) (fa : Option Addr) (fs : List Bl) (fc : Nat) (ra : Option Addr) (rs : List Rw) (rc : Nat) (hsm : Sv.Sm ⟨⟨od, oa, os, oc, nx, t0, t1, t2, t3, fa, fs, fc⟩, ra, rs, rc⟩ st3) (w : World) (hx0 : Sv.Is w ⟨⟨od, oa, os, oc, nx, t0, t1, t2, t3, fa, fs, fc⟩, ra, rs, rc⟩) :
  Calls Tryz.prog 22 #[.agg #[.int .i64 od, .slice oa os.length oc, .int .i64 nx, .int .i64 t0, .int .i64 t1, .int .i64 t2, .int .i64 t3, .slice fa fs.length fc, .slice ra rs.length rc]] w fun e w' => ∃ a c R, e = .returned (.tuple #[.slice a 36 c, .int .i64 0]) ∧ zaG R (fun w => zr w a (b36.flatMap byV)) ∧ Hp w.heap.size w w' R := by
 have hb : stB ⟨⟨od, oa, os, oc, nx, t0, t1, t2, t3, fa, fs, fc⟩, ra, rs, rc⟩ = true := (zgL hsm).trans (zma zgK)
 have h := ziE _ hb w hx0
 rw [zkj hsm] at h
 refine h.mono fun e w' h => ?_
 obtain ⟨a, c, R, h1, h2, h3⟩ := h
 exact ⟨a, c, R, h1, h2.keptS, h3⟩
theorem znA (w : World) : Calls Tryz.prog 89 #[.int .i64 3] w fun e w' => e = .returned (.tuple #[.agg #[.int .i64 0, .int .i64 0, .int .i64 0, .string im3, .slice none 0 0], .int .i64 0]) ∧ Below w.heap.size w w' := by
 have hp := Hp.start w
 have HNI : Hid ((nI b36).length = 36) := z0j (by rw [zhN]; rfl)
 go_enter Tryz.func89, Tryz.ntmps89
 go_wp2_with (first | (go_at_call 127; (with_reducible refine (znC _).mono ?_); rintro e w1 ⟨od, oa, os, oc, nx, t0, t1, t2, t3, fa, fs, fc, ra, rs, rc, RN, rfl, hsm, hk, hpn⟩; replace hp := hp.join hpn; have HSM := z0j hsm; have HK := z0j hk; clear hpn hsm hk; simp only [z0f, z0e] at hp) | (go_at_call 22; (with_reducible refine (znL od oa os oc nx t0 t1 t2 t3 fa fs fc ra rs rc HSM.out _ (HK.out.at hp (fun p hm => by simp [hm]))).mono ?_); rintro e w1 ⟨ab, cb, RB, rfl, hkb, hpn⟩; replace hp := hp.join hpn; have HKB := z0j hkb; clear hpn hkb; simp only [z0f, z0e] at hp) | ((refine Zl _ _ _ rfl ?_); refine zaq 57 9 5 _ rfl wy Tryz.underlying57 Tryz.underlying5 Tryz.underlying9 ab 36 cb (za rfl) (nI b36) HNI.out (by rw [zfN]; exact HKB.out.at hp (by intro p hp2; simp [hp2])) ?_; simp only [zc, zb, z0b, z0a]) | go_skip | ((first | ((refine zg _ rfl ?_); refine lZ hp rfl (by with_reducible first | exact zW | exact zU | exact zbD | exact Zh) ?_; clear hp; intro b w1 hp) | ((refine zh _ _ rfl ?_); refine lB hp rfl (za rfl) rfl ?_; clear hp; intro b w1 hp) | ((refine zf _ _ rfl ?_); first | refine lO hp rfl (za rfl) zf7 aa5 ?_ | refine lA hp rfl (za rfl) zed aa5 ?_) | ((refine zd _ _ _ rfl ?_); (first | refine sO hp rfl (za rfl) zf7 aa5 ?_ | refine sA hp rfl (za rfl) (za rfl) zed aa5 ?_ | refine sG hp rfl (za rfl) (za rfl) zed aa5 ?_); clear hp; intro w1 hp; simp only [spl, z0a, z0b] at hp)); simp only [zc, zb, z0b, z0a]))
 exact bodyPost_ret (zl (rs := [.cell 2 24, .tmp 3]) Tryz.results89 (.cell rfl (hp.loadAgg zF at1 0 _ (by rfl) (by rfl)) (.tmp rfl .nil))) rfl ⟨rfl, hp.below⟩
theorem znB (w : World) : Calls Tryz.prog 89 #[.int .i64 9] w fun e w' => e = .returned (.tuple #[.agg #[.int .i64 0, .int .i64 0, .int .i64 0, .string ⟨#[]⟩, .slice none 0 0], .int .i64 1]) ∧ Below w.heap.size w w' := by
 have hp := Hp.start w
 go_enter Tryz.func89, Tryz.ntmps89
 go_wp2_with (first | (go_at_call 127; (with_reducible refine (znD _).mono ?_); rintro e w1 ⟨od, oa, on, oc, nx, t0, t1, t2, t3, fa, fn, fc, ra, rn, rc, RN, rfl, hpn⟩; replace hp := hp.join hpn; clear hpn; simp only [z0f, z0e] at hp) | go_skip | ((first | ((refine zg _ rfl ?_); refine lZ hp rfl (by with_reducible first | exact zW | exact zU | exact zbD | exact Zh) ?_; clear hp; intro b w1 hp) | ((refine zh _ _ rfl ?_); refine lB hp rfl (za rfl) rfl ?_; clear hp; intro b w1 hp) | ((refine zf _ _ rfl ?_); first | refine lO hp rfl (za rfl) zf7 aa5 ?_ | refine lA hp rfl (za rfl) zed aa5 ?_) | ((refine zd _ _ _ rfl ?_); (first | refine sO hp rfl (za rfl) zf7 aa5 ?_ | refine sA hp rfl (za rfl) (za rfl) zed aa5 ?_ | refine sG hp rfl (za rfl) (za rfl) zed aa5 ?_); clear hp; intro w1 hp; simp only [spl, z0a, z0b] at hp)); simp only [zc, zb, z0b, z0a]))
 exact bodyPost_ret (zl (rs := [.cell 2 24, .tmp 3]) Tryz.results89 (.cell rfl (hp.loadAgg zF at1 0 _ (by rfl) (by rfl)) (.tmp rfl .nil))) rfl ⟨rfl, hp.below⟩
theorem zjk (n : Int) (w : World) : Calls Tryz.prog 91 #[.int .i64 n] w fun e w' => e = .returned (.agg #[.int .i64 n, .int .i64 0, .int .i64 0, .int .i64 0, .int .i64 0, .int .i64 0, .int .i64 0, .int .i64 0, .int .i64 0, .int .i64 0, .int .i64 0]) ∧ Below w.heap.size w w' := by
 have hp := Hp.start w
 go_enter Tryz.func91, Tryz.ntmps91
 go_wp2_with (first | go_skip | ((first | ((refine zg _ rfl ?_); refine lZ hp rfl (by with_reducible first | exact zW | exact zU | exact zbD | exact Zh) ?_; clear hp; intro b w1 hp) | ((refine zh _ _ rfl ?_); refine lB hp rfl (za rfl) rfl ?_; clear hp; intro b w1 hp) | ((refine zf _ _ rfl ?_); first | refine lO hp rfl (za rfl) zf7 aa5 ?_ | refine lA hp rfl (za rfl) zed aa5 ?_) | ((refine zd _ _ _ rfl ?_); (first | refine sO hp rfl (za rfl) zf7 aa5 ?_ | refine sA hp rfl (za rfl) (za rfl) zed aa5 ?_ | refine sG hp rfl (za rfl) (za rfl) zed aa5 ?_); clear hp; intro w1 hp; simp only [spl, z0a, z0b] at hp)); simp only [zc, zb, z0b, z0a]))
 exact bodyPost_ret (ZI (rs := [.cell 2 31]) Tryz.results91 (.cell rfl (hp.loadAgg Zq at0 0 _ (by rfl) (by rfl)) .nil)) rfl ⟨rfl, hp.below⟩
theorem zjF (n : Int) (w : World) : Calls Tryz.prog 90 #[.int .i64 n] w fun e w' => e = .returned (.agg #[.int .i64 2, .int .i64 0, .int .i64 0, .int .i64 0, .string ⟨#[]⟩, .int .i64 n, .int .i64 0, .int .i64 0, .int .i64 0, .int .i64 0, .int .i64 0, .int .i64 0, .int .i64 0, .int .i64 0, .int .i64 0, .int .i64 0, .slice none 0 0]) ∧ Below w.heap.size w w' := by
 have hp := Hp.start w
 go_enter Tryz.func90, Tryz.ntmps90
 go_wp2_with (first | (go_at_call 91; (with_reducible refine (zjk _ _).mono ?_); rintro e w1 ⟨rfl, hb⟩; replace hp := hp.call hb; clear hb) | go_skip | ((first | ((refine zg _ rfl ?_); refine lZ hp rfl (by with_reducible first | exact zW | exact zU | exact zbD | exact Zh) ?_; clear hp; intro b w1 hp) | ((refine zh _ _ rfl ?_); refine lB hp rfl (za rfl) rfl ?_; clear hp; intro b w1 hp) | ((refine zf _ _ rfl ?_); first | refine lO hp rfl (za rfl) zf7 aa5 ?_ | refine lA hp rfl (za rfl) zed aa5 ?_) | ((refine zd _ _ _ rfl ?_); (first | refine sO hp rfl (za rfl) zf7 aa5 ?_ | refine sA hp rfl (za rfl) (za rfl) zed aa5 ?_ | refine sG hp rfl (za rfl) (za rfl) zed aa5 ?_); clear hp; intro w1 hp; simp only [spl, z0a, z0b] at hp)); simp only [zc, zb, z0b, z0a]))
 exact bodyPost_ret (ZI (rs := [.cell 2 33]) Tryz.results90 (.cell rfl (hp.loadAgg Zr at0 0 _ (by rfl) (by rfl)) .nil)) rfl ⟨rfl, hp.below⟩
open Go.RowKit
def En (n : Int) : Env := ⟨n, 0, 0, 0, ⟨0, 0, 0, 0, 0, 0, 0⟩⟩
def okP (x : Kv) : Bool := inM x.vw 0 900000000 && (inM x.nm 0 x.vw && (inM x.bs 0 900000000 && (decide (x.es.length ≤ 4000) && (zc5 x.bs 0 x.es && zbj x.nm 0 x.es))))
theorem zdT {x : Kv} (h : okP x = true) (hi : x.im = im3) : okC x = true := by
 unfold okP at h
 simp only [Bool.and_eq_true] at h
 obtain ⟨h1, h2, h3, h4, h5, h6⟩ := h
 unfold okC
 rw [h1, h2, h3, h4, h5, h6, hi, ziK]; rfl
theorem zdo {x y : Kv} {r : Rv} (hx : okP x = true) (hi : x.im = im3) (hm : Zf x r = (0, y)) (hy : okP y = true) (hj : y.im = im3) : zaW x r = (0, y) := by
 unfold zaW
 rw [if_pos (zdT hx hi)]
 unfold ZQ
 rw [hm, if_pos rfl, if_pos (zdT hy hj)]
theorem zhE {x y : Kv} {r : Rv} {c : Int} (hx : okP x = true) (hi : x.im = im3) (hm : Zf x r = (c, y)) (hc : c ≠ 0) : zaW x r = (c, y) := by
 unfold zaW
 rw [if_pos (zdT hx hi)]
 unfold ZQ
 rw [hm, if_neg hc]
theorem zge (vw nm bs : Int) (im : ByteArray) (ea : Option Addr) (es : List Env) (n ec : Nat) (hn : es.length = n) (kd rv rf rn : Int) (rim : ByteArray) (nu vi cl sq kk hh ii nn cc vv tt : Int) (ra : Option Addr) (rs : List Env) (m rc : Nat) (hm : rs.length = m) (vw' nm' bs' : Int) (im' : ByteArray) (es' : List Env) (q : Nat) (hq : es'.length = q) (a0 : Option Addr) (c0 : Nat) (hr : zaW ⟨vw, nm, bs, im, ea, es, ec⟩ ⟨kd, rv, rf, rn, rim, ⟨nu, vi, cl, sq, ⟨kk, hh, ii, nn, cc, vv, tt⟩⟩, ra, rs, rc⟩ = (0, ⟨vw', nm', bs', im', a0, es', c0⟩)) (hes : n ≤ 1500) (him : im.size ≤ 1000000) (hrs : m ≤ 1500) (hrc : m ≤ rc) (hri : rim.size ≤ 1000000) (w : World) (ha : zr w ea (es.flatMap Zi)) (hra : zr w ra (rs.flatMap Zi)) :
  Calls Tryz.prog 16 #[.agg #[.int .i64 vw, .int .i64 nm, .int .i64 bs, .string im, .slice ea n ec], .agg #[.int .i64 kd, .int .i64 rv, .int .i64 rf, .int .i64 rn, .string rim, .int .i64 nu, .int .i64 vi, .int .i64 cl, .int .i64 sq, .int .i64 kk, .int .i64 hh, .int .i64 ii, .int .i64 nn, .int .i64 cc, .int .i64 vv, .int .i64 tt, .slice ra m rc]] w fun e w' => ∃ a c R, e = .returned (.tuple #[.agg #[.int .i64 vw', .int .i64 nm', .int .i64 bs', .string im', .slice a q c], .int .i64 0]) ∧ q ≤ c ∧ zD 31 11 (.slice a q c) q (es'.flatMap Zi) R ∧ Hp w.heap.size w w' R := by
 subst hn hm hq
 refine (zfI vw nm bs im ea es ec kd rv rf rn rim nu vi cl sq kk hh ii nn cc vv tt ra rs rc _ hr hes him hrs hrc hri w ha hra).mono fun e w' h => ?_
 obtain ⟨a, c, R, h1, h2, h3, h4⟩ := h.1 rfl
 exact ⟨a, c, R, h1, h2, h3, h4⟩
theorem zlU (vw nm bs : Int) (im : ByteArray) (ea : Option Addr) (es : List Env) (n ec : Nat) (hn : es.length = n) (kd rv rf rn : Int) (rim : ByteArray) (nu vi cl sq kk hh ii nn cc vv tt : Int) (ra : Option Addr) (rs : List Env) (m rc : Nat) (hm : rs.length = m) (c0 : Int) (y : Kv) (hc : c0 ≠ 0) (hr : zaW ⟨vw, nm, bs, im, ea, es, ec⟩ ⟨kd, rv, rf, rn, rim, ⟨nu, vi, cl, sq, ⟨kk, hh, ii, nn, cc, vv, tt⟩⟩, ra, rs, rc⟩ = (c0, y)) (hes : n ≤ 1500) (him : im.size ≤ 1000000) (hrs : m ≤ 1500) (hrc : m ≤ rc) (hri : rim.size ≤ 1000000) (w : World) (ha : zr w ea (es.flatMap Zi)) (hra : zr w ra (rs.flatMap Zi)) :
  Calls Tryz.prog 16 #[.agg #[.int .i64 vw, .int .i64 nm, .int .i64 bs, .string im, .slice ea n ec], .agg #[.int .i64 kd, .int .i64 rv, .int .i64 rf, .int .i64 rn, .string rim, .int .i64 nu, .int .i64 vi, .int .i64 cl, .int .i64 sq, .int .i64 kk, .int .i64 hh, .int .i64 ii, .int .i64 nn, .int .i64 cc, .int .i64 vv, .int .i64 tt, .slice ra m rc]] w fun e w' => e = .returned (.tuple #[.agg #[.int .i64 0, .int .i64 0, .int .i64 0, .string ⟨#[]⟩, .slice none 0 0], .int .i64 c0]) ∧ Below w.heap.size w w' := by
 subst hn hm
 refine (zfI vw nm bs im ea es ec kd rv rf rn rim nu vi cl sq kk hh ii nn cc vv tt ra rs rc _ hr hes him hrs hrc hri w ha hra).mono fun e w' h => ?_
 exact h.2 hc
theorem f_1 (a : Option Addr) (c : Nat) (b : Option Addr) (d : Nat) : zaW ⟨0, 0, 0, im3, a, [], c⟩ ⟨2, 0, 0, 0, ⟨#[]⟩, ⟨1, 0, 0, 0, ⟨0, 0, 0, 0, 0, 0, 0⟩⟩, b, [], d⟩ = (0, ⟨0, 0, 0, im3, a, [En 1], c⟩) := zdo (by kernel_rfl) rfl (by kernel_rfl) (by kernel_rfl) rfl
theorem f_2 (a : Option Addr) (c : Nat) (b : Option Addr) (d : Nat) : zaW ⟨0, 0, 0, im3, a, [En 1], c⟩ ⟨2, 0, 0, 0, ⟨#[]⟩, ⟨2, 0, 0, 0, ⟨0, 0, 0, 0, 0, 0, 0⟩⟩, b, [], d⟩ = (0, ⟨0, 0, 0, im3, a, [En 1, En 2], c⟩) := zdo (by kernel_rfl) rfl (by kernel_rfl) (by kernel_rfl) rfl
theorem f_3 (a : Option Addr) (c : Nat) (b : Option Addr) (d : Nat) : zaW ⟨0, 0, 0, im3, a, [En 1, En 2], c⟩ ⟨2, 0, 0, 0, ⟨#[]⟩, ⟨4, 0, 0, 0, ⟨0, 0, 0, 0, 0, 0, 0⟩⟩, b, [], d⟩ = (140, ⟨0, 0, 0, im3, a, [En 1, En 2], c⟩) := zhE (by kernel_rfl) rfl (by kernel_rfl) (by decide)
theorem f_4 (a : Option Addr) (c : Nat) (b : Option Addr) (d : Nat) : zaW ⟨0, 0, 0, im3, a, [En 1, En 2], c⟩ ⟨1, 3, 0, 0, ⟨#[]⟩, ⟨0, 0, 0, 0, ⟨0, 0, 0, 0, 0, 0, 0⟩⟩, b, [], d⟩ = (0, ⟨3, 0, 0, im3, a, [En 1, En 2], c⟩) := zdo (by kernel_rfl) rfl (by kernel_rfl) (by kernel_rfl) rfl
theorem f_5 (a : Option Addr) (c : Nat) (b : Option Addr) (d : Nat) : zaW ⟨3, 0, 0, im3, a, [En 1, En 2], c⟩ ⟨1, 2, 0, 0, ⟨#[]⟩, ⟨0, 0, 0, 0, ⟨0, 0, 0, 0, 0, 0, 0⟩⟩, b, [], d⟩ = (141, ⟨3, 0, 0, im3, a, [En 1, En 2], c⟩) := zhE (by kernel_rfl) rfl (by kernel_rfl) (by decide)
theorem f_6 (a : Option Addr) (c : Nat) (b : Option Addr) (d : Nat) : zaW ⟨3, 0, 0, im3, a, [En 1, En 2], c⟩ ⟨3, 3, 1, 0, ⟨#[]⟩, ⟨0, 0, 0, 0, ⟨0, 0, 0, 0, 0, 0, 0⟩⟩, b, [En 2, En 3], d⟩ = (0, ⟨3, 3, 0, im3, a, [En 1, En 2, En 3], c⟩) := zdo (by kernel_rfl) rfl (by kernel_rfl) (by kernel_rfl) rfl
theorem f_7 (a : Option Addr) (c : Nat) (b : Option Addr) (d : Nat) : zaW ⟨3, 3, 0, im3, a, [En 1, En 2, En 3], c⟩ ⟨4, 0, 0, 2, im3, ⟨0, 0, 0, 0, ⟨0, 0, 0, 0, 0, 0, 0⟩⟩, b, [], d⟩ = (0, ⟨3, 3, 2, im3, a, [En 3], c⟩) := zdo (by kernel_rfl) rfl (by kernel_rfl) (by kernel_rfl) rfl
theorem zaf : im3.size ≤ 1000000 := by rw [zk4]; decide
theorem zoG (a : Option Addr) (c : Nat) : okC ⟨0, 0, 0, im3, a, [En 1, En 2], c⟩ = true := zdT (by kernel_rfl) rfl
theorem zoH (a : Option Addr) (c : Nat) : okC ⟨3, 3, 0, im3, a, [En 1, En 2, En 3], c⟩ = true := zdT (by kernel_rfl) rfl
theorem zot (a : Option Addr) (c : Nat) : okC ⟨3, 3, 2, im3, a, [En 3], c⟩ = true := zdT (by kernel_rfl) rfl
end Go.Proofs.YtaafajaadfgaoaaGreat

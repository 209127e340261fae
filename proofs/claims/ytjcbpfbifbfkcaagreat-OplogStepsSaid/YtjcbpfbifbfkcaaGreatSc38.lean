import Derived.Test.YtjcbpfbifbfkcaaGreatSc37
import Derived.Test.YtjcbpfbifbfkcaaGreatSc33
set_option linter.unusedSimpArgs false
set_option linter.unusedVariables false
set_option maxRecDepth 100000
set_option maxHeartbeats 60000000
namespace Go.Proofs.YtjcbpfbifbfkcaaGreat
open Go.RowKit
theorem zq3 {ty : TypeId} {k : Nat} (h : ZU Tryz.prog ty k = true := by with_reducible first | exact zH | exact Zu | exact ziw | exact zaa) : ZU Tryz.prog ty k = true := h
theorem zs3 {ty : TypeId} (h : zF Tryz.prog ty = true := by with_reducible first | exact zm | exact Zv | exact z7) : zF Tryz.prog ty = true := h
theorem zo8 : zbu Tryz.prog 40 = some ([.int .i64 0, .int .i64 0, .int .i64 0, .int .i64 0, .string ⟨#[]⟩, .int .i64 0, .int .i64 0, .int .i64 0, .int .i64 0, .int .i64 0, .int .i64 0, .int .i64 0, .int .i64 0, .int .i64 0, .int .i64 0, .int .i64 0, .slice none 0 0], 17) := by kernel_rfl
def st3 : Sv := ⟨zcW 3, none, [], 0⟩
def b36 : List Nat := zdN st3
theorem zmd : zba b36 := by
 intro x hx
 have : b36 = [0, 0, 0, 28] ++ b28 ++ [0, 0, 0, 0] := rfl
 rw [this] at hx
 simp [b28] at hx
 omega
theorem zhO : StR st3 := ⟨zcm zj6, rfl⟩
theorem zmZ : zab b36 = some (zdH st3) := zkO zhO ⟨(fun o ho => by cases ho), (fun r hr => by cases hr)⟩
def im3 : ByteArray := strOfNums (nI b36)
theorem zjF : zcT im3 = b36 := zdR zmd
theorem zoc : im3.size = 36 := by rw [← zam, zjF]; rfl
theorem zfI : zab (zcT im3) = some (zdH st3) := by rw [zjF]; exact zmZ
def zsk (w : World) (e : Ending) (w' : World) : Prop := ∃ od oa os oc nx t0 t1 t2 t3 fa fs fc ra rs rc R, e = .returned (.tuple #[.agg #[.int .i64 od, .slice oa (List.length os) oc, .int .i64 nx, .int .i64 t0, .int .i64 t1, .int .i64 t2, .int .i64 t3, .slice fa (List.length fs) fc, .slice ra (List.length rs) rc], .int .i64 0]) ∧ Sv.Sm ⟨⟨od, oa, os, oc, nx, t0, t1, t2, t3, fa, fs, fc⟩, ra, rs, rc⟩ st3 ∧ ZF R (fun w => Sv.Is w ⟨⟨od, oa, os, oc, nx, t0, t1, t2, t3, fa, fs, fc⟩, ra, rs, rc⟩) ∧ Hp w.heap.size w w' R
theorem zqO (w : World) : Calls Tryz.prog 114 #[.int .i64 3] w (zsk w) := by
 refine (zh4 3 rfl w).mono fun e w' h => ?_
 obtain ⟨y, R, h1, h2, h3, h4⟩ := h
 obtain ⟨⟨od, oa, os, oc, nx, t0, t1, t2, t3, fa, fs, fc⟩, ra, rs, rc⟩ := y
 exact ⟨od, oa, os, oc, nx, t0, t1, t2, t3, fa, fs, fc, ra, rs, rc, R, h1, h2, h3, h4⟩
theorem zq0 (od : Int) (oa : Option Addr) (os : List Ob) (oc : Nat) (nx t0 t1 t2 t3 : Int) (fa : Option Addr) (fs : List Bl) (fc : Nat) (ra : Option Addr) (rs : List Rw) (rc : Nat) (hsm : Sv.Sm ⟨⟨od, oa, os, oc, nx, t0, t1, t2, t3, fa, fs, fc⟩, ra, rs, rc⟩ st3) (w : World) (hx0 : Sv.Is w ⟨⟨od, oa, os, oc, nx, t0, t1, t2, t3, fa, fs, fc⟩, ra, rs, rc⟩) :
  Calls Tryz.prog 35 #[.agg #[.int .i64 od, .slice oa os.length oc, .int .i64 nx, .int .i64 t0, .int .i64 t1, .int .i64 t2, .int .i64 t3, .slice fa fs.length fc, .slice ra rs.length rc]] w fun e w' => ∃ a c R, e = .returned (.tuple #[.slice a 36 c, .int .i64 0]) ∧ ZF R (fun w => zt w a (b36.flatMap byV)) ∧ Hp w.heap.size w w' R := by
 have hb : stB ⟨⟨od, oa, os, oc, nx, t0, t1, t2, t3, fa, fs, fc⟩, ra, rs, rc⟩ = true := (zje hsm).trans (zmO zhO)
 have h := zkE _ hb w hx0
 rw [zmN hsm] at h
 refine h.mono fun e w' h => ?_
 obtain ⟨a, c, R, h1, h2, h3⟩ := h
 exact ⟨a, c, R, h1, h2.keptS, h3⟩
theorem zrn (w : World) : Calls Tryz.prog 64 #[.int .i64 3] w fun e w' => e = .returned (.tuple #[.agg #[.int .i64 0, .int .i64 0, .int .i64 0, .string im3, .slice none 0 0], .int .i64 0]) ∧ Below w.heap.size w w' := by
 have hp := Hp.start w
 have HNI : Hid ((nI b36).length = 36) := z0j (by rw [zlT]; rfl)
 go_enter Tryz.func64, Tryz.ntmps64
 go_wp2_with (first | (go_at_call 114; (with_reducible refine (zqO _).mono ?_); rintro e w1 ⟨od, oa, os, oc, nx, t0, t1, t2, t3, fa, fs, fc, ra, rs, rc, RN, rfl, hsm, hk, hpn⟩; replace hp := hp.join hpn; have HSM := z0j hsm; have HK := z0j hk; clear hpn hsm hk; simp only [z0f, z0e] at hp) | (go_at_call 35; (with_reducible refine (zq0 od oa os oc nx t0 t1 t2 t3 fa fs fc ra rs rc HSM.out _ (HK.out.at hp (fun p hm => by simp [hm]))).mono ?_); rintro e w1 ⟨ab, cb, RB, rfl, hkb, hpn⟩; replace hp := hp.join hpn; have HKB := z0j hkb; clear hpn hkb; simp only [z0f, z0e] at hp) | ((refine ZB _ _ _ rfl ?_); refine zbl 74 9 5 _ rfl wy Tryz.underlying74 Tryz.underlying5 Tryz.underlying9 ab 36 cb (za rfl) (nI b36) HNI.out (by rw [zga]; exact HKB.out.at hp (by intro p hp2; simp [hp2])) ?_; simp only [zc, zb, z0b, z0a]) | go_skip | ((first | ((refine zf _ rfl ?_); refine lZ hp rfl (by with_reducible first | exact zhQ | exact Za | exact zo8 | exact ZH) ?_; clear hp; intro b w1 hp) | ((refine ze _ _ rfl ?_); refine lA hp rfl (za rfl) Zu aa5 ?_) | ((refine zd _ _ _ rfl ?_); (first | refine sA hp rfl (za rfl) (za rfl) zq3 aa5 ?_ | refine sG hp rfl (za rfl) (za rfl) zq3 aa5 ?_); clear hp; intro w1 hp; simp only [spl, z0a, z0b] at hp)); simp only [zc, zb, z0b, z0a]))
 exact bodyPost_ret (zB (rs := [.cell 2 28, .tmp 3]) Tryz.results64 (.cell rfl (hp.loadAgg zH at1 0 _ (by rfl) (by rfl)) (.tmp rfl .nil))) rfl ⟨rfl, hp.below⟩
open Go.RowKit
def okP (x : Kv) : Bool := inM x.vw 0 900000000 && (inM x.nm 0 x.vw && (inM x.bs 0 900000000 && (decide (x.es.length ≤ 4000) && (zgi x.bs 0 x.es && ze6 x.nm 0 x.es))))
theorem zi3 {x : Kv} (h : okP x = true) (hi : x.im = im3) : okC x = true := by
 unfold okP at h
 simp only [Bool.and_eq_true] at h
 obtain ⟨h1, h2, h3, h4, h5, h6⟩ := h
 unfold okC
 rw [h1, h2, h3, h4, h5, h6, hi, zfI]; rfl
theorem zok {x y : Kv} {r : Rv} (hx : okP x = true) (hi : x.im = im3) (hm : za0 x r = (0, y)) (hy : okP y = true) (hj : y.im = im3) : zgx x r = (0, y) := by
 unfold zgx
 rw [if_pos (zi3 hx hi)]
 unfold Zy
 rw [hm, if_pos rfl, if_pos (zi3 hy hj)]
theorem zrM (vw nm bs : Int) (im : ByteArray) (ea : Option Addr) (es : List Env) (n ec : Nat) (hn : es.length = n) (kd rv rf rn : Int) (rim : ByteArray) (nu vi cl sq kk hh ii nn cc vv tt : Int) (ra : Option Addr) (rs : List Env) (m rc : Nat) (hm : rs.length = m) (vw' nm' bs' : Int) (im' : ByteArray) (es' : List Env) (q : Nat) (hq : es'.length = q) (a0 : Option Addr) (c0 : Nat) (hr : zgx ⟨vw, nm, bs, im, ea, es, ec⟩ ⟨kd, rv, rf, rn, rim, ⟨nu, vi, cl, sq, ⟨kk, hh, ii, nn, cc, vv, tt⟩⟩, ra, rs, rc⟩ = (0, ⟨vw', nm', bs', im', a0, es', c0⟩)) (hes : n ≤ 1500) (him : im.size ≤ 1000000) (hrs : m ≤ 1500) (hrc : m ≤ rc) (hri : rim.size ≤ 1000000) (w : World) (ha : zt w ea (es.flatMap Z1)) (hra : zt w ra (rs.flatMap Z1)) :
  Calls Tryz.prog 19 #[.agg #[.int .i64 vw, .int .i64 nm, .int .i64 bs, .string im, .slice ea n ec], .agg #[.int .i64 kd, .int .i64 rv, .int .i64 rf, .int .i64 rn, .string rim, .int .i64 nu, .int .i64 vi, .int .i64 cl, .int .i64 sq, .int .i64 kk, .int .i64 hh, .int .i64 ii, .int .i64 nn, .int .i64 cc, .int .i64 vv, .int .i64 tt, .slice ra m rc]] w fun e w' => ∃ a c R, e = .returned (.tuple #[.agg #[.int .i64 vw', .int .i64 nm', .int .i64 bs', .string im', .slice a q c], .int .i64 0]) ∧ q ≤ c ∧ zI 38 11 (.slice a q c) q (es'.flatMap Z1) R ∧ Hp w.heap.size w w' R := by
 subst hn hm hq
 refine (zpi vw nm bs im ea es ec kd rv rf rn rim nu vi cl sq kk hh ii nn cc vv tt ra rs rc _ hr hes him hrs hrc hri w ha hra).mono fun e w' h => ?_
 obtain ⟨a, c, R, h1, h2, h3, h4⟩ := h.1 rfl
 exact ⟨a, c, R, h1, h2, h3, h4⟩
theorem ze9 : im3.size ≤ 1000000 := by rw [zoc]; decide
open Go.RowKit
theorem zm8 : (⟨#[]⟩ : ByteArray).size ≤ 1000000 := by decide
open Go.RowKit
theorem zlJ {ty : TypeId} (h : zF Tryz.prog ty = true := by with_reducible first | exact zm | exact Zv | exact Zh | exact zaX) : zF Tryz.prog ty = true := h
def zsG (w : World) (n m p q : Nat) (e : Ending) (w' : World) : Prop := ∃ bb, e = .returned (.bool bb) ∧ (bb = false → n ≤ 300 ∧ m ≤ 300 ∧ p ≤ 100000 ∧ q ≤ 100000) ∧ Below w.heap.size w w'
theorem zsC (vw nm bs : Int) (im : ByteArray) (ea : Option Addr) (es : List Env) (ec : Nat) (kd rv rf rn : Int) (rim : ByteArray) (nu vi cl sq kk hh ii nn cc vv tt : Int) (ra : Option Addr) (rs : List Env) (rc : Nat) (w : World) : Calls Tryz.prog 18 #[.agg #[.int .i64 vw, .int .i64 nm, .int .i64 bs, .string im, .slice ea es.length ec], .agg #[.int .i64 kd, .int .i64 rv, .int .i64 rf, .int .i64 rn, .string rim, .int .i64 nu, .int .i64 vi, .int .i64 cl, .int .i64 sq, .int .i64 kk, .int .i64 hh, .int .i64 ii, .int .i64 nn, .int .i64 cc, .int .i64 vv, .int .i64 tt, .slice ra rs.length rc]] w (zsG w es.length rs.length im.size rim.size) := by
 have hp := Hp.start w
 by_cases h1 : es.length ≤ 300
 ·have e1 : decide ((300 : Int) < (es.length : Int)) = false := by simp; omega
  by_cases h2 : rs.length ≤ 300
  ·have e2 : decide ((300 : Int) < (rs.length : Int)) = false := by simp; omega
   by_cases h3 : im.size ≤ 100000
   ·have e3 : decide ((100000 : Int) < (im.size : Int)) = false := by simp; omega
    by_cases h4 : rim.size ≤ 100000
    ·have e4 : decide ((100000 : Int) < (rim.size : Int)) = false := by simp; omega
     go_enter Tryz.func18, Tryz.ntmps18
     go_wp2_with (first | go_skip | ((first | ((refine zi _ _ rfl ?_); refine lB hp rfl (za rfl) rfl ?_; clear hp; intro b w1 hp) | ((refine ze _ _ rfl ?_); refine lO hp rfl (za rfl) zlJ aa5 ?_)); simp only [zc, zb, z0b, z0a]))
     go_ret
     exact ⟨_, rfl, fun _ => ⟨h1, h2, h3, h4⟩, hp.below⟩
    ·have e4 : decide ((100000 : Int) < (rim.size : Int)) = true := by simp; omega
     go_enter Tryz.func18, Tryz.ntmps18
     go_wp2_with (first | go_skip | ((first | ((refine zi _ _ rfl ?_); refine lB hp rfl (za rfl) rfl ?_; clear hp; intro b w1 hp) | ((refine ze _ _ rfl ?_); refine lO hp rfl (za rfl) zlJ aa5 ?_)); simp only [zc, zb, z0b, z0a]))
     go_ret
     exact ⟨true, rfl, fun h => (by cases h), hp.below⟩
   ·have e3 : decide ((100000 : Int) < (im.size : Int)) = true := by simp; omega
    go_enter Tryz.func18, Tryz.ntmps18
    go_wp2_with (first | go_skip | ((first | ((refine zi _ _ rfl ?_); refine lB hp rfl (za rfl) rfl ?_; clear hp; intro b w1 hp) | ((refine ze _ _ rfl ?_); refine lO hp rfl (za rfl) zlJ aa5 ?_)); simp only [zc, zb, z0b, z0a]))
    go_ret
    exact ⟨true, rfl, fun h => (by cases h), hp.below⟩
  ·have e2 : decide ((300 : Int) < (rs.length : Int)) = true := by simp; omega
   go_enter Tryz.func18, Tryz.ntmps18
   go_wp2_with (first | go_skip | ((first | ((refine zi _ _ rfl ?_); refine lB hp rfl (za rfl) rfl ?_; clear hp; intro b w1 hp) | ((refine ze _ _ rfl ?_); refine lO hp rfl (za rfl) zlJ aa5 ?_)); simp only [zc, zb, z0b, z0a]))
   go_ret
   exact ⟨true, rfl, fun h => (by cases h), hp.below⟩
 ·have e1 : decide ((300 : Int) < (es.length : Int)) = true := by simp; omega
  go_enter Tryz.func18, Tryz.ntmps18
  go_wp2_with (first | go_skip | ((first | ((refine zi _ _ rfl ?_); refine lB hp rfl (za rfl) rfl ?_; clear hp; intro b w1 hp) | ((refine ze _ _ rfl ?_); refine lO hp rfl (za rfl) zlJ aa5 ?_)); simp only [zc, zb, z0b, z0a]))
  go_ret
  exact ⟨true, rfl, fun h => (by cases h), hp.below⟩
open Go.RowKit
theorem zeu {α : Type} {one : List Nat → Option (α × List Nat)} {P : α → Prop} (h1 : ∀ bs x r, one bs = some (x, r) → P x) : ∀ {n : Nat} {bs : List Nat} {l : List α} {r : List Nat}, zbk one n bs = some (l, r) → ∀ x ∈ l, P x
 | 0, bs, l, r, h, x, hx => by
  unfold zbk at h
  injection h with h; injection h with h _
  subst h; cases hx
 | n + 1, bs, l, r, h, x, hx => by
  unfold zbk at h
  cases e1 : zbk one n bs with
  | none => rw [e1] at h; cases h
  | some p =>
   obtain ⟨l1, b1⟩ := p
   rw [e1] at h
   simp only at h
   cases e2 : one b1 with
   | none => rw [e2] at h; cases h
   | some q =>
    obtain ⟨y, b2⟩ := q
    rw [e2] at h
    injection h with h; injection h with h _
    subst h
    rcases List.mem_append.1 hx with hx | hx
    ·exact zeu h1 e1 x hx
    ·rw [List.mem_singleton.1 hx]; exact h1 _ _ _ e2
theorem zpt {bs r : List Nat} {o : Ob} (h : zgH bs = some (o, r)) : ∀ v ∈ o.ws, I64 v := by
 unfold zgH at h
 cases e1 : nR bs with
 | none => rw [e1] at h; cases h
 | some p1 =>
  obtain ⟨a1, b1⟩ := p1
  rw [e1] at h; simp only at h
  cases e2 : nR b1 with
  | none => rw [e2] at h; cases h
  | some p2 =>
   obtain ⟨a2, b2⟩ := p2
   rw [e2] at h; simp only at h
   cases e3 : nR b2 with
   | none => rw [e3] at h; cases h
   | some p3 =>
    obtain ⟨a3, b3⟩ := p3
    rw [e3] at h; simp only at h
    cases e4 : nR b3 with
    | none => rw [e4] at h; cases h
    | some p4 =>
     obtain ⟨a4, b4⟩ := p4
     rw [e4] at h; simp only at h
     split at h
     ·cases h
     ·cases e5 : zbk iR a3.toNat b4 with
      | none => rw [e5] at h; cases h
      | some p5 =>
       obtain ⟨a5, b5⟩ := p5
       rw [e5] at h; simp only at h
       cases e6 : zbk nR a4.toNat b5 with
       | none => rw [e6] at h; cases h
       | some p6 =>
        obtain ⟨a6, b6⟩ := p6
        rw [e6] at h; simp only at h
        injection h with h; injection h with h _
        subst h
        exact zeu (P := I64) (fun bs x r h => zru h) e5
theorem zlR {bs r : List Nat} {x : Hv} (h : zdK bs = some (x, r)) : x.W64 := by
 unfold zdK at h
 cases e1 : nR bs with
 | none => rw [e1] at h; cases h
 | some p1 =>
  obtain ⟨a1, b1⟩ := p1
  rw [e1] at h; simp only at h
  cases e2 : nR b1 with
  | none => rw [e2] at h; cases h
  | some p2 =>
   obtain ⟨a2, b2⟩ := p2
   rw [e2] at h; simp only at h
   unfold zaj at h
   cases e3 : zbk nR 4 b2 with
   | none => rw [e3] at h; cases h
   | some p3 =>
    obtain ⟨a3, b3⟩ := p3
    rw [e3] at h; simp only at h
    unfold zdD at h
    cases e4 : nR b3 with
    | none => rw [e4] at h; cases h
    | some p4 =>
     obtain ⟨a4, b4⟩ := p4
     rw [e4] at h; simp only at h
     split at h
     ·cases h
     ·cases e5 : zbk zgH a4.toNat b4 with
      | none => rw [e5] at h; cases h
      | some p5 =>
       obtain ⟨a5, b5⟩ := p5
       rw [e5] at h; simp only at h
       unfold zem at h
       split at h
       ·split at h
        ·injection h with h; injection h with h _
         subst h
         exact zeu (P := fun o : Ob => ∀ v ∈ o.ws, I64 v) (fun bs x r h => zpt h) e5
        ·cases h
       ·cases h
theorem zpv {bs r : List Nat} {x : Rw} (h : zke bs = some (x, r)) : I64 x.v := by
 unfold zke at h
 cases e1 : nR bs with
 | none => rw [e1] at h; cases h
 | some p1 =>
  obtain ⟨a1, b1⟩ := p1
  rw [e1] at h; simp only at h
  cases e2 : nR b1 with
  | none => rw [e2] at h; cases h
  | some p2 =>
   obtain ⟨a2, b2⟩ := p2
   rw [e2] at h; simp only at h
   cases e3 : nR b2 with
   | none => rw [e3] at h; cases h
   | some p3 =>
    obtain ⟨a3, b3⟩ := p3
    rw [e3] at h; simp only at h
    cases e4 : iR b3 with
    | none => rw [e4] at h; cases h
    | some p4 =>
     obtain ⟨a4, b4⟩ := p4
     rw [e4] at h; simp only at h
     injection h with h; injection h with h _
     subst h
     exact zru e4
theorem zhZ {bs : List Nat} {x : Sv} (h : zab bs = some x) : StR x ∧ x.W64 := by
 unfold zab zbY at h
 split at h
 ·rename_i y r hy
  split at h
  ·injection h with h
   subst h
   unfold Zr at hy
   cases e1 : zef bs with
   | none => rw [e1] at hy; cases hy
   | some p1 =>
    obtain ⟨a1, b1⟩ := p1
    rw [e1] at hy; simp only at hy
    cases e2 : zcJ a1 with
    | none => rw [e2] at hy; cases hy
    | some z =>
     rw [e2] at hy; simp only at hy
     have hz : z.W64 := by
      unfold zcJ zbY at e2
      split at e2
      ·rename_i u ru hu
       split at e2
       ·injection e2 with e2
        subst e2
        exact zlR hu
       ·cases e2
      ·cases e2
     unfold zct at hy
     cases e3 : nR b1 with
     | none => rw [e3] at hy; cases hy
     | some p3 =>
      obtain ⟨a3, b3⟩ := p3
      rw [e3] at hy; simp only at hy
      split at hy
      ·cases hy
      ·cases e5 : zbk zke a3.toNat b3 with
       | none => rw [e5] at hy; cases hy
       | some p5 =>
        obtain ⟨a5, b5⟩ := p5
        rw [e5] at hy; simp only at hy
        split at hy
        ·rename_i hb
         injection hy with hy; injection hy with hy _
         subst hy
         exact ⟨zfw hb, hz, zeu (P := fun r : Rw => I64 r.v) (fun bs x r h => zpv h) e5⟩
        ·cases hy
  ·cases h
 ·cases h
end Go.Proofs.YtjcbpfbifbfkcaaGreat

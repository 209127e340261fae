import Derived.Test.YtaafajaadfgaoaaGreatFp40
import Derived.Test.YtaafajaadfgaoaaGreatFp37
set_option linter.unusedSimpArgs false
set_option linter.unusedVariables false
set_option maxRecDepth 100000
set_option maxHeartbeats 60000000
namespace Go.Proofs.YtaafajaadfgaoaaGreat
open Go.RowKit
theorem zcX {ty : TypeId} (h : zB Tryz.prog ty = true := by with_reducible first | exact zq | exact zA | exact zO) : zB Tryz.prog ty = true := h
theorem zd5 {ty : TypeId} (h : zB Tryz.prog ty = true := by with_reducible first | exact zq | exact zA | exact Ze | exact zO) : zB Tryz.prog ty = true := h
theorem zj0 (vw nm bs : Int) (im : ByteArray) (a : Option Addr) (n c : Nat) (xs : List Value) (hn : n ≤ 5000) {R K : List Blk} (hR : zD 31 11 (.slice a n c) n xs R) {B : Nat} {w0 w : World} (hp : Hp B w0 w (R ++ K)) :
  Calls Tryz.prog 53 #[.agg #[.int .i64 vw, .int .i64 nm, .int .i64 bs, .string im, .slice a n c]] w fun e w' => e = .returned (.tuple #[]) ∧ ∃ D, Hp B w0 w' (D ++ K) := by
 obtain ⟨hl, ⟨rfl, ⟨a', hv⟩, rfl⟩ | ⟨g, off, cap, pre, hv, h1, h2, h3, rfl⟩⟩ := hR
 ·injection hv with v1 v2 v3
  subst v1 v3
  simp only [z0e] at hp
  go_enter Tryz.func53, Tryz.ntmps53
  go_wp2_with (first | go_skip | ((first | ((refine zh _ _ rfl ?_); refine lB hp rfl (za rfl) rfl ?_; clear hp; intro b w1 hp) | ((refine zf _ _ rfl ?_); first | refine lO hp rfl (za rfl) zcX aa5 ?_ | refine lA hp rfl (za rfl) zF aa5 ?_) | ((refine zd _ _ _ rfl ?_); (first | refine sO hp rfl (za rfl) zcX aa5 ?_ | refine sA hp rfl (za rfl) (za rfl) zF aa5 ?_ | refine sG hp rfl (za rfl) (za rfl) zF aa5 ?_); clear hp; intro w1 hp; simp only [spl, z0a, z0b] at hp)); simp only [zc, zb, z0b, z0a]))
  obtain ⟨bH, rfl⟩ := hp.id0
  go_loopg [2] 0 (fun k jv wr => jv = .int .i64 (0 : Nat) ∧ Hp B w0 wr (⟨bH, [.int .i64 vw, .int .i64 nm, .int .i64 bs, .string im, .slice a 0 0], 24, 5⟩ :: K))
  case atStart => exact ⟨rfl, hp⟩
  case round =>
   clear hp
   obtain ⟨rfl, hp⟩ := hrel
   have g2 : decide (((0 : Nat) : Int) < ((0 : Nat) : Int)) = false := by simp
   go_wp2_with (first | go_skip | ((first | ((refine zh _ _ rfl ?_); refine lB hp rfl (za rfl) rfl ?_; clear hp; intro b w1 hp) | ((refine zf _ _ rfl ?_); first | refine lO hp rfl (za rfl) zcX aa5 ?_ | refine lA hp rfl (za rfl) zF aa5 ?_) | ((refine zd _ _ _ rfl ?_); (first | refine sO hp rfl (za rfl) zcX aa5 ?_ | refine sA hp rfl (za rfl) (za rfl) zF aa5 ?_ | refine sG hp rfl (za rfl) (za rfl) zF aa5 ?_); clear hp; intro w1 hp; simp only [spl, z0a, z0b] at hp)); simp only [zc, zb, z0b, z0a]))
   exact bodyPost_end (results_none Tryz.results53 _ _ _) rfl ⟨rfl, [_], hp⟩
 ·injection hv with v1 v2 v3
  subst v1 v3
  have HCL : Hid (off + n * 11 ≤ (pre ++ xs).length) := z0j (by rw [List.length_append]; omega)
  clear hl h1 h2 h3
  generalize pre ++ xs = cells at hp HCL
  simp only [z0f, z0e] at hp
  go_enter Tryz.func53, Tryz.ntmps53
  go_wp2_with (first | go_skip | ((first | ((refine zh _ _ rfl ?_); refine lB hp rfl (za rfl) rfl ?_; clear hp; intro b w1 hp) | ((refine zf _ _ rfl ?_); first | refine lO hp rfl (za rfl) zcX aa5 ?_ | refine lA hp rfl (za rfl) zF aa5 ?_) | ((refine zd _ _ _ rfl ?_); (first | refine sO hp rfl (za rfl) zcX aa5 ?_ | refine sA hp rfl (za rfl) (za rfl) zF aa5 ?_ | refine sG hp rfl (za rfl) (za rfl) zF aa5 ?_); clear hp; intro w1 hp; simp only [spl, z0a, z0b] at hp)); simp only [zc, zb, z0b, z0a]))
  obtain ⟨bH, rfl⟩ := hp.id0
  go_loopg [2] n (fun k jv wr => ∃ (q : Nat) (cells : List Value), k + q = n ∧ jv = .int .i64 q ∧ Hid (off + n * 11 ≤ cells.length) ∧ Hp B w0 wr (⟨bH, [.int .i64 vw, .int .i64 nm, .int .i64 bs, .string im, .slice (some ⟨g, off, none⟩) n c], 24, 5⟩ :: ⟨g, cells, 31, off + c * 11⟩ :: K))
  case atStart => exact ⟨0, cells, by omega, rfl, HCL, hp⟩
  case round =>
   clear hp HCL
   obtain ⟨q, cells, hkq, rfl, HCL, hp⟩ := hrel
   by_cases hlq : q < n
   ·have HQL : Hid (off + q * 11 < cells.length) := z0j (by have := HCL.out; omega)
    have HCN : Hid (off + n * 11 ≤ (cells.set (off + q * 11) (.int .i64 (-77))).length) := z0j (by rw [List.length_set]; exact HCL.out)
    have g1 : (0 : Int) ≤ (q : Int) := by omega
    have g2 : (q : Int) < (n : Int) := by omega
    go_wp2_with (first | ((refine zd 3 _ _ rfl ?_); refine sO hp rfl (za rfl) zq at1 ?_ (hlen := HQL.out); clear hp; intro w1 hp; simp only [z0b, z0a] at hp; simp only [zc, zb, z0b, z0a]) | go_skip | ((first | ((refine zh _ _ rfl ?_); refine lB hp rfl (za rfl) rfl ?_; clear hp; intro b w1 hp) | ((refine zf _ _ rfl ?_); first | refine lO hp rfl (za rfl) zcX aa5 ?_ | refine lA hp rfl (za rfl) zF aa5 ?_) | ((refine zd _ _ _ rfl ?_); (first | refine sO hp rfl (za rfl) zcX aa5 ?_ | refine sA hp rfl (za rfl) (za rfl) zF aa5 ?_ | refine sG hp rfl (za rfl) (za rfl) zF aa5 ?_); clear hp; intro w1 hp; simp only [spl, z0a, z0b] at hp)); simp only [zc, zb, z0b, z0a]))
    go_roundg (gk - 1)
    case measure => omega
    case rel => exact ⟨q + 1, _, by omega, by go_num, HCN, hp⟩
   ·obtain rfl : q = n := by omega
    have g2 : decide ((q : Int) < (q : Int)) = false := by simp
    go_wp2_with (first | go_skip | ((first | ((refine zh _ _ rfl ?_); refine lB hp rfl (za rfl) rfl ?_; clear hp; intro b w1 hp) | ((refine zf _ _ rfl ?_); first | refine lO hp rfl (za rfl) zcX aa5 ?_ | refine lA hp rfl (za rfl) zF aa5 ?_) | ((refine zd _ _ _ rfl ?_); (first | refine sO hp rfl (za rfl) zcX aa5 ?_ | refine sA hp rfl (za rfl) (za rfl) zF aa5 ?_ | refine sG hp rfl (za rfl) (za rfl) zF aa5 ?_); clear hp; intro w1 hp; simp only [spl, z0a, z0b] at hp)); simp only [zc, zb, z0b, z0a]))
    exact bodyPost_end (results_none Tryz.results53 _ _ _) rfl ⟨rfl, [_, _], hp⟩
theorem zmU (w : World) : Calls Tryz.prog 34 #[.agg #[.int .i64 0, .int .i64 0, .int .i64 0, .string ⟨#[]⟩, .slice none 0 0], .agg #[.int .i64 0, .int .i64 0, .int .i64 0, .string ⟨#[]⟩, .slice none 0 0]] w fun e w' => e = .returned (.bool true) ∧ Below w.heap.size w w' :=
 zfU 0 0 0 ⟨#[]⟩ none none [] 0 0 (by decide) w (zr.nil _ _) (zr.nil _ _)
theorem zoj {B : Nat} {w0 w : World} {p1 p2 p3 p4 p5 p6 : Blk} {RO RR RX RY : List Blk} (hp : Hp B w0 w (p1 :: p2 :: p3 :: p4 :: p5 :: p6 :: (RO ++ (RR ++ (RX ++ RY))))) : Hp B w0 w (RX ++ (p1 :: p2 :: p3 :: p4 :: p5 :: p6 :: (RO ++ (RR ++ RY)))) := hp.kp
theorem zol {B : Nat} {w0 w : World} {p1 p2 p3 p4 p5 p6 : Blk} {D L : List Blk} (hp : Hp B w0 w (D ++ (p1 :: p2 :: p3 :: p4 :: p5 :: p6 :: L))) : Hp B w0 w (p1 :: p2 :: p3 :: p4 :: p5 :: p6 :: L) := hp.kp
theorem zok {B : Nat} {w0 w : World} {L : List Blk} (hp : Hp B w0 w L) : Hp B w0 w ([] ++ L) := hp
theorem zom {B : Nat} {w0 w : World} {D L : List Blk} (hp : Hp B w0 w (D ++ L)) : Hp B w0 w L := hp.kp
theorem zfo (kd rv rf rn : Int) (rim : ByteArray) (nu vi cl sq kk hh ii nn cc vv tt : Int) (ea ea2 : Option Addr) (es : List Env) (ec ec2 : Nat) (hl : es.length ≤ 100000) (w : World) (ha : zr w ea (es.flatMap Zi)) (hb : zr w ea2 (es.flatMap Zi)) :
  Calls Tryz.prog 54 #[.agg #[.int .i64 kd, .int .i64 rv, .int .i64 rf, .int .i64 rn, .string rim, .int .i64 nu, .int .i64 vi, .int .i64 cl, .int .i64 sq, .int .i64 kk, .int .i64 hh, .int .i64 ii, .int .i64 nn, .int .i64 cc, .int .i64 vv, .int .i64 tt, .slice ea es.length ec], .agg #[.int .i64 kd, .int .i64 rv, .int .i64 rf, .int .i64 rn, .string rim, .int .i64 nu, .int .i64 vi, .int .i64 cl, .int .i64 sq, .int .i64 kk, .int .i64 hh, .int .i64 ii, .int .i64 nn, .int .i64 cc, .int .i64 vv, .int .i64 tt, .slice ea2 es.length ec2]] w fun e w' => e = .returned (.bool true) ∧ Below w.heap.size w w' :=
 ziI kd rv rf rn rim nu vi cl sq kk hh ii nn cc vv tt ea ea2 es ec ec2 hl w ha hb
theorem zod (vw nm bs : Int) (im : ByteArray) (ea : Option Addr) (es : List Env) (ec : Nat) (kd rv rf rn : Int) (rim : ByteArray) (nu vi cl sq kk hh ii nn cc vv tt : Int) (ra : Option Addr) (rs : List Env) (rc : Nat) (hrc : rs.length ≤ rc) (w : World) (ha : zr w ea (es.flatMap Zi)) (hra : zr w ra (rs.flatMap Zi)) :
  Calls Tryz.prog 10 #[.agg #[.int .i64 vw, .int .i64 nm, .int .i64 bs, .string im, .slice ea es.length ec], .agg #[.int .i64 kd, .int .i64 rv, .int .i64 rf, .int .i64 rn, .string rim, .int .i64 nu, .int .i64 vi, .int .i64 cl, .int .i64 sq, .int .i64 kk, .int .i64 hh, .int .i64 ii, .int .i64 nn, .int .i64 cc, .int .i64 vv, .int .i64 tt, .slice ra rs.length rc]] w fun e w' => e = .returned (.bool true) ∧ Below w.heap.size w w' := by
 have hp := Hp.start w
 have HA := z0j ha
 have HRA := z0j hra
 have HRC := z0j hrc
 clear ha hra hrc
 obtain ⟨⟨c, ⟨vw', nm', bs', im', ea', es', ec'⟩⟩, hk⟩ : ∃ p, zaW ⟨vw, nm, bs, im, ea, es, ec⟩ ⟨kd, rv, rf, rn, rim, ⟨nu, vi, cl, sq, ⟨kk, hh, ii, nn, cc, vv, tt⟩⟩, ra, rs, rc⟩ = p := ⟨_, rfl⟩
 have HFK := z0j hk
 have HFK2 : Hid (∀ (a : Option Addr) (k : Nat) (a2 : Option Addr) (k2 : Nat), zaW ⟨vw, nm, bs, im, a, es, k⟩ ⟨kd, rv, rf, rn, rim, ⟨nu, vi, cl, sq, ⟨kk, hh, ii, nn, cc, vv, tt⟩⟩, a2, rs, k2⟩ = (c, ⟨vw', nm', bs', im', a, es', k⟩)) := z0j (fun a k a2 k2 => by
  have h2 := zjo ⟨vw, nm, bs, im, ea, es, ec⟩ ⟨kd, rv, rf, rn, rim, ⟨nu, vi, cl, sq, ⟨kk, hh, ii, nn, cc, vv, tt⟩⟩, ra, rs, rc⟩ a k
  unfold zaW at hk ⊢
  have h3 : okC ⟨vw, nm, bs, im, a, es, k⟩ = okC ⟨vw, nm, bs, im, ea, es, ec⟩ := zdv ⟨rfl, rfl, rfl, rfl, rfl⟩
  rw [h3]
  split at hk
  ·rename_i h4
   rw [if_pos h4]
   rw [hk] at h2
   exact h2
  ·rename_i h4
   rw [if_neg h4]
   injection hk with h5 h6
   injection h6
   subst_vars
   rfl)
 go_enter Tryz.func10, Tryz.ntmps10
 go_wp2_with (first | (go_at_call 13; (with_reducible refine (zn8 vw nm bs im ea es ec kd rv rf rn rim nu vi cl sq kk hh ii nn cc vv tt ra rs rc _).mono ?_); rintro e w1 ⟨bb, rfl, hbb, hb⟩; replace hp := hp.call hb; clear hb; cases bb) | go_skip | ((first | ((refine zg _ rfl ?_); refine lZ hp rfl (by with_reducible first | exact zW | exact zbD) ?_; clear hp; intro b w1 hp) | ((refine zh _ _ rfl ?_); refine lB hp rfl (za rfl) rfl ?_; clear hp; intro b w1 hp) | ((refine zf _ _ rfl ?_); first | refine lO hp rfl (za rfl) zd5 zu ?_ | refine lA hp rfl (za rfl) (by with_reducible first | exact zF | exact Zr) zu ?_) | ((refine zd _ _ _ rfl ?_); (first | refine sO hp rfl (za rfl) zd5 zu ?_ | refine sA hp rfl (za rfl) (za rfl) (by with_reducible first | exact zF | exact Zr) zu ?_ | refine sG hp rfl (za rfl) (za rfl) (by with_reducible first | exact zF | exact Zr) zu ?_); clear hp; intro w1 hp; simp only [spl, z0a, z0b] at hp)); simp only [zc, zb, z0b, z0a]))
 ·obtain ⟨s1, s3, s2, s4⟩ := hbb (by first | rfl | trivial)
  have HEL : Hid (es.length ≤ 100000) := z0j (by omega)
  have HRL : Hid (rs.length ≤ 100000) := z0j (by omega)
  have HES : Hid (es.length ≤ 1500) := z0j (by omega)
  have HRS : Hid (rs.length ≤ 1500) := z0j (by omega)
  have HIM : Hid (im.size ≤ 1000000) := z0j (by omega)
  have HRI : Hid (rim.size ≤ 1000000) := z0j (by omega)
  by_cases hc : c = 0
  ·subst hc
   have hsm := (zfj (zg3 hk).2.2).1
   simp only at hsm
   have HLY : Hid (es'.length ≤ 100000) := z0j (by omega)
   have HLO : Hid (es'.length ≤ 5000) := z0j (by omega)
   clear hbb s1 s2 s3 s4 hk hsm
   go_wp2_with (first | (go_at_call 32; (with_reducible refine (zep vw nm bs im ea es ec HEL.out _ (HA.out.below hp.below)).mono ?_); rintro e w1 ⟨aO, cO, RO, rfl, hro, hpn⟩; replace hp := hp.join hpn; have HRO := z0j hro.keptS; have HCO : Hid (es.length ≤ cO) := z0j (hro.cap rfl); clear hpn hro; simp only [z0f, z0e, z0i] at hp) | (go_at_call 51; (with_reducible refine (zgB kd rv rf rn rim nu vi cl sq kk hh ii nn cc vv tt ra rs rc HRL.out _ (HRA.out.below hp.below)).mono ?_); rintro e w1 ⟨aR, cR, RR, rfl, hrr, hpn⟩; replace hp := hp.join hpn; have HRR := z0j hrr.keptS; clear hpn hrr; simp only [z0f, z0e, z0i] at hp) | ((go_at_call 16; (with_reducible refine (zfI vw nm bs im ea es ec kd rv rf rn rim nu vi cl sq kk hh ii nn cc vv tt ra rs rc _ HFK.out HES.out HIM.out HRS.out HRC.out HRI.out _ (HA.out.below hp.below) (HRA.out.below hp.below)).mono ?_)); rintro e w1 ⟨hq, _⟩; obtain ⟨ax, cx, RX, rfl, hcx, hrx, hpn⟩ := hq rfl; clear hq; replace hp := hp.join hpn; have HSX := z0j hrx; have HRX := z0j hrx.keptS; clear hpn hrx hcx; simp only [z0f, z0e, z0i] at hp) | ((go_at_call 52; (with_reducible refine (zjn vw nm bs im aO es cO kd rv rf rn rim nu vi cl sq kk hh ii nn cc vv tt aR rs cR _ _ (HFK2.out _ _ _ _) HES.out HIM.out HRS.out HRI.out _ (HRO.out.at hp (fun p hm => by simp [hm])) (HRR.out.at hp (fun p hm => by simp [hm]))).mono ?_)); rintro e w1 ⟨hq, _⟩; obtain ⟨ay, cy, RY, rfl, hry, hpn⟩ := hq rfl; clear hq; replace hp := hp.join hpn; have HRY := z0j hry; clear hpn hry; simp only [z0f, z0e, z0i] at hp) | (go_at_call 34; (with_reducible refine (zfU vw' nm' bs' im' ax ay es' cx cy HLY.out _ (HRX.out.at hp (fun p hm => by simp [hm])) (HRY.out.at hp (fun p hm => by simp [hm]))).mono ?_); rintro e w1 ⟨rfl, hb⟩; replace hp := hp.call hb; clear hb) | (go_at_call 53; (with_reducible refine (zj0 vw' nm' bs' im' ax es'.length cx _ HLO.out HSX.out (zoj hp)).mono ?_); clear hp; rintro e w1 ⟨rfl, D, hp⟩; replace hp := zol hp) | (go_at_call 30; (with_reducible refine (zjq _).mono ?_); rintro e w1 ⟨rfl, hb⟩; replace hp := hp.call hb; clear hb) | (go_at_call 34; (with_reducible refine (zfU vw nm bs im ea aO es ec cO HEL.out _ (HA.out.below hp.below) (HRO.out.at hp (fun p hm => by simp [hm]))).mono ?_); rintro e w1 ⟨rfl, hb⟩; replace hp := hp.call hb; clear hb) | (go_at_call 54; (with_reducible refine (zfo kd rv rf rn rim nu vi cl sq kk hh ii nn cc vv tt ra aR rs rc cR HRL.out _ (HRA.out.below hp.below) (HRR.out.at hp (fun p hm => by simp [hm]))).mono ?_); rintro e w1 ⟨rfl, hb⟩; replace hp := hp.call hb; clear hb) | go_skip | ((first | ((refine zg _ rfl ?_); refine lZ hp rfl (by with_reducible first | exact zW | exact zbD) ?_; clear hp; intro b w1 hp) | ((refine zh _ _ rfl ?_); refine lB hp rfl (za rfl) rfl ?_; clear hp; intro b w1 hp) | ((refine zf _ _ rfl ?_); first | refine lO hp rfl (za rfl) zd5 zu ?_ | refine lA hp rfl (za rfl) (by with_reducible first | exact zF | exact Zr) zu ?_) | ((refine zd _ _ _ rfl ?_); (first | refine sO hp rfl (za rfl) zd5 zu ?_ | refine sA hp rfl (za rfl) (za rfl) (by with_reducible first | exact zF | exact Zr) zu ?_ | refine sG hp rfl (za rfl) (za rfl) (by with_reducible first | exact zF | exact Zr) zu ?_); clear hp; intro w1 hp; simp only [spl, z0a, z0b] at hp)); simp only [zc, zb, z0b, z0a]))
   go_ret
   exact ⟨rfl, hp.below⟩
  ·have HC0 : Hid (c ≠ 0) := z0j hc
   have e1 : (c == c) = true := beq_self_eq_true _
   clear hbb s1 s2 s3 s4 hk hc
   go_wp2_with (first | (go_at_call 32; (with_reducible refine (zep vw nm bs im ea es ec HEL.out _ (HA.out.below hp.below)).mono ?_); rintro e w1 ⟨aO, cO, RO, rfl, hro, hpn⟩; replace hp := hp.join hpn; have HRO := z0j hro.keptS; have HCO : Hid (es.length ≤ cO) := z0j (hro.cap rfl); clear hpn hro; simp only [z0f, z0e, z0i] at hp) | (go_at_call 51; (with_reducible refine (zgB kd rv rf rn rim nu vi cl sq kk hh ii nn cc vv tt ra rs rc HRL.out _ (HRA.out.below hp.below)).mono ?_); rintro e w1 ⟨aR, cR, RR, rfl, hrr, hpn⟩; replace hp := hp.join hpn; have HRR := z0j hrr.keptS; clear hpn hrr; simp only [z0f, z0e, z0i] at hp) | ((go_at_call 16; (with_reducible refine (zfI vw nm bs im ea es ec kd rv rf rn rim nu vi cl sq kk hh ii nn cc vv tt ra rs rc _ HFK.out HES.out HIM.out HRS.out HRC.out HRI.out _ (HA.out.below hp.below) (HRA.out.below hp.below)).mono ?_)); rintro e w1 ⟨_, hq⟩; obtain ⟨rfl, hb⟩ := hq HC0.out; clear hq; replace hp := hp.call hb; clear hb) | ((go_at_call 52; (with_reducible refine (zjn vw nm bs im aO es cO kd rv rf rn rim nu vi cl sq kk hh ii nn cc vv tt aR rs cR _ _ (HFK2.out _ _ _ _) HES.out HIM.out HRS.out HRI.out _ (HRO.out.at hp (fun p hm => by simp [hm])) (HRR.out.at hp (fun p hm => by simp [hm]))).mono ?_)); rintro e w1 ⟨_, hq⟩; obtain ⟨rfl, hb⟩ := hq HC0.out; clear hq; replace hp := hp.call hb; clear hb) | (go_at_call 34; (with_reducible refine (zmU _).mono ?_); rintro e w1 ⟨rfl, hb⟩; replace hp := hp.call hb; clear hb) | (go_at_call 53; (with_reducible refine (zj0 0 0 0 ⟨#[]⟩ none 0 0 [] (by decide) (zD.nil _ _ _) (zok hp)).mono ?_); clear hp; rintro e w1 ⟨rfl, D, hp⟩; replace hp := zom hp) | (go_at_call 30; (with_reducible refine (zjq _).mono ?_); rintro e w1 ⟨rfl, hb⟩; replace hp := hp.call hb; clear hb) | (go_at_call 34; (with_reducible refine (zfU vw nm bs im ea aO es ec cO HEL.out _ (HA.out.below hp.below) (HRO.out.at hp (fun p hm => by simp [hm]))).mono ?_); rintro e w1 ⟨rfl, hb⟩; replace hp := hp.call hb; clear hb) | (go_at_call 54; (with_reducible refine (zfo kd rv rf rn rim nu vi cl sq kk hh ii nn cc vv tt ra aR rs rc cR HRL.out _ (HRA.out.below hp.below) (HRR.out.at hp (fun p hm => by simp [hm]))).mono ?_); rintro e w1 ⟨rfl, hb⟩; replace hp := hp.call hb; clear hb) | go_skip | ((first | ((refine zg _ rfl ?_); refine lZ hp rfl (by with_reducible first | exact zW | exact zbD) ?_; clear hp; intro b w1 hp) | ((refine zh _ _ rfl ?_); refine lB hp rfl (za rfl) rfl ?_; clear hp; intro b w1 hp) | ((refine zf _ _ rfl ?_); first | refine lO hp rfl (za rfl) zd5 zu ?_ | refine lA hp rfl (za rfl) (by with_reducible first | exact zF | exact Zr) zu ?_) | ((refine zd _ _ _ rfl ?_); (first | refine sO hp rfl (za rfl) zd5 zu ?_ | refine sA hp rfl (za rfl) (za rfl) (by with_reducible first | exact zF | exact Zr) zu ?_ | refine sG hp rfl (za rfl) (za rfl) (by with_reducible first | exact zF | exact Zr) zu ?_); clear hp; intro w1 hp; simp only [spl, z0a, z0b] at hp)); simp only [zc, zb, z0b, z0a]))
   go_ret
   exact ⟨rfl, hp.below⟩
 ·go_wp2_with (first | go_skip | ((first | ((refine zg _ rfl ?_); refine lZ hp rfl (by with_reducible first | exact zW | exact zbD) ?_; clear hp; intro b w1 hp) | ((refine zh _ _ rfl ?_); refine lB hp rfl (za rfl) rfl ?_; clear hp; intro b w1 hp) | ((refine zf _ _ rfl ?_); first | refine lO hp rfl (za rfl) zd5 zu ?_ | refine lA hp rfl (za rfl) (by with_reducible first | exact zF | exact Zr) zu ?_) | ((refine zd _ _ _ rfl ?_); (first | refine sO hp rfl (za rfl) zd5 zu ?_ | refine sA hp rfl (za rfl) (za rfl) (by with_reducible first | exact zF | exact Zr) zu ?_ | refine sG hp rfl (za rfl) (za rfl) (by with_reducible first | exact zF | exact Zr) zu ?_); clear hp; intro w1 hp; simp only [spl, z0a, z0b] at hp)); simp only [zc, zb, z0b, z0a]))
  go_ret
  exact ⟨rfl, hp.below⟩
end Go.Proofs.YtaafajaadfgaoaaGreat

import Derived.Test.YtaafajaadfgaoaaGreatFp17
import Derived.Test.YtaafajaadfgaoaaGreatFp5
import Derived.Defers
import Derived.Recover
import Derived.Lib.ConvBytes
import Derived.Test.YtaafajaadfgaoaaGreatFp7
import Derived.Test.YtaafajaadfgaoaaGreatFp2
import Derived.Test.YtaafajaadfgaoaaGreatFp10
import Derived.Test.YtaafajaadfgaoaaGreatFp1
import Derived.Test.YtaafajaadfgaoaaGreatFp0
set_option linter.unusedSimpArgs false
set_option linter.unusedVariables false
set_option maxRecDepth 100000
set_option maxHeartbeats 60000000
namespace Go.Proofs.YtaafajaadfgaoaaGreat
open Go.RowKit
theorem zcv {ty : TypeId} (h : zB Tryz.prog ty = true := by with_reducible first | exact zq | exact zA | exact zcz | exact ZB | exact Ze) : zB Tryz.prog ty = true := h
theorem Z6 : zac Tryz.prog 144 1 = true := by kernel_rfl
theorem zar : zcW Tryz.prog 37 = some ([.int .i64 0], 1) := by kernel_rfl
theorem zco : zcW Tryz.prog 210 = some ([.slice none 0 0], 1) := by kernel_rfl
theorem zdS (a : Option Addr) (n c : Nat) (w : World) : Calls Tryz.prog 172 #[.slice a n c] w fun e w' => ∃ br, e = .returned (.pointer (some ⟨br, 0, none⟩)) ∧ Hp w.heap.size w w' [⟨br, [.slice a n c], 210, 1⟩] := by
 have hp := Hp.start w
 go_enter Tryz.func172, Tryz.ntmps172
 go_wp2_with (first | go_skip | ((first | ((refine zg _ rfl ?_); refine lZ hp rfl (by with_reducible first | exact ZA | exact zco | exact zar) ?_; clear hp; intro b w1 hp) | ((refine zh _ _ rfl ?_); refine lB hp rfl (za rfl) rfl ?_; clear hp; intro b w1 hp) | ((refine zf _ _ rfl ?_); first | refine lO hp rfl (za rfl) zcv aa5 ?_ | refine lA hp rfl (za rfl) (by with_reducible first | exact zN | exact Z6) aa5 ?_) | ((refine zd _ _ _ rfl ?_); (first | refine sO hp rfl (za rfl) zcv aa5 ?_ | refine sA hp rfl (za rfl) (za rfl) (by with_reducible first | exact zN | exact Z6) aa5 ?_ | refine sG hp rfl (za rfl) (za rfl) (by with_reducible first | exact zN | exact Z6) aa5 ?_); clear hp; intro w1 hp; simp only [spl, z0a, z0b] at hp) | ((refine zi _ _ _ rfl ?_); refine lS hp rfl (by intro w; go_simp; rfl) ?_; clear hp; intro b w1 hp; simp only [z0g, z0h, Nat.reduceAdd] at hp)); simp only [zc, zb, z0b, z0a]))
 go_ret
 exact ⟨_, rfl, hp⟩
def zbC {α : Type} (one : List Nat → Option (α × List Nat)) (bs : List Nat) : Option α := match one bs with
 | some (x, r) => if r.length = 0 then some x else none
 | none => none
noncomputable def Z2 (bs : List Nat) : Option Hv := zbC zba bs
def zgU (w : World) (r : Option Hv) (e : Ending) (w' : World) : Prop :=
 match r with
 | some x => ∃ y R, e = .returned (.tuple #[.agg (hvL y).toArray, .int .i64 0]) ∧ y.Sm x ∧ HvO y R ∧ Hp w.heap.size w w' R
 | none => e = .returned (.tuple #[.agg (hvL zaY).toArray, .int .i64 60]) ∧ Below w.heap.size w w'
theorem zmy (p q r : Addr) (w : World) : CallsD Tryz.prog 180 #[.pointer (some p), .pointer (some q), .pointer (some r)] .returning w fun e u' w' => e = .returned (.tuple #[]) ∧ u' = .returning ∧ w' = w := by
 refine callsD_of_wpS Tryz.func180 rfl fun c₀ cs hu => ?_
 apply wpS_seq
 apply wpS_region
 simp [wpOpsS, go_sem, recoverD, hu, Tryz.ntmps180, Exit.thenS]
 refine wpS_of_wp ?_
 go_wp2
 cases c₀
 simp_all [bodyPostS, results, Tryz.results180]
theorem zlP (bn bx be : Nat) (y : Hv) {B : Nat} {w0 w : World} {L : List Blk} (hp : Hp B w0 w (⟨bn, [.int .i64 0, .slice none 0 0, .int .i64 0, .int .i64 0, .int .i64 0, .int .i64 0, .int .i64 0, .slice none 0 0], 47, 8⟩ :: ⟨be, [.int .i64 0], 37, 1⟩ :: ⟨bx, hvL y, 47, 8⟩ :: L)) :
  CallsD Tryz.prog 180 #[.pointer (some ⟨bn, 0, none⟩), .pointer (some ⟨bx, 0, none⟩), .pointer (some ⟨be, 0, none⟩)] (.panicking zfB) w fun e u' w' => e = .returned (.tuple #[]) ∧ u' = .panicking [{ v := .iface 206 (.agg #[]), recovered := true }] ∧ Hp B w0 w' (⟨bn, [.int .i64 0, .slice none 0 0, .int .i64 0, .int .i64 0, .int .i64 0, .int .i64 0, .int .i64 0, .slice none 0 0], 47, 8⟩ :: ⟨be, [.int .i64 60], 37, 1⟩ :: ⟨bx, [.int .i64 0, .slice none 0 0, .int .i64 0, .int .i64 0, .int .i64 0, .int .i64 0, .int .i64 0, .slice none 0 0], 47, 8⟩ :: L) := by
 obtain ⟨od, oa, os, oc, nx, t0, t1, t2, t3, fa, fs, fc⟩ := y
 simp only [hvL] at hp
 refine callsD_of_wpS Tryz.func180 rfl fun c₀ cs hu => ?_
 apply wpS_seq
 apply wpS_region
 simp [wpOpsS, go_sem, recoverD, hu, zfB, Tryz.ntmps180, Exit.thenS]
 refine wpS_of_wp ?_
 change Code.wp Tryz.prog _ _ ⟨#[.pointer (some ⟨bn, 0, none⟩), .pointer (some ⟨bx, 0, none⟩), .pointer (some ⟨be, 0, none⟩), .iface 206 (.agg #[]), .iface 206 (.agg #[]), undef, undef, undef], []⟩ w
 go_wp2_with (first | go_skip | ((first | ((refine zg _ rfl ?_); refine lZ hp rfl (by with_reducible first | exact ZA | exact zco | exact zar) ?_; clear hp; intro b w1 hp) | ((refine zh _ _ rfl ?_); refine lB hp rfl (za rfl) rfl ?_; clear hp; intro b w1 hp) | ((refine zf _ _ rfl ?_); first | refine lO hp rfl (za rfl) zcv aa5 ?_ | refine lA hp rfl (za rfl) (by with_reducible first | exact zN | exact Z6) aa5 ?_) | ((refine zd _ _ _ rfl ?_); (first | refine sO hp rfl (za rfl) zcv aa5 ?_ | refine sA hp rfl (za rfl) (za rfl) (by with_reducible first | exact zN | exact Z6) aa5 ?_ | refine sG hp rfl (za rfl) (za rfl) (by with_reducible first | exact zN | exact Z6) aa5 ?_); clear hp; intro w1 hp; simp only [spl, z0a, z0b] at hp) | ((refine zi _ _ _ rfl ?_); refine lS hp rfl (by intro w; go_simp; rfl) ?_; clear hp; intro b w1 hp; simp only [z0g, z0h, Nat.reduceAdd] at hp)); simp only [zc, zb, z0b, z0a]))
 simp [bodyPostS, results, Tryz.results180]
 exact hp
theorem zdW {B : Nat} {w0 w : World} {x y z r : Blk} (hp : Hp B w0 w ([x, y, z] ++ [r])) : Hp B w0 w [r, x, y, z] := hp.kp
theorem zb6 {B : Nat} {w0 w : World} {br bi n c : Nat} {a : Option Addr} {x y z : Blk} (hp : Hp B w0 w [⟨bi, [.pointer (some ⟨br, 0, none⟩)], 144, 1⟩, ⟨br, [.slice a n c], 210, 1⟩, x, y, z]) : Hp B w0 w ([] ++ (Rb br a n c :: Ib bi br :: [x, y, z])) := (show Hp B w0 w [Ib bi br, Rb br a n c, x, y, z] from hp).kp
theorem zlc (br n c : Nat) (a : Option Addr) {B : Nat} {w0 w : World} {L : List Blk} (hp : Hp B w0 w (⟨br, [.slice a n c], 210, 1⟩ :: L)) : Calls Tryz.prog 173 #[.pointer (some ⟨br, 0, none⟩)] w fun e w' => e = .returned (.int .i64 n) ∧ w = w' := zfL br n c a hp
theorem zdX {B : Nat} {w0 w : World} {r i x y z : Blk} {RO RF M : List Blk} (hp : Hp B w0 w (r :: i :: (RO ++ (RF ++ (M ++ [x, y, z]))))) : Hp B w0 w (r :: i :: x :: y :: z :: (RO ++ (RF ++ M))) := hp.kp
theorem zgO (bs : List Nat) (a : Option Addr) (c : Nat) (hnc : bs.length ≤ c) (w : World) (ha : zaw w a bs) :
  Calls Tryz.prog 111 #[.slice a bs.length c, .func (.func 112) #[] #[]] w (zgU w (Z2 bs)) := by
 have HA := z0j ha
 have HNC := z0j hnc
 have hp := Hp.start w
 clear ha hnc
 cases hr : zba bs with
 | none =>
  have HE : Hid (Z2 bs = none) := z0j (by unfold Z2 zbC; rw [hr])
  have HR := z0j hr
  clear hr
  go_enter_defers Tryz.func111, Tryz.ntmps111
  go_wp2_with (first | (go_at_call 172; (with_reducible refine (zdS _ _ _ _).mono ?_); rintro e w1 ⟨br, rfl, hp2⟩; replace hp := zdW (hp.join hp2); clear hp2) | (go_at_call 112; have hst : ZZ w _ _ bs [] _ _ := ⟨a, c, HNC.out, HA.out, zb6 hp⟩; (with_reducible refine (zjB _ _ bs hst).mono ?_); clear hst; clear hp; rintro e w1 hq; rw [HR.out] at hq; first | (obtain ⟨y, RO, RF, M, rfl, hy, hown, a2, c2, hl2, ha2, hp⟩ := hq; have HY := z0j hy; have HW := z0j hown; clear hy hown hl2 ha2; obtain ⟨od, oa, os, oc, nx, t0, t1, t2, t3, fa, fs, fc⟩ := y; simp only [z0e, Rb, Ib] at hp; simp only [hvL]; replace hp := zdX hp) | obtain ⟨rfl, hp⟩ := hq) | go_skip | ((first | ((refine zg _ rfl ?_); refine lZ hp rfl (by with_reducible first | exact ZA | exact zco | exact zar) ?_; clear hp; intro b w1 hp) | ((refine zh _ _ rfl ?_); refine lB hp rfl (za rfl) rfl ?_; clear hp; intro b w1 hp) | ((refine zf _ _ rfl ?_); first | refine lO hp rfl (za rfl) zcv aa5 ?_ | refine lA hp rfl (za rfl) (by with_reducible first | exact zN | exact Z6) aa5 ?_) | ((refine zd _ _ _ rfl ?_); (first | refine sO hp rfl (za rfl) zcv aa5 ?_ | refine sA hp rfl (za rfl) (za rfl) (by with_reducible first | exact zN | exact Z6) aa5 ?_ | refine sG hp rfl (za rfl) (za rfl) (by with_reducible first | exact zN | exact Z6) aa5 ?_); clear hp; intro w1 hp; simp only [spl, z0a, z0b] at hp) | ((refine zi _ _ _ rfl ?_); refine lS hp rfl (by intro w; go_simp; rfl) ?_; clear hp; intro b w1 hp; simp only [z0g, z0h, Nat.reduceAdd] at hp)); simp only [zc, zb, z0b, z0a]))
  obtain ⟨b2, rfl⟩ := hp.id0; obtain ⟨b3, rfl⟩ := hp.id1; obtain ⟨b4, rfl⟩ := hp.id2; refine leaves_cons (f := 180) (args := #[.pointer (some ⟨b2, 0, none⟩), .pointer (some ⟨b4, 0, none⟩), .pointer (some ⟨b3, 0, none⟩)]) (by simp) (by simp [go_sem]) ?_
  refine (zlP b2 b4 b3 zaY hp).mono ?_
  clear hp
  rintro e u' w'' ⟨rfl, rfl, hp⟩
  refine ⟨_, zl (rs := [.cell 4 47, .cell 5 37]) Tryz.results111 (.cell rfl (hp.loadAgg zN at2 0 _ (by rfl) (by rfl)) (.cell rfl (hp.loadOne Ze at1 0 _ (by rfl)) .nil)), ?_⟩
  rw [HE.out]
  exact ⟨rfl, hp.below⟩
 | some p =>
  obtain ⟨x, r⟩ := p
  have HR := z0j hr
  by_cases h0 : r.length = 0
  ·have HE : Hid (Z2 bs = some x) := z0j (by unfold Z2 zbC; rw [hr]; simp only; rw [if_pos h0])
   have e0 : ((r.length : Int) == 0) = true := by simp [h0]
   clear hr h0
   go_enter_defers Tryz.func111, Tryz.ntmps111
   go_wp2_with (first | (go_at_call 172; (with_reducible refine (zdS _ _ _ _).mono ?_); rintro e w1 ⟨br, rfl, hp2⟩; replace hp := zdW (hp.join hp2); clear hp2) | (go_at_call 112; have hst : ZZ w _ _ bs [] _ _ := ⟨a, c, HNC.out, HA.out, zb6 hp⟩; (with_reducible refine (zjB _ _ bs hst).mono ?_); clear hst; clear hp; rintro e w1 hq; rw [HR.out] at hq; first | (obtain ⟨y, RO, RF, M, rfl, hy, hown, a2, c2, hl2, ha2, hp⟩ := hq; have HY := z0j hy; have HW := z0j hown; clear hy hown hl2 ha2; obtain ⟨od, oa, os, oc, nx, t0, t1, t2, t3, fa, fs, fc⟩ := y; simp only [z0e, Rb, Ib] at hp; simp only [hvL]; replace hp := zdX hp) | obtain ⟨rfl, hp⟩ := hq) | (go_at_call 173; (with_reducible refine (zlc _ _ _ _ hp).mono ?_); rintro e w' ⟨rfl, rfl⟩) | (go_at_call 105; first | ((with_reducible refine (zbF _).mono ?_); rintro e w' ⟨rfl, rfl⟩) | ((with_reducible refine (ZR _).mono ?_); rintro e w' ⟨rfl, rfl⟩)) | go_skip | ((first | ((refine zg _ rfl ?_); refine lZ hp rfl (by with_reducible first | exact ZA | exact zco | exact zar) ?_; clear hp; intro b w1 hp) | ((refine zh _ _ rfl ?_); refine lB hp rfl (za rfl) rfl ?_; clear hp; intro b w1 hp) | ((refine zf _ _ rfl ?_); first | refine lO hp rfl (za rfl) zcv aa5 ?_ | refine lA hp rfl (za rfl) (by with_reducible first | exact zN | exact Z6) aa5 ?_) | ((refine zd _ _ _ rfl ?_); (first | refine sO hp rfl (za rfl) zcv aa5 ?_ | refine sA hp rfl (za rfl) (za rfl) (by with_reducible first | exact zN | exact Z6) aa5 ?_ | refine sG hp rfl (za rfl) (za rfl) (by with_reducible first | exact zN | exact Z6) aa5 ?_); clear hp; intro w1 hp; simp only [spl, z0a, z0b] at hp) | ((refine zi _ _ _ rfl ?_); refine lS hp rfl (by intro w; go_simp; rfl) ?_; clear hp; intro b w1 hp; simp only [z0g, z0h, Nat.reduceAdd] at hp)); simp only [zc, zb, z0b, z0a]))
   replace hp := hp.tail.tail
   obtain ⟨b2, rfl⟩ := hp.id0; obtain ⟨b3, rfl⟩ := hp.id1; obtain ⟨b4, rfl⟩ := hp.id2; refine leaves_cons (f := 180) (args := #[.pointer (some ⟨b2, 0, none⟩), .pointer (some ⟨b4, 0, none⟩), .pointer (some ⟨b3, 0, none⟩)]) (by simp) (by simp [go_sem]) ?_
   refine (zmy _ _ _ _).mono ?_
   rintro e u' w'' ⟨rfl, rfl, rfl⟩
   refine ⟨_, zl (rs := [.cell 4 47, .cell 5 37]) Tryz.results111 (.cell rfl (hp.loadAgg zN at2 0 _ (by rfl) (by rfl)) (.cell rfl (hp.loadOne Ze at1 0 _ (by rfl)) .nil)), ?_⟩
   rw [HE.out]
   exact ⟨⟨od, oa, os, oc, nx, t0, t1, t2, t3, fa, fs, fc⟩, _, rfl, HY.out, ⟨RO, RF, M, rfl, HW.out⟩, hp.tail.tail.tail⟩
  ·have HE : Hid (Z2 bs = none) := z0j (by unfold Z2 zbC; rw [hr]; simp only; rw [if_neg h0])
   have e0 : ((r.length : Int) == 0) = false := beq_eq_false_iff_ne.2 (by omega)
   clear hr h0
   go_enter_defers Tryz.func111, Tryz.ntmps111
   go_wp2_with (first | (go_at_call 172; (with_reducible refine (zdS _ _ _ _).mono ?_); rintro e w1 ⟨br, rfl, hp2⟩; replace hp := zdW (hp.join hp2); clear hp2) | (go_at_call 112; have hst : ZZ w _ _ bs [] _ _ := ⟨a, c, HNC.out, HA.out, zb6 hp⟩; (with_reducible refine (zjB _ _ bs hst).mono ?_); clear hst; clear hp; rintro e w1 hq; rw [HR.out] at hq; first | (obtain ⟨y, RO, RF, M, rfl, hy, hown, a2, c2, hl2, ha2, hp⟩ := hq; have HY := z0j hy; have HW := z0j hown; clear hy hown hl2 ha2; obtain ⟨od, oa, os, oc, nx, t0, t1, t2, t3, fa, fs, fc⟩ := y; simp only [z0e, Rb, Ib] at hp; simp only [hvL]; replace hp := zdX hp) | obtain ⟨rfl, hp⟩ := hq) | (go_at_call 173; (with_reducible refine (zlc _ _ _ _ hp).mono ?_); rintro e w' ⟨rfl, rfl⟩) | (go_at_call 105; first | ((with_reducible refine (zbF _).mono ?_); rintro e w' ⟨rfl, rfl⟩) | ((with_reducible refine (ZR _).mono ?_); rintro e w' ⟨rfl, rfl⟩)) | go_skip | ((first | ((refine zg _ rfl ?_); refine lZ hp rfl (by with_reducible first | exact ZA | exact zco | exact zar) ?_; clear hp; intro b w1 hp) | ((refine zh _ _ rfl ?_); refine lB hp rfl (za rfl) rfl ?_; clear hp; intro b w1 hp) | ((refine zf _ _ rfl ?_); first | refine lO hp rfl (za rfl) zcv aa5 ?_ | refine lA hp rfl (za rfl) (by with_reducible first | exact zN | exact Z6) aa5 ?_) | ((refine zd _ _ _ rfl ?_); (first | refine sO hp rfl (za rfl) zcv aa5 ?_ | refine sA hp rfl (za rfl) (za rfl) (by with_reducible first | exact zN | exact Z6) aa5 ?_ | refine sG hp rfl (za rfl) (za rfl) (by with_reducible first | exact zN | exact Z6) aa5 ?_); clear hp; intro w1 hp; simp only [spl, z0a, z0b] at hp) | ((refine zi _ _ _ rfl ?_); refine lS hp rfl (by intro w; go_simp; rfl) ?_; clear hp; intro b w1 hp; simp only [z0g, z0h, Nat.reduceAdd] at hp)); simp only [zc, zb, z0b, z0a]))
   replace hp := hp.tail.tail
   obtain ⟨b2, rfl⟩ := hp.id0; obtain ⟨b3, rfl⟩ := hp.id1; obtain ⟨b4, rfl⟩ := hp.id2; refine leaves_cons (f := 180) (args := #[.pointer (some ⟨b2, 0, none⟩), .pointer (some ⟨b4, 0, none⟩), .pointer (some ⟨b3, 0, none⟩)]) (by simp) (by simp [go_sem]) ?_
   refine (zlP b2 b4 b3 ⟨od, oa, os, oc, nx, t0, t1, t2, t3, fa, fs, fc⟩ hp).mono ?_
   clear hp
   rintro e u' w'' ⟨rfl, rfl, hp⟩
   refine ⟨_, zl (rs := [.cell 4 47, .cell 5 37]) Tryz.results111 (.cell rfl (hp.loadAgg zN at2 0 _ (by rfl) (by rfl)) (.cell rfl (hp.loadOne Ze at1 0 _ (by rfl)) .nil)), ?_⟩
   rw [HE.out]
   exact ⟨rfl, hp.below⟩
theorem zgh (bs : List Nat) (a : Option Addr) (c : Nat) (hnc : bs.length ≤ c) (w : World) (ha : zaw w a bs) :
  Calls Tryz.prog 42 #[.slice a bs.length c] w (zgU w (Z2 bs)) := by
 have HA := z0j ha
 have HNC := z0j hnc
 have hp := Hp.start w
 clear ha hnc
 cases hr : Z2 bs with
 | none =>
  have HR := z0j hr
  clear hr
  go_enter Tryz.func42, Tryz.ntmps42
  go_wp2_with (first | (go_at_call 111; (with_reducible refine (zgO bs a c HNC.out _ (HA.out.below hp.below)).mono ?_); rintro e w1 hq; rw [HR.out] at hq; first | (obtain ⟨y, R, rfl, hy, hown, hp2⟩ := hq; replace hp := hp.join hp2; have HY := z0j hy; have HW := z0j hown; clear hy hown hp2; obtain ⟨od, oa, os, oc, nx, t0, t1, t2, t3, fa, fs, fc⟩ := y; simp only [hvL, z0f, z0e] at hp ⊢) | (obtain ⟨rfl, hb⟩ := hq; replace hp := hp.call hb; clear hb; simp only [hvL, zaY])) | go_skip | ((first | ((refine zg _ rfl ?_); refine lZ hp rfl (by with_reducible first | exact ZA | exact zco | exact zar) ?_; clear hp; intro b w1 hp) | ((refine zh _ _ rfl ?_); refine lB hp rfl (za rfl) rfl ?_; clear hp; intro b w1 hp) | ((refine zf _ _ rfl ?_); first | refine lO hp rfl (za rfl) zcv aa5 ?_ | refine lA hp rfl (za rfl) (by with_reducible first | exact zN | exact Z6) aa5 ?_) | ((refine zd _ _ _ rfl ?_); (first | refine sO hp rfl (za rfl) zcv aa5 ?_ | refine sA hp rfl (za rfl) (za rfl) (by with_reducible first | exact zN | exact Z6) aa5 ?_ | refine sG hp rfl (za rfl) (za rfl) (by with_reducible first | exact zN | exact Z6) aa5 ?_); clear hp; intro w1 hp; simp only [spl, z0a, z0b] at hp) | ((refine zi _ _ _ rfl ?_); refine lS hp rfl (by intro w; go_simp; rfl) ?_; clear hp; intro b w1 hp; simp only [z0g, z0h, Nat.reduceAdd] at hp)); simp only [zc, zb, z0b, z0a]))
  exact bodyPost_ret (zl (rs := [.cell 2 47, .tmp 3]) Tryz.results42 (.cell rfl (hp.loadAgg zN at0 0 _ (by rfl) (by rfl)) (.tmp rfl .nil))) rfl ⟨rfl, hp.below⟩
 | some x =>
  have HR := z0j hr
  clear hr
  go_enter Tryz.func42, Tryz.ntmps42
  go_wp2_with (first | (go_at_call 111; (with_reducible refine (zgO bs a c HNC.out _ (HA.out.below hp.below)).mono ?_); rintro e w1 hq; rw [HR.out] at hq; first | (obtain ⟨y, R, rfl, hy, hown, hp2⟩ := hq; replace hp := hp.join hp2; have HY := z0j hy; have HW := z0j hown; clear hy hown hp2; obtain ⟨od, oa, os, oc, nx, t0, t1, t2, t3, fa, fs, fc⟩ := y; simp only [hvL, z0f, z0e] at hp ⊢) | (obtain ⟨rfl, hb⟩ := hq; replace hp := hp.call hb; clear hb; simp only [hvL, zaY])) | go_skip | ((first | ((refine zg _ rfl ?_); refine lZ hp rfl (by with_reducible first | exact ZA | exact zco | exact zar) ?_; clear hp; intro b w1 hp) | ((refine zh _ _ rfl ?_); refine lB hp rfl (za rfl) rfl ?_; clear hp; intro b w1 hp) | ((refine zf _ _ rfl ?_); first | refine lO hp rfl (za rfl) zcv aa5 ?_ | refine lA hp rfl (za rfl) (by with_reducible first | exact zN | exact Z6) aa5 ?_) | ((refine zd _ _ _ rfl ?_); (first | refine sO hp rfl (za rfl) zcv aa5 ?_ | refine sA hp rfl (za rfl) (za rfl) (by with_reducible first | exact zN | exact Z6) aa5 ?_ | refine sG hp rfl (za rfl) (za rfl) (by with_reducible first | exact zN | exact Z6) aa5 ?_); clear hp; intro w1 hp; simp only [spl, z0a, z0b] at hp) | ((refine zi _ _ _ rfl ?_); refine lS hp rfl (by intro w; go_simp; rfl) ?_; clear hp; intro b w1 hp; simp only [z0g, z0h, Nat.reduceAdd] at hp)); simp only [zc, zb, z0b, z0a]))
  exact bodyPost_ret (zl (rs := [.cell 2 47, .tmp 3]) Tryz.results42 (.cell rfl (hp.loadAgg zN at0 0 _ (by rfl) (by rfl)) (.tmp rfl .nil))) rfl ⟨⟨od, oa, os, oc, nx, t0, t1, t2, t3, fa, fs, fc⟩, R, rfl, HY.out, HW.out, hp.tail⟩
theorem zob (y : Hv) (w : World) : Calls Tryz.prog 99 #[.agg (hvL y).toArray, .int .i64 0] w fun e w' => e = .returned (.agg (hvL y).toArray) ∧ Below w.heap.size w w' := by
 have hp := Hp.start w
 obtain ⟨od, oa, os, oc, nx, t0, t1, t2, t3, fa, fs, fc⟩ := y
 simp only [hvL]
 go_enter Tryz.func99, Tryz.ntmps99
 go_wp2_with (first | go_skip | ((first | ((refine zg _ rfl ?_); refine lZ hp rfl (by with_reducible first | exact ZA | exact zco | exact zar) ?_; clear hp; intro b w1 hp) | ((refine zh _ _ rfl ?_); refine lB hp rfl (za rfl) rfl ?_; clear hp; intro b w1 hp) | ((refine zf _ _ rfl ?_); first | refine lO hp rfl (za rfl) zcv aa5 ?_ | refine lA hp rfl (za rfl) (by with_reducible first | exact zN | exact Z6) aa5 ?_) | ((refine zd _ _ _ rfl ?_); (first | refine sO hp rfl (za rfl) zcv aa5 ?_ | refine sA hp rfl (za rfl) (za rfl) (by with_reducible first | exact zN | exact Z6) aa5 ?_ | refine sG hp rfl (za rfl) (za rfl) (by with_reducible first | exact zN | exact Z6) aa5 ?_); clear hp; intro w1 hp; simp only [spl, z0a, z0b] at hp) | ((refine zi _ _ _ rfl ?_); refine lS hp rfl (by intro w; go_simp; rfl) ?_; clear hp; intro b w1 hp; simp only [z0g, z0h, Nat.reduceAdd] at hp)); simp only [zc, zb, z0b, z0a]))
 exact bodyPost_ret (ZI (rs := [.cell 4 47]) Tryz.results99 (.cell rfl (hp.loadAgg zN at0 0 _ (by rfl) (by rfl)) .nil)) rfl ⟨rfl, hp.below⟩
theorem zk1 (y : Hv) (w : World) : Calls Tryz.prog 99 #[.agg (hvL y).toArray, .int .i64 60] w fun e w' => e = .panicked zfB ∧ Below w.heap.size w w' := by
 have hp := Hp.start w
 obtain ⟨od, oa, os, oc, nx, t0, t1, t2, t3, fa, fs, fc⟩ := y
 simp only [hvL]
 go_enter Tryz.func99, Tryz.ntmps99
 go_wp2_with (first | go_skip | ((first | ((refine zg _ rfl ?_); refine lZ hp rfl (by with_reducible first | exact ZA | exact zco | exact zar) ?_; clear hp; intro b w1 hp) | ((refine zh _ _ rfl ?_); refine lB hp rfl (za rfl) rfl ?_; clear hp; intro b w1 hp) | ((refine zf _ _ rfl ?_); first | refine lO hp rfl (za rfl) zcv aa5 ?_ | refine lA hp rfl (za rfl) (by with_reducible first | exact zN | exact Z6) aa5 ?_) | ((refine zd _ _ _ rfl ?_); (first | refine sO hp rfl (za rfl) zcv aa5 ?_ | refine sA hp rfl (za rfl) (za rfl) (by with_reducible first | exact zN | exact Z6) aa5 ?_ | refine sG hp rfl (za rfl) (za rfl) (by with_reducible first | exact zN | exact Z6) aa5 ?_); clear hp; intro w1 hp; simp only [spl, z0a, z0b] at hp) | ((refine zi _ _ _ rfl ?_); refine lS hp rfl (by intro w; go_simp; rfl) ?_; clear hp; intro b w1 hp; simp only [z0g, z0h, Nat.reduceAdd] at hp)); simp only [zc, zb, z0b, z0a]))
 exact ⟨rfl, rfl, hp.below⟩
theorem zgX (w : World) (e : TypeId) (s : ByteArray) : Below w.heap.size w (Lib.bytesWorld w e s) :=
 ⟨rfl, rfl, rfl, by rw [Lib.bytesWorld_size]; omega, fun j hj => Lib.bytesWorld_at_old w e s j hj⟩
theorem zly (w : World) (e : TypeId) (s : ByteArray) : zaw (Lib.bytesWorld w e s) (some ⟨w.heap.size, 0, none⟩) (zbG s) := by
 refine ⟨fun j v hj => ⟨_, _, rfl, ?_⟩, ziM s⟩
 rw [zid, List.getElem?_map] at hj
 have hjl : j < (zbG s).length := by
  rcases Nat.lt_or_ge j (zbG s).length with h | h
  ·exact h
  ·rw [List.getElem?_eq_none h] at hj; cases hj
 rw [List.getElem?_eq_getElem hjl] at hj
 injection hj with hj
 subst hj
 rw [Nat.zero_add, Lib.bytesWorld_cell w e s j (by rw [← ZP]; exact hjl)]
 rw [ZP] at hjl
 have h2 : j < s.data.size := hjl
 simp [zbG, List.getD]
 rw [Array.getElem?_eq_getElem h2]; rfl
section
variable {P : Program} {ops : Array Oper} {rest : List Oper} {o : Oper} {a : Act} {w : World} {Q : Exit → Act → World → Prop} {w0 : World} {L : List Blk}
theorem ZE {B : Nat} (hp : Hp B w0 w L) (src dst e : TypeId) (x : Operand) (ho : o.op = .convert src dst x) (hw : Region.wanted o (yielded ops a.tmps) = true) (hs : P.underlying src = some .string) (hd : P.underlying dst = some (.slice e)) (he : P.underlying e = some (.int .u8))
  (s : ByteArray) (hx : a.eval x = .string s) (h : ∀ ad c w', s.size ≤ c → zaw w' ad (zbG s) → Hp B w0 w' L → wpList P ops Q rest (a.put o.dst (.slice ad s.size c)) w') : wpList P ops Q (o :: rest) a w := by
 refine BigFrame.wpList_want hw fun K hK => ?_
 unfold Oper.wp execOp
 have hr := Lib.run_convert_string_bytes (P := P) w src dst e s hs hd he
 simp only [ho, hx, Sem.run_bind, hr, Result.andThen_ok, Sem.run_pure]
 exact hK _ _ (h _ _ _ (grownCap_ge w s.size 0 e) (zly w e s) (hp.call (zgX w e s)))
end
open Go.RowKit
theorem Zq : zac Tryz.prog 31 11 = true := by kernel_rfl
theorem Zh : zcW Tryz.prog 31 = some ([.int .i64 0, .int .i64 0, .int .i64 0, .int .i64 0, .int .i64 0, .int .i64 0, .int .i64 0, .int .i64 0, .int .i64 0, .int .i64 0, .int .i64 0], 11) := by kernel_rfl
def inM (n lo hi : Int) : Bool := decide (lo ≤ n) && decide (n ≤ hi)
structure Opv where
 k : Int
 h : Int
 i : Int
 n : Int
 m : Int
 v : Int
 t : Int
 deriving DecidableEq
structure Env where
 nu : Int
 vi : Int
 cl : Int
 sq : Int
 op : Opv
def opL (o : Opv) : List Value := [.int .i64 o.k, .int .i64 o.h, .int .i64 o.i, .int .i64 o.n, .int .i64 o.m, .int .i64 o.v, .int .i64 o.t]
def Zi (e : Env) : List Value := [.int .i64 e.nu, .int .i64 e.vi, .int .i64 e.cl, .int .i64 e.sq] ++ opL e.op
def op0 : Opv := ⟨0, 0, 0, 0, 0, 0, 0⟩
def zdR (e : Env) : Bool := inM e.nu 1 900000000 && inM e.vi 0 900000000 && (if e.cl = 0 then decide (e.sq = 0) && decide (e.op = op0) else inM e.cl 1 4 && inM e.sq 1 1000000)
theorem zdF (n lo hi : Int) (w : World) : Calls Tryz.prog 186 #[.int .i64 n, .int .i64 lo, .int .i64 hi] w fun e w' => e = .returned (.bool (inM n lo hi)) ∧ w = w' := by
 go_enter Tryz.func186, Tryz.ntmps186
 go_wp2
 all_goals go_ret
 all_goals refine ⟨zL ?_, rfl⟩
 all_goals (simp [inM, *]; try omega)
theorem zdG (n lo hi : Int) (w : World) : Calls Tryz.prog 192 #[.int .i64 n, .int .i64 lo, .int .i64 hi] w fun e w' => e = .returned (.bool (inM n lo hi)) ∧ w = w' := by
 go_enter Tryz.func192, Tryz.ntmps192
 go_wp2
 all_goals go_ret
 all_goals refine ⟨zL ?_, rfl⟩
 all_goals (simp [inM, *]; try omega)
theorem zhK (e : Env) : (inM e.nu 1 900000000 = false ∧ (e.cl == 0) = true ∧ zdR e = false) ∨ (inM e.nu 1 900000000 = false ∧ (e.cl == 0) = false ∧ zdR e = false) ∨
  (inM e.nu 1 900000000 = true ∧ inM e.vi 0 900000000 = false ∧ (e.cl == 0) = true ∧ zdR e = false) ∨ (inM e.nu 1 900000000 = true ∧ inM e.vi 0 900000000 = false ∧ (e.cl == 0) = false ∧ zdR e = false) ∨
  (inM e.nu 1 900000000 = true ∧ inM e.vi 0 900000000 = true ∧ (e.cl == 0) = true ∧ (e.sq == 0) = false ∧ zdR e = false) ∨
  (inM e.nu 1 900000000 = true ∧ inM e.vi 0 900000000 = true ∧ (e.cl == 0) = true ∧ (e.sq == 0) = true ∧ zdR e = decide (e.op = op0)) ∨
  (inM e.nu 1 900000000 = true ∧ inM e.vi 0 900000000 = true ∧ (e.cl == 0) = false ∧ inM e.cl 1 4 = false ∧ zdR e = false) ∨
  (inM e.nu 1 900000000 = true ∧ inM e.vi 0 900000000 = true ∧ (e.cl == 0) = false ∧ inM e.cl 1 4 = true ∧ zdR e = inM e.sq 1 1000000) := by
 unfold zdR
 by_cases hc : e.cl = 0 <;> by_cases hs : e.sq = 0 <;> simp only [hc, hs, if_true, if_false, beq_self_eq_true, decide_true, decide_false, Bool.true_and, Bool.false_and, Bool.and_false] <;> cases inM e.nu 1 900000000 <;> cases inM e.vi 0 900000000 <;> simp [hc, hs] <;> (try cases inM e.cl 1 4) <;> simp
theorem znu (e : Env) (w : World) : Calls Tryz.prog 119 #[.agg (Zi e).toArray] w fun x w' => x = .returned (.bool (zdR e)) ∧ Below w.heap.size w w' := by
 have hp := Hp.start w
 have H := zhK e
 generalize hm : zdR e = r at H
 clear hm
 obtain ⟨nu, vi, cl, sq, ⟨k, h, i, n, m, v, t⟩⟩ := e
 simp only at H
 simp only [Zi, opL, z0f, z0e]
 have k1 := zdF nu 1 900000000
 have k2 := zdF vi 0 900000000
 have k3 := zdF cl 1 4
 have k4 := zdF sq 1 1000000
 rcases H with ⟨a1, a2, a3⟩ | ⟨a1, a2, a3⟩ | ⟨a1, a2, a3, a4⟩ | ⟨a1, a2, a3, a4⟩ | ⟨a1, a2, a3, a4, a5⟩ | ⟨a1, a2, a3, a4, a5⟩ | ⟨a1, a2, a3, a4, a5⟩ | ⟨a1, a2, a3, a4, a5⟩
 all_goals
  try rw [a1] at k1
  try rw [a2] at k2
  try rw [a4] at k3
  have K1 := z0j k1
  have K2 := z0j k2
  have K3 := z0j k3
  have K4 := z0j k4
  clear k1 k2 k3 k4
  subst r
  go_enter Tryz.func119, Tryz.ntmps119
  go_wp2_with (first | (go_at_call 186; (first | (with_reducible refine (K1.out _).mono ?_) | (with_reducible refine (K2.out _).mono ?_) | (with_reducible refine (K3.out _).mono ?_) | (with_reducible refine (K4.out _).mono ?_)); rintro e w' ⟨rfl, rfl⟩) | go_skip | ((first | ((refine zg _ rfl ?_); refine lZ hp rfl Zh ?_; clear hp; intro b w1 hp) | ((refine zh _ _ rfl ?_); refine lB hp rfl (za rfl) rfl ?_; clear hp; intro b w1 hp) | ((refine zf _ _ rfl ?_); first | refine lO hp rfl (za rfl) (by with_reducible first | exact zq | exact zA) zu ?_ | refine lA hp rfl (za rfl) (by with_reducible first | exact Zq | exact zh9) zu ?_) | ((refine zd _ _ _ rfl ?_); (first | refine sO hp rfl (za rfl) (by with_reducible first | exact zq | exact zA) zu ?_ | refine sA hp rfl (za rfl) (za rfl) (by with_reducible first | exact Zq | exact zh9) zu ?_ | refine sG hp rfl (za rfl) (za rfl) (by with_reducible first | exact Zq | exact zh9) zu ?_); clear hp; intro w1 hp; simp only [spl, z0a, z0b] at hp)); simp only [zc, zb, z0b, z0a]))
  all_goals go_ret
 all_goals first
  | exact ⟨rfl, hp.below⟩
  | exact ⟨Eq.trans (b := Ending.returned (.bool true)) rfl (zL (by simp [op0, *])), hp.below⟩
  | exact ⟨Eq.trans (b := Value.bool true) rfl (congrArg Value.bool (by simp [op0, *])), hp.below⟩
  | exact ⟨Eq.trans (b := Ending.returned (.bool false)) rfl (zL (by simp [op0, *])), hp.below⟩
  | exact ⟨Eq.trans (b := Value.bool false) rfl (congrArg Value.bool (by simp [op0, *])), hp.below⟩
theorem znv (e : Env) (w : World) : Calls Tryz.prog 126 #[.agg (Zi e).toArray] w fun x w' => x = .returned (.bool (zdR e)) ∧ Below w.heap.size w w' := by
 have hp := Hp.start w
 have H := zhK e
 generalize hm : zdR e = r at H
 clear hm
 obtain ⟨nu, vi, cl, sq, ⟨k, h, i, n, m, v, t⟩⟩ := e
 simp only at H
 simp only [Zi, opL, z0f, z0e]
 have k1 := zdG nu 1 900000000
 have k2 := zdG vi 0 900000000
 have k3 := zdG cl 1 4
 have k4 := zdG sq 1 1000000
 rcases H with ⟨a1, a2, a3⟩ | ⟨a1, a2, a3⟩ | ⟨a1, a2, a3, a4⟩ | ⟨a1, a2, a3, a4⟩ | ⟨a1, a2, a3, a4, a5⟩ | ⟨a1, a2, a3, a4, a5⟩ | ⟨a1, a2, a3, a4, a5⟩ | ⟨a1, a2, a3, a4, a5⟩
 all_goals
  try rw [a1] at k1
  try rw [a2] at k2
  try rw [a4] at k3
  have K1 := z0j k1
  have K2 := z0j k2
  have K3 := z0j k3
  have K4 := z0j k4
  clear k1 k2 k3 k4
  subst r
  go_enter Tryz.func126, Tryz.ntmps126
  go_wp2_with (first | (go_at_call 192; (first | (with_reducible refine (K1.out _).mono ?_) | (with_reducible refine (K2.out _).mono ?_) | (with_reducible refine (K3.out _).mono ?_) | (with_reducible refine (K4.out _).mono ?_)); rintro e w' ⟨rfl, rfl⟩) | go_skip | ((first | ((refine zg _ rfl ?_); refine lZ hp rfl Zh ?_; clear hp; intro b w1 hp) | ((refine zh _ _ rfl ?_); refine lB hp rfl (za rfl) rfl ?_; clear hp; intro b w1 hp) | ((refine zf _ _ rfl ?_); first | refine lO hp rfl (za rfl) (by with_reducible first | exact zq | exact zA) zu ?_ | refine lA hp rfl (za rfl) (by with_reducible first | exact Zq | exact zh9) zu ?_) | ((refine zd _ _ _ rfl ?_); (first | refine sO hp rfl (za rfl) (by with_reducible first | exact zq | exact zA) zu ?_ | refine sA hp rfl (za rfl) (za rfl) (by with_reducible first | exact Zq | exact zh9) zu ?_ | refine sG hp rfl (za rfl) (za rfl) (by with_reducible first | exact Zq | exact zh9) zu ?_); clear hp; intro w1 hp; simp only [spl, z0a, z0b] at hp)); simp only [zc, zb, z0b, z0a]))
  all_goals go_ret
 all_goals first
  | exact ⟨rfl, hp.below⟩
  | exact ⟨Eq.trans (b := Ending.returned (.bool true)) rfl (zL (by simp [op0, *])), hp.below⟩
  | exact ⟨Eq.trans (b := Value.bool true) rfl (congrArg Value.bool (by simp [op0, *])), hp.below⟩
  | exact ⟨Eq.trans (b := Ending.returned (.bool false)) rfl (zL (by simp [op0, *])), hp.below⟩
  | exact ⟨Eq.trans (b := Value.bool false) rfl (congrArg Value.bool (by simp [op0, *])), hp.below⟩
open Go.RowKit
def SvO (y : Sv) (R : List Blk) : Prop := ∃ RR RH, R = RR ++ RH ∧ zJ 120 4 (.slice y.ra y.rs.length y.rc) y.rs.length (y.rs.flatMap rwV) RR ∧ HvO y.hv RH
def zh3 : Sv := ⟨zaY, none, [], 0⟩
theorem zhd (nu vi cl sq kk hh ii nn cc vv tt : Int) (b : Bool) (hb : zdR ⟨nu, vi, cl, sq, ⟨kk, hh, ii, nn, cc, vv, tt⟩⟩ = b) (w : World) : Calls Tryz.prog 119 #[.agg #[.int .i64 nu, .int .i64 vi, .int .i64 cl, .int .i64 sq, .int .i64 kk, .int .i64 hh, .int .i64 ii, .int .i64 nn, .int .i64 cc, .int .i64 vv, .int .i64 tt]] w fun x w' => x = .returned (.bool b) ∧ Below w.heap.size w w' := hb ▸ znu ⟨nu, vi, cl, sq, ⟨kk, hh, ii, nn, cc, vv, tt⟩⟩ w
end Go.Proofs.YtaafajaadfgaoaaGreat

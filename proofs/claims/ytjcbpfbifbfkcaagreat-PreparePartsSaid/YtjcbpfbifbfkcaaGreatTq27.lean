import Derived.Test.YtjcbpfbifbfkcaaGreatTq26
import Derived.Test.YtjcbpfbifbfkcaaGreatTq4
import Derived.Defers
import Derived.Recover
import Derived.Lib.ConvBytes
import Derived.Test.YtjcbpfbifbfkcaaGreatTq1
import Derived.Test.YtjcbpfbifbfkcaaGreatTq2
set_option linter.unusedSimpArgs false
set_option linter.unusedVariables false
set_option maxRecDepth 100000
set_option maxHeartbeats 60000000
namespace Go.Proofs.YtjcbpfbifbfkcaaGreat
open Go.RowKit
theorem zrI {ty : TypeId} (h : zF Tryz.prog ty = true := by with_reducible first | exact zm | exact Zt | exact Zv | exact ZN | exact Za) : zF Tryz.prog ty = true := h
theorem zjW : ZM Tryz.prog 183 1 = true := by kernel_rfl
theorem zaj : zaL Tryz.prog 42 = some ([.int .i64 0], 1) := by kernel_rfl
theorem zct : zaL Tryz.prog 236 = some ([.slice none 0 0], 1) := by kernel_rfl
theorem zep (a : Option Addr) (n c : Nat) (w : World) : Calls Tryz.prog 181 #[.slice a n c] w fun e w' => ∃ br, e = .returned (.pointer (some ⟨br, 0, none⟩)) ∧ Hp w.heap.size w w' [⟨br, [.slice a n c], 236, 1⟩] := by
 have hp := Hp.start w
 go_enter Tryz.func181, Tryz.ntmps181
 go_wp2_with (first | go_skip | ((first | ((refine zf _ rfl ?_); refine lZ hp rfl (by with_reducible first | exact zX | exact zct | exact zaj) ?_; clear hp; intro b w1 hp) | ((refine zd _ _ _ rfl ?_); refine sO hp rfl (za rfl) ZN aa5 ?_; clear hp; intro w1 hp; simp only [spl, z0a, z0b] at hp)); simp only [zc, zb, z0b, z0a]))
 go_ret
 exact ⟨_, rfl, hp⟩
def zc2 {α : Type} (one : List Nat → Option (α × List Nat)) (bs : List Nat) : Option α := match one bs with
 | some (x, r) => if r.length = 0 then some x else none
 | none => none
noncomputable def zdO (bs : List Nat) : Option Hv := zc2 zfD bs
def zmi (w : World) (r : Option Hv) (e : Ending) (w' : World) : Prop :=
 match r with
 | some x => ∃ y R, e = .returned (.tuple #[.agg (hvL y).toArray, .int .i64 0]) ∧ y.Sm x ∧ HvO y R ∧ Hp w.heap.size w w' R
 | none => e = .returned (.tuple #[.agg (hvL zah).toArray, .int .i64 60]) ∧ Below w.heap.size w w'
theorem zq0 (p q r : Addr) (w : World) : CallsD Tryz.prog 197 #[.pointer (some p), .pointer (some q), .pointer (some r)] .returning w fun e u' w' => e = .returned (.tuple #[]) ∧ u' = .returning ∧ w' = w := by
 refine callsD_of_wpS Tryz.func197 rfl fun c₀ cs hu => ?_
 apply wpS_seq
 apply wpS_region
 simp [wpOpsS, go_sem, recoverD, hu, Tryz.ntmps197, Exit.thenS]
 refine wpS_of_wp ?_
 go_wp2
 cases c₀
 simp_all [bodyPostS, results, Tryz.results197]
theorem zpF (bn bx be : Nat) (y : Hv) {B : Nat} {w0 w : World} {L : List Blk} (hp : Hp B w0 w (⟨bn, [.int .i64 0, .slice none 0 0, .int .i64 0, .int .i64 0, .int .i64 0, .int .i64 0, .int .i64 0, .slice none 0 0], 64, 8⟩ :: ⟨be, [.int .i64 0], 42, 1⟩ :: ⟨bx, hvL y, 64, 8⟩ :: L)) :
  CallsD Tryz.prog 197 #[.pointer (some ⟨bn, 0, none⟩), .pointer (some ⟨bx, 0, none⟩), .pointer (some ⟨be, 0, none⟩)] (.panicking zg8) w fun e u' w' => e = .returned (.tuple #[]) ∧ u' = .panicking [{ v := .iface 232 (.agg #[]), recovered := true }] ∧ Hp B w0 w' (⟨bn, [.int .i64 0, .slice none 0 0, .int .i64 0, .int .i64 0, .int .i64 0, .int .i64 0, .int .i64 0, .slice none 0 0], 64, 8⟩ :: ⟨be, [.int .i64 60], 42, 1⟩ :: ⟨bx, [.int .i64 0, .slice none 0 0, .int .i64 0, .int .i64 0, .int .i64 0, .int .i64 0, .int .i64 0, .slice none 0 0], 64, 8⟩ :: L) := by
 obtain ⟨od, oa, os, oc, nx, t0, t1, t2, t3, fa, fs, fc⟩ := y
 simp only [hvL] at hp
 refine callsD_of_wpS Tryz.func197 rfl fun c₀ cs hu => ?_
 apply wpS_seq
 apply wpS_region
 simp [wpOpsS, go_sem, recoverD, hu, zg8, Tryz.ntmps197, Exit.thenS]
 refine wpS_of_wp ?_
 change Code.wp Tryz.prog _ _ ⟨#[.pointer (some ⟨bn, 0, none⟩), .pointer (some ⟨bx, 0, none⟩), .pointer (some ⟨be, 0, none⟩), .iface 232 (.agg #[]), .iface 232 (.agg #[]), undef, undef, undef], []⟩ w
 go_wp2_with (first | go_skip | ((first | ((refine zf _ rfl ?_); refine lZ hp rfl (by with_reducible first | exact zX | exact zct | exact zaj) ?_; clear hp; intro b w1 hp) | ((refine zi _ _ rfl ?_); refine lB hp rfl (za rfl) rfl ?_; clear hp; intro b w1 hp) | ((refine ze _ _ rfl ?_); first | refine lO hp rfl (za rfl) zrI aa5 ?_ | refine lA hp rfl (za rfl) (by with_reducible first | exact zP | exact zjW) aa5 ?_) | ((refine zd _ _ _ rfl ?_); (first | refine sO hp rfl (za rfl) zrI aa5 ?_ | refine sA hp rfl (za rfl) (za rfl) (by with_reducible first | exact zP | exact zjW) aa5 ?_ | refine sG hp rfl (za rfl) (za rfl) (by with_reducible first | exact zP | exact zjW) aa5 ?_); clear hp; intro w1 hp; simp only [spl, z0a, z0b] at hp) | ((refine zk _ _ _ rfl ?_); refine lS hp rfl (by intro w; go_simp; rfl) ?_; clear hp; intro b w1 hp; simp only [z0g, z0h, Nat.reduceAdd] at hp)); simp only [zc, zb, z0b, z0a]))
 simp [bodyPostS, results, Tryz.results197]
 exact hp
theorem zeh {B : Nat} {w0 w : World} {x y z r : Blk} (hp : Hp B w0 w ([x, y, z] ++ [r])) : Hp B w0 w [r, x, y, z] := hp.kp
theorem zci {B : Nat} {w0 w : World} {br bi n c : Nat} {a : Option Addr} {x y z : Blk} (hp : Hp B w0 w [⟨bi, [.pointer (some ⟨br, 0, none⟩)], 183, 1⟩, ⟨br, [.slice a n c], 236, 1⟩, x, y, z]) : Hp B w0 w ([] ++ (Rb br a n c :: Ib bi br :: [x, y, z])) := (show Hp B w0 w [Ib bi br, Rb br a n c, x, y, z] from hp).kp
theorem zpx (br n c : Nat) (a : Option Addr) {B : Nat} {w0 w : World} {L : List Blk} (hp : Hp B w0 w (⟨br, [.slice a n c], 236, 1⟩ :: L)) : Calls Tryz.prog 182 #[.pointer (some ⟨br, 0, none⟩)] w fun e w' => e = .returned (.int .i64 n) ∧ w = w' := zgK br n c a hp
theorem zeA {B : Nat} {w0 w : World} {r i x y z : Blk} {RO RF M : List Blk} (hp : Hp B w0 w (r :: i :: (RO ++ (RF ++ (M ++ [x, y, z]))))) : Hp B w0 w (r :: i :: x :: y :: z :: (RO ++ (RF ++ M))) := hp.kp
theorem zhN (bs : List Nat) (a : Option Addr) (c : Nat) (hnc : bs.length ≤ c) (w : World) (ha : zbU w a bs) :
  Calls Tryz.prog 159 #[.slice a bs.length c, .func (.func 160) #[] #[]] w (zmi w (zdO bs)) := by
 have HA := z0j ha
 have HNC := z0j hnc
 have hp := Hp.start w
 clear ha hnc
 cases hr : zfD bs with
 | none =>
  have HE : Hid (zdO bs = none) := z0j (by unfold zdO zc2; rw [hr])
  have HR := z0j hr
  clear hr
  go_enter_defers Tryz.func159, Tryz.ntmps159
  go_wp2_with (first | (go_at_call 181; (with_reducible refine (zep _ _ _ _).mono ?_); rintro e w1 ⟨br, rfl, hp2⟩; replace hp := zeh (hp.join hp2); clear hp2) | (go_at_call 160; have hst : ZO w _ _ bs [] _ _ := ⟨a, c, HNC.out, HA.out, zci hp⟩; (with_reducible refine (zl7 _ _ bs hst).mono ?_); clear hst; clear hp; rintro e w1 hq; rw [HR.out] at hq; first | (obtain ⟨y, RO, RF, M, rfl, hy, hown, a2, c2, hl2, ha2, hp⟩ := hq; have HY := z0j hy; have HW := z0j hown; clear hy hown hl2 ha2; obtain ⟨od, oa, os, oc, nx, t0, t1, t2, t3, fa, fs, fc⟩ := y; simp only [z0e, Rb, Ib] at hp; simp only [hvL]; replace hp := zeA hp) | obtain ⟨rfl, hp⟩ := hq) | go_skip | ((first | ((refine zf _ rfl ?_); refine lZ hp rfl (by with_reducible first | exact zX | exact zct | exact zaj) ?_; clear hp; intro b w1 hp) | ((refine zi _ _ rfl ?_); refine lB hp rfl (za rfl) rfl ?_; clear hp; intro b w1 hp) | ((refine ze _ _ rfl ?_); first | refine lO hp rfl (za rfl) Zv aa5 ?_ | refine lA hp rfl (za rfl) zP aa5 ?_) | ((refine zd _ _ _ rfl ?_); (first | refine sO hp rfl (za rfl) Za aa5 ?_ | refine sA hp rfl (za rfl) (za rfl) zP aa5 ?_ | refine sG hp rfl (za rfl) (za rfl) zP aa5 ?_); clear hp; intro w1 hp; simp only [spl, z0a, z0b] at hp)); simp only [zc, zb, z0b, z0a]))
  obtain ⟨b2, rfl⟩ := hp.id0; obtain ⟨b3, rfl⟩ := hp.id1; obtain ⟨b4, rfl⟩ := hp.id2; refine leaves_cons (f := 197) (args := #[.pointer (some ⟨b2, 0, none⟩), .pointer (some ⟨b4, 0, none⟩), .pointer (some ⟨b3, 0, none⟩)]) (by simp) (by simp [go_sem]) ?_
  refine (zpF b2 b4 b3 zah hp).mono ?_
  clear hp
  rintro e u' w'' ⟨rfl, rfl, hp⟩
  refine ⟨_, zD (rs := [.cell 4 64, .cell 5 42]) Tryz.results159 (.cell rfl (hp.loadAgg zP at2 0 _ (by rfl) (by rfl)) (.cell rfl (hp.loadOne Za at1 0 _ (by rfl)) .nil)), ?_⟩
  rw [HE.out]
  exact ⟨rfl, hp.below⟩
 | some p =>
  obtain ⟨x, r⟩ := p
  have HR := z0j hr
  by_cases h0 : r.length = 0
  ·have HE : Hid (zdO bs = some x) := z0j (by unfold zdO zc2; rw [hr]; simp only; rw [if_pos h0])
   have e0 : ((r.length : Int) == 0) = true := by simp [h0]
   clear hr h0
   go_enter_defers Tryz.func159, Tryz.ntmps159
   go_wp2_with (first | (go_at_call 181; (with_reducible refine (zep _ _ _ _).mono ?_); rintro e w1 ⟨br, rfl, hp2⟩; replace hp := zeh (hp.join hp2); clear hp2) | (go_at_call 160; have hst : ZO w _ _ bs [] _ _ := ⟨a, c, HNC.out, HA.out, zci hp⟩; (with_reducible refine (zl7 _ _ bs hst).mono ?_); clear hst; clear hp; rintro e w1 hq; rw [HR.out] at hq; first | (obtain ⟨y, RO, RF, M, rfl, hy, hown, a2, c2, hl2, ha2, hp⟩ := hq; have HY := z0j hy; have HW := z0j hown; clear hy hown hl2 ha2; obtain ⟨od, oa, os, oc, nx, t0, t1, t2, t3, fa, fs, fc⟩ := y; simp only [z0e, Rb, Ib] at hp; simp only [hvL]; replace hp := zeA hp) | obtain ⟨rfl, hp⟩ := hq) | (go_at_call 182; (with_reducible refine (zpx _ _ _ _ hp).mono ?_); rintro e w' ⟨rfl, rfl⟩) | (go_at_call 131; first | ((with_reducible refine (zbK _).mono ?_); rintro e w' ⟨rfl, rfl⟩) | ((with_reducible refine (Zy _).mono ?_); rintro e w' ⟨rfl, rfl⟩)) | go_skip | ((first | ((refine zf _ rfl ?_); refine lZ hp rfl (by with_reducible first | exact zX | exact zct | exact zaj) ?_; clear hp; intro b w1 hp) | ((refine zi _ _ rfl ?_); refine lB hp rfl (za rfl) rfl ?_; clear hp; intro b w1 hp) | ((refine ze _ _ rfl ?_); first | refine lO hp rfl (za rfl) Zv aa5 ?_ | refine lA hp rfl (za rfl) zP aa5 ?_) | ((refine zd _ _ _ rfl ?_); (first | refine sO hp rfl (za rfl) Za aa5 ?_ | refine sA hp rfl (za rfl) (za rfl) zP aa5 ?_ | refine sG hp rfl (za rfl) (za rfl) zP aa5 ?_); clear hp; intro w1 hp; simp only [spl, z0a, z0b] at hp)); simp only [zc, zb, z0b, z0a]))
   replace hp := hp.tail.tail
   obtain ⟨b2, rfl⟩ := hp.id0; obtain ⟨b3, rfl⟩ := hp.id1; obtain ⟨b4, rfl⟩ := hp.id2; refine leaves_cons (f := 197) (args := #[.pointer (some ⟨b2, 0, none⟩), .pointer (some ⟨b4, 0, none⟩), .pointer (some ⟨b3, 0, none⟩)]) (by simp) (by simp [go_sem]) ?_
   refine (zq0 _ _ _ _).mono ?_
   rintro e u' w'' ⟨rfl, rfl, rfl⟩
   refine ⟨_, zD (rs := [.cell 4 64, .cell 5 42]) Tryz.results159 (.cell rfl (hp.loadAgg zP at2 0 _ (by rfl) (by rfl)) (.cell rfl (hp.loadOne Za at1 0 _ (by rfl)) .nil)), ?_⟩
   rw [HE.out]
   exact ⟨⟨od, oa, os, oc, nx, t0, t1, t2, t3, fa, fs, fc⟩, _, rfl, HY.out, ⟨RO, RF, M, rfl, HW.out⟩, hp.tail.tail.tail⟩
  ·have HE : Hid (zdO bs = none) := z0j (by unfold zdO zc2; rw [hr]; simp only; rw [if_neg h0])
   have e0 : ((r.length : Int) == 0) = false := beq_eq_false_iff_ne.2 (by omega)
   clear hr h0
   go_enter_defers Tryz.func159, Tryz.ntmps159
   go_wp2_with (first | (go_at_call 181; (with_reducible refine (zep _ _ _ _).mono ?_); rintro e w1 ⟨br, rfl, hp2⟩; replace hp := zeh (hp.join hp2); clear hp2) | (go_at_call 160; have hst : ZO w _ _ bs [] _ _ := ⟨a, c, HNC.out, HA.out, zci hp⟩; (with_reducible refine (zl7 _ _ bs hst).mono ?_); clear hst; clear hp; rintro e w1 hq; rw [HR.out] at hq; first | (obtain ⟨y, RO, RF, M, rfl, hy, hown, a2, c2, hl2, ha2, hp⟩ := hq; have HY := z0j hy; have HW := z0j hown; clear hy hown hl2 ha2; obtain ⟨od, oa, os, oc, nx, t0, t1, t2, t3, fa, fs, fc⟩ := y; simp only [z0e, Rb, Ib] at hp; simp only [hvL]; replace hp := zeA hp) | obtain ⟨rfl, hp⟩ := hq) | (go_at_call 182; (with_reducible refine (zpx _ _ _ _ hp).mono ?_); rintro e w' ⟨rfl, rfl⟩) | (go_at_call 131; first | ((with_reducible refine (zbK _).mono ?_); rintro e w' ⟨rfl, rfl⟩) | ((with_reducible refine (Zy _).mono ?_); rintro e w' ⟨rfl, rfl⟩)) | go_skip | ((first | ((refine zf _ rfl ?_); refine lZ hp rfl (by with_reducible first | exact zX | exact zct | exact zaj) ?_; clear hp; intro b w1 hp) | ((refine zi _ _ rfl ?_); refine lB hp rfl (za rfl) rfl ?_; clear hp; intro b w1 hp) | ((refine ze _ _ rfl ?_); first | refine lO hp rfl (za rfl) Zv aa5 ?_ | refine lA hp rfl (za rfl) zP aa5 ?_) | ((refine zd _ _ _ rfl ?_); (first | refine sO hp rfl (za rfl) Za aa5 ?_ | refine sA hp rfl (za rfl) (za rfl) zP aa5 ?_ | refine sG hp rfl (za rfl) (za rfl) zP aa5 ?_); clear hp; intro w1 hp; simp only [spl, z0a, z0b] at hp)); simp only [zc, zb, z0b, z0a]))
   replace hp := hp.tail.tail
   obtain ⟨b2, rfl⟩ := hp.id0; obtain ⟨b3, rfl⟩ := hp.id1; obtain ⟨b4, rfl⟩ := hp.id2; refine leaves_cons (f := 197) (args := #[.pointer (some ⟨b2, 0, none⟩), .pointer (some ⟨b4, 0, none⟩), .pointer (some ⟨b3, 0, none⟩)]) (by simp) (by simp [go_sem]) ?_
   refine (zpF b2 b4 b3 ⟨od, oa, os, oc, nx, t0, t1, t2, t3, fa, fs, fc⟩ hp).mono ?_
   clear hp
   rintro e u' w'' ⟨rfl, rfl, hp⟩
   refine ⟨_, zD (rs := [.cell 4 64, .cell 5 42]) Tryz.results159 (.cell rfl (hp.loadAgg zP at2 0 _ (by rfl) (by rfl)) (.cell rfl (hp.loadOne Za at1 0 _ (by rfl)) .nil)), ?_⟩
   rw [HE.out]
   exact ⟨rfl, hp.below⟩
theorem zhV (bs : List Nat) (a : Option Addr) (c : Nat) (hnc : bs.length ≤ c) (w : World) (ha : zbU w a bs) :
  Calls Tryz.prog 94 #[.slice a bs.length c] w (zmi w (zdO bs)) := by
 have HA := z0j ha
 have HNC := z0j hnc
 have hp := Hp.start w
 clear ha hnc
 cases hr : zdO bs with
 | none =>
  have HR := z0j hr
  clear hr
  go_enter Tryz.func94, Tryz.ntmps94
  go_wp2_with (first | (go_at_call 159; (with_reducible refine (zhN bs a c HNC.out _ (HA.out.below hp.below)).mono ?_); rintro e w1 hq; rw [HR.out] at hq; first | (obtain ⟨y, R, rfl, hy, hown, hp2⟩ := hq; replace hp := hp.join hp2; have HY := z0j hy; have HW := z0j hown; clear hy hown hp2; obtain ⟨od, oa, os, oc, nx, t0, t1, t2, t3, fa, fs, fc⟩ := y; simp only [hvL, z0f, z0e] at hp ⊢) | (obtain ⟨rfl, hb⟩ := hq; replace hp := hp.call hb; clear hb; simp only [hvL, zah])) | go_skip | ((first | ((refine zf _ rfl ?_); refine lZ hp rfl (by with_reducible first | exact zX | exact zct | exact zaj) ?_; clear hp; intro b w1 hp) | ((refine zd _ _ _ rfl ?_); (first | refine sA hp rfl (za rfl) (za rfl) zP aa5 ?_ | refine sG hp rfl (za rfl) (za rfl) zP aa5 ?_); clear hp; intro w1 hp; simp only [spl, z0a, z0b] at hp)); simp only [zc, zb, z0b, z0a]))
  exact bodyPost_ret (zD (rs := [.cell 2 64, .tmp 3]) Tryz.results94 (.cell rfl (hp.loadAgg zP at0 0 _ (by rfl) (by rfl)) (.tmp rfl .nil))) rfl ⟨rfl, hp.below⟩
 | some x =>
  have HR := z0j hr
  clear hr
  go_enter Tryz.func94, Tryz.ntmps94
  go_wp2_with (first | (go_at_call 159; (with_reducible refine (zhN bs a c HNC.out _ (HA.out.below hp.below)).mono ?_); rintro e w1 hq; rw [HR.out] at hq; first | (obtain ⟨y, R, rfl, hy, hown, hp2⟩ := hq; replace hp := hp.join hp2; have HY := z0j hy; have HW := z0j hown; clear hy hown hp2; obtain ⟨od, oa, os, oc, nx, t0, t1, t2, t3, fa, fs, fc⟩ := y; simp only [hvL, z0f, z0e] at hp ⊢) | (obtain ⟨rfl, hb⟩ := hq; replace hp := hp.call hb; clear hb; simp only [hvL, zah])) | go_skip | ((first | ((refine zf _ rfl ?_); refine lZ hp rfl (by with_reducible first | exact zX | exact zct | exact zaj) ?_; clear hp; intro b w1 hp) | ((refine zd _ _ _ rfl ?_); (first | refine sA hp rfl (za rfl) (za rfl) zP aa5 ?_ | refine sG hp rfl (za rfl) (za rfl) zP aa5 ?_); clear hp; intro w1 hp; simp only [spl, z0a, z0b] at hp)); simp only [zc, zb, z0b, z0a]))
  exact bodyPost_ret (zD (rs := [.cell 2 64, .tmp 3]) Tryz.results94 (.cell rfl (hp.loadAgg zP at0 0 _ (by rfl) (by rfl)) (.tmp rfl .nil))) rfl ⟨⟨od, oa, os, oc, nx, t0, t1, t2, t3, fa, fs, fc⟩, R, rfl, HY.out, HW.out, hp.tail⟩
theorem zsB (y : Hv) (w : World) : Calls Tryz.prog 125 #[.agg (hvL y).toArray, .int .i64 0] w fun e w' => e = .returned (.agg (hvL y).toArray) ∧ Below w.heap.size w w' := by
 have hp := Hp.start w
 obtain ⟨od, oa, os, oc, nx, t0, t1, t2, t3, fa, fs, fc⟩ := y
 simp only [hvL]
 go_enter Tryz.func125, Tryz.ntmps125
 go_wp2_with (first | go_skip | ((first | ((refine zf _ rfl ?_); refine lZ hp rfl (by with_reducible first | exact zX | exact zct | exact zaj) ?_; clear hp; intro b w1 hp) | ((refine zi _ _ rfl ?_); refine lB hp rfl (za rfl) rfl ?_; clear hp; intro b w1 hp) | ((refine ze _ _ rfl ?_); refine lA hp rfl (za rfl) zP aa5 ?_) | ((refine zd _ _ _ rfl ?_); (first | refine sA hp rfl (za rfl) (za rfl) zP aa5 ?_ | refine sG hp rfl (za rfl) (za rfl) zP aa5 ?_); clear hp; intro w1 hp; simp only [spl, z0a, z0b] at hp)); simp only [zc, zb, z0b, z0a]))
 exact bodyPost_ret (zA (rs := [.cell 4 64]) Tryz.results125 (.cell rfl (hp.loadAgg zP at0 0 _ (by rfl) (by rfl)) .nil)) rfl ⟨rfl, hp.below⟩
theorem zm6 (y : Hv) (w : World) : Calls Tryz.prog 125 #[.agg (hvL y).toArray, .int .i64 60] w fun e w' => e = .panicked zg8 ∧ Below w.heap.size w w' := by
 have hp := Hp.start w
 obtain ⟨od, oa, os, oc, nx, t0, t1, t2, t3, fa, fs, fc⟩ := y
 simp only [hvL]
 go_enter Tryz.func125, Tryz.ntmps125
 go_wp2_with (first | go_skip | ((first | ((refine zf _ rfl ?_); refine lZ hp rfl (by with_reducible first | exact zX | exact zct | exact zaj) ?_; clear hp; intro b w1 hp) | ((refine zi _ _ rfl ?_); refine lB hp rfl (za rfl) rfl ?_; clear hp; intro b w1 hp) | ((refine ze _ _ rfl ?_); refine lA hp rfl (za rfl) zP aa5 ?_) | ((refine zd _ _ _ rfl ?_); (first | refine sA hp rfl (za rfl) (za rfl) zP aa5 ?_ | refine sG hp rfl (za rfl) (za rfl) zP aa5 ?_); clear hp; intro w1 hp; simp only [spl, z0a, z0b] at hp)); simp only [zc, zb, z0b, z0a]))
 exact ⟨rfl, rfl, hp.below⟩
theorem zi2 (w : World) (e : TypeId) (s : ByteArray) : Below w.heap.size w (Lib.bytesWorld w e s) :=
 ⟨rfl, rfl, rfl, by rw [Lib.bytesWorld_size]; omega, fun j hj => Lib.bytesWorld_at_old w e s j hj⟩
theorem zpA (w : World) (e : TypeId) (s : ByteArray) : zbU (Lib.bytesWorld w e s) (some ⟨w.heap.size, 0, none⟩) (zdP s) := by
 refine ⟨fun j v hj => ⟨_, _, rfl, ?_⟩, zlN s⟩
 rw [zlx, List.getElem?_map] at hj
 have hjl : j < (zdP s).length := by
  rcases Nat.lt_or_ge j (zdP s).length with h | h
  ·exact h
  ·rw [List.getElem?_eq_none h] at hj; cases hj
 rw [List.getElem?_eq_getElem hjl] at hj
 injection hj with hj
 subst hj
 rw [Nat.zero_add, Lib.bytesWorld_cell w e s j (by rw [← zao]; exact hjl)]
 rw [zao] at hjl
 have h2 : j < s.data.size := hjl
 simp [zdP, List.getD]
 rw [Array.getElem?_eq_getElem h2]; rfl
section
variable {P : Program} {ops : Array Oper} {rest : List Oper} {o : Oper} {a : Act} {w : World} {Q : Exit → Act → World → Prop} {w0 : World} {L : List Blk}
theorem zal {B : Nat} (hp : Hp B w0 w L) (src dst e : TypeId) (x : Operand) (ho : o.op = .convert src dst x) (hw : Region.wanted o (yielded ops a.tmps) = true) (hs : P.underlying src = some .string) (hd : P.underlying dst = some (.slice e)) (he : P.underlying e = some (.int .u8))
  (s : ByteArray) (hx : a.eval x = .string s) (h : ∀ ad c w', s.size ≤ c → zbU w' ad (zdP s) → Hp B w0 w' L → wpList P ops Q rest (a.put o.dst (.slice ad s.size c)) w') : wpList P ops Q (o :: rest) a w := by
 refine BigFrame.wpList_want hw fun K hK => ?_
 unfold Oper.wp execOp
 have hr := Lib.run_convert_string_bytes (P := P) w src dst e s hs hd he
 simp only [ho, hx, Sem.run_bind, hr, Result.andThen_ok, Sem.run_pure]
 exact hK _ _ (h _ _ _ (grownCap_ge w s.size 0 e) (zpA w e s) (hp.call (zi2 w e s)))
end
open Go.RowKit
theorem zi3 (d : Nat) (n c : Nat) (w : World) : (Op.equalIn (d + 1) 65 (.slice none n c) (.slice none 0 0)).run Tryz.prog w = .ok true w := by
 rw [Op.equalIn]; simp [Sem.run_bind, run_underlying Tryz.underlying65]
theorem zhW (d : Nat) (a : Addr) (n c : Nat) (w : World) : (Op.equalIn (d + 1) 65 (.slice (some a) n c) (.slice none 0 0)).run Tryz.prog w = .ok false w := by
 rw [Op.equalIn]; simp [Sem.run_bind, run_underlying Tryz.underlying65]
theorem zps (n c : Nat) (w : World) : (binOp .eql 65 (.slice none n c) (.slice none 0 0)).run Tryz.prog w = .ok (.bool true) w := by
 have h : (Op.equalIn 10000 65 (.slice none n c) (.slice none 0 0)).run Tryz.prog w = .ok true w := zi3 9999 n c w
 simp only [binOp]
 simp [Op.equal, Op.maxDepth, h]
theorem zlZ (a : Addr) (n c : Nat) (w : World) : (binOp .eql 65 (.slice (some a) n c) (.slice none 0 0)).run Tryz.prog w = .ok (.bool false) w := by
 have h : (Op.equalIn 10000 65 (.slice (some a) n c) (.slice none 0 0)).run Tryz.prog w = .ok false w := zhW 9999 a n c w
 simp only [binOp]
 simp [Op.equal, Op.maxDepth, h]
def zhe (w : World) (n : Nat) (xs : List Value) (e : Ending) (w' : World) : Prop := ∃ v R, e = .returned v ∧ zB 141 4 v n xs R ∧ Hp w.heap.size w w' R
theorem zgG (a : Option Addr) (n c : Nat) (hn : n ≤ 2000) (xs : List Value) (hl : xs.length = n * 4) (h1 : xs.all (·.oneCell') = true) (w : World) (ha : zr w a xs) :
  Calls Tryz.prog 109 #[.slice a n c] w (zhe w n xs) := by
 obtain ⟨i0, hi0, hz0, hz1, hz2⟩ := info_parts zgu
 have hp := Hp.start w
 cases a with
 | none =>
  have hn0 : n = 0 := by
   rcases Nat.eq_zero_or_pos n with h | h
   ·exact h
   ·obtain ⟨b, off, he, _⟩ := ha.addr (by omega)
    cases he
  subst hn0
  have hx : xs = [] := List.eq_nil_of_length_eq_zero (by simpa using hl)
  subst hx
  clear ha hl h1
  have hq := zps
  go_enter Tryz.func109, Tryz.ntmps109
  go_wp2
  go_ret
  exact ⟨_, [], rfl, zB.nil _ _, hp⟩
 | some a =>
  have HA := z0j ha
  have HL := z0j hl
  have H1 := z0j h1
  have sm1 : 0 + n ≤ maxLen := by unfold maxLen; omega
  have sm2 : (0 + n) * 32 ≤ 140737488355328 := by omega
  clear ha hl h1
  have hq := zlZ
  go_enter Tryz.func109, Tryz.ntmps109
  go_wp2_with (first | ((refine zk _ _ _ rfl ?_); refine Zn hp _ _ _ rfl wy [] 141 (by intro w; go_simp; try rfl) ?_; clear hp; intro b w1 hp; simp only [zc, zb, z0b, z0a]) | ((refine zJ _ _ 65 rfl ?_); refine zR (K := []) (R := [⟨b, [], 141, 0 * 4⟩]) (M := []) hp _ _ _ rfl wy i0 _ 32 Tryz.underlying65 hi0 hz0 hz1 hz2 rfl (by decide) (za rfl) ⟨rfl, .inr ⟨b, 0, rfl, Nat.le_refl _, Nat.zero_le _, rfl⟩⟩ (some a) n c (za rfl) xs HL.out (HA.out.below hp.below) H1.out sm1 sm2 ?_; clear hp; intro v' R' w1 hR' hp; have HR' := z0j hR'; clear hR'; simp only [zc, zb, z0b, z0a]) | go_skip)
  go_ret
  exact ⟨v', R', rfl, by simpa using HR'.out, by simpa using hp⟩
end Go.Proofs.YtjcbpfbifbfkcaaGreat

import Derived.Test.YtaafajaadfgaoaaGreatCx27
import Derived.Test.YtaafajaadfgaoaaGreatCx5
import Derived.Defers
import Derived.Recover
import Derived.Lib.ConvBytes
import Derived.Test.YtaafajaadfgaoaaGreatCx1
import Derived.Test.YtaafajaadfgaoaaGreatCx2
set_option linter.unusedSimpArgs false
set_option linter.unusedVariables false
set_option maxRecDepth 100000
set_option maxHeartbeats 60000000
namespace Go.Proofs.YtaafajaadfgaoaaGreat
open Go.RowKit
theorem zmn {ty : TypeId} (h : zy Tryz.prog ty = true := by with_reducible first | exact zr | exact Ze | exact zcE | exact zad | exact Zb) : zy Tryz.prog ty = true := h
theorem zsL : ZB Tryz.prog 144 1 = true := by kernel_rfl
theorem zeC : zbB Tryz.prog 37 = some ([.int .i64 0], 1) := by kernel_rfl
theorem zst : zbB Tryz.prog 210 = some ([.slice none 0 0], 1) := by kernel_rfl
theorem zec (a : Option Addr) (n c : Nat) (w : World) : Calls Tryz.prog 172 #[.slice a n c] w fun e w' => ∃ br, e = .returned (.pointer (some ⟨br, 0, none⟩)) ∧ Hp w.heap.size w w' [⟨br, [.slice a n c], 210, 1⟩] := by
 have hp := Hp.start w
 go_enter Tryz.func172, Tryz.ntmps172
 go_wp2_with (first | ((first | ((refine zi _ rfl ?_); refine lZ hp rfl (by with_reducible first | exact zst) ?_; clear hp; intro b w1 hp) | ((refine zg _ _ _ rfl ?_); (first | refine sO hp rfl (za rfl) zmn aa5 ?_); clear hp; intro w1 hp; simp only [spl, z0a, z0b] at hp)); simp only [zc, zb, z0b, z0a]))
 go_ret
 exact ⟨_, rfl, hp⟩
def zcd {α : Type} (one : List Nat → Option (α × List Nat)) (bs : List Nat) : Option α := match one bs with
 | some (x, r) => if r.length = 0 then some x else none
 | none => none
noncomputable def zcH (bs : List Nat) : Option Hv := zcd zdH bs
def zl0 (w : World) (r : Option Hv) (e : Ending) (w' : World) : Prop :=
 match r with
 | some x => ∃ y R, e = .returned (.tuple #[.agg (hvL y).toArray, .int .i64 0]) ∧ y.Sm x ∧ HvO y R ∧ Hp w.heap.size w w' R
 | none => e = .returned (.tuple #[.agg (hvL zam).toArray, .int .i64 60]) ∧ Below w.heap.size w w'
theorem zrG (p q r : Addr) (w : World) : CallsD Tryz.prog 180 #[.pointer (some p), .pointer (some q), .pointer (some r)] .returning w fun e u' w' => e = .returned (.tuple #[]) ∧ u' = .returning ∧ w' = w := by
 refine callsD_of_wpS Tryz.func180 rfl fun c₀ cs hu => ?_
 apply wpS_seq
 apply wpS_region
 simp [wpOpsS, go_sem, recoverD, hu, Tryz.ntmps180, Exit.thenS]
 refine wpS_of_wp ?_
 go_wp2
 cases c₀
 simp_all [bodyPostS, results, Tryz.results180]
theorem zqr (bn bx be : Nat) (y : Hv) {B : Nat} {w0 w : World} {L : List Blk} (hp : Hp B w0 w (⟨bn, [.int .i64 0, .slice none 0 0, .int .i64 0, .int .i64 0, .int .i64 0, .int .i64 0, .int .i64 0, .slice none 0 0], 47, 8⟩ :: ⟨be, [.int .i64 0], 37, 1⟩ :: ⟨bx, hvL y, 47, 8⟩ :: L)) :
  CallsD Tryz.prog 180 #[.pointer (some ⟨bn, 0, none⟩), .pointer (some ⟨bx, 0, none⟩), .pointer (some ⟨be, 0, none⟩)] (.panicking zgB) w fun e u' w' => e = .returned (.tuple #[]) ∧ u' = .panicking [{ v := .iface 206 (.agg #[]), recovered := true }] ∧ Hp B w0 w' (⟨bn, [.int .i64 0, .slice none 0 0, .int .i64 0, .int .i64 0, .int .i64 0, .int .i64 0, .int .i64 0, .slice none 0 0], 47, 8⟩ :: ⟨be, [.int .i64 60], 37, 1⟩ :: ⟨bx, [.int .i64 0, .slice none 0 0, .int .i64 0, .int .i64 0, .int .i64 0, .int .i64 0, .int .i64 0, .slice none 0 0], 47, 8⟩ :: L) := by
 obtain ⟨od, oa, os, oc, nx, t0, t1, t2, t3, fa, fs, fc⟩ := y
 simp only [hvL] at hp
 refine callsD_of_wpS Tryz.func180 rfl fun c₀ cs hu => ?_
 apply wpS_seq
 apply wpS_region
 simp [wpOpsS, go_sem, recoverD, hu, zgB, Tryz.ntmps180, Exit.thenS]
 refine wpS_of_wp ?_
 change Code.wp Tryz.prog _ _ ⟨#[.pointer (some ⟨bn, 0, none⟩), .pointer (some ⟨bx, 0, none⟩), .pointer (some ⟨be, 0, none⟩), .iface 206 (.agg #[]), .iface 206 (.agg #[]), undef, undef, undef], []⟩ w
 go_wp2_with (first | ((first | ((refine zd _ _ rfl ?_); first | refine lA hp rfl (za rfl) (by with_reducible first | exact zW) aa5 ?_) | ((refine zg _ _ _ rfl ?_); (first | refine sO hp rfl (za rfl) zmn aa5 ?_ | refine sA hp rfl (za rfl) (za rfl) (by with_reducible first | exact zW) aa5 ?_); clear hp; intro w1 hp; simp only [spl, z0a, z0b] at hp)); simp only [zc, zb, z0b, z0a]))
 simp [bodyPostS, results, Tryz.results180]
 exact hp
theorem zef {B : Nat} {w0 w : World} {x y z r : Blk} (hp : Hp B w0 w ([x, y, z] ++ [r])) : Hp B w0 w [r, x, y, z] := hp.kp
theorem zb7 {B : Nat} {w0 w : World} {br bi n c : Nat} {a : Option Addr} {x y z : Blk} (hp : Hp B w0 w [⟨bi, [.pointer (some ⟨br, 0, none⟩)], 144, 1⟩, ⟨br, [.slice a n c], 210, 1⟩, x, y, z]) : Hp B w0 w ([] ++ (Rb br a n c :: Ib bi br :: [x, y, z])) := (show Hp B w0 w [Ib bi br, Rb br a n c, x, y, z] from hp).kp
theorem zpt (br n c : Nat) (a : Option Addr) {B : Nat} {w0 w : World} {L : List Blk} (hp : Hp B w0 w (⟨br, [.slice a n c], 210, 1⟩ :: L)) : Calls Tryz.prog 173 #[.pointer (some ⟨br, 0, none⟩)] w fun e w' => e = .returned (.int .i64 n) ∧ w = w' := zgX br n c a hp
theorem zgg {B : Nat} {w0 w : World} {r i x y z : Blk} {RO RF M : List Blk} (hp : Hp B w0 w (r :: i :: (RO ++ (RF ++ (M ++ [x, y, z]))))) : Hp B w0 w (r :: i :: x :: y :: z :: (RO ++ (RF ++ M))) := hp.kp
theorem zix (bs : List Nat) (a : Option Addr) (c : Nat) (hnc : bs.length ≤ c) (w : World) (ha : zbD w a bs) :
  Calls Tryz.prog 111 #[.slice a bs.length c, .func (.func 112) #[] #[]] w (zl0 w (zcH bs)) := by
 have HA := z0j ha
 have HNC := z0j hnc
 have hp := Hp.start w
 clear ha hnc
 cases hr : zdH bs with
 | none =>
  have HE : Hid (zcH bs = none) := z0j (by unfold zcH zcd; rw [hr])
  have HR := z0j hr
  clear hr
  go_enter_defers Tryz.func111, Tryz.ntmps111
  go_wp2_with (first | (go_at_call 172; (with_reducible refine (zec _ _ _ _).mono ?_); rintro e w1 ⟨br, rfl, hp2⟩; replace hp := zef (hp.join hp2); clear hp2) | (go_at_call 112; have hst : ZM w _ _ bs [] _ _ := ⟨a, c, HNC.out, HA.out, zb7 hp⟩; (with_reducible refine (zm7 _ _ bs hst).mono ?_); clear hst; clear hp; rintro e w1 hq; rw [HR.out] at hq; first | obtain ⟨rfl, hp⟩ := hq) | ((first | ((refine zi _ rfl ?_); refine lZ hp rfl (by with_reducible first | exact Z7 | exact zeC) ?_; clear hp; intro b w1 hp) | ((refine zk _ _ rfl ?_); refine lB hp rfl (za rfl) rfl ?_; clear hp; intro b w1 hp)); simp only [zc, zb, z0b, z0a]))
  obtain ⟨b2, rfl⟩ := hp.id0; obtain ⟨b3, rfl⟩ := hp.id1; obtain ⟨b4, rfl⟩ := hp.id2; refine leaves_cons (f := 180) (args := #[.pointer (some ⟨b2, 0, none⟩), .pointer (some ⟨b4, 0, none⟩), .pointer (some ⟨b3, 0, none⟩)]) (by simp) (by simp [go_sem]) ?_
  refine (zqr b2 b4 b3 zam hp).mono ?_
  clear hp
  rintro e u' w'' ⟨rfl, rfl, hp⟩
  refine ⟨_, zx (rs := [.cell 4 47, .cell 5 37]) Tryz.results111 (.cell rfl (hp.loadAgg zW at2 0 _ (by rfl) (by rfl)) (.cell rfl (hp.loadOne Zb at1 0 _ (by rfl)) .nil)), ?_⟩
  rw [HE.out]
  exact ⟨rfl, hp.below⟩
 | some p =>
  obtain ⟨x, r⟩ := p
  have HR := z0j hr
  by_cases h0 : r.length = 0
  ·have HE : Hid (zcH bs = some x) := z0j (by unfold zcH zcd; rw [hr]; simp only; rw [if_pos h0])
   have e0 : ((r.length : Int) == 0) = true := by simp [h0]
   clear hr h0
   go_enter_defers Tryz.func111, Tryz.ntmps111
   go_wp2_with (first | (go_at_call 172; (with_reducible refine (zec _ _ _ _).mono ?_); rintro e w1 ⟨br, rfl, hp2⟩; replace hp := zef (hp.join hp2); clear hp2) | (go_at_call 112; have hst : ZM w _ _ bs [] _ _ := ⟨a, c, HNC.out, HA.out, zb7 hp⟩; (with_reducible refine (zm7 _ _ bs hst).mono ?_); clear hst; clear hp; rintro e w1 hq; rw [HR.out] at hq; first | (obtain ⟨y, RO, RF, M, rfl, hy, hown, a2, c2, hl2, ha2, hp⟩ := hq; have HY := z0j hy; have HW := z0j hown; clear hy hown hl2 ha2; obtain ⟨od, oa, os, oc, nx, t0, t1, t2, t3, fa, fs, fc⟩ := y; simp only [z0e, Rb, Ib] at hp; simp only [hvL]; replace hp := zgg hp)) | (go_at_call 173; (with_reducible refine (zpt _ _ _ _ hp).mono ?_); rintro e w' ⟨rfl, rfl⟩) | (go_at_call 105; first | ((with_reducible refine (zck _).mono ?_); rintro e w' ⟨rfl, rfl⟩)) | ((first | ((refine zi _ rfl ?_); refine lZ hp rfl (by with_reducible first | exact Z7 | exact zeC) ?_; clear hp; intro b w1 hp) | ((refine zk _ _ rfl ?_); refine lB hp rfl (za rfl) rfl ?_; clear hp; intro b w1 hp) | ((refine zd _ _ rfl ?_); first | refine lO hp rfl (za rfl) zmn aa5 ?_ | refine lA hp rfl (za rfl) (by with_reducible first | exact zW) aa5 ?_) | ((refine zg _ _ _ rfl ?_); (first | refine sO hp rfl (za rfl) zmn aa5 ?_ | refine sA hp rfl (za rfl) (za rfl) (by with_reducible first | exact zW) aa5 ?_); clear hp; intro w1 hp; simp only [spl, z0a, z0b] at hp)); simp only [zc, zb, z0b, z0a]))
   replace hp := hp.tail.tail
   obtain ⟨b2, rfl⟩ := hp.id0; obtain ⟨b3, rfl⟩ := hp.id1; obtain ⟨b4, rfl⟩ := hp.id2; refine leaves_cons (f := 180) (args := #[.pointer (some ⟨b2, 0, none⟩), .pointer (some ⟨b4, 0, none⟩), .pointer (some ⟨b3, 0, none⟩)]) (by simp) (by simp [go_sem]) ?_
   refine (zrG _ _ _ _).mono ?_
   rintro e u' w'' ⟨rfl, rfl, rfl⟩
   refine ⟨_, zx (rs := [.cell 4 47, .cell 5 37]) Tryz.results111 (.cell rfl (hp.loadAgg zW at2 0 _ (by rfl) (by rfl)) (.cell rfl (hp.loadOne Zb at1 0 _ (by rfl)) .nil)), ?_⟩
   rw [HE.out]
   exact ⟨⟨od, oa, os, oc, nx, t0, t1, t2, t3, fa, fs, fc⟩, _, rfl, HY.out, ⟨RO, RF, M, rfl, HW.out⟩, hp.tail.tail.tail⟩
  ·have HE : Hid (zcH bs = none) := z0j (by unfold zcH zcd; rw [hr]; simp only; rw [if_neg h0])
   have e0 : ((r.length : Int) == 0) = false := beq_eq_false_iff_ne.2 (by omega)
   clear hr h0
   go_enter_defers Tryz.func111, Tryz.ntmps111
   go_wp2_with (first | (go_at_call 172; (with_reducible refine (zec _ _ _ _).mono ?_); rintro e w1 ⟨br, rfl, hp2⟩; replace hp := zef (hp.join hp2); clear hp2) | (go_at_call 112; have hst : ZM w _ _ bs [] _ _ := ⟨a, c, HNC.out, HA.out, zb7 hp⟩; (with_reducible refine (zm7 _ _ bs hst).mono ?_); clear hst; clear hp; rintro e w1 hq; rw [HR.out] at hq; first | (obtain ⟨y, RO, RF, M, rfl, hy, hown, a2, c2, hl2, ha2, hp⟩ := hq; have HY := z0j hy; have HW := z0j hown; clear hy hown hl2 ha2; obtain ⟨od, oa, os, oc, nx, t0, t1, t2, t3, fa, fs, fc⟩ := y; simp only [z0e, Rb, Ib] at hp; simp only [hvL]; replace hp := zgg hp)) | (go_at_call 173; (with_reducible refine (zpt _ _ _ _ hp).mono ?_); rintro e w' ⟨rfl, rfl⟩) | (go_at_call 105; first | ((with_reducible refine (ZP _).mono ?_); rintro e w' ⟨rfl, rfl⟩)) | ((first | ((refine zi _ rfl ?_); refine lZ hp rfl (by with_reducible first | exact Z7 | exact zeC) ?_; clear hp; intro b w1 hp) | ((refine zk _ _ rfl ?_); refine lB hp rfl (za rfl) rfl ?_; clear hp; intro b w1 hp) | ((refine zd _ _ rfl ?_); first | refine lO hp rfl (za rfl) zmn aa5 ?_) | ((refine zg _ _ _ rfl ?_); (first | refine sA hp rfl (za rfl) (za rfl) (by with_reducible first | exact zW) aa5 ?_); clear hp; intro w1 hp; simp only [spl, z0a, z0b] at hp)); simp only [zc, zb, z0b, z0a]))
   replace hp := hp.tail.tail
   obtain ⟨b2, rfl⟩ := hp.id0; obtain ⟨b3, rfl⟩ := hp.id1; obtain ⟨b4, rfl⟩ := hp.id2; refine leaves_cons (f := 180) (args := #[.pointer (some ⟨b2, 0, none⟩), .pointer (some ⟨b4, 0, none⟩), .pointer (some ⟨b3, 0, none⟩)]) (by simp) (by simp [go_sem]) ?_
   refine (zqr b2 b4 b3 ⟨od, oa, os, oc, nx, t0, t1, t2, t3, fa, fs, fc⟩ hp).mono ?_
   clear hp
   rintro e u' w'' ⟨rfl, rfl, hp⟩
   refine ⟨_, zx (rs := [.cell 4 47, .cell 5 37]) Tryz.results111 (.cell rfl (hp.loadAgg zW at2 0 _ (by rfl) (by rfl)) (.cell rfl (hp.loadOne Zb at1 0 _ (by rfl)) .nil)), ?_⟩
   rw [HE.out]
   exact ⟨rfl, hp.below⟩
theorem zhR (bs : List Nat) (a : Option Addr) (c : Nat) (hnc : bs.length ≤ c) (w : World) (ha : zbD w a bs) :
  Calls Tryz.prog 42 #[.slice a bs.length c] w (zl0 w (zcH bs)) := by
 have HA := z0j ha
 have HNC := z0j hnc
 have hp := Hp.start w
 clear ha hnc
 cases hr : zcH bs with
 | none =>
  have HR := z0j hr
  clear hr
  go_enter Tryz.func42, Tryz.ntmps42
  go_wp2_with (first | (go_at_call 111; (with_reducible refine (zix bs a c HNC.out _ (HA.out.below hp.below)).mono ?_); rintro e w1 hq; rw [HR.out] at hq; first | (obtain ⟨rfl, hb⟩ := hq; replace hp := hp.call hb; clear hb; simp only [hvL, zam])) | ((first | ((refine zi _ rfl ?_); refine lZ hp rfl (by with_reducible first | exact Z7) ?_; clear hp; intro b w1 hp) | ((refine zg _ _ _ rfl ?_); (first | refine sA hp rfl (za rfl) (za rfl) (by with_reducible first | exact zW) aa5 ?_); clear hp; intro w1 hp; simp only [spl, z0a, z0b] at hp)); simp only [zc, zb, z0b, z0a]))
  exact bodyPost_ret (zx (rs := [.cell 2 47, .tmp 3]) Tryz.results42 (.cell rfl (hp.loadAgg zW at0 0 _ (by rfl) (by rfl)) (.tmp rfl .nil))) rfl ⟨rfl, hp.below⟩
 | some x =>
  have HR := z0j hr
  clear hr
  go_enter Tryz.func42, Tryz.ntmps42
  go_wp2_with (first | (go_at_call 111; (with_reducible refine (zix bs a c HNC.out _ (HA.out.below hp.below)).mono ?_); rintro e w1 hq; rw [HR.out] at hq; first | (obtain ⟨y, R, rfl, hy, hown, hp2⟩ := hq; replace hp := hp.join hp2; have HY := z0j hy; have HW := z0j hown; clear hy hown hp2; obtain ⟨od, oa, os, oc, nx, t0, t1, t2, t3, fa, fs, fc⟩ := y; simp only [hvL, z0f, z0e] at hp ⊢)) | ((first | ((refine zi _ rfl ?_); refine lZ hp rfl (by with_reducible first | exact Z7) ?_; clear hp; intro b w1 hp) | ((refine zg _ _ _ rfl ?_); (first | refine sA hp rfl (za rfl) (za rfl) (by with_reducible first | exact zW) aa5 ?_); clear hp; intro w1 hp; simp only [spl, z0a, z0b] at hp)); simp only [zc, zb, z0b, z0a]))
  exact bodyPost_ret (zx (rs := [.cell 2 47, .tmp 3]) Tryz.results42 (.cell rfl (hp.loadAgg zW at0 0 _ (by rfl) (by rfl)) (.tmp rfl .nil))) rfl ⟨⟨od, oa, os, oc, nx, t0, t1, t2, t3, fa, fs, fc⟩, R, rfl, HY.out, HW.out, hp.tail⟩
theorem zuC (y : Hv) (w : World) : Calls Tryz.prog 99 #[.agg (hvL y).toArray, .int .i64 0] w fun e w' => e = .returned (.agg (hvL y).toArray) ∧ Below w.heap.size w w' := by
 have hp := Hp.start w
 obtain ⟨od, oa, os, oc, nx, t0, t1, t2, t3, fa, fs, fc⟩ := y
 simp only [hvL]
 go_enter Tryz.func99, Tryz.ntmps99
 go_wp2_with (first | ((first | ((refine zi _ rfl ?_); refine lZ hp rfl (by with_reducible first | exact Z7) ?_; clear hp; intro b w1 hp) | ((refine zk _ _ rfl ?_); refine lB hp rfl (za rfl) rfl ?_; clear hp; intro b w1 hp) | ((refine zd _ _ rfl ?_); first | refine lA hp rfl (za rfl) (by with_reducible first | exact zW) aa5 ?_) | ((refine zg _ _ _ rfl ?_); (first | refine sA hp rfl (za rfl) (za rfl) (by with_reducible first | exact zW) aa5 ?_); clear hp; intro w1 hp; simp only [spl, z0a, z0b] at hp)); simp only [zc, zb, z0b, z0a]))
 exact bodyPost_ret (zu (rs := [.cell 4 47]) Tryz.results99 (.cell rfl (hp.loadAgg zW at0 0 _ (by rfl) (by rfl)) .nil)) rfl ⟨rfl, hp.below⟩
theorem zpf (y : Hv) (w : World) : Calls Tryz.prog 99 #[.agg (hvL y).toArray, .int .i64 60] w fun e w' => e = .panicked zgB ∧ Below w.heap.size w w' := by
 have hp := Hp.start w
 obtain ⟨od, oa, os, oc, nx, t0, t1, t2, t3, fa, fs, fc⟩ := y
 simp only [hvL]
 go_enter Tryz.func99, Tryz.ntmps99
 go_wp2_with (first | ((first | ((refine zi _ rfl ?_); refine lZ hp rfl (by with_reducible first | exact Z7) ?_; clear hp; intro b w1 hp) | ((refine zk _ _ rfl ?_); refine lB hp rfl (za rfl) rfl ?_; clear hp; intro b w1 hp)); simp only [zc, zb, z0b, z0a]))
 exact ⟨rfl, rfl, hp.below⟩
theorem ziO (w : World) (e : TypeId) (s : ByteArray) : Below w.heap.size w (Lib.bytesWorld w e s) :=
 ⟨rfl, rfl, rfl, by rw [Lib.bytesWorld_size]; omega, fun j hj => Lib.bytesWorld_at_old w e s j hj⟩
theorem zpW (w : World) (e : TypeId) (s : ByteArray) : zbD (Lib.bytesWorld w e s) (some ⟨w.heap.size, 0, none⟩) (zbz s) := by
 refine ⟨fun j v hj => ⟨_, _, rfl, ?_⟩, zlP s⟩
 rw [zk5, List.getElem?_map] at hj
 have hjl : j < (zbz s).length := by
  rcases Nat.lt_or_ge j (zbz s).length with h | h
  ·exact h
  ·rw [List.getElem?_eq_none h] at hj; cases hj
 rw [List.getElem?_eq_getElem hjl] at hj
 injection hj with hj
 subst hj
 rw [Nat.zero_add, Lib.bytesWorld_cell w e s j (by rw [← ZR]; exact hjl)]
 rw [ZR] at hjl
 have h2 : j < s.data.size := hjl
 simp [zbz, List.getD]
 rw [Array.getElem?_eq_getElem h2]; rfl
section
variable {P : Program} {ops : Array Oper} {rest : List Oper} {o : Oper} {a : Act} {w : World} {Q : Exit → Act → World → Prop} {w0 : World} {L : List Blk}
theorem Z5 {B : Nat} (hp : Hp B w0 w L) (src dst e : TypeId) (x : Operand) (ho : o.op = .convert src dst x) (hw : Region.wanted o (yielded ops a.tmps) = true) (hs : P.underlying src = some .string) (hd : P.underlying dst = some (.slice e)) (he : P.underlying e = some (.int .u8))
  (s : ByteArray) (hx : a.eval x = .string s) (h : ∀ ad c w', s.size ≤ c → zbD w' ad (zbz s) → Hp B w0 w' L → wpList P ops Q rest (a.put o.dst (.slice ad s.size c)) w') : wpList P ops Q (o :: rest) a w := by
 refine BigFrame.wpList_want hw fun K hK => ?_
 unfold Oper.wp execOp
 have hr := Lib.run_convert_string_bytes (P := P) w src dst e s hs hd he
 simp only [ho, hx, Sem.run_bind, hr, Result.andThen_ok, Sem.run_pure]
 exact hK _ _ (h _ _ _ (grownCap_ge w s.size 0 e) (zpW w e s) (hp.call (ziO w e s)))
end
open Go.RowKit
theorem zi6 (d : Nat) (n c : Nat) (w : World) : (Op.equalIn (d + 1) 48 (.slice none n c) (.slice none 0 0)).run Tryz.prog w = .ok true w := by
 rw [Op.equalIn]; simp [Sem.run_bind, run_underlying Tryz.underlying48]
theorem zhL (d : Nat) (a : Addr) (n c : Nat) (w : World) : (Op.equalIn (d + 1) 48 (.slice (some a) n c) (.slice none 0 0)).run Tryz.prog w = .ok false w := by
 rw [Op.equalIn]; simp [Sem.run_bind, run_underlying Tryz.underlying48]
theorem zpK (n c : Nat) (w : World) : (binOp .eql 48 (.slice none n c) (.slice none 0 0)).run Tryz.prog w = .ok (.bool true) w := by
 have h : (Op.equalIn 10000 48 (.slice none n c) (.slice none 0 0)).run Tryz.prog w = .ok true w := zi6 9999 n c w
 simp only [binOp]
 simp [Op.equal, Op.maxDepth, h]
theorem zn1 (a : Addr) (n c : Nat) (w : World) : (binOp .eql 48 (.slice (some a) n c) (.slice none 0 0)).run Tryz.prog w = .ok (.bool false) w := by
 have h : (Op.equalIn 10000 48 (.slice (some a) n c) (.slice none 0 0)).run Tryz.prog w = .ok false w := zhL 9999 a n c w
 simp only [binOp]
 simp [Op.equal, Op.maxDepth, h]
def zgv (w : World) (n : Nat) (xs : List Value) (e : Ending) (w' : World) : Prop := ∃ v R, e = .returned v ∧ zA 120 4 v n xs R ∧ Hp w.heap.size w w' R
theorem zgH (a : Option Addr) (n c : Nat) (hn : n ≤ 2000) (xs : List Value) (hl : xs.length = n * 4) (h1 : xs.all (·.oneCell') = true) (w : World) (ha : zm w a xs) :
  Calls Tryz.prog 121 #[.slice a n c] w (zgv w n xs) := by
 obtain ⟨i0, hi0, hz0, hz1, hz2⟩ := info_parts zgT
 have hp := Hp.start w
 cases a with
 | none =>
  have hn0 : n = 0 := by
   rcases Nat.eq_zero_or_pos n with h | h
   ·exact h
   ·obtain ⟨b, off, he, _⟩ := ha.addr (by omega)
    cases he
  subst hn0
  have hx : xs = [] := List.eq_nil_of_length_eq_zero (by simpa using hl)
  subst hx
  clear ha hl h1
  have hq := zpK
  go_enter Tryz.func121, Tryz.ntmps121
  go_wp2
  go_ret
  exact ⟨_, [], rfl, zA.nil _ _, hp⟩
 | some a =>
  have HA := z0j ha
  have HL := z0j hl
  have H1 := z0j h1
  have sm1 : 0 + n ≤ maxLen := by unfold maxLen; omega
  have sm2 : (0 + n) * 32 ≤ 140737488355328 := by omega
  clear ha hl h1
  have hq := zn1
  go_enter Tryz.func121, Tryz.ntmps121
  go_wp2_with (first | ((refine zC _ _ _ rfl ?_); refine Zm hp _ _ _ rfl wy [] 120 (by intro w; go_simp; try rfl) ?_; clear hp; intro b w1 hp; simp only [zc, zb, z0b, z0a]) | ((refine zG _ _ 48 rfl ?_); refine zR (K := []) (R := [⟨b, [], 120, 0 * 4⟩]) (M := []) hp _ _ _ rfl wy i0 _ 32 Tryz.underlying48 hi0 hz0 hz1 hz2 rfl (by decide) (za rfl) ⟨rfl, .inr ⟨b, 0, rfl, Nat.le_refl _, Nat.zero_le _, rfl⟩⟩ (some a) n c (za rfl) xs HL.out (HA.out.below hp.below) H1.out sm1 sm2 ?_; clear hp; intro v' R' w1 hR' hp; have HR' := z0j hR'; clear hR'; simp only [zc, zb, z0b, z0a]))
  go_ret
  exact ⟨v', R', rfl, by simpa using HR'.out, by simpa using hp⟩
end Go.Proofs.YtaafajaadfgaoaaGreat

import Derived.Test.YtjcbpfbifbfkcaaGreatTq33
set_option linter.unusedSimpArgs false
set_option linter.unusedVariables false
set_option maxRecDepth 100000
set_option maxHeartbeats 60000000
namespace Go.Proofs.YtjcbpfbifbfkcaaGreat
open Go.RowKit
theorem znP {ty : TypeId} {l : List Value} {n : Nat} (h : zaL Tryz.prog ty = some (l, n) := by with_reducible first | exact zN | exact zL | exact zab) : zaL Tryz.prog ty = some (l, n) := h
theorem zbS : ZM Tryz.prog 167 23 = true := by kernel_rfl
theorem zsq : ZM Tryz.prog 172 12 = true := by kernel_rfl
theorem zat : zF Tryz.prog 89 = true := by kernel_rfl
theorem zjA : (Tryz.prog.info? 167).map (fun i => (i.zero, i.size, i.bytes)) = some (some (.agg #[.int .i64 0, .int .i64 0, .int .i64 0, .int .i64 0, .int .i64 0, .int .i64 0, .int .i64 0, .int .i64 0, .slice none 0 0, .int .i64 0, .int .i64 0, .string ⟨#[]⟩, .int .i64 0, .int .i64 0, .int .i64 0, .int .i64 0, .int .i64 0, .int .i64 0, .int .i64 0, .int .i64 0, .int .i64 0, .int .i64 0, .bool false]), 23, 208) := by kernel_rfl
theorem zhy (nu vi cl sq kk hh ii nn cc vv tt : Int) (b : Bool) (hb : zbn ⟨nu, vi, cl, sq, ⟨kk, hh, ii, nn, cc, vv, tt⟩⟩ = b) (w : World) :
  Calls Tryz.prog 117 #[.agg #[.int .i64 nu, .int .i64 vi, .int .i64 cl, .int .i64 sq, .int .i64 kk, .int .i64 hh, .int .i64 ii, .int .i64 nn, .int .i64 cc, .int .i64 vv, .int .i64 tt]] w fun e w' => e = .returned (.bool (!b)) ∧ Below w.heap.size w w' := by
 have hp := Hp.start w
 have HM := z0j hb
 clear hb
 go_enter Tryz.func117, Tryz.ntmps117
 go_wp2_with (first | (go_at_call 69; (with_reducible refine (zcv nu vi cl sq kk hh ii nn cc vv tt _ HM.out _).mono ?_); rintro e w1 ⟨rfl, hb⟩; replace hp := hp.call hb; clear hb) | go_skip | ((first | ((refine zi _ _ rfl ?_); refine lB hp rfl (za rfl) rfl ?_; clear hp; intro b w1 hp) | ((refine ze _ _ rfl ?_); first | refine lA hp rfl (za rfl) Zq aa5 ?_ | refine lR hp rfl (za rfl) Zq HX.out ?_)); simp only [zc, zb, z0b, z0a]))
 go_ret
 exact ⟨rfl, hp.below⟩
def zd9 (l : List Env) : Bool := l.all zbn
theorem zce {l : List Env} : zd9 l = true ↔ ∀ e ∈ l, zbn e = true := by unfold zd9; rw [List.all_eq_true]
def zjS (w : World) (g : Bool) (e : Ending) (w' : World) : Prop := ∃ i : Int, e = .returned (.int .i64 i) ∧ decide (0 ≤ i) = g ∧ Below w.heap.size w w'
theorem zro (l : List Env) (a : Option Addr) (c : Nat) (hl : l.length ≤ 100000) (w : World) (ha : zr w a (l.flatMap ZI)) :
  Calls Tryz.prog 178 #[.slice a l.length c, .func (.func 117) #[] #[]] w (zjS w (!zd9 l)) := by
 have hp := Hp.start w
 have HA := z0j ha
 clear ha
 go_enter Tryz.func178, Tryz.ntmps178
 go_wp2_with (first | go_skip | (((refine ze _ _ rfl ?_); first | refine lA hp rfl (za rfl) Zq aa5 ?_ | refine lR hp rfl (za rfl) Zq HX.out ?_); simp only [zc, zb, z0b, z0a]))
 go_loopg [8] l.length (fun k i wr => ∃ j : Nat, k + j = l.length ∧ i = .int .i64 j ∧ Hid (∀ e ∈ l.take j, zbn e = true) ∧ Hp w.heap.size w wr [])
 case atStart => exact ⟨0, by omega, rfl, z0j (by simp), hp⟩
 case round =>
  clear hp
  obtain ⟨j, hkj, rfl, HG, hp⟩ := hrel
  by_cases hlt : j < l.length
  ·obtain ⟨bq, off, rfl, hx⟩ := HA.out.elems 11 Z8 (by omega) (by omega)
   have hj := List.getElem?_eq_getElem hlt
   replace hx := hx j _ hj
   have htk : l.take (j + 1) = l.take j ++ [l[j]] := by rw [List.take_add_one, hj]; rfl
   have hmem := List.getElem_mem hlt
   clear hj
   generalize l[j] = x at hx htk hmem
   obtain ⟨nu, vi, cl, sq, ⟨kk, hh, ii, nn, cc, vv, tt⟩⟩ := x
   simp only [ZI, opL, z0f, z0e] at hx
   have HX := z0j hx
   clear hx
   have e1 : (0 : Int) ≤ (j : Int) := by omega
   have e2 : (j : Int) < (l.length : Int) := by omega
   cases hm : zbn ⟨nu, vi, cl, sq, ⟨kk, hh, ii, nn, cc, vv, tt⟩⟩
   ·have HM := z0j hm
    have HN : Hid (zd9 l = false) := z0j (by
     cases h : zd9 l with
     | false => rfl
     | true => have := zce.1 h _ hmem; rw [hm] at this; cases this)
    clear hm htk hmem
    go_wp2_with (first | (go_at_call 117; (with_reducible refine (zhy nu vi cl sq kk hh ii nn cc vv tt _ HM.out _).mono ?_); rintro e w1 ⟨rfl, hb⟩; replace hp := hp.call hb; clear hb; simp only [Bool.not_true, Bool.not_false]) | go_skip | (((refine ze _ _ rfl ?_); first | refine lA hp rfl (za rfl) Zq aa5 ?_ | refine lR hp rfl (za rfl) Zq HX.out ?_); simp only [zc, zb, z0b, z0a]))
    go_ret
    exact ⟨j, rfl, by rw [HN.out]; simp, hp.below⟩
   ·have HM := z0j hm
    have HG2 : Hid (∀ e ∈ l.take (j + 1), zbn e = true) := z0j (by
     rw [htk]; intro e he
     rcases List.mem_append.1 he with he | he
     ·exact HG.out e he
     ·rw [List.mem_singleton.1 he]; exact hm)
    clear hm htk hmem HG
    go_wp2_with (first | (go_at_call 117; (with_reducible refine (zhy nu vi cl sq kk hh ii nn cc vv tt _ HM.out _).mono ?_); rintro e w1 ⟨rfl, hb⟩; replace hp := hp.call hb; clear hb; simp only [Bool.not_true, Bool.not_false]) | go_skip | (((refine ze _ _ rfl ?_); first | refine lA hp rfl (za rfl) Zq aa5 ?_ | refine lR hp rfl (za rfl) Zq HX.out ?_); simp only [zc, zb, z0b, z0a]))
    go_roundg (gk - 1)
    case measure => omega
    case rel => exact ⟨j + 1, by omega, by go_num, HG2, hp.sub (List.nil_sublist _)⟩
  ·have e2 : decide ((j : Int) < (l.length : Int)) = false := by simp; omega
   go_wp2_with fail
   go_ret
   refine ⟨-1, rfl, ?_, hp.below⟩
   have := HG.out
   rw [List.take_of_length_le (by omega)] at this
   rw [zce.2 this]; decide
theorem zj8 (l : List Env) (a : Option Addr) (c : Nat) (b : Bool) (hb : zd9 l = b) (hl : l.length ≤ 100000) (w : World) (ha : zr w a (l.flatMap ZI)) :
  Calls Tryz.prog 116 #[.slice a l.length c, .func (.func 117) #[] #[]] w fun e w' => e = .returned (.bool (!b)) ∧ Below w.heap.size w w' := by
 subst hb
 have hp := Hp.start w
 have K := z0j (zro l a c hl w ha)
 clear ha
 go_enter Tryz.func116, Tryz.ntmps116
 go_wp2_with (go_at_call 178; refine K.out.mono ?_; rintro e w1 ⟨i, rfl, hi, hb⟩; replace hp := hp.call hb; have HI := z0j hi; clear hi hb)
 go_ret
 exact ⟨Zk HI.out, hp.below⟩
def zgh (id vw : Int) (r : Rw) : List Value := [.int .i64 2, .int .i64 id, .int .i64 (wrap64 (-r.c)), .int .i64 vw, .int .i64 0, .int .i64 0, .int .i64 0, .int .i64 0, .slice none 0 0, .int .i64 0, .int .i64 0, .string ⟨#[]⟩, .int .i64 r.s, .int .i64 0, .int .i64 0, .int .i64 0, .int .i64 0, .int .i64 0, .int .i64 0, .int .i64 0, .int .i64 r.e, .int .i64 r.v, .bool true]
theorem ze2 (id vw : Int) (r : Rw) : (zgh id vw r).length = 23 := rfl
theorem zg3 {P : Program} {c : Code} {Q : Exit → Act → World → Prop} {a : Act} {w : World} {A : Nat → Nat → Sv → Act} (R : Nat → Nat → Sv → World → Prop)
  (h : c.wp P (fun e a' w' => match e with | .normal => ∃ x y z, a' = A x y z ∧ R x y z w' | _ => False) a w) (k : ∀ x y z w', R x y z w' → Q .normal (A x y z) w') : c.wp P Q a w :=
 Code.wp_mono (fun e a' w' hq => by cases e <;> first | exact hq.elim | (obtain ⟨x, y, z, ha, hr⟩ := hq; subst ha; exact k x y z w' hr)) h
theorem zny {B : Nat} {w0 w : World} {x a b c d : Blk} {RA RO R : List Blk} (hp : Hp B w0 w (x :: a :: b :: c :: d :: (RA ++ (RO ++ R)))) : Hp B w0 w (x :: ([a, b, c, d] ++ (RO ++ (RA ++ R)))) := hp.kp
def zqX (B : Nat) (w0 : World) (bw : Nat) (id vw : Int) (s : Sv) (ms : List Rw) (R : List Blk) (e : Ending) (w' : World) : Prop :=
 e = .returned (.tuple #[]) ∧ ∃ (y : Sv) (v : Value) (RO RA : List Blk), y.Sm s ∧ ZD RA (fun w => y.Is w) ∧ zB 167 23 v ms.length (ms.flatMap (zgh id vw)) RO ∧ Hp B w0 w' (⟨bw, .int .i64 id :: .int .i64 vw :: (svL y ++ [v]), 172, 12⟩ :: (RO ++ (RA ++ R)))
theorem zrF (bw : Nat) (id vw : Int) (od : Int) (oa : Option Addr) (os : List Ob) (oc : Nat) (nx t0 t1 t2 t3 : Int) (fa : Option Addr) (fs : List Bl) (fc : Nat) (ra : Option Addr) (rs : List Rw) (rc : Nat) (vo : Value) (ms : List Rw) (nu vi cl sq kk hh ii nn cc vv tt : Int) (r : Sv × Int × Int) (hr : z7 ⟨⟨od, oa, os, oc, nx, t0, t1, t2, t3, fa, fs, fc⟩, ra, rs, rc⟩ ⟨nu, vi, cl, sq, ⟨kk, hh, ii, nn, cc, vv, tt⟩⟩ = r) (hs : Sv.Small ⟨⟨od, oa, os, oc, nx, t0, t1, t2, t3, fa, fs, fc⟩, ra, rs, rc⟩) (hms : ms.length ≤ 100000)
  {w0 w : World} {RO R : List Blk} (hRO : zB 167 23 vo ms.length (ms.flatMap (zgh id vw)) RO) (hk : ZD R fun w => Sv.Is w ⟨⟨od, oa, os, oc, nx, t0, t1, t2, t3, fa, fs, fc⟩, ra, rs, rc⟩) (hp : Hp w0.heap.size w0 w (⟨bw, [.int .i64 id, .int .i64 vw, .int .i64 od, .slice oa os.length oc, .int .i64 nx, .int .i64 t0, .int .i64 t1, .int .i64 t2, .int .i64 t3, .slice fa fs.length fc, .slice ra rs.length rc, vo], 172, 12⟩ :: (RO ++ R))) :
  Calls Tryz.prog 118 #[.pointer (some ⟨bw, 0, none⟩), .agg #[.int .i64 nu, .int .i64 vi, .int .i64 cl, .int .i64 sq, .int .i64 kk, .int .i64 hh, .int .i64 ii, .int .i64 nn, .int .i64 cc, .int .i64 vv, .int .i64 tt]] w (zqX w0.heap.size w0 bw id vw r.1 (ms ++ zlR ⟨nu, vi, cl, sq, ⟨kk, hh, ii, nn, cc, vv, tt⟩⟩ r.2) R) := by
 obtain ⟨i0, hi0, hz0, hz1, hz2⟩ := info_parts zjA
 obtain ⟨ss, rcc, rvv⟩ := r
 have HD1 := z0j hr
 have HSY := z0j hs
 have HKY := z0j hk
 have HRO := z0j hRO
 have HL1 : Hid (ms.length + 1 ≤ maxLen) := z0j (by unfold maxLen; omega)
 have HL2 : Hid ((ms.length + 1) * 208 ≤ 140737488355328) := z0j (by omega)
 clear hr hs hk hRO
 go_enter Tryz.func118, Tryz.ntmps118
 go_wp2_with (first | go_skip | ((first | ((refine zf _ rfl ?_); refine lZ hp rfl znP ?_; clear hp; intro b w1 hp) | ((refine zi _ _ rfl ?_); refine lB hp rfl (za rfl) rfl ?_; clear hp; intro b w1 hp) | ((refine ze _ _ rfl ?_); first | refine lO hp rfl (za rfl) (by with_reducible first | exact zm | exact zat) zn ?_ | refine lA hp rfl (za rfl) (by with_reducible first | exact zy | exact Zq | exact zt) zn ?_) | ((refine zd _ _ _ rfl ?_); (first | refine sO hp rfl (za rfl) zat zn ?_ | refine sA hp rfl (za rfl) (za rfl) (by with_reducible first | exact zy | exact zt) zn ?_ | refine sG hp rfl (za rfl) (za rfl) (by with_reducible first | exact zy | exact zt) zn ?_); clear hp; intro w1 hp; simp only [spl, z0a, z0b] at hp) | ((refine zk _ _ _ rfl ?_); refine lS hp rfl (by intro w; go_simp; rfl) ?_; clear hp; intro b w1 hp; simp only [z0g, z0h, Nat.reduceAdd] at hp)); simp only [zc, zb, z0b, z0a]))
 obtain ⟨b3, hb3⟩ := hp.id0
 subst hb3
 apply zg3 (R := fun bh br y w' => Hid (y.Sm ss) ∧ ∃ RY, Hid (ZD RY fun w => y.Is w) ∧ Hp w0.heap.size w0 w' (⟨br, [.int .i64 rcc, .int .i64 rvv], 71, 2⟩ :: ⟨bh, svL y, 67, 9⟩ :: ⟨b3, [.int .i64 nu, .int .i64 vi, .int .i64 cl, .int .i64 sq, .int .i64 kk, .int .i64 hh, .int .i64 ii, .int .i64 nn, .int .i64 cc, .int .i64 vv, .int .i64 tt], 38, 11⟩ :: ⟨bw, [.int .i64 id, .int .i64 vw, .int .i64 od, .slice oa os.length oc, .int .i64 nx, .int .i64 t0, .int .i64 t1, .int .i64 t2, .int .i64 t3, .slice fa fs.length fc, .slice ra rs.length rc, vo], 172, 12⟩ :: (RY ++ (RO ++ R))))
 case h =>
  refine Zh [_, _] (zv.two hp.drew at0 at1) [] (.take 0 (.take 1 (.take 2 (.take 3 (.take 4 (.three 5 (.take 6 (.take 7 (.take 8 (.two 9 (.one 10 (.one 11 (.one 12 .nil))) 10 (.one 9 (.one 11 (.one 12 .nil))))))) 9 (.two 5 (.take 6 (.take 7 (.take 8 (.one 10 (.one 11 (.one 12 .nil)))))) 10 (.one 5 (.take 6 (.take 7 (.take 8 (.one 11 (.one 12 .nil))))))) 10 (.two 5 (.take 6 (.take 7 (.take 8 (.one 9 (.one 11 (.one 12 .nil)))))) 9 (.one 5 (.take 6 (.take 7 (.take 8 (.one 11 (.one 12 .nil))))))))))))) (by kernel_rfl) (by kernel_rfl) (by kernel_rfl) (by kernel_rfl) (fun _ _ d _ _ h => by cases d <;> exact h) ?_
  replace hp := hp.drew
  repeat' (with_reducible refine zcp ?_); first | (with_reducible refine zbq ?_) | ((with_reducible refine zaR ?_); refine zu rfl ?_; (first | ((with_reducible refine zT _ rfl ?_); refine tM rfl ?_) | ((with_reducible refine zW _ _ rfl ?_); refine tA rfl (za rfl) (by with_reducible first | exact zy | exact Zq) zn ?_) | refine tG (fun w _ => (by go_simp; try rfl)) ?_); refine zcs ?_; try simp only [zc, zb, zj, zg, z0b, z0a, z0d, z0c, zl]) | ((first | refine zbv (ZB rfl (fun K hK => ?_)) | refine zbs (ZB rfl (fun K hK => ?_)) (ZB rfl (fun K hK => ?_)) | refine zgi (ZB rfl (fun K hK => ?_)) (ZB rfl (fun K hK => ?_)) (ZB rfl (fun K hK => ?_))) <;> (go_wp2_with (first | (go_at_call 47; (with_reducible refine (zkc od oa os oc nx t0 t1 t2 t3 fa fs fc ra rs rc nu vi cl sq kk hh ii nn cc vv tt _ HD1.out HSY.out _ (HKY.out.at hp (fun p hm => by simp [hm]))).mono ?_); rintro e w1 ⟨y, RY, rfl, hy, hk, _, hpY⟩; replace hp := hp.join hpY; have HYN := z0j hy; have HKN := z0j hk; clear hpY hy hk; simp only [z0f, z0e, z0i] at hp) | ((refine zf 67 rfl ?_); refine lZ hp rfl zN ?_; clear hp; intro bh w1 hp; simp only [zc, zb, z0b, z0a]) | ((refine zf 71 rfl ?_); refine lZ hp rfl zL ?_; clear hp; intro br w1 hp; simp only [zc, zb, z0b, z0a]) | go_skip | ((first | ((refine zf _ rfl ?_); refine lZ hp rfl znP ?_; clear hp; intro b w1 hp) | ((refine zd _ _ _ rfl ?_); (first | refine sO hp rfl (za rfl) zat zn ?_ | refine sA hp rfl (za rfl) (za rfl) (by with_reducible first | exact zy | exact zt) zn ?_ | refine sG hp rfl (za rfl) (za rfl) (by with_reducible first | exact zy | exact zt) zn ?_); clear hp; intro w1 hp; simp only [spl, z0a, z0b] at hp)); simp only [zc, zb, z0b, z0a])); (refine hK.out _ _ (.inr (zv.two hp zn zn)) ?_); clear hK K; try simp only [zc, zb, zj, zg, z0b, z0a, z0d, z0c, zl]))
  all_goals exact ⟨bh, br, y, rfl, HYN, RY, HKN, hp.kp⟩
 clear hp
 rintro b4 b5 y w1 ⟨HYA, RA, HKA, hp⟩
 obtain ⟨⟨odA, oaA, osA, ocA, nxA, t0A, t1A, t2A, t3A, faA, fsA, fcA⟩, raA, rsA, rcA⟩ := y
 simp only [svL, hvL, z0f, z0e] at hp ⊢
 by_cases hc : cl = 0
 ·subst hc
  go_wp2_with (first | go_skip | ((first | ((refine zf _ rfl ?_); refine lZ hp rfl znP ?_; clear hp; intro b w1 hp) | ((refine zi _ _ rfl ?_); refine lB hp rfl (za rfl) rfl ?_; clear hp; intro b w1 hp) | ((refine ze _ _ rfl ?_); first | refine lO hp rfl (za rfl) (by with_reducible first | exact zm | exact zat) zn ?_ | refine lA hp rfl (za rfl) (by with_reducible first | exact zy | exact Zq | exact zt) zn ?_) | ((refine zd _ _ _ rfl ?_); (first | refine sO hp rfl (za rfl) zat zn ?_ | refine sA hp rfl (za rfl) (za rfl) (by with_reducible first | exact zy | exact zt) zn ?_ | refine sG hp rfl (za rfl) (za rfl) (by with_reducible first | exact zy | exact zt) zn ?_); clear hp; intro w1 hp; simp only [spl, z0a, z0b] at hp) | ((refine zk _ _ _ rfl ?_); refine lS hp rfl (by intro w; go_simp; rfl) ?_; clear hp; intro b w1 hp; simp only [z0g, z0h, Nat.reduceAdd] at hp)); simp only [zc, zb, z0b, z0a]))
  refine bodyPost_end (results_none Tryz.results118 _ _ _) rfl ⟨rfl, ⟨⟨odA, oaA, osA, ocA, nxA, t0A, t1A, t2A, t3A, faA, fsA, fcA⟩, raA, rsA, rcA⟩, vo, RO, RA, HYA.out, HKA.out, ?_, ?_⟩
  ·have : zlR ⟨nu, vi, 0, sq, ⟨kk, hh, ii, nn, cc, vv, tt⟩⟩ (rcc, rvv) = [] := rfl
   rw [this, List.append_nil]; exact HRO.out
  ·simp only [svL, hvL, z0f, z0e]; exact hp.kp
 ·have e1 : (cl == 0) = false := by simpa using hc
  have HC := z0j hc
  go_wp2_with (first | go_skip | ((first | ((refine zf _ rfl ?_); refine lZ hp rfl znP ?_; clear hp; intro b w1 hp) | ((refine zi _ _ rfl ?_); refine lB hp rfl (za rfl) rfl ?_; clear hp; intro b w1 hp) | ((refine ze _ _ rfl ?_); first | refine lO hp rfl (za rfl) (by with_reducible first | exact zm | exact zat) zn ?_ | refine lA hp rfl (za rfl) (by with_reducible first | exact zy | exact Zq | exact zt) zn ?_) | ((refine zd _ _ _ rfl ?_); (first | refine sO hp rfl (za rfl) zat zn ?_ | refine sA hp rfl (za rfl) (za rfl) (by with_reducible first | exact zy | exact zt) zn ?_ | refine sG hp rfl (za rfl) (za rfl) (by with_reducible first | exact zy | exact zt) zn ?_); clear hp; intro w1 hp; simp only [spl, z0a, z0b] at hp) | ((refine zk _ _ _ rfl ?_); refine lS hp rfl (by intro w; go_simp; rfl) ?_; clear hp; intro b w1 hp; simp only [z0g, z0h, Nat.reduceAdd] at hp)); simp only [zc, zb, z0b, z0a]))
  refine zh [_, _, _] (zv.three hp.drew at0 at2 at3) [24] [(0, true), (1, true), (2, true), (3, true), (4, true), (5, true), (6, true), (7, true), (8, true), (9, true), (10, true), (11, true), (12, true), (13, true), (14, true), (15, true), (16, true), (17, true), (18, true), (19, true), (20, false), (21, false), (22, true), (23, true), (24, false)] (by kernel_rfl) (by kernel_rfl) rfl (by kernel_rfl) (fun _ _ d _ _ h => by cases d <;> exact h) ?_
  replace hp := hp.drew
  repeat' (with_reducible refine zx ?_); first | (with_reducible refine zq ?_) | ((with_reducible refine zE ?_); refine zu rfl ?_; (first | ((with_reducible refine zT _ rfl ?_); refine tM rfl ?_) | ((with_reducible refine zW _ _ rfl ?_); first | refine tA rfl (za rfl) zt zn ?_ | refine tO rfl (za rfl) (by with_reducible first | exact zm | exact zat) zn ?_) | refine tG (fun w _ => (by go_simp; try rfl)) ?_); try simp only [zc, zb, zj, zg, z0b, z0a, z0d, z0c, zl]) | (refine zC rfl (fun K hK => ?_); go_wp2_with (first | ((refine zJ _ _ 89 rfl ?_); refine zK (K := [_, _, _, _]) (R := RO) (M := RA ++ R) (zny hp) _ _ _ rfl wy i0 _ 208 Tryz.underlying89 hi0 hz0 hz1 hz2 rfl (by decide) (za rfl) HRO.out 1 1 (za rfl) (by rfl) (by decide) (by rfl) HL1.out HL2.out ?_; clear hp HRO; intro v' R' w1 hR' hp; obtain ⟨av, kv, rfl, _⟩ := hR'.kept; have HR' := z0j hR'; clear hR'; simp only [z0f, z0e] at hp; simp only [zc, zb, z0b, z0a]) | go_skip | ((first | ((refine zd _ _ _ rfl ?_); (first | refine sO hp rfl (za rfl) zat zn ?_ | refine sA hp rfl (za rfl) (za rfl) (by with_reducible first | exact zy | exact zt) zn ?_ | refine sG hp rfl (za rfl) (za rfl) (by with_reducible first | exact zy | exact zt) zn ?_); clear hp; intro w1 hp; simp only [spl, z0a, z0b] at hp) | ((refine zk _ _ _ rfl ?_); refine lS hp rfl (by intro w; go_simp; rfl) ?_; clear hp; intro b w1 hp; simp only [z0g, z0h, Nat.reduceAdd] at hp)); simp only [zc, zb, z0b, z0a])); (first | refine hK.out _ _ (.inl rfl) ?_ | refine hK.out _ _ (.inr (zv.three hp zn zn zn)) ?_); clear hK K; try simp only [zc, zb, zj, zg, z0b, z0a, z0d, z0c, zl])
  go_wp2_with (first | go_skip | ((first | ((refine zf _ rfl ?_); refine lZ hp rfl znP ?_; clear hp; intro b w1 hp) | ((refine zi _ _ rfl ?_); refine lB hp rfl (za rfl) rfl ?_; clear hp; intro b w1 hp) | ((refine ze _ _ rfl ?_); first | refine lO hp rfl (za rfl) (by with_reducible first | exact zm | exact zat) zn ?_ | refine lA hp rfl (za rfl) (by with_reducible first | exact zy | exact Zq | exact zt) zn ?_) | ((refine zd _ _ _ rfl ?_); (first | refine sO hp rfl (za rfl) zat zn ?_ | refine sA hp rfl (za rfl) (za rfl) (by with_reducible first | exact zy | exact zt) zn ?_ | refine sG hp rfl (za rfl) (za rfl) (by with_reducible first | exact zy | exact zt) zn ?_); clear hp; intro w1 hp; simp only [spl, z0a, z0b] at hp) | ((refine zk _ _ _ rfl ?_); refine lS hp rfl (by intro w; go_simp; rfl) ?_; clear hp; intro b w1 hp; simp only [z0g, z0h, Nat.reduceAdd] at hp)); simp only [zc, zb, z0b, z0a]))
  refine bodyPost_end (results_none Tryz.results118 _ _ _) rfl ⟨rfl, ⟨⟨odA, oaA, osA, ocA, nxA, t0A, t1A, t2A, t3A, faA, fsA, fcA⟩, raA, rsA, rcA⟩, .slice av (ms.length + 1) kv, R', RA, HYA.out, HKA.out, ?_, ?_⟩
  ·have : zlR ⟨nu, vi, cl, sq, ⟨kk, hh, ii, nn, cc, vv, tt⟩⟩ (rcc, rvv) = [⟨cl, sq, rcc, rvv⟩] := by unfold zlR; rw [if_neg HC.out]
   rw [this, List.length_append, List.flatMap_append]; exact HR'.out
  ·simp only [svL, hvL, z0f, z0e]; exact hp.kp
open Go.RowKit
theorem zti {ty : TypeId} {k : Nat} (h : ZM Tryz.prog ty k = true := by with_reducible first | exact zbS | exact zac | exact zt) : ZM Tryz.prog ty k = true := h
theorem zfR (w : World) : Calls Tryz.prog 101 #[.slice none 0 0, .slice none 0 0] w fun e w' => e = .returned (.bool true) ∧ Below w.heap.size w w' := by
 have hp := Hp.start w
 go_enter Tryz.func101, Tryz.ntmps101
 go_wp2_with (first | go_skip | (((refine ze _ _ rfl ?_); refine lA hp rfl (za rfl) Zq aa5 ?_); simp only [zc, zb, z0b, z0a]))
 go_loopg [5] 0 (fun k i wr => i = .int .i64 0 ∧ Hp w.heap.size w wr [])
 case atStart => exact ⟨rfl, hp⟩
 case round =>
  clear hp
  obtain ⟨rfl, hp⟩ := hrel
  go_wp2_with (first | go_skip | (((refine ze _ _ rfl ?_); refine lA hp rfl (za rfl) Zq aa5 ?_); simp only [zc, zb, z0b, z0a]))
  go_ret
  exact ⟨rfl, hp.below⟩
theorem zrs : zF Tryz.prog 165 = true := by kernel_rfl
theorem znx (id to vw sq rc rv : Int) (w : World) : Calls Tryz.prog 119 #[.agg #[.int .i64 2, .int .i64 id, .int .i64 to, .int .i64 vw, .int .i64 0, .int .i64 0, .int .i64 0, .int .i64 0, .slice none 0 0, .int .i64 0, .int .i64 0, .string ⟨#[]⟩, .int .i64 sq, .int .i64 0, .int .i64 0, .int .i64 0, .int .i64 0, .int .i64 0, .int .i64 0, .int .i64 0, .int .i64 rc, .int .i64 rv, .bool true], .agg #[.int .i64 2, .int .i64 id, .int .i64 to, .int .i64 vw, .int .i64 0, .int .i64 0, .int .i64 0, .int .i64 0, .slice none 0 0, .int .i64 0, .int .i64 0, .string ⟨#[]⟩, .int .i64 sq, .int .i64 0, .int .i64 0, .int .i64 0, .int .i64 0, .int .i64 0, .int .i64 0, .int .i64 0, .int .i64 rc, .int .i64 rv, .bool true]] w fun e w' => e = .returned (.bool true) ∧ Below w.heap.size w w' := by
 have hp := Hp.start w
 go_enter Tryz.func119, Tryz.ntmps119
 go_wp2_with (first | (go_at_call 101; (with_reducible refine (zfR _).mono ?_); rintro e w1 ⟨rfl, hb⟩; replace hp := hp.call hb; clear hb) | go_skip | ((first | ((refine zi _ _ rfl ?_); refine lB hp rfl (za rfl) rfl ?_; clear hp; intro b w1 hp) | ((refine ze _ _ rfl ?_); first | refine lO hp rfl (za rfl) (by with_reducible first | exact zm | exact Zt | exact zbl | exact Zf | exact zrs) zn ?_ | refine lA hp rfl (za rfl) zti zn ?_)); simp only [zc, zb, z0b, z0a]))
 go_ret
 exact ⟨rfl, hp.below⟩
theorem ziQ (id vw : Int) (l : List Rw) (a a' : Option Addr) (n c c' : Nat) (hn : l.length = n) (hl : n ≤ 100000) (w : World) (ha : zr w a (l.flatMap (zgh id vw))) (ha' : zr w a' (l.flatMap (zgh id vw))) :
  Calls Tryz.prog 50 #[.slice a n c, .slice a' n c'] w fun e w' => e = .returned (.bool true) ∧ Below w.heap.size w w' := by
 subst hn
 have hp := Hp.start w
 have HA := z0j ha
 have HA' := z0j ha'
 clear ha ha'
 go_enter Tryz.func50, Tryz.ntmps50
 go_wp2_with (first | go_skip | (((refine ze _ _ rfl ?_); first | refine lA hp rfl (za rfl) zbS aa5 ?_ | refine lR hp rfl (za rfl) zbS HX.out ?_ | refine lR hp rfl (za rfl) zbS HY.out ?_); simp only [zc, zb, z0b, z0a]))
 go_loopg [5] l.length (fun k i wr => ∃ j : Nat, k + j = l.length ∧ i = .int .i64 j ∧ Hp w.heap.size w wr [])
 case atStart => exact ⟨0, by omega, rfl, hp⟩
 case round =>
  clear hp
  obtain ⟨j, hkj, rfl, hp⟩ := hrel
  by_cases hlt : j < l.length
  ·obtain ⟨b, off, rfl, hx⟩ := HA.out.elems 23 (ze2 id vw) (by omega) (by omega)
   obtain ⟨b', off', rfl, hy⟩ := HA'.out.elems 23 (ze2 id vw) (by omega) (by omega)
   replace hx := hx j _ (List.getElem?_eq_getElem hlt)
   replace hy := hy j _ (List.getElem?_eq_getElem hlt)
   generalize l[j] = x at hx hy
   obtain ⟨rc, rs, re, rv⟩ := x
   simp only [zgh] at hx hy
   generalize wrap64 (-rc) = to at hx hy
   have HX := z0j hx
   have HY := z0j hy
   clear hx hy
   have e1 : (0 : Int) ≤ (j : Int) := by omega
   have e2 : (j : Int) < (l.length : Int) := by omega
   go_wp2_with (first | go_skip | (((refine ze _ _ rfl ?_); first | refine lA hp rfl (za rfl) zbS aa5 ?_ | refine lR hp rfl (za rfl) zbS HX.out ?_ | refine lR hp rfl (za rfl) zbS HY.out ?_); simp only [zc, zb, z0b, z0a]))
   refine zh _ (zv.all hp.drew) [] [(0, true), (1, true), (2, true), (3, true), (4, true), (5, true), (6, true), (7, true), (8, false), (9, true)] (by kernel_rfl) (by kernel_rfl) rfl (by kernel_rfl) (fun _ _ d _ _ h => by cases d <;> exact h) ?_
   replace hp := hp.drew
   repeat' (with_reducible refine zx ?_); first | (with_reducible refine zq ?_) | ((with_reducible refine zE ?_); refine zu rfl ?_; (first | ((with_reducible refine zT _ rfl ?_); refine tM rfl ?_) | ((with_reducible refine zW _ _ rfl ?_); first | refine tA rfl (za rfl) zbS aa5 ?_ | refine tR rfl (za rfl) zbS HX.out ?_ | refine tR rfl (za rfl) zbS HY.out ?_) | refine tG (fun w _ => (by go_simp; try rfl)) ?_); try simp only [zc, zb, zj, zg, z0b, z0a, z0d, z0c, zl]) | (refine zC rfl (fun K hK => ?_); go_wp2_with (first | (go_at_call 119; (with_reducible refine (znx _ _ _ _ _ _ _).mono ?_); rintro e w1 ⟨rfl, hb⟩; replace hp := hp.call hb; clear hb) | go_skip); (refine hK.out _ _ (.inr (zgJ hp)) ?_); clear hK K; try simp only [zc, zb, zj, zg, z0b, z0a, z0d, z0c, zl])
   all_goals
    go_wp2_with (first | go_skip | (((refine ze _ _ rfl ?_); first | refine lA hp rfl (za rfl) zbS aa5 ?_ | refine lR hp rfl (za rfl) zbS HX.out ?_ | refine lR hp rfl (za rfl) zbS HY.out ?_); simp only [zc, zb, z0b, z0a]))
    go_roundg (gk - 1)
   all_goals first
    | omega
    | exact ⟨j + 1, by omega, by go_num, hp⟩
    | exact ⟨j + 1, by omega, by go_num, hp.kp⟩
  ·have e2 : decide ((j : Int) < (l.length : Int)) = false := by simp; omega
   go_wp2_with fail
   go_ret
   exact ⟨rfl, hp.below⟩
end Go.Proofs.YtjcbpfbifbfkcaaGreat

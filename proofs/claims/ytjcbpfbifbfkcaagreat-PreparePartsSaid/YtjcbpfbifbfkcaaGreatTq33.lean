import Derived.Test.YtjcbpfbifbfkcaaGreatTq32
import Derived.Test.YtjcbpfbifbfkcaaGreatTq4
import Derived.Test.YtjcbpfbifbfkcaaGreatTq5
import Derived.Test.YtjcbpfbifbfkcaaGreatTq29
import Derived.Test.YtjcbpfbifbfkcaaGreatTq31
import Derived.Test.YtjcbpfbifbfkcaaGreatTq2
set_option linter.unusedSimpArgs false
set_option linter.unusedVariables false
set_option maxRecDepth 100000
set_option maxHeartbeats 60000000
namespace Go.Proofs.YtjcbpfbifbfkcaaGreat
open Go.RowKit
theorem zM.drop {e : TypeId} {c n cap off g k : Nat} {xs : List Value} {R : List Blk} (h : zM e c (.slice (some ⟨g, off, none⟩) n cap) n xs R) (hk : k ≤ n) (hn : 0 < n) :
  zM e c (.slice (some ⟨g, off + k * c, none⟩) (n - k) (cap - k)) (n - k) (xs.drop (k * c)) R := by
 obtain ⟨hl, ⟨h0, _, _⟩ | ⟨g', off', cap', pre, hv, h1, h2, h3, h4⟩⟩ := h
 ·omega
 ·injection hv with hv _ hc
  injection hv with hv
  injection hv with hg ho _
  subst hg ho hc
  have hm := Nat.mul_le_mul_right c hk
  refine ⟨by rw [List.length_drop, hl, Nat.sub_mul], .inr ⟨g, off + k * c, cap - k, pre ++ xs.take (k * c), rfl, by omega, by omega, by rw [List.length_append, List.length_take, h3, hl]; omega, ?_⟩⟩
  rw [h4, List.append_assoc, List.take_append_drop]
  have hm2 := Nat.mul_le_mul_right c (show k ≤ cap by omega)
  rw [Nat.sub_mul, show off + k * c + (cap * c - k * c) = off + cap * c by omega]
theorem zM.take {e : TypeId} {c n cap off g k : Nat} {xs : List Value} {R : List Blk} (h : zM e c (.slice (some ⟨g, off, none⟩) n cap) n xs R) (hk : k ≤ n) (hn : 0 < n) :
  ∃ R', zM e c (.slice (some ⟨g, off, none⟩) k cap) k (xs.take (k * c)) R' ∧ ∀ {B : Nat} {w0 w : World} {M : List Blk}, Hp B w0 w (R ++ M) → Hp B w0 w (R' ++ M) := by
 obtain ⟨hl, ⟨h0, _, _⟩ | ⟨g', off', cap', pre, hv, h1, h2, h3, h4⟩⟩ := h
 ·omega
 ·injection hv with hv _ hc
  injection hv with hv
  injection hv with hg ho _
  subst hg ho hc
  have hm := Nat.mul_le_mul_right c hk
  refine ⟨[⟨g, pre ++ xs.take (k * c), e, off + cap * c⟩], ⟨by rw [List.length_take, hl]; omega, .inr ⟨g, off, cap, pre, rfl, by omega, h2, h3, rfl⟩⟩, fun {B w0 w M} hp => ?_⟩
  subst h4
  refine Hp.less (l2 := xs.drop (k * c)) ?_
  rw [List.append_assoc, List.take_append_drop]; exact hp
theorem zgB (es : List Env) (k : Nat) : (es.flatMap ZI).drop (k * 11) = (es.drop k).flatMap ZI := by
 induction k generalizing es with
 | zero => simp
 | succ k ih =>
  cases es with
  | nil => simp
  | cons e es =>
   rw [List.flatMap_cons, List.drop_succ_cons, ← ih es, show (k + 1) * 11 = 11 + k * 11 by omega, ← List.drop_drop, List.drop_left' (Z8 e)]
theorem zgv (es : List Env) (k : Nat) : (es.flatMap ZI).take (k * 11) = (es.take k).flatMap ZI := by
 have h1 := zgB es k
 have h2 := List.take_append_drop (k * 11) (es.flatMap ZI)
 conv at h2 => rhs; rw [← List.take_append_drop k es, List.flatMap_append]
 rw [h1] at h2
 exact List.append_cancel_right h2
theorem zeX (vw nm bs : Int) (im : ByteArray) (ea : Option Addr) (es : List Env) (n ec : Nat) (hn : es.length = n) (b : Bool) (hb : okC ⟨vw, nm, bs, im, ea, es, ec⟩ = b) (hs : Kv.Small ⟨vw, nm, bs, im, ea, es, ec⟩) (w : World) (ha : zr w ea (es.flatMap ZI)) :
  Calls Tryz.prog 21 #[.agg #[.int .i64 vw, .int .i64 nm, .int .i64 bs, .string im, .slice ea n ec]] w fun e w' => e = .returned (.int .i64 (if b = true then 0 else 1)) ∧ Below w.heap.size w w' := by
 subst hn
 exact zbN vw nm bs im ea es ec b hb hs w ha
theorem zB.cap {e : TypeId} {c n m : Nat} {a : Option Addr} {k : Nat} {xs : List Value} {R : List Blk} (h : zB e c (.slice a n k) m xs R) : m ≤ k := by
 obtain ⟨_, ⟨h0, hv, _, _⟩ | ⟨g, cap, hv, h1, h2, _⟩⟩ := h
 ·omega
 ·injection hv with _ _ hk
  omega
theorem zeB (l : List Env) (a : Option Addr) (n c : Nat) (hn : l.length = n) (hl : n ≤ 100000) (w : World) (ha : zr w a (l.flatMap ZI)) : Calls Tryz.prog 62 #[.slice a n c] w fun e w' => ∃ a c R, e = .returned (.slice a n c) ∧ n ≤ c ∧ zB 38 11 (.slice a n c) n (l.flatMap ZI) R ∧ Hp w.heap.size w w' R := by
 subst hn
 refine (zrw a l.length c hl (l.flatMap ZI) (Ze ZI 11 Z8 l) (by rw [List.all_flatMap]; exact List.all_eq_true.2 fun x _ => rfl) w ha).mono fun e w' h => ?_
 obtain ⟨v, R, h1, h2, h3⟩ := h
 obtain ⟨a', c', rfl, _⟩ := h2.kept
 exact ⟨a', c', R, h1, h2.cap, h2, h3⟩
theorem zop {w : World} {b off : Nat} {es : List Env} (ha : zr w (some ⟨b, off, none⟩) (es.flatMap ZI)) (k j : Nat) : zr w (some ⟨b, off + k * 11, none⟩) (((es.drop k).take j).flatMap ZI) := by
 rw [← zgv, ← zgB]
 intro i v hi
 rw [List.getElem?_take] at hi
 split at hi
 ·rw [List.getElem?_drop] at hi
  obtain ⟨b', off', he, hc⟩ := ha _ _ hi
  injection he with he; injection he with e1 e2; subst e1 e2
  exact ⟨b, off + k * 11, rfl, by rw [Nat.add_assoc]; exact hc⟩
 ·cases hi
open Go.RowKit
theorem zkc (od : Int) (oa : Option Addr) (os : List Ob) (oc : Nat) (nx t0 t1 t2 t3 : Int) (fa : Option Addr) (fs : List Bl) (fc : Nat) (ra : Option Addr) (rs : List Rw) (rc : Nat) (nu vi cl sq kk hh ii nn cc vv tt : Int) (r : Sv × Int × Int)
  (hr : z7 ⟨⟨od, oa, os, oc, nx, t0, t1, t2, t3, fa, fs, fc⟩, ra, rs, rc⟩ ⟨nu, vi, cl, sq, ⟨kk, hh, ii, nn, cc, vv, tt⟩⟩ = r) (hs : Sv.Small ⟨⟨od, oa, os, oc, nx, t0, t1, t2, t3, fa, fs, fc⟩, ra, rs, rc⟩) (w : World) (hx0 : Sv.Is w ⟨⟨od, oa, os, oc, nx, t0, t1, t2, t3, fa, fs, fc⟩, ra, rs, rc⟩) : Calls Tryz.prog 47 #[.agg #[.int .i64 od, .slice oa os.length oc, .int .i64 nx, .int .i64 t0, .int .i64 t1, .int .i64 t2, .int .i64 t3, .slice fa fs.length fc, .slice ra rs.length rc], .agg #[.int .i64 nu, .int .i64 vi, .int .i64 cl, .int .i64 sq, .int .i64 kk, .int .i64 hh, .int .i64 ii, .int .i64 nn, .int .i64 cc, .int .i64 vv, .int .i64 tt]] w (zc1 w r) := by
 subst hr
 cases h1 : stB ⟨⟨od, oa, os, oc, nx, t0, t1, t2, t3, fa, fs, fc⟩, ra, rs, rc⟩ with
 | false =>
  have e : z7 ⟨⟨od, oa, os, oc, nx, t0, t1, t2, t3, fa, fs, fc⟩, ra, rs, rc⟩ ⟨nu, vi, cl, sq, ⟨kk, hh, ii, nn, cc, vv, tt⟩⟩ = (ZL, 1, 0) := by unfold z7; rw [if_neg (by rw [h1]; simp)]
  rw [e]
  exact zf9 od oa os oc nx t0 t1 t2 t3 fa fs fc ra rs rc nu vi cl sq kk hh ii nn cc vv tt hs w hx0 (.inl h1)
 | true =>
  cases h2 : zbn ⟨nu, vi, cl, sq, ⟨kk, hh, ii, nn, cc, vv, tt⟩⟩ with
  | false =>
   have e : z7 ⟨⟨od, oa, os, oc, nx, t0, t1, t2, t3, fa, fs, fc⟩, ra, rs, rc⟩ ⟨nu, vi, cl, sq, ⟨kk, hh, ii, nn, cc, vv, tt⟩⟩ = (ZL, 1, 0) := by unfold z7; rw [if_neg (by rw [h2]; simp)]
   rw [e]
   exact zf9 od oa os oc nx t0 t1 t2 t3 fa fs fc ra rs rc nu vi cl sq kk hh ii nn cc vv tt hs w hx0 (.inr ⟨h1, h2⟩)
  | true =>
   have e : z7 ⟨⟨od, oa, os, oc, nx, t0, t1, t2, t3, fa, fs, fc⟩, ra, rs, rc⟩ ⟨nu, vi, cl, sq, ⟨kk, hh, ii, nn, cc, vv, tt⟩⟩ = zaw ⟨⟨od, oa, os, oc, nx, t0, t1, t2, t3, fa, fs, fc⟩, ra, rs, rc⟩ cl sq ⟨kk, hh, ii, nn, cc, vv, tt⟩ := by unfold z7; rw [if_pos ⟨h1, h2⟩]
   rw [e]
   have hst := zdh h1
   obtain ⟨⟨⟨r1, r2, r3, r4⟩, b⟩, hf⟩ : ∃ q, zad rs cl = q := ⟨_, rfl⟩
   unfold zaw
   simp only [hf]
   by_cases hA : sq < r2
   ·rw [if_pos hA]
    exact zc6 od oa os oc nx t0 t1 t2 t3 fa fs fc ra rs rc nu vi cl sq kk hh ii nn cc vv tt hs w hx0 h1 h2 r1 r2 r3 r4 b hf 0 130 0 (.inl ⟨decide_eq_true hA, rfl, rfl⟩)
   ·rw [if_neg hA]
    by_cases hC : cl = 0
    ·rw [if_pos (.inl hC)]
     exact zc6 od oa os oc nx t0 t1 t2 t3 fa fs fc ra rs rc nu vi cl sq kk hh ii nn cc vv tt hs w hx0 h1 h2 r1 r2 r3 r4 b hf 0 r3 r4 (.inr (.inl ⟨decide_eq_false hA, by simp [hC], rfl, rfl⟩))
    ·by_cases hE : r2 = sq
     ·rw [if_pos (.inr hE)]
      exact zc6 od oa os oc nx t0 t1 t2 t3 fa fs fc ra rs rc nu vi cl sq kk hh ii nn cc vv tt hs w hx0 h1 h2 r1 r2 r3 r4 b hf 0 r3 r4 (.inr (.inr ⟨decide_eq_false hA, by simp [hC], by simp [hE], rfl, rfl⟩))
     ·rw [if_neg (by intro h; rcases h with h | h; exact hC h; exact hE h)]
      obtain ⟨⟨s, c, v⟩, hd⟩ : ∃ q, doC ⟨od, oa, os, oc, nx, t0, t1, t2, t3, fa, fs, fc⟩ ⟨kk, hh, ii, nn, cc, vv, tt⟩ = q := ⟨_, rfl⟩
      have hd' : doP ⟨od, oa, os, oc, nx, t0, t1, t2, t3, fa, fs, fc⟩ ⟨kk, hh, ii, nn, cc, vv, tt⟩ = (s, c, v) := by rw [zgz hst.hv]; exact hd
      rw [hd]
      obtain ⟨k, hat⟩ := zsG (zd3 hst.rows) cl
      cases hb : zcf rs cl k with
      | true => exact zjg od oa os oc nx t0 t1 t2 t3 fa fs fc ra rs rc nu vi cl sq kk hh ii nn cc vv tt hs w hx0 h1 h2 r1 r2 r3 r4 b hf s c v (decide_eq_false hA) (by simp [hC]) (by simp [hE]) hd' k hat hb
      | false => exact zji od oa os oc nx t0 t1 t2 t3 fa fs fc ra rs rc nu vi cl sq kk hh ii nn cc vv tt hs w hx0 h1 h2 r1 r2 r3 r4 b hf s c v (decide_eq_false hA) (by simp [hC]) (by simp [hE]) hd' k hat hb
theorem zgx (odx : Int) (oax : Option Addr) (osx : List Ob) (ocx : Nat) (nxx t0x t1x t2x t3x : Int) (fax : Option Addr) (fsx : List Bl) (fcx : Nat) (rax : Option Addr) (rsx : List Rw) (rcx : Nat) (ody : Int) (oay : Option Addr) (osy : List Ob) (ocy : Nat) (nxy t0y t1y t2y t3y : Int) (fay : Option Addr) (fsy : List Bl) (fcy : Nat) (ray : Option Addr) (rsy : List Rw) (rcy : Nat) (hs : Sv.Small ⟨⟨odx, oax, osx, ocx, nxx, t0x, t1x, t2x, t3x, fax, fsx, fcx⟩, rax, rsx, rcx⟩) (hxy : Sv.Sm ⟨⟨odx, oax, osx, ocx, nxx, t0x, t1x, t2x, t3x, fax, fsx, fcx⟩, rax, rsx, rcx⟩ ⟨⟨ody, oay, osy, ocy, nxy, t0y, t1y, t2y, t3y, fay, fsy, fcy⟩, ray, rsy, rcy⟩) (w : World) (hx0 : Sv.Is w ⟨⟨odx, oax, osx, ocx, nxx, t0x, t1x, t2x, t3x, fax, fsx, fcx⟩, rax, rsx, rcx⟩) (hy0 : Sv.Is w ⟨⟨ody, oay, osy, ocy, nxy, t0y, t1y, t2y, t3y, fay, fsy, fcy⟩, ray, rsy, rcy⟩) :
  Calls Tryz.prog 39 #[.agg #[.int .i64 odx, .slice oax osx.length ocx, .int .i64 nxx, .int .i64 t0x, .int .i64 t1x, .int .i64 t2x, .int .i64 t3x, .slice fax fsx.length fcx, .slice rax rsx.length rcx], .agg #[.int .i64 ody, .slice oay osy.length ocy, .int .i64 nxy, .int .i64 t0y, .int .i64 t1y, .int .i64 t2y, .int .i64 t3y, .slice fay fsy.length fcy, .slice ray rsy.length rcy]] w fun e w' => e = .returned (.bool true) ∧ Below w.heap.size w w' := zsX _ _ hs hxy w hx0 hy0
theorem zf5 (od : Int) (oa : Option Addr) (os : List Ob) (oc : Nat) (nx t0 t1 t2 t3 : Int) (fa : Option Addr) (fs : List Bl) (fc : Nat) (ra : Option Addr) (rs : List Rw) (rc : Nat) (w : World) (hx0 : Sv.Is w ⟨⟨od, oa, os, oc, nx, t0, t1, t2, t3, fa, fs, fc⟩, ra, rs, rc⟩) : Calls Tryz.prog 32 #[.agg #[.int .i64 od, .slice oa os.length oc, .int .i64 nx, .int .i64 t0, .int .i64 t1, .int .i64 t2, .int .i64 t3, .slice fa fs.length fc, .slice ra rs.length rc]] w (zj0 w ⟨⟨od, oa, os, oc, nx, t0, t1, t2, t3, fa, fs, fc⟩, ra, rs, rc⟩) := ztu _ w hx0
theorem zaF {x : Sv} (hx : StR x) {e : Env} (he : zbn e = true) : z7 x e = zaw x e.cl e.sq ⟨e.op.k, e.op.h, e.op.i, e.op.n, e.op.m, e.op.v, e.op.t⟩ := by unfold z7; rw [if_pos ⟨zd2 hx, he⟩]
theorem zd0 {x y : Sv} (h : x.Sm y) (e : Env) : (z7 x e).2 = (z7 y e).2 ∧ (z7 x e).1.Sm (z7 y e).1 := by
 unfold z7
 rw [zea h]
 split
 ·exact zmV h _ _ _
 ·exact ⟨rfl, Hv.Sm.refl _, rfl⟩
theorem zey {e : Env} (h : zbn e = true) : 1 ≤ e.nu ∧ e.nu ≤ 900000000 ∧ 0 ≤ e.vi ∧ e.vi ≤ 900000000 ∧ ((e.cl = 0 ∧ e.sq = 0) ∨ (e.cl ≠ 0 ∧ 1 ≤ e.cl ∧ e.cl ≤ 4 ∧ 1 ≤ e.sq ∧ e.sq ≤ 1000000)) := by
 unfold zbn inM at h
 by_cases hc : e.cl = 0
 ·simp only [hc, if_true] at h; simp at h; omega
 ·simp only [hc, if_false] at h; simp at h; omega
theorem zbV {x : Sv} (hx : StR x) {e : Env} (he : zbn e = true) : StR (z7 x e).1 := by
 rw [zaF hx he]
 refine ziH hx _ ?_
 have := zey he
 omega
theorem zeH : ZL.Small := ⟨zk9, by simp [ZL]⟩
theorem zs4 {x : Sv} {e : Env} (hx : StR x) (he : zbn e = true) (hc : e.cl ≠ 0) :
  (e.sq ≤ (zad x.rs e.cl).1.s ∧ (z7 x e).1 = x) ∨ ((zad x.rs e.cl).1.s < e.sq ∧ (z7 x e).2 = (doP x.hv ⟨e.op.k, e.op.h, e.op.i, e.op.n, e.op.m, e.op.v, e.op.t⟩).2 ∧ (z7 x e).1.hv = (doP x.hv ⟨e.op.k, e.op.h, e.op.i, e.op.n, e.op.m, e.op.v, e.op.t⟩).1 ∧
   zad (z7 x e).1.rs e.cl = (⟨e.cl, e.sq, (z7 x e).2.1, (z7 x e).2.2⟩, true) ∧ ∀ c, c ≠ e.cl → zad (z7 x e).1.rs c = zad x.rs c) := by
 rw [zaF hx he, zgz hx.hv]
 generalize (⟨e.op.k, e.op.h, e.op.i, e.op.n, e.op.m, e.op.v, e.op.t⟩ : Opd) = o
 by_cases hA : e.sq < (zad x.rs e.cl).1.s
 ·left; exact ⟨by omega, by unfold zaw; rw [if_pos hA]⟩
 ·by_cases hB : (zad x.rs e.cl).1.s = e.sq
  ·left; exact ⟨by omega, by unfold zaw; rw [if_neg hA, if_pos (.inr hB)]⟩
  ·right
   have e1 : zaw x e.cl e.sq o = ({ x with hv := (doC x.hv o).1, rs := zak x.rs ⟨e.cl, e.sq, (doC x.hv o).2.1, (doC x.hv o).2.2⟩ }, (doC x.hv o).2.1, (doC x.hv o).2.2) := by unfold zaw; rw [if_neg hA, if_neg (by omega)]
   rw [e1]
   refine ⟨by omega, rfl, rfl, ?_, fun c hne => ?_⟩
   ·simp only; rw [zeU hx.rows, if_pos rfl]
   ·simp only; rw [zeU hx.rows, if_neg (Ne.symm hne)]
theorem zsT {x : Sv} {e : Env} (hx : StR x) (he : zbn e = true) : StR (z7 x e).1 ∧ (z7 x e).1.rs.length ≤ 4 ∧
  ∀ c, (zad x.rs c).1.s ≤ (zad (z7 x e).1.rs c).1.s ∧ (c ≠ e.cl → (zad (z7 x e).1.rs c).1 = (zad x.rs c).1) := by
 have hr := zbV hx he
 refine ⟨hr, by have := zcd hr.rows (by decide); omega, fun c => ?_⟩
 by_cases hc : e.cl = 0
 ·have e1 : (z7 x e).1 = x := by
   rw [zaF hx he]; unfold zaw; split
   ·rfl
   ·rw [if_pos (.inl hc)]
  rw [e1]; exact ⟨Int.le_refl _, fun _ => rfl⟩
 ·rcases zs4 hx he hc with ⟨_, e1⟩ | ⟨h1, _, _, h4, h5⟩
  ·rw [e1]; exact ⟨Int.le_refl _, fun _ => rfl⟩
  ·by_cases hcc : c = e.cl
   ·subst hcc; rw [h4]; exact ⟨by simp only; omega, fun h => absurd rfl h⟩
   ·rw [h5 c hcc]; exact ⟨Int.le_refl _, fun _ => rfl⟩
noncomputable def za2 (s : Sv) : List Env → Sv
 | [] => s
 | e :: r => za2 (z7 s e).1 r
theorem zhH (e : Env) : ∀ (l : List Env) (s : Sv), za2 s (l ++ [e]) = (z7 (za2 s l) e).1
 | [], s => rfl
 | x :: l, s => zhH e l (z7 s x).1
theorem zkg (k : List Env) : ∀ (l : List Env) (s : Sv), za2 s (l ++ k) = za2 (za2 s l) k
 | [], s => rfl
 | x :: l, s => zkg k l (z7 s x).1
def zlR (e : Env) (p : Int × Int) : List Rw := if e.cl = 0 then [] else [⟨e.cl, e.sq, p.1, p.2⟩]
noncomputable def zbu (s : Sv) : List Env → List Rw
 | [] => []
 | e :: r => zlR e (z7 s e).2 ++ zbu (z7 s e).1 r
theorem ziC (e : Env) (r : List Env) (s : Sv) : zbu s (e :: r) = zlR e (z7 s e).2 ++ zbu (z7 s e).1 r := rfl
theorem znH (e : Env) (r : List Env) (s : Sv) : za2 s (e :: r) = za2 (z7 s e).1 r := rfl
theorem zgM (k : List Env) : ∀ (l : List Env) (s : Sv), zbu s (l ++ k) = zbu s l ++ zbu (za2 s l) k
 | [], s => rfl
 | x :: l, s => by
  rw [List.cons_append, ziC, ziC, znH, zgM k l, List.append_assoc]
theorem zmG (e : Env) (l : List Env) (s : Sv) : zbu s (l ++ [e]) = zbu s l ++ zlR e (z7 (za2 s l) e).2 := by
 rw [zgM]; unfold zbu zbu; rw [List.append_nil]
theorem zbC {s : Sv} (hs : StR s) : ∀ {l : List Env}, (∀ e ∈ l, zbn e = true) → StR (za2 s l)
 | [], _ => hs
 | e :: l, h => by
  unfold za2
  exact zbC (s := (z7 s e).1) (zbV hs (h e (by simp))) (fun x hx => h x (by simp [hx]))
theorem zke : ∀ {l : List Env} {x y : Sv}, x.Sm y → (za2 x l).Sm (za2 y l)
 | [], x, y, h => h
 | e :: l, x, y, h => zke (l := l) (zd0 h e).2
theorem zj4 : ∀ {l : List Env} {x y : Sv}, x.Sm y → zbu x l = zbu y l
 | [], x, y, h => rfl
 | e :: l, x, y, h => by
  unfold zbu
  rw [(zd0 h e).1, zj4 (l := l) (zd0 h e).2]
def Dn (x : Sv) (e : Env) (p : Int × Int) : Prop := (e.cl = 0 ∧ p = (0, 0)) ∨ (e.cl ≠ 0 ∧ ((e.sq < (zad x.rs e.cl).1.s ∧ p = (130, 0)) ∨ ((zad x.rs e.cl).1.s = e.sq ∧ p = ((zad x.rs e.cl).1.e, (zad x.rs e.cl).1.v))))
theorem zkr {x : Sv} (hx : StR x) {e : Env} (he : zbn e = true) {p : Int × Int} (h : Dn x e p) : z7 x e = (x, p) := by
 rw [zaF hx he]
 have hm := zey he
 unfold zaw
 rcases h with ⟨h1, h2⟩ | ⟨h1, ⟨h2, h3⟩ | ⟨h2, h3⟩⟩
 ·rw [h1, zgS hx.rows 0 (Int.le_refl _)]
  simp only
  rw [if_neg (by omega), if_pos (by simp), h2]
 ·rw [if_pos h2, h3]
 ·rw [if_neg (by omega), if_pos (.inr h2), h3]
theorem zrp {x : Sv} (hx : StR x) {e : Env} (he : zbn e = true) : Dn (z7 x e).1 e (z7 x e).2 := by
 have hm := zey he
 by_cases hc : e.cl = 0
 ·left
  refine ⟨hc, ?_⟩
  rw [zaF hx he]
  unfold zaw
  rw [hc, zgS hx.rows 0 (Int.le_refl _)]
  simp only
  rw [if_neg (by omega), if_pos (by simp)]
 ·right
  refine ⟨hc, ?_⟩
  rw [zaF hx he]
  generalize (⟨e.op.k, e.op.h, e.op.i, e.op.n, e.op.m, e.op.v, e.op.t⟩ : Opd) = o
  by_cases hA : e.sq < (zad x.rs e.cl).1.s
  ·left
   unfold zaw
   rw [if_pos hA]
   exact ⟨hA, rfl⟩
  ·right
   by_cases hB : (zad x.rs e.cl).1.s = e.sq
   ·unfold zaw
    rw [if_neg hA, if_pos (.inr hB)]
    exact ⟨hB, rfl⟩
   ·unfold zaw
    rw [if_neg hA, if_neg (by omega)]
    simp only
    rw [zeU hx.rows, if_pos rfl]
    exact ⟨rfl, rfl⟩
theorem zq1 {x : Sv} (hx : StR x) {e e' : Env} (he' : zbn e' = true) (hne : e.cl ≠ e'.cl) {p : Int × Int} (h : Dn x e p) : Dn (z7 x e').1 e p := by
 unfold Dn at h ⊢
 rw [((zsT hx he').2.2 e.cl).2 hne]
 exact h
theorem zp3 {e : Env} {p : Int × Int} : ∀ {l : List Env} {x : Sv}, StR x → (∀ y ∈ l, zbn y = true) → (∀ y ∈ l, e.cl ≠ y.cl) → Dn x e p → Dn (za2 x l) e p
 | [], x, _, _, _, h => h
 | y :: l, x, hx, hm, hn, h => by
  have hy := hm y (by simp)
  exact zp3 (l := l) (x := (z7 x y).1) (zbV hx hy) (fun z hz => hm z (by simp [hz])) (fun z hz => hn z (by simp [hz])) (zq1 hx hy (hn y (by simp)) h)
theorem zir : ∀ {l : List Env} {x : Sv}, StR x → (∀ y ∈ l, zbn y = true) → l.Pairwise (fun a b => a.cl ≠ b.cl) → za2 (za2 x l) l = za2 x l ∧ zbu (za2 x l) l = zbu x l
 | [], x, _, _, _ => ⟨rfl, rfl⟩
 | e :: l, x, hx, hm, hp => by
  have he := hm e (by simp)
  rw [List.pairwise_cons] at hp
  have hx1 := zbV hx he
  have hml : ∀ y ∈ l, zbn y = true := fun y hy => hm y (by simp [hy])
  obtain ⟨h1, h2⟩ := zir (l := l) hx1 hml hp.2
  have hd := zp3 hx1 hml hp.1 (zrp hx he)
  have ha := zkr (zbC hx1 hml) he hd
  have e1 : za2 x (e :: l) = za2 (z7 x e).1 l := rfl
  constructor
  ·rw [e1]
   show za2 (z7 (za2 (z7 x e).1 l) e).1 l = _
   rw [ha]; exact h1
  ·rw [e1]
   show zlR e (z7 (za2 (z7 x e).1 l) e).2 ++ zbu (z7 (za2 (z7 x e).1 l) e).1 l = zlR e (z7 x e).2 ++ zbu (z7 x e).1 l
   rw [ha, h2]
noncomputable def zaO (x : Sv) (l : List Env) : Sv × List Rw := if stB x = true ∧ (∀ e ∈ l, zbn e = true) then (za2 x l, zbu x l) else (ZL, [])
theorem zoo : stB ZL = false := by unfold stB; rw [show ZL.hv = zah from rfl, zje]; rfl
open Go.RowKit
theorem zr.fixC {w : World} {b off : Nat} {xs : List Value} (h : zr w (some ⟨b, off, none⟩) xs) : ∀ j v, xs[j]? = some v → w.cell? ⟨b, off + j, none⟩ = some v := fun j v hj => by
 obtain ⟨b', off', he, hc⟩ := h j v hj
 injection he with he; injection he with e1 e2; subst e1; subst e2; exact hc
theorem zqK {l k : List Ob} (h : Z4 l k) : l.flatMap obB = k.flatMap obB := by
 have : l.map obB = k.map obB := by
  apply List.ext_getElem?
  intro i
  rw [List.getElem?_map, List.getElem?_map]
  rcases Nat.lt_or_ge i l.length with hi | hi
  ·have ha := List.getElem?_eq_getElem hi
   have hb := List.getElem?_eq_getElem (l := k) (i := i) (by have := h.1; omega)
   obtain ⟨h1, h2, h3, h4, h5⟩ := h.2 i _ _ ha hb
   rw [ha, hb]
   simp only [Option.map_some, obB, h1, h2, h4, h5]
  ·rw [List.getElem?_eq_none hi, List.getElem?_eq_none (by have := h.1; omega)]
 rw [List.flatMap_def, List.flatMap_def, this]
theorem zpe {x y : Hv} (h : x.Sm y) : zdg x = zdg y := by
 unfold zdg zip
 rw [h.od, h.nx, h.t0, h.t1, h.t2, h.t3, zqK h.os, h.os.1]
theorem zm9 {x y : Sv} (h : x.Sm y) : zec x = zec y := by
 unfold zec; rw [zpe h.1, h.2]
theorem HvO.kept {y : Hv} {R : List Blk} (h : HvO y R) : ZD R fun w => y.Is w := by
 obtain ⟨RO, RF, M, rfl, h⟩ := h
 exact h.kept
theorem zM.cap {e : TypeId} {c n m : Nat} {a : Option Addr} {k : Nat} {xs : List Value} {R : List Blk} (h : zM e c (.slice a n k) m xs R) (hn : n = m) : m ≤ k := by
 obtain ⟨a', k', hv, hk, _⟩ := h.kept
 injection hv with _ _ hk'
 omega
def b28 : List Nat := [0, 0, 0, 3, 0, 0, 0, 1, 0, 0, 0, 0, 0, 0, 0, 0, 0, 0, 0, 0, 0, 0, 0, 0, 0, 0, 0, 0]
theorem zlP : Zr (zdf 3) = true := zln (by decide) (by decide)
end Go.Proofs.YtjcbpfbifbfkcaaGreat

import Derived.Test.YtaafajaadfgaoaaGreatTb3
import Derived.Test.YtaafajaadfgaoaaGreatTb19
import Derived.Test.YtaafajaadfgaoaaGreatTb17
import Derived.Test.YtaafajaadfgaoaaGreatTb2
import Derived.Test.YtaafajaadfgaoaaGreatTb12
import Derived.Defers
import Derived.Recover
import Derived.Lib.ConvBytes
import Derived.Test.YtaafajaadfgaoaaGreatTb21
set_option linter.unusedSimpArgs false
set_option linter.unusedVariables false
set_option maxRecDepth 100000
set_option maxHeartbeats 60000000
namespace Go.Proofs.YtaafajaadfgaoaaGreat
open Go.RowKit
def I64 (v : Int) : Prop := -9223372036854775808 ≤ v ∧ v ≤ 9223372036854775807
def zop (o : Ob) : Ob := zip o.h o.p o.o o.ws o.ls
theorem zau.clear (l : List Ob) : zau (l.map zop) l := by
 refine ⟨by simp, fun i a b ha hb => ?_⟩
 rw [List.getElem?_map, hb] at ha
 simp only [Option.map_some, Option.some.injEq] at ha
 subst ha
 exact ⟨rfl, rfl, rfl, rfl, rfl⟩
def Hv.W64 (x : Hv) : Prop := ∀ o ∈ x.os, ∀ v ∈ o.ws, I64 v
structure Sv.W64 (x : Sv) : Prop where
 hv : x.hv.W64
 rows : ∀ r ∈ x.rs, I64 r.v
open Go.RowKit Go.ChangeShapes Go.WideShapes Go.ChangeAt Go.Deep
section
variable {H : Type} {enc : TypeId × Value → H} {w : World} {base : Nat} {spare : Nat → Bool} {held : Bool} {cs : List Value}
theorem zie {n : Int} (h : IntKind.i64.has n) : I64 n := by
 have h5 : IntKind.i64.max = 9223372036854775807 := by decide
 have h6 : IntKind.i64.min = -9223372036854775808 := by decide
 have h7 := h.1
 have h8 := h.2
 rw [h6] at h7
 rw [h5] at h8
 exact ⟨h7, h8⟩
theorem zjV (h : zbh H enc Tryz.prog w base spare held 3 cs) : ∃ x, cs = iV x ∧ I64 x := by
 obtain ⟨n, rfl, hn⟩ := h.int Tryz.underlying3
 exact ⟨n, rfl, zie hn⟩
theorem ziu (h : zbh H enc Tryz.prog w base spare held 122 cs) : ∃ (a : Option Addr) (l : List Int) (c : Nat), cs = [.slice a l.length c] ∧ zD w a (l.flatMap iV) ∧ ∀ v ∈ l, I64 v := h.slice iV I64 1 (by decide) zby Tryz.underlying122 (by kernel_rfl) (fun cs h => zjV h)
theorem zlf (h : zbh H enc Tryz.prog w base spare held 126 cs) : ∃ x, cs = obV x ∧ x.Is w ∧ ∀ v ∈ x.ws, I64 v := by
 obtain ⟨hl, hz⟩ := h.struct Tryz.underlying126
 rw [show Tryz.prog.cellsOf 126 = 5 by kernel_rfl] at hl
 match cs, hl with
 | [v0, v1, v2, v3, v4], _ =>
  obtain ⟨a, ha, _⟩ := (hz 0 _ rfl 0 1 rfl (by kernel_rfl)).int Tryz.underlying3
  obtain ⟨⟨p, o⟩, hb, _⟩ := zjd (hz 1 _ rfl 1 2 rfl (by kernel_rfl))
  obtain ⟨wa, ws, wc, hw, hw2, hw3⟩ := ziu (hz 2 _ rfl 3 1 rfl (by kernel_rfl))
  obtain ⟨la, ls, lc, hk, hk2⟩ := zjW (hz 3 _ rfl 4 1 rfl (by kernel_rfl))
  simp [blV] at ha hb hw hk
  obtain ⟨hb1, hb2⟩ := hb
  subst ha hb1 hb2 hw hk
  exact ⟨⟨a, p, o, wa, ws, wc, la, ls, lc⟩, rfl, ⟨hw2, hk2⟩, hw3⟩
theorem zjX (h : zbh H enc Tryz.prog w base spare held 120 cs) : ∃ x, cs = rwV x ∧ I64 x.v := by
 obtain ⟨hl, hz⟩ := h.struct Tryz.underlying120
 rw [show Tryz.prog.cellsOf 120 = 4 by kernel_rfl] at hl
 match cs, hl with
 | [v0, v1, v2, v3], _ =>
  obtain ⟨a, ha, _⟩ := (hz 0 _ rfl 0 1 rfl (by kernel_rfl)).int Tryz.underlying3
  obtain ⟨b, hb, _⟩ := (hz 1 _ rfl 1 1 rfl (by kernel_rfl)).int Tryz.underlying3
  obtain ⟨hl2, hz2⟩ := (hz 2 _ rfl 2 2 rfl (by kernel_rfl)).struct Tryz.underlying54
  obtain ⟨c, hc, _⟩ := (hz2 0 _ rfl 0 1 rfl (by kernel_rfl)).int Tryz.underlying37
  obtain ⟨d, hd, h64⟩ := (hz2 1 _ rfl 1 1 rfl (by kernel_rfl)).int Tryz.underlying3
  simp at ha hb hc hd
  subst ha hb hc hd
  exact ⟨⟨a, b, c, d⟩, rfl, zie h64⟩
end
open Go.RowKit Go.ChangeShapes Go.WideShapes Go.ChangeAt Go.Deep
section
variable {H : Type} {enc : TypeId × Value → H} {w : World} {base : Nat} {spare : Nat → Bool} {held : Bool} {cs : List Value}
theorem zit (h : zbh H enc Tryz.prog w base spare held 47 cs) : ∃ x : Hv, cs = hvL x ∧ ((x.Is w ∧ x.W64) ∧ x.nx ≤ 9223372036854775807) := by
 obtain ⟨hl, hz⟩ := h.struct Tryz.underlying47
 rw [show Tryz.prog.cellsOf 47 = 8 by kernel_rfl] at hl
 match cs, hl with
 | [v0, v1, v2, v3, v4, v5, v6, v7], _ =>
  obtain ⟨od, h0, _⟩ := (hz 0 _ rfl 0 1 rfl (by kernel_rfl)).int Tryz.underlying3
  obtain ⟨oa, os, oc, h1, h1r, h1g⟩ := (hz 1 _ rfl 1 1 rfl (by kernel_rfl)).slice obV (fun x => x.Is w ∧ ∀ v ∈ x.ws, I64 v) 5 (by decide) Zm Tryz.underlying43 (by kernel_rfl) (fun cs h => zlf h)
  obtain ⟨nx, h2, h64⟩ := (hz 2 _ rfl 2 1 rfl (by kernel_rfl)).int Tryz.underlying3
  obtain ⟨t0, t1, t2, t3, h3⟩ := (hz 3 _ rfl 3 4 rfl (by kernel_rfl)).four Tryz.underlying44 Tryz.underlying3 (by kernel_rfl) (by kernel_rfl)
  obtain ⟨fa, fs, fc, h4, h4r⟩ := zld (hz 4 _ rfl 7 1 rfl (by kernel_rfl))
  simp at h0 h1 h2 h3 h4
  obtain ⟨h30, h31, h32, h33⟩ := h3
  subst h0 h1 h2 h30 h31 h32 h33 h4
  exact ⟨⟨od, oa, os, oc, nx, t0, t1, t2, t3, fa, fs, fc⟩, rfl, ⟨⟨h1r, fun o ho => (h1g o ho).1, h4r⟩, fun o ho => (h1g o ho).2⟩, (zie h64).2⟩
theorem zhr (h : zbh H enc Tryz.prog w base spare held 50 cs) : ∃ x : Sv, cs = svL x ∧ ((x.Is w ∧ x.W64) ∧ x.hv.nx ≤ 9223372036854775807) := by
 obtain ⟨hl, hz⟩ := h.struct Tryz.underlying50
 rw [show Tryz.prog.cellsOf 50 = 9 by kernel_rfl] at hl
 match cs, hl with
 | [v0, v1, v2, v3, v4, v5, v6, v7, v8], _ =>
  obtain ⟨x, h0, ⟨hx, hx2⟩, hx3⟩ := zit (hz 0 _ rfl 0 8 rfl (by kernel_rfl))
  obtain ⟨ra, rs, rc, h1, h1r, h1g⟩ := (hz 1 _ rfl 8 1 rfl (by kernel_rfl)).slice rwV (fun x => I64 x.v) 4 (by decide) ZP Tryz.underlying48 (by kernel_rfl) (fun cs h => zjX h)
  simp at h0 h1
  refine ⟨⟨x, ra, rs, rc⟩, ?_, ⟨⟨hx, h1r⟩, hx2, h1g⟩, hx3⟩
  simp only [svL]
  rw [← h0, h1]; rfl
end
theorem zfF {x : Sv} (hx : StR x) {e : Env} (he : zdn e = true) : ZT x e = Zg x e.cl e.sq ⟨e.op.k, e.op.h, e.op.i, e.op.n, e.op.m, e.op.v, e.op.t⟩ := by unfold ZT; rw [if_pos ⟨zm0 hx, he⟩]
theorem zcH {x : Sv} {e : Env} (h : stB x = false ∨ zdn e = false) : ZT x e = (zcU, 1, 0) := by
 unfold ZT; rw [if_neg]; rintro ⟨h1, h2⟩; rcases h with h | h
 ·rw [h] at h1; cases h1
 ·rw [h] at h2; cases h2
theorem zgW {x y : Sv} (h : x.Sm y) (e : Env) : (ZT x e).2 = (ZT y e).2 ∧ (ZT x e).1.Sm (ZT y e).1 := by
 unfold ZT
 rw [zmZ h]
 split
 ·exact zkm h _ _ _
 ·exact ⟨rfl, Hv.Sm.refl _, rfl⟩
theorem zfR {e : Env} (h : zdn e = true) : 1 ≤ e.nu ∧ e.nu ≤ 900000000 ∧ 0 ≤ e.vi ∧ e.vi ≤ 900000000 ∧ ((e.cl = 0 ∧ e.sq = 0) ∨ (e.cl ≠ 0 ∧ 1 ≤ e.cl ∧ e.cl ≤ 4 ∧ 1 ≤ e.sq ∧ e.sq ≤ 1000000)) := by
 unfold zdn inM at h
 by_cases hc : e.cl = 0
 ·simp only [hc, if_true] at h; simp at h; omega
 ·simp only [hc, if_false] at h; simp at h; omega
theorem zgV {x : Sv} (hx : StR x) {e : Env} (he : zdn e = true) : StR (ZT x e).1 := by
 rw [zfF hx he]
 refine zdj hx _ ?_
 have := zfR he
 omega
theorem zek : zcU.Small := ⟨zka, by simp [zcU]⟩
theorem zgX (x : Sv) (e : Env) : (ZT x e).1.Small := by
 cases h1 : stB x with
 | false => rw [zcH (.inl h1)]; exact zek
 | true => cases h2 : zdn e with
  | false => rw [zcH (.inr h2)]; exact zek
  | true => exact (zgV (zfb h1) h2).small
theorem zmo {x : Sv} (hx : StR x) {c s : Int} (h1 : 1 ≤ c) (o o2 : Opd) : (Zg (Zg x c s o).1 c s o) = ((Zg x c s o).1, (Zg x c s o).2) ∧ (Zg (Zg x c s o).1 c (s - 1) o2) = ((Zg x c s o).1, 130, 0) := by
 by_cases hA : s < (zaj x.rs c).1.s
 ·have e : Zg x c s o = (x, 130, 0) := by unfold Zg; rw [if_pos hA]
  rw [e]
  refine ⟨by rw [e], ?_⟩
  unfold Zg
  rw [if_pos (by simp only; omega)]
 ·by_cases hB : (zaj x.rs c).1.s = s
  ·have e : Zg x c s o = (x, (zaj x.rs c).1.e, (zaj x.rs c).1.v) := by unfold Zg; rw [if_neg hA, if_pos (.inr hB)]
   rw [e]
   refine ⟨by rw [e], ?_⟩
   unfold Zg
   rw [if_pos (by simp only; omega)]
  ·obtain ⟨r, hr⟩ : ∃ r, doC x.hv o = r := ⟨_, rfl⟩
   have e : Zg x c s o = ({ x with hv := r.1, rs := ZV x.rs ⟨c, s, r.2.1, r.2.2⟩ }, r.2.1, r.2.2) := by unfold Zg; rw [if_neg hA, if_neg (by omega), hr]
   rw [e]
   have hf : zaj (ZV x.rs ⟨c, s, r.2.1, r.2.2⟩) c = (⟨c, s, r.2.1, r.2.2⟩, true) := by rw [ziX hx.rows, if_pos rfl]
   constructor
   ·unfold Zg
    simp only [hf]
    rw [if_neg (by omega), if_pos (by simp)]
   ·unfold Zg
    simp only [hf]
    rw [if_pos (by omega)]
def zcp (c : Int) (x : Rw) (y : Rw) : Bool := decide (y.c = c) && !decide (c = x.c)
def zcz : Nat → Int → List Rw → Rw → List Rw
 | 0, _, _, _ => []
 | n + 1, c, l, x => (l.filter (zcp c x) ++ (if c = x.c then [x] else [])) ++ zcz n (c + 1) l x
theorem zgI {c : Int} {x : Rw} : ∀ {l : List Rw} {last : Int}, Zz last l = true → c ≤ last → l.filter (zcp c x) = []
 | [], _, _, _ => rfl
 | y :: r, last, h, hc => by
  obtain ⟨h1, h2⟩ := Zn.1 h
  have := ZI.1 h1
  rw [List.filter_cons, if_neg (by simp [zcp]; intro h; omega)]
  exact zgI h2 (by omega)
theorem zf4 {y : Rw} {r : List Rw} {x : Rw} : ∀ (n : Nat) (c : Int), y.c < c → zcz n c (y :: r) x = zcz n c r x
 | 0, _, _ => rfl
 | n + 1, c, h => by
  unfold zcz
  rw [zf4 n (c + 1) (by omega), List.filter_cons, if_neg (by simp [zcp]; intro h; omega)]
theorem zeE {x : Rw} : ∀ (n : Nat) (c : Int) (l : List Rw), c + n = 5 → Zz (c - 1) l = true → (c ≤ x.c → x.c ≤ 4 → zcz n c l x = ZV l x) ∧ (x.c < c → zcz n c l x = l)
 | 0, c, l, hc, hl => by
  have hc5 : c = 5 := by simpa using hc
  subst hc5
  refine ⟨fun h1 h2 => by omega, fun _ => ?_⟩
  cases l with
  | nil => rfl
  | cons y r =>
   obtain ⟨h1, _⟩ := Zn.1 hl
   have := ZI.1 h1
   omega
 | n + 1, c, [], hc, hl => by
  have ih := zeE (x := x) n (c + 1) [] (by omega) rfl
  unfold zcz
  refine ⟨fun h1 h2 => ?_, fun h => ?_⟩
  ·by_cases hx : c = x.c
   ·rw [if_pos hx, ih.2 (by omega)]; rfl
   ·rw [if_neg hx, ih.1 (by omega) h2]; rfl
  ·rw [if_neg (by omega), ih.2 (by omega)]; rfl
 | n + 1, c, y :: r, hc, hl => by
  obtain ⟨h1, h2⟩ := Zn.1 hl
  have h1' := ZI.1 h1
  by_cases hy : y.c = c
  ·have ih := zeE (x := x) n (c + 1) r (by omega) (by rw [show c + 1 - 1 = y.c by omega]; exact h2)
   have hf : r.filter (zcp c x) = [] := zgI h2 (by omega)
   unfold zcz
   rw [zf4 n (c + 1) (by omega), List.filter_cons, hf]
   refine ⟨fun g1 g2 => ?_, fun g => ?_⟩
   ·by_cases hx : c = x.c
    ·rw [if_neg (by simp [zcp, hx]), if_pos hx, ih.2 (by omega)]
     unfold ZV
     rw [if_neg (by omega), if_pos (by omega)]; rfl
    ·rw [if_pos (by simp [zcp, hx, hy]), if_neg hx, ih.1 (by omega) g2]
     conv => rhs; unfold ZV
     rw [if_pos (by omega)]; rfl
   ·rw [if_pos (by simp [zcp, hy]; omega), if_neg (by omega), ih.2 (by omega)]; rfl
  ·have hl2 : Zz c (y :: r) = true := Zn.2 ⟨ZI.2 ⟨by omega, h1'.2⟩, h2⟩
   have ih := zeE (x := x) n (c + 1) (y :: r) (by omega) (by rw [show c + 1 - 1 = c by omega]; exact hl2)
   have hf : (y :: r).filter (zcp c x) = [] := zgI hl2 (by omega)
   unfold zcz
   rw [hf]
   refine ⟨fun g1 g2 => ?_, fun g => ?_⟩
   ·by_cases hx : c = x.c
    ·rw [if_pos hx, ih.2 (by omega)]
     unfold ZV
     rw [if_neg (by omega), if_neg (by omega)]; rfl
    ·rw [if_neg hx, ih.1 (by omega) g2]; rfl
   ·rw [if_neg (by omega), ih.2 (by omega)]; rfl
theorem zmG {l : List Rw} {x : Rw} (h : Zz 0 l = true) (h1 : 1 ≤ x.c) (h2 : x.c ≤ 4) : zcz 4 1 l x = ZV l x := (zeE 4 1 l (by decide) (by simpa using h)).1 h1 h2
theorem zlE {l : List Rw} {x : Rw} {c : Int} {j : Nat} {y : Rw} (hj : l[j]? = some y) : (l.take (j + 1)).filter (zcp c x) = (l.take j).filter (zcp c x) ++ if zcp c x y = true then [y] else [] := by
 rw [List.take_add_one, hj, List.filter_append]
 congr 1
 simp [List.filter_cons]
open Go.RowKit
theorem zcf {ty : TypeId} (h : zN Tryz.prog ty = true := by with_reducible first | exact zw | exact Zd | exact zat) : zN Tryz.prog ty = true := h
theorem znW (l : List Rw) (xc xs xe xv : Int) (a : Option Addr) (k : Nat) (hl : l.length ≤ 1000) (w : World) (ha : zD w a (l.flatMap rwV)) :
  Calls Tryz.prog 161 #[.slice a l.length k, .agg #[.int .i64 xc, .int .i64 xs, .int .i64 xe, .int .i64 xv]] w fun e w' => ∃ v R, e = .returned v ∧ zH 120 4 v (zcz 4 1 l (⟨xc, xs, xe, xv⟩ : Rw)).length ((zcz 4 1 l (⟨xc, xs, xe, xv⟩ : Rw)).flatMap rwV) R ∧ Hp w.heap.size w w' R := by
 obtain ⟨i0, hi0, hz0, hz1, hz2⟩ := info_parts zeZ
 obtain ⟨wl, hwl⟩ : ∃ wl, zcz 4 1 l (⟨xc, xs, xe, xv⟩ : Rw) = wl := ⟨_, rfl⟩
 rw [hwl]
 have HWL := z0j hwl
 have hp := Hp.start w
 have HA := z0j ha
 obtain ⟨M0, hM0⟩ : ∃ M0 : List Blk, M0 = [] := ⟨_, rfl⟩
 clear ha hwl
 go_enter Tryz.func161, Tryz.ntmps161
 go_wp2_with (first | go_skip | ((first | ((refine zi _ _ rfl ?_); refine lB hp rfl (zb rfl) rfl ?_; clear hp; intro b w1 hp) | ((refine zg _ _ rfl ?_); first | refine lO hp rfl (zb rfl) zcf aa5 ?_ | refine lA hp rfl (zb rfl) zC aa5 ?_) | ((refine zf _ _ _ rfl ?_); (first | refine sO hp rfl (zb rfl) zcf aa5 ?_ | refine sA hp rfl (zb rfl) (zb rfl) zC aa5 ?_ | refine sG hp rfl (zb rfl) (zb rfl) zC aa5 ?_); clear hp; intro w1 hp; simp only [spl, z0a, z0b] at hp) | ((refine zm _ _ _ rfl ?_); refine lS hp rfl (by intro w; go_simp; rfl) ?_; clear hp; intro b w1 hp; simp only [z0g, z0h, Nat.reduceAdd] at hp)); simp only [ze, zd, z0b, z0a]))
 obtain ⟨bx, rfl⟩ := hp.id0
 go_loopg [5, 6] 4 (fun k v i wr => ∃ (acc : List Rw) (RO : List Blk), i = .int .i64 (5 - (k : Int)) ∧ k ≤ 4 ∧ Hid (acc ++ zcz k (5 - (k : Int)) l (⟨xc, xs, xe, xv⟩ : Rw) = wl) ∧ acc.length ≤ (4 - k) * 1001 ∧ Hid (zH 120 4 v acc.length (acc.flatMap rwV) RO) ∧ Hp w.heap.size w wr (⟨bx, [.int .i64 xc, .int .i64 xs, .int .i64 xe, .int .i64 xv], 120, 4⟩ :: (RO ++ M0)))
 case atStart => exact ⟨[], [], rfl, by omega, z0j (by rw [← HWL.out]; rfl), by simp, z0j (zH.nil _ _), by rw [hM0]; exact hp⟩
 case round =>
  clear hp
  obtain ⟨acc, RO, rfl, hk4, HW, hla, HRO, hp⟩ := hrel
  rcases Nat.eq_zero_or_pos gk with rfl | hpos
  ·have e1 : decide ((5 - ((0 : Nat) : Int)) ≤ 4) = false := by decide
   have hw := HW.out
   unfold zcz at hw
   rw [List.append_nil] at hw
   subst hw
   clear HW
   go_wp2_with (first | go_skip | ((first | ((refine zi _ _ rfl ?_); refine lB hp rfl (zb rfl) rfl ?_; clear hp; intro b w1 hp) | ((refine zg _ _ rfl ?_); first | refine lO hp rfl (zb rfl) zcf aa5 ?_ | refine lA hp rfl (zb rfl) zC aa5 ?_) | ((refine zf _ _ _ rfl ?_); (first | refine sO hp rfl (zb rfl) zcf aa5 ?_ | refine sA hp rfl (zb rfl) (zb rfl) zC aa5 ?_ | refine sG hp rfl (zb rfl) (zb rfl) zC aa5 ?_); clear hp; intro w1 hp; simp only [spl, z0a, z0b] at hp) | ((refine zm _ _ _ rfl ?_); refine lS hp rfl (by intro w; go_simp; rfl) ?_; clear hp; intro b w1 hp; simp only [z0g, z0h, Nat.reduceAdd] at hp)); simp only [ze, zd, z0b, z0a]))
   go_ret
   exact ⟨_, RO, rfl, HRO.out, hp.tail.sub (List.sublist_append_left _ _)⟩
  ·obtain ⟨n, rfl⟩ : ∃ n, gk = n + 1 := ⟨gk - 1, by omega⟩
   obtain ⟨c, hc⟩ : ∃ c : Int, 5 - ((n + 1 : Nat) : Int) = c := ⟨_, rfl⟩
   have hw := HW.out
   unfold zcz at hw
   rw [hc] at hw ⊢
   have HW2 := z0j hw
   have e1 : decide (c ≤ 4) = true := by simp; omega
   have e2 : wrap64 (c + 1) = c + 1 := by unfold wrap64; omega
   have hacc : acc.length ≤ (4 - (n + 1)) * 1001 := hla
   clear HW hw hla hpos
   go_wp2_with (first | go_skip | ((first | ((refine zi _ _ rfl ?_); refine lB hp rfl (zb rfl) rfl ?_; clear hp; intro b w1 hp) | ((refine zg _ _ rfl ?_); first | refine lO hp rfl (zb rfl) zcf aa5 ?_ | refine lA hp rfl (zb rfl) zC aa5 ?_) | ((refine zf _ _ _ rfl ?_); (first | refine sO hp rfl (zb rfl) zcf aa5 ?_ | refine sA hp rfl (zb rfl) (zb rfl) zC aa5 ?_ | refine sG hp rfl (zb rfl) (zb rfl) zC aa5 ?_); clear hp; intro w1 hp; simp only [spl, z0a, z0b] at hp) | ((refine zm _ _ _ rfl ?_); refine lS hp rfl (by intro w; go_simp; rfl) ?_; clear hp; intro b w1 hp; simp only [z0g, z0h, Nat.reduceAdd] at hp)); simp only [ze, zd, z0b, z0a]))
   clear e1
   go_loopg [5, 7] l.length (fun k v i wr => ∃ (j : Nat) (ac2 : List Rw) (RO : List Blk), k + j = l.length ∧ i = .int .i64 j ∧ Hid (ac2 = acc ++ (l.take j).filter (zcp c (⟨xc, xs, xe, xv⟩ : Rw))) ∧ ac2.length ≤ acc.length + j ∧ Hid (zH 120 4 v ac2.length (ac2.flatMap rwV) RO) ∧ Hp w.heap.size w wr (⟨bx, [.int .i64 xc, .int .i64 xs, .int .i64 xe, .int .i64 xv], 120, 4⟩ :: (RO ++ M0)))
   case atStart => exact ⟨0, acc, RO, by omega, rfl, z0j (by simp), by omega, HRO, hp⟩
   case round =>
    clear hp HRO
    obtain ⟨j, ac2, RO, hkj, rfl, HA2, hla, HRO, hp⟩ := hrel
    by_cases hlt : j < l.length
    ·obtain ⟨bq, off, rfl, hx⟩ := HA.out.elems 4 ZP (by omega) (by omega)
     have hj := List.getElem?_eq_getElem hlt
     have hst := zlE (x := (⟨xc, xs, xe, xv⟩ : Rw)) (c := c) hj
     replace hx := hx j _ hj
     clear hj
     generalize l[j] = y at hx hst
     obtain ⟨yc, ys, ye, yv⟩ := y
     simp only [rwV] at hx
     have HX := z0j hx
     have HST := z0j hst
     have HL1 : Hid (ac2.length + 1 ≤ maxLen) := z0j (by unfold maxLen; omega)
     have HL2 : Hid ((ac2.length + 1) * 32 ≤ 140737488355328) := z0j (by omega)
     have f1 : (0 : Int) ≤ (j : Int) := by omega
     have f2 : (j : Int) < (l.length : Int) := by omega
     clear hx hst
     by_cases h1 : yc = c
     ·have d1 : (yc == c) = true := by simp [h1]
      by_cases h2 : c = xc
      ·have d2 : (c == xc) = true := by simp [h2]
       have HF : Hid (zcp c (⟨xc, xs, xe, xv⟩ : Rw) ⟨yc, ys, ye, yv⟩ = false) := z0j (by simp [zcp, h1, h2])
       clear h1 h2
       go_wp2_with (first | go_skip | ((first | ((refine zi _ _ rfl ?_); refine lB hp rfl (zb rfl) rfl ?_; clear hp; intro b w1 hp) | ((refine zg _ _ rfl ?_); first | refine lO hp rfl (zb rfl) zcf aa5 ?_ | first | refine lRO hp rfl (zb rfl) zcf (HX.out 0 _ rfl) ?_ | refine lA hp rfl (zb rfl) zC aa5 ?_ | refine lR hp rfl (zb rfl) zC HX.out ?_) | ((refine zf _ _ _ rfl ?_); (first | refine sO hp rfl (zb rfl) zcf aa5 ?_ | refine sA hp rfl (zb rfl) (zb rfl) zC aa5 ?_ | refine sG hp rfl (zb rfl) (zb rfl) zC aa5 ?_); clear hp; intro w1 hp; simp only [spl, z0a, z0b] at hp) | ((refine zm _ _ _ rfl ?_); refine lS hp rfl (by intro w; go_simp; rfl) ?_; clear hp; intro b w1 hp; simp only [z0g, z0h, Nat.reduceAdd] at hp)); simp only [ze, zd, z0b, z0a]))
       go_roundg (gk - 1)
       case measure => omega
       case rel => exact ⟨j + 1, ac2, RO, by omega, by go_num, z0j (by rw [HST.out, HA2.out, HF.out]; simp), by omega, HRO, hp⟩
      ·have d2 : (c == xc) = false := by simp [h2]
       have HF : Hid (zcp c (⟨xc, xs, xe, xv⟩ : Rw) ⟨yc, ys, ye, yv⟩ = true) := z0j (by simp [zcp, h1, h2])
       clear h1 h2
       go_wp2_with (first | ((refine zM _ _ 48 rfl ?_); refine zG (K := [_]) (R := RO) (M := M0) hp _ _ _ rfl wy i0 _ 32 Tryz.underlying48 hi0 hz0 hz1 hz2 rfl (by decide) (zb rfl) HRO.out 1 1 (zb rfl) (by rfl) (by decide) (by rfl) HL1.out HL2.out ?_; clear hp HRO; intro v' R' w1 hR' hp; obtain ⟨av, kv, rfl, _⟩ := hR'.kept; have HR' := z0j hR'; clear hR'; simp only [z0f, z0e, List.append_nil] at hp; simp only [ze, zd, z0b, z0a]) | go_skip | ((first | ((refine zi _ _ rfl ?_); refine lB hp rfl (zb rfl) rfl ?_; clear hp; intro b w1 hp) | ((refine zg _ _ rfl ?_); first | refine lO hp rfl (zb rfl) zcf aa5 ?_ | first | refine lRO hp rfl (zb rfl) zcf (HX.out 0 _ rfl) ?_ | refine lA hp rfl (zb rfl) zC aa5 ?_ | refine lR hp rfl (zb rfl) zC HX.out ?_) | ((refine zf _ _ _ rfl ?_); (first | refine sO hp rfl (zb rfl) zcf aa5 ?_ | refine sA hp rfl (zb rfl) (zb rfl) zC aa5 ?_ | refine sG hp rfl (zb rfl) (zb rfl) zC aa5 ?_); clear hp; intro w1 hp; simp only [spl, z0a, z0b] at hp) | ((refine zm _ _ _ rfl ?_); refine lS hp rfl (by intro w; go_simp; rfl) ?_; clear hp; intro b w1 hp; simp only [z0g, z0h, Nat.reduceAdd] at hp)); simp only [ze, zd, z0b, z0a]))
       go_roundg (gk - 1)
       case measure => omega
       case rel => exact ⟨j + 1, ac2 ++ [⟨yc, ys, ye, yv⟩], R', by omega, by go_num, z0j (by rw [HST.out, HA2.out, HF.out, if_pos rfl, List.append_assoc]), by rw [List.length_append]; simp only [z0g, z0h]; omega, z0j (by rw [List.length_append, List.flatMap_append]; exact HR'.out), hp⟩
     ·have d1 : (yc == c) = false := by simp [h1]
      have HF : Hid (zcp c (⟨xc, xs, xe, xv⟩ : Rw) ⟨yc, ys, ye, yv⟩ = false) := z0j (by simp [zcp, h1])
      clear h1
      go_wp2_with (first | go_skip | ((first | ((refine zi _ _ rfl ?_); refine lB hp rfl (zb rfl) rfl ?_; clear hp; intro b w1 hp) | ((refine zg _ _ rfl ?_); first | refine lO hp rfl (zb rfl) zcf aa5 ?_ | first | refine lRO hp rfl (zb rfl) zcf (HX.out 0 _ rfl) ?_ | refine lA hp rfl (zb rfl) zC aa5 ?_ | refine lR hp rfl (zb rfl) zC HX.out ?_) | ((refine zf _ _ _ rfl ?_); (first | refine sO hp rfl (zb rfl) zcf aa5 ?_ | refine sA hp rfl (zb rfl) (zb rfl) zC aa5 ?_ | refine sG hp rfl (zb rfl) (zb rfl) zC aa5 ?_); clear hp; intro w1 hp; simp only [spl, z0a, z0b] at hp) | ((refine zm _ _ _ rfl ?_); refine lS hp rfl (by intro w; go_simp; rfl) ?_; clear hp; intro b w1 hp; simp only [z0g, z0h, Nat.reduceAdd] at hp)); simp only [ze, zd, z0b, z0a]))
      go_roundg (gk - 1)
      case measure => omega
      case rel => exact ⟨j + 1, ac2, RO, by omega, by go_num, z0j (by rw [HST.out, HA2.out, HF.out]; simp), by omega, HRO, hp⟩
    ·obtain rfl : j = l.length := by omega
     have e3 : decide ((l.length : Int) < (l.length : Int)) = false := by simp
     have h2 := HA2.out
     rw [List.take_length] at h2
     have HA3 := z0j h2
     have HL1 : Hid (ac2.length + 1 ≤ maxLen) := z0j (by unfold maxLen; omega)
     have HL2 : Hid ((ac2.length + 1) * 32 ≤ 140737488355328) := z0j (by omega)
     clear h2 HA2 hkj hlt
     have hcn : c + 1 = 5 - (n : Int) := by omega
     by_cases h2 : c = xc
     ·have d2 : (c == xc) = true := by simp [h2]
      have HN : Hid ((ac2 ++ [(⟨xc, xs, xe, xv⟩ : Rw)]) ++ zcz n (5 - (n : Int)) l (⟨xc, xs, xe, xv⟩ : Rw) = wl) := z0j (by rw [← HW2.out, HA3.out, ← hcn]; simp only [h2, if_true, z0i])
      clear h2
      go_wp2_with (first | ((refine zM _ _ 48 rfl ?_); refine zG (K := [_]) (R := RO) (M := M0) hp _ _ _ rfl wy i0 _ 32 Tryz.underlying48 hi0 hz0 hz1 hz2 rfl (by decide) (zb rfl) HRO.out 1 1 (zb rfl) (by rfl) (by decide) (by rfl) HL1.out HL2.out ?_; clear hp HRO; intro v' R' w1 hR' hp; obtain ⟨av, kv, rfl, _⟩ := hR'.kept; have HR' := z0j hR'; clear hR'; simp only [z0f, z0e, List.append_nil] at hp; simp only [ze, zd, z0b, z0a]) | go_skip | ((first | ((refine zi _ _ rfl ?_); refine lB hp rfl (zb rfl) rfl ?_; clear hp; intro b w1 hp) | ((refine zg _ _ rfl ?_); first | refine lO hp rfl (zb rfl) zcf aa5 ?_ | refine lA hp rfl (zb rfl) zC aa5 ?_) | ((refine zf _ _ _ rfl ?_); (first | refine sO hp rfl (zb rfl) zcf aa5 ?_ | refine sA hp rfl (zb rfl) (zb rfl) zC aa5 ?_ | refine sG hp rfl (zb rfl) (zb rfl) zC aa5 ?_); clear hp; intro w1 hp; simp only [spl, z0a, z0b] at hp) | ((refine zm _ _ _ rfl ?_); refine lS hp rfl (by intro w; go_simp; rfl) ?_; clear hp; intro b w1 hp; simp only [z0g, z0h, Nat.reduceAdd] at hp)); simp only [ze, zd, z0b, z0a]))
      go_roundg n
      case measure => omega
      case rel => exact ⟨ac2 ++ [(⟨xc, xs, xe, xv⟩ : Rw)], R', by rw [← hcn], by omega, HN, by rw [List.length_append]; simp only [z0g, z0h]; omega, z0j (by rw [List.length_append, List.flatMap_append]; exact HR'.out), hp⟩
     ·have d2 : (c == xc) = false := by simp [h2]
      have HN : Hid (ac2 ++ zcz n (5 - (n : Int)) l (⟨xc, xs, xe, xv⟩ : Rw) = wl) := z0j (by rw [← HW2.out, HA3.out, ← hcn]; simp only [h2, if_false, List.append_nil, z0i])
      clear h2
      go_wp2_with (first | go_skip | ((first | ((refine zi _ _ rfl ?_); refine lB hp rfl (zb rfl) rfl ?_; clear hp; intro b w1 hp) | ((refine zg _ _ rfl ?_); first | refine lO hp rfl (zb rfl) zcf aa5 ?_ | refine lA hp rfl (zb rfl) zC aa5 ?_) | ((refine zf _ _ _ rfl ?_); (first | refine sO hp rfl (zb rfl) zcf aa5 ?_ | refine sA hp rfl (zb rfl) (zb rfl) zC aa5 ?_ | refine sG hp rfl (zb rfl) (zb rfl) zC aa5 ?_); clear hp; intro w1 hp; simp only [spl, z0a, z0b] at hp) | ((refine zm _ _ _ rfl ?_); refine lS hp rfl (by intro w; go_simp; rfl) ?_; clear hp; intro b w1 hp; simp only [z0g, z0h, Nat.reduceAdd] at hp)); simp only [ze, zd, z0b, z0a]))
      go_roundg n
      case measure => omega
      case rel => exact ⟨ac2, RO, by rw [← hcn], by omega, HN, by omega, HRO, hp⟩
open Go.RowKit
theorem ZN {ty : TypeId} {k : Nat} (h : zac Tryz.prog ty k = true := by with_reducible first | exact zL | exact zv | exact zl) : zac Tryz.prog ty k = true := h
theorem zah {ty : TypeId} (h : zN Tryz.prog ty = true := by with_reducible first | exact zw | exact Zd | exact Zb | exact Zc) : zN Tryz.prog ty = true := h
def zfD (os : List Ob) (t : Int) (r : Int) : Prop := (r = -1 ∧ ∀ o ∈ os, o.h ≠ t) ∨ ∃ (j : Nat) (o : Ob), r = j ∧ os[j]? = some o ∧ o.h = t ∧ ∀ (i : Nat) q, i < j → os[i]? = some q → q.h ≠ t
theorem zfD.leads {os : List Ob} {t r : Int} (h : zfD os t r) (h0 : t ≠ 0) : decide (0 ≤ r) = zaA os t := by
 rw [Bool.eq_iff_iff, decide_eq_true_eq, zaL]
 rcases h with ⟨rfl, h⟩ | ⟨j, o, rfl, hj, ho, _⟩
 ·constructor
  ·intro h; omega
  ·rintro (h1 | ⟨o, ho, h1⟩)
   ·exact absurd h1 h0
   ·exact absurd h1 (h o ho)
 ·exact ⟨fun _ => .inr ⟨o, List.mem_of_getElem? hj, ho⟩, fun _ => by omega⟩
def zki (w : World) (os : List Ob) (t : Int) (e : Ending) (w' : World) : Prop := ∃ r : Int, e = .returned (.int .i64 r) ∧ zfD os t r ∧ Below w.heap.size w w'
theorem zja (od : Int) (oa : Option Addr) (os : List Ob) (oc : Nat) (nx t0 t1 t2 t3 : Int) (fa : Option Addr) (fl fc : Nat) (hol : os.length ≤ 1000) (t : Int) (w : World) (ha : zD w oa (os.flatMap obV)) :
  Calls Tryz.prog 206 #[.agg #[.int .i64 od, .slice oa os.length oc, .int .i64 nx, .int .i64 t0, .int .i64 t1, .int .i64 t2, .int .i64 t3, .slice fa fl fc], .int .i64 t] w (zki w os t) := by
 have hp := Hp.start w
 have HA := z0j ha
 clear ha
 go_enter Tryz.func206, Tryz.ntmps206
 go_wp2_with (first | go_skip | ((first | ((refine zi _ _ rfl ?_); refine lB hp rfl (zb rfl) rfl ?_; clear hp; intro b w1 hp) | ((refine zg _ _ rfl ?_); first | refine lO hp rfl (zb rfl) zah aa5 ?_ | refine lRO hp rfl (zb rfl) zah (by first | exact HX.out 0 _ rfl | exact HX.out 1 _ rfl | exact HX.out 2 _ rfl) ?_ | refine lA hp rfl (zb rfl) ZN aa5 ?_ | refine lR hp rfl (zb rfl) ZN HX.out ?_) | ((refine zf _ _ _ rfl ?_); (first | refine sO hp rfl (zb rfl) zah aa5 ?_ | refine sA hp rfl (zb rfl) (zb rfl) ZN aa5 ?_ | refine sG hp rfl (zb rfl) (zb rfl) ZN aa5 ?_); clear hp; intro w1 hp; simp only [spl, z0a, z0b] at hp) | ((refine zm _ _ _ rfl ?_); refine lS hp rfl (by intro w; go_simp; rfl) ?_; clear hp; intro b w1 hp; simp only [z0g, z0h, Nat.reduceAdd] at hp)); simp only [ze, zd, z0b, z0a]))
 obtain ⟨b1, rfl⟩ := hp.id0
 go_loopg [5] os.length (fun k i wr => ∃ j : Nat, k + j = os.length ∧ i = .int .i64 j ∧ Hid (∀ (i : Nat) q, i < j → os[i]? = some q → q.h ≠ t) ∧ Hp w.heap.size w wr [⟨b1, [.int .i64 od, .slice oa os.length oc, .int .i64 nx, .int .i64 t0, .int .i64 t1, .int .i64 t2, .int .i64 t3, .slice fa fl fc], 47, 8⟩])
 case atStart => exact ⟨0, by omega, rfl, z0j (fun i y h => by omega), hp⟩
 case round =>
  clear hp
  obtain ⟨j, hkj, rfl, HY, hp⟩ := hrel
  by_cases hlt : j < os.length
  ·obtain ⟨bq, off, rfl, hx⟩ := HA.out.elems 5 Zm (by omega) (by omega)
   have hj := List.getElem?_eq_getElem hlt
   replace hx := hx j _ hj
   have HJ := z0j hj
   clear hj
   generalize os[j] = x at hx HJ
   obtain ⟨xh, xp, xo, wa, ws, wc, la, ls, lc⟩ := x
   simp only [obV] at hx
   have HX := z0j hx
   clear hx
   have e1 : (0 : Int) ≤ (j : Int) := by omega
   have e2 : (j : Int) < (os.length : Int) := by omega
   by_cases hne : xh = t
   ·have HNE := z0j hne
    have e3 : (xh == t) = true := by simpa using hne
    clear hne
    go_wp2_with (first | go_skip | ((first | ((refine zi _ _ rfl ?_); refine lB hp rfl (zb rfl) rfl ?_; clear hp; intro b w1 hp) | ((refine zg _ _ rfl ?_); first | refine lO hp rfl (zb rfl) zah aa5 ?_ | refine lRO hp rfl (zb rfl) zah (by first | exact HX.out 0 _ rfl | exact HX.out 1 _ rfl | exact HX.out 2 _ rfl) ?_ | refine lA hp rfl (zb rfl) ZN aa5 ?_ | refine lR hp rfl (zb rfl) ZN HX.out ?_) | ((refine zf _ _ _ rfl ?_); (first | refine sO hp rfl (zb rfl) zah aa5 ?_ | refine sA hp rfl (zb rfl) (zb rfl) ZN aa5 ?_ | refine sG hp rfl (zb rfl) (zb rfl) ZN aa5 ?_); clear hp; intro w1 hp; simp only [spl, z0a, z0b] at hp) | ((refine zm _ _ _ rfl ?_); refine lS hp rfl (by intro w; go_simp; rfl) ?_; clear hp; intro b w1 hp; simp only [z0g, z0h, Nat.reduceAdd] at hp)); simp only [ze, zd, z0b, z0a]))
    go_ret
    exact ⟨j, rfl, .inr ⟨j, _, rfl, HJ.out, HNE.out, HY.out⟩, hp.below⟩
   ·have HNE := z0j hne
    have e3 : (xh == t) = false := by simpa using hne
    clear hne
    go_wp2_with (first | go_skip | ((first | ((refine zi _ _ rfl ?_); refine lB hp rfl (zb rfl) rfl ?_; clear hp; intro b w1 hp) | ((refine zg _ _ rfl ?_); first | refine lO hp rfl (zb rfl) zah aa5 ?_ | refine lRO hp rfl (zb rfl) zah (by first | exact HX.out 0 _ rfl | exact HX.out 1 _ rfl | exact HX.out 2 _ rfl) ?_ | refine lA hp rfl (zb rfl) ZN aa5 ?_ | refine lR hp rfl (zb rfl) ZN HX.out ?_) | ((refine zf _ _ _ rfl ?_); (first | refine sO hp rfl (zb rfl) zah aa5 ?_ | refine sA hp rfl (zb rfl) (zb rfl) ZN aa5 ?_ | refine sG hp rfl (zb rfl) (zb rfl) ZN aa5 ?_); clear hp; intro w1 hp; simp only [spl, z0a, z0b] at hp) | ((refine zm _ _ _ rfl ?_); refine lS hp rfl (by intro w; go_simp; rfl) ?_; clear hp; intro b w1 hp; simp only [z0g, z0h, Nat.reduceAdd] at hp)); simp only [ze, zd, z0b, z0a]))
    go_roundg (gk - 1)
    case measure => omega
    case rel =>
     refine ⟨j + 1, by omega, by go_num, z0j (fun i y hi hy => ?_), hp⟩
     rcases Nat.lt_or_ge i j with h | h
     ·exact HY.out i y h hy
     ·have : i = j := by omega
      subst this
      rw [HJ.out] at hy; injection hy with hy; subst hy; exact HNE.out
  ·have e2 : decide ((j : Int) < (os.length : Int)) = false := by simp; omega
   go_wp2_with (first | go_skip | ((first | ((refine zi _ _ rfl ?_); refine lB hp rfl (zb rfl) rfl ?_; clear hp; intro b w1 hp) | ((refine zg _ _ rfl ?_); first | refine lO hp rfl (zb rfl) zah aa5 ?_ | refine lRO hp rfl (zb rfl) zah (by first | exact HX.out 0 _ rfl | exact HX.out 1 _ rfl | exact HX.out 2 _ rfl) ?_ | refine lA hp rfl (zb rfl) ZN aa5 ?_ | refine lR hp rfl (zb rfl) ZN HX.out ?_) | ((refine zf _ _ _ rfl ?_); (first | refine sO hp rfl (zb rfl) zah aa5 ?_ | refine sA hp rfl (zb rfl) (zb rfl) ZN aa5 ?_ | refine sG hp rfl (zb rfl) (zb rfl) ZN aa5 ?_); clear hp; intro w1 hp; simp only [spl, z0a, z0b] at hp) | ((refine zm _ _ _ rfl ?_); refine lS hp rfl (by intro w; go_simp; rfl) ?_; clear hp; intro b w1 hp; simp only [z0g, z0h, Nat.reduceAdd] at hp)); simp only [ze, zd, z0b, z0a]))
   go_ret
   refine ⟨-1, rfl, .inl ⟨rfl, fun o ho => ?_⟩, hp.below⟩
   obtain ⟨i, hi, rfl⟩ := List.getElem_of_mem ho
   exact HY.out i _ (by omega) (List.getElem?_eq_getElem hi)
theorem zD.fix0 {w : World} {b off : Nat} {xs : List Value} (h : zD w (some ⟨b, off, none⟩) xs) : ∀ j v, xs[j]? = some v → w.cell? ⟨b, off + j, none⟩ = some v := fun j v hj => by
 obtain ⟨b', off', he, hc⟩ := h j v hj
 injection he with he; injection he with e1 e2; subst e1; subst e2; exact hc
end Go.Proofs.YtaafajaadfgaoaaGreat

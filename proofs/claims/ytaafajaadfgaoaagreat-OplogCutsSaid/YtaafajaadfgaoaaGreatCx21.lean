import Derived.Test.YtaafajaadfgaoaaGreatCx20
import Derived.Test.YtaafajaadfgaoaaGreatCx5
import Derived.Test.YtaafajaadfgaoaaGreatCx19
set_option linter.unusedSimpArgs false
set_option linter.unusedVariables false
set_option maxRecDepth 100000
set_option maxHeartbeats 60000000
namespace Go.Proofs.YtaafajaadfgaoaaGreat
open Go.RowKit
theorem zmU {ty : TypeId} {k : Nat} (h : ZB Tryz.prog ty k = true := by with_reducible first | exact zap | exact zW | exact zV) : ZB Tryz.prog ty k = true := h
theorem zrc {ty : TypeId} (h : zy Tryz.prog ty = true := by with_reducible first | exact zr | exact Ze | exact zaC | exact Zb) : zy Tryz.prog ty = true := h
theorem zp4 (last : Int) (x : Rw) : (decide (last < x.c) = false ∧ zbR last x = false) ∨ (decide (last < x.c) = true ∧ decide (x.c ≤ 4) = false ∧ zbR last x = false) ∨
  (decide (last < x.c) = true ∧ decide (x.c ≤ 4) = true ∧ decide (1 ≤ x.s) = false ∧ zbR last x = false) ∨ (decide (last < x.c) = true ∧ decide (x.c ≤ 4) = true ∧ decide (1 ≤ x.s) = true ∧ decide (x.s ≤ 1000000) = false ∧ zbR last x = false) ∨
  (decide (last < x.c) = true ∧ decide (x.c ≤ 4) = true ∧ decide (1 ≤ x.s) = true ∧ decide (x.s ≤ 1000000) = true ∧ decide (0 ≤ x.e) = false ∧ zbR last x = false) ∨
  (decide (last < x.c) = true ∧ decide (x.c ≤ 4) = true ∧ decide (1 ≤ x.s) = true ∧ decide (x.s ≤ 1000000) = true ∧ decide (0 ≤ x.e) = true ∧ decide (x.e ≤ 65535) = false ∧ zbR last x = false) ∨
  (decide (last < x.c) = true ∧ decide (x.c ≤ 4) = true ∧ decide (1 ≤ x.s) = true ∧ decide (x.s ≤ 1000000) = true ∧ decide (0 ≤ x.e) = true ∧ decide (x.e ≤ 65535) = true ∧ zbR last x = true) := by
 unfold zbR
 simp only [decide_eq_true_eq, decide_eq_false_iff_not]
 omega
def zon (b : Bool) : Int := if b then 0 else 60
theorem zrd (x : Sv) (r : Bool) (hr : stB x = r) (hs : x.Small) (w : World) (hx0 : x.Is w) :
  Calls Tryz.prog 35 #[.agg (svL x).toArray] w fun e w' => e = .returned (.int .i64 (zon r)) ∧ Below w.heap.size w w' := by
 obtain ⟨⟨od, oa, os, oc, nx, t0, t1, t2, t3, fa, fs, fc⟩, ra, rs, rc⟩ := x
 obtain ⟨hb, hhb⟩ : ∃ b, zY ⟨od, oa, os, oc, nx, t0, t1, t2, t3, fa, fs, fc⟩ = b := ⟨_, rfl⟩
 have hq : (hb && ZG 0 rs) = r := by rw [← hr]; unfold stB; simp only; rw [hhb]
 obtain ⟨hi, hri⟩ := hx0
 simp only at hi hri
 simp only [svL, hvL, z0f, z0e]
 have hl : rs.length ≤ 1000 := hs.2
 have HB := z0j hhb
 have HQ := z0j hq
 have HSS : Hid (Hv.Small ⟨od, oa, os, oc, nx, t0, t1, t2, t3, fa, fs, fc⟩) := z0j hs.1
 have HIS := z0j hi
 have HR : Hid (zm w ra (rs.flatMap rwV)) := z0j hri
 have he : ((zfV hb == 0) : Bool) = hb := by cases hb <;> rfl
 have hp := Hp.start w
 clear hr hhb hq hi hri hs
 go_enter Tryz.func35, Tryz.ntmps35
 go_wp2_with (first | (go_at_call 74; (with_reducible refine (zcW od oa os oc nx t0 t1 t2 t3 fa fs fc _ HB.out HSS.out _ (HIS.out.below hp.below)).mono ?_); rintro e w1 ⟨rfl, hb⟩; replace hp := hp.call hb; clear hb) | ((first | ((refine zk _ _ rfl ?_); refine lB hp rfl (za rfl) rfl ?_; clear hp; intro b w1 hp) | ((refine zd _ _ rfl ?_); first | refine lO hp rfl (za rfl) zrc zK ?_ | refine lA hp rfl (za rfl) zmU zK ?_)); simp only [zc, zb, z0b, z0a]))
 obtain ⟨b1, rfl⟩ := hp.id0
 go_loopg [3, 4, 14] rs.length (fun k o l i wr => ∃ (q : Nat) (ok : Bool) (last : Int) (L : List Blk), k + q = rs.length ∧ o = .bool ok ∧ l = .int .i64 last ∧ i = .int .i64 q ∧ Hid ((ok && ZG last (rs.drop q)) = r) ∧ Hp w.heap.size w wr L)
 case atStart => exact ⟨0, hb, 0, _, by omega, by first | rfl | (rw [he]), rfl, rfl, z0j (by simpa using HQ.out), hp⟩
 case round =>
  clear hp
  obtain ⟨q, ok, last, L, hkq, rfl, rfl, rfl, HI, hp⟩ := hrel
  by_cases hlt : q < rs.length
  ·obtain ⟨bq, off, rfl, hx⟩ := HR.out.elems 4 ZL (by omega) (by omega)
   have hj := List.getElem?_eq_getElem hlt
   replace hx := hx q _ hj
   have hdrop := List.drop_eq_getElem_cons hlt
   have hin := HI.out
   rw [hdrop] at hin
   clear hj hdrop HI
   generalize rs[q] = x at hx hin
   have hw := zp4 last x
   obtain ⟨yc, ys, ye, yv⟩ := x
   simp only [rwV] at hx
   simp only [ZG] at hin
   simp only at hw
   have HX := z0j hx
   have HIN := z0j hin
   have e1 : (0 : Int) ≤ (q : Int) := by omega
   have e2 : (q : Int) < (rs.length : Int) := by omega
   clear hx hin
   cases ok with
   | false =>
    clear hw
    go_wp2_with (first | ((first | ((refine zi _ rfl ?_); refine lZ hp rfl zaY ?_; clear hp; intro b w1 hp) | ((refine zd _ _ rfl ?_); first | refine lO hp rfl (za rfl) zrc zK ?_ | refine lR hp rfl (za rfl) zmU HX.out ?_) | ((refine zg _ _ _ rfl ?_); (first | refine sA hp rfl (za rfl) (za rfl) zmU zK ?_); clear hp; intro w1 hp; simp only [spl, z0a, z0b] at hp)); simp only [zc, zb, z0b, z0a]))
    go_roundg (gk - 1)
    case measure => omega
    case rel => exact ⟨q + 1, false, yc, _, by omega, rfl, rfl, by go_num, z0j (by simpa using HIN.out), hp⟩
   | true =>
    rcases hw with ⟨d1, g⟩ | ⟨d1, d2, g⟩ | ⟨d1, d2, d3, g⟩ | ⟨d1, d2, d3, d4, g⟩ | ⟨d1, d2, d3, d4, d5, g⟩ | ⟨d1, d2, d3, d4, d5, d6, g⟩ | ⟨d1, d2, d3, d4, d5, d6, g⟩
    all_goals
     have HG := z0j g
     clear g
     go_wp2_with (first | ((first | ((refine zi _ rfl ?_); refine lZ hp rfl zaY ?_; clear hp; intro b w1 hp) | ((refine zd _ _ rfl ?_); first | refine lO hp rfl (za rfl) zrc zK ?_ | refine lR hp rfl (za rfl) zmU HX.out ?_) | ((refine zg _ _ _ rfl ?_); (first | refine sA hp rfl (za rfl) (za rfl) zmU zK ?_); clear hp; intro w1 hp; simp only [spl, z0a, z0b] at hp)); simp only [zc, zb, z0b, z0a]))
     go_roundg (gk - 1)
     case measure => omega
     case rel => exact ⟨q + 1, _, yc, _, by omega, rfl, rfl, by go_num, z0j (by have h := HIN.out; rw [HG.out] at h; simpa using h), hp⟩
  ·have e2 : decide ((q : Int) < (rs.length : Int)) = false := by simp; omega
   have hr : ok = r := by have h := HI.out; rw [List.drop_eq_nil_of_le (by omega)] at h; simpa [ZG] using h
   subst hr
   clear HI HQ
   cases ok with
   | true =>
    go_wp2_with (first | fail)
    go_ret
    exact ⟨rfl, hp.below⟩
   | false =>
    go_wp2_with (first | fail)
    go_ret
    exact ⟨rfl, hp.below⟩
theorem zbE (od : Int) (oa : Option Addr) (os : List Ob) (oc : Nat) (nx t0 t1 t2 t3 : Int) (fa : Option Addr) (fs : List Bl) (fc : Nat) (ra : Option Addr) (rs : List Rw) (rc : Nat) (r : Bool) (hr : stB ⟨⟨od, oa, os, oc, nx, t0, t1, t2, t3, fa, fs, fc⟩, ra, rs, rc⟩ = r)
  (hs : Sv.Small ⟨⟨od, oa, os, oc, nx, t0, t1, t2, t3, fa, fs, fc⟩, ra, rs, rc⟩) (w : World) (h : Sv.Is w ⟨⟨od, oa, os, oc, nx, t0, t1, t2, t3, fa, fs, fc⟩, ra, rs, rc⟩) :
  Calls Tryz.prog 35 #[.agg #[.int .i64 od, .slice oa os.length oc, .int .i64 nx, .int .i64 t0, .int .i64 t1, .int .i64 t2, .int .i64 t3, .slice fa fs.length fc, .slice ra rs.length rc]] w fun e w' => e = .returned (.int .i64 (zon r)) ∧ Below w.heap.size w w' := zrd _ r hr hs w h
open Go.RowKit
theorem zrw {ty : TypeId} {k : Nat} (h : ZB Tryz.prog ty k = true := by with_reducible first | exact zap | exact zW | exact zD | exact zqo | exact zV) : ZB Tryz.prog ty k = true := h
theorem zkP {ty : TypeId} (h : zy Tryz.prog ty = true := by with_reducible first | exact zr | exact Ze | exact zev | exact z7 | exact Zh | exact zaC | exact Zb) : zy Tryz.prog ty = true := h
def zsu (B : Nat) (w0 : World) (bo : Nat) (zs : List Nat) (H : Blk → List Blk → List Blk) (e : Ending) (w' : World) : Prop :=
 e = .returned (.tuple #[]) ∧ ∃ ys m a c R, ys = zs ∧ ys.length = m ∧ zB 5 1 (.slice a m c) m (ys.flatMap byV) R ∧ Hp B w0 w' (H ⟨bo, [.slice a m c], 116, 1⟩ R)
theorem zg5 {B : Nat} {w0 : World} {bl t n : Nat} {cs : List Value} {K : List Blk} : zgA B w0 (⟨bl, cs, t, n⟩ :: K) fun w => zm w (some ⟨bl, 0, none⟩) cs :=
 fun w1 L1 hp hm => (ZK.row bl cs t n).at hp (fun p hp2 => by rw [List.mem_singleton.1 hp2]; exact hm _ (by simp))
theorem zr5 (l : List Nat) (n : Nat) (hn : l.length = n) (hl : n ≤ 1000) (hb : ∀ x ∈ l, x ≤ 2147483647) (xs : List Nat) (m : Nat) (hm : xs.length = m) (hx : m ≤ 900000) {B : Nat} {w0 w : World} {bo c : Nat} {a : Option Addr} {p : Blk} {R : List Blk} (hr : zB 5 1 (.slice a m c) m (xs.flatMap byV) R) (al : Option Addr) (cl : Nat) (hk : zgA B w0 [p] fun w => zm w al (l.flatMap zeb))
  (hp : Hp B w0 w (p :: ⟨bo, [.slice a m c], 116, 1⟩ :: R)) :
  Calls Tryz.prog 79 #[.pointer (some ⟨bo, 0, none⟩), .slice al n cl] w (zsu B w0 bo (xs ++ bn4 l) fun b R => p :: b :: R) := by
 subst hn hm
 refine (zkn l hl hb xs hx bo al cl ⟨a, c, R, hr, hp.kp⟩ hk).mono fun e w' h => ?_
 obtain ⟨he, a', c', R', h1, h2⟩ := h
 exact ⟨he, _, _, a', c', R', rfl, rfl, h1, h2.kp⟩
theorem zfq (l : List Nat) (n : Nat) (hn : l.length = n) (hl : n ≤ 1000) (hb : ∀ x ∈ l, x ≤ 2147483647) (xs : List Nat) (m : Nat) (hm : xs.length = m) (hx : m ≤ 900000) {B : Nat} {w0 w : World} {bl bo t nn c cl : Nat} {a : Option Addr} {cs : List Value} {p : Blk} {R : List Blk} (hr : zB 5 1 (.slice a m c) m (xs.flatMap byV) R)
  (hcs : cs = l.flatMap zeb) (hp : Hp B w0 w (⟨bl, cs, t, nn⟩ :: p :: ⟨bo, [.slice a m c], 116, 1⟩ :: R)) :
  Calls Tryz.prog 79 #[.pointer (some ⟨bo, 0, none⟩), .slice (some ⟨bl, 0, none⟩) n cl] w (zsu B w0 bo (xs ++ bn4 l) fun b R => p :: b :: R) := by
 subst hn hm hcs
 refine (zkn l hl hb xs hx bo (some ⟨bl, 0, none⟩) cl (L := ⟨bl, l.flatMap zeb, t, nn⟩ :: [p]) ⟨a, c, R, hr, hp.kp⟩ zg5).mono fun e w' h => ?_
 obtain ⟨he, a', c', R', h1, h2⟩ := h
 exact ⟨he, _, _, a', c', R', rfl, rfl, h1, h2.kp⟩
theorem zr6 (l : List Nat) (n : Nat) (hn : l.length = n) (hl : n ≤ 1000) (hb : ∀ x ∈ l, x ≤ 2147483647) (xs : List Nat) (m : Nat) (hm : xs.length = m) (hx : m ≤ 900000) {B : Nat} {w0 w : World} {bo c : Nat} {a : Option Addr} {p q : Blk} {R : List Blk} (hr : zB 5 1 (.slice a m c) m (xs.flatMap byV) R) (al : Option Addr) (cl : Nat) (hk : zgA B w0 [p, q] fun w => zm w al (l.flatMap zeb))
  (hp : Hp B w0 w (p :: q :: ⟨bo, [.slice a m c], 116, 1⟩ :: R)) :
  Calls Tryz.prog 79 #[.pointer (some ⟨bo, 0, none⟩), .slice al n cl] w (zsu B w0 bo (xs ++ bn4 l) fun b R => p :: q :: b :: R) := by
 subst hn hm
 refine (zkn l hl hb xs hx bo al cl ⟨a, c, R, hr, hp.kp⟩ hk).mono fun e w' h => ?_
 obtain ⟨he, a', c', R', h1, h2⟩ := h
 exact ⟨he, _, _, a', c', R', rfl, rfl, h1, h2.kp⟩
theorem zia (l : List Nat) (n : Nat) (hn : l.length = n) (hl : n ≤ 1000) (hb : ∀ x ∈ l, x ≤ 2147483647) (xs : List Nat) (m : Nat) (hm : xs.length = m) (hx : m ≤ 900000) {B : Nat} {w0 w : World} {bl bo t nn c cl : Nat} {a : Option Addr} {cs : List Value} {p q : Blk} {R : List Blk} (hr : zB 5 1 (.slice a m c) m (xs.flatMap byV) R)
  (hcs : cs = l.flatMap zeb) (hp : Hp B w0 w (⟨bl, cs, t, nn⟩ :: p :: q :: ⟨bo, [.slice a m c], 116, 1⟩ :: R)) :
  Calls Tryz.prog 79 #[.pointer (some ⟨bo, 0, none⟩), .slice (some ⟨bl, 0, none⟩) n cl] w (zsu B w0 bo (xs ++ bn4 l) fun b R => p :: q :: b :: R) := by
 subst hn hm hcs
 refine (zkn l hl hb xs hx bo (some ⟨bl, 0, none⟩) cl (L := ⟨bl, l.flatMap zeb, t, nn⟩ :: [p, q]) ⟨a, c, R, hr, hp.kp⟩ zg5).mono fun e w' h => ?_
 obtain ⟨he, a', c', R', h1, h2⟩ := h
 exact ⟨he, _, _, a', c', R', rfl, rfl, h1, h2.kp⟩
theorem zr4 (l : List Int) (n : Nat) (hn : l.length = n) (hl : n ≤ 1000) (xs : List Nat) (m : Nat) (hm : xs.length = m) (hx : m ≤ 900000) {B : Nat} {w0 w : World} {bo c : Nat} {a : Option Addr} {p q : Blk} {R : List Blk} (hr : zB 5 1 (.slice a m c) m (xs.flatMap byV) R) (al : Option Addr) (cl : Nat) (hk : zgA B w0 [p, q] fun w => zm w al (l.flatMap iV))
  (hp : Hp B w0 w (p :: q :: ⟨bo, [.slice a m c], 116, 1⟩ :: R)) :
  Calls Tryz.prog 80 #[.pointer (some ⟨bo, 0, none⟩), .slice al n cl] w (zsu B w0 bo (xs ++ bi8 l) fun b R => p :: q :: b :: R) := by
 subst hn hm
 refine (zqS l hl xs hx bo al cl ⟨a, c, R, hr, hp.kp⟩ hk).mono fun e w' h => ?_
 obtain ⟨he, a', c', R', h1, h2⟩ := h
 exact ⟨he, _, _, a', c', R', rfl, rfl, h1, h2.kp⟩
theorem znA (l : List Int) (n : Nat) (hn : l.length = n) (hl : n ≤ 1000) (xs : List Nat) (m : Nat) (hm : xs.length = m) (hx : m ≤ 900000) {B : Nat} {w0 w : World} {bl bo t nn c cl : Nat} {a : Option Addr} {cs : List Value} {p q : Blk} {R : List Blk} (hr : zB 5 1 (.slice a m c) m (xs.flatMap byV) R)
  (hcs : cs = l.flatMap iV) (hp : Hp B w0 w (⟨bl, cs, t, nn⟩ :: p :: q :: ⟨bo, [.slice a m c], 116, 1⟩ :: R)) :
  Calls Tryz.prog 80 #[.pointer (some ⟨bo, 0, none⟩), .slice (some ⟨bl, 0, none⟩) n cl] w (zsu B w0 bo (xs ++ bi8 l) fun b R => p :: q :: b :: R) := by
 subst hn hm hcs
 refine (zqS l hl xs hx bo (some ⟨bl, 0, none⟩) cl (L := ⟨bl, l.flatMap iV, t, nn⟩ :: [p, q]) ⟨a, c, R, hr, hp.kp⟩ zg5).mono fun e w' h => ?_
 obtain ⟨he, a', c', R', h1, h2⟩ := h
 exact ⟨he, _, _, a', c', R', rfl, rfl, h1, h2.kp⟩
def obB (o : Ob) : List Nat := bn4 [o.h.toNat, o.p.toNat, o.ws.length, o.ls.length] ++ (bi8 o.ws ++ bn4 (o.ls.map Int.toNat))
def zfW (x : Hv) : List Nat := bn4 [x.od.toNat, x.nx.toNat] ++ (bn4 [x.t0.toNat, x.t1.toNat, x.t2.toNat, x.t3.toNat] ++ bn4 [x.os.length])
def zbQ (x : Hv) : List Nat := zfW x ++ x.os.flatMap obB
theorem znt {l : List Int} (h : ∀ x ∈ l, 0 ≤ x) : (l.map Int.toNat).flatMap zeb = l.flatMap iV := by
 induction l with
 | nil => rfl
 | cons x l ih =>
  rw [List.map_cons, List.flatMap_cons, List.flatMap_cons, ih (fun y hy => h y (by simp [hy]))]
  have := h x (by simp)
  simp only [zeb, iV, Int.toNat_of_nonneg this]
structure zl4 (o : Ob) : Prop where
 h0 : 0 ≤ o.h
 h1 : o.h ≤ 2147483647
 p0 : 0 ≤ o.p
 p1 : o.p ≤ 2147483647
 wl : o.ws.length ≤ 32
 ll : o.ls.length ≤ 16
 ls : ∀ t ∈ o.ls, 0 ≤ t ∧ t ≤ 2147483647
theorem ZD {x : Hv} (hx : zJ x) {t : Int} (h : Zd x.os t) : 0 ≤ t ∧ t ≤ 1000001 := by
 rcases h with rfl | ⟨o, ho, rfl⟩
 ·exact ⟨by omega, by omega⟩
 ·obtain ⟨i, hi, rfl⟩ := List.getElem_of_mem ho
  have h := hx.rise i _ (List.getElem?_eq_getElem hi)
  have := hx.hi
  omega
theorem zb3 {x : Hv} (hx : zJ x) : ∀ o ∈ x.os, zl4 o := by
 intro o ho
 have hn := hx.need o ho
 have hlead : Zd x.os o.h := .inr ⟨o, ho, rfl⟩
 have h1 := ZD hx hlead
 have hf := hx.free
 unfold zM zZ at hf
 rw [Bool.and_eq_true] at hf
 have hod : 3 ≤ x.od ∧ x.od ≤ 8 := by simpa using hf.1
 have hm := hn.2
 have hp2 := hm.2.2.2.1
 have hp1 := hm.2.2.1
 have hpw := zcz hod.2
 have hpp := zL o.o
 simp only [Z3] at hp1 hp2
 have hnd := hn.1
 have h0 := hm.1
 simp only [Z3] at h0
 have hok := zc1 (a := o.ws.length) (b := o.ls.length) (by omega)
 exact ⟨h1.1, by omega, hp1, by omega, by omega, by omega, fun t ht => by have := ZD hx (hx.links o ho t ht); omega⟩
theorem zrY {o : Ob} (h : zl4 o) : (obB o).length ≤ 336 := by
 have := h.wl
 have := h.ll
 unfold obB
 rw [List.length_append, List.length_append, ZZ, zd1, ZZ, List.length_map]
 simp only [z0g, z0h]
 omega
theorem zkl {l : List Ob} (h : ∀ o ∈ l, zl4 o) : (l.flatMap obB).length ≤ l.length * 336 := by
 induction l with
 | nil => simp
 | cons o l ih =>
  have h1 := ih (fun x hx => h x (by simp [hx]))
  have h2 := zrY (h o (by simp))
  rw [List.flatMap_cons, List.length_append, List.length_cons]; omega
theorem zfg (x : Hv) : (zfW x).length = 28 := by unfold zfW; rw [List.length_append, List.length_append, ZZ, ZZ, ZZ]; rfl
def zma (w : World) (r : Option (List Nat)) (e : Ending) (w' : World) : Prop := match r with
 | some bs => ∃ a c R, e = .returned (.tuple #[.slice a bs.length c, .int .i64 0]) ∧ zB 5 1 (.slice a bs.length c) bs.length (bs.flatMap byV) R ∧ Hp w.heap.size w w' R
 | none => e = .returned (.tuple #[.slice none 0 0, .int .i64 60]) ∧ Below w.heap.size w w'
theorem zuP {B : Nat} {w0 w : World} {b o h : Blk} {R : List Blk} (hp : Hp B w0 w (b :: o :: h :: R)) : Hp B w0 w (b :: h :: o :: R) := hp.kp
theorem zsT {B : Nat} {w0 w : World} {L : List Blk} {p : Blk} (hp : Hp B w0 w L) (hm : p ∈ L) {j : Nat} {v : Value} (hj : p.l[j]? = some v) : w.cell? ⟨p.id, j, none⟩ = some v := by
 obtain ⟨k, hk, hkl⟩ := List.getElem_of_mem hm
 obtain ⟨b, l, t, n⟩ := p
 exact hp.cell (i := k) (by rw [List.getElem?_eq_getElem hk, hkl]) hj
theorem zob {B : Nat} {w0 : World} {bh : Nat} {v0 v1 v2 v7 : Value} {t0 t1 t2 t3 : Nat} : zgA B w0 [⟨bh, [v0, v1, v2, .int .i64 t0, .int .i64 t1, .int .i64 t2, .int .i64 t3, v7], 47, 8⟩] fun w => zm w (some ⟨bh, 3, none⟩) ([t0, t1, t2, t3].flatMap zeb) := fun w1 L1 hp hm j v hj => by
 refine ⟨bh, 3, rfl, zsT hp (hm _ (List.mem_singleton.2 rfl)) (j := 3 + j) ?_⟩
 match j, hj with
 | 0, hj => exact hj
 | 1, hj => exact hj
 | 2, hj => exact hj
 | 3, hj => exact hj
theorem zlE (x : Hv) (hb : zY x = true) (w : World) (hx0 : x.Is w) : Calls Tryz.prog 25 #[.agg (hvL x).toArray] w (zma w (some (zbQ x))) := by
 have hxr := zb4 hb
 have HB := z0j hb
 have HSS := z0j hxr.small
 have HIS := z0j hx0
 have HLAY := z0j (zb3 hxr)
 have hp := Hp.start w
 have hfr := hxr.free
 unfold zM zZ at hfr
 rw [Bool.and_eq_true] at hfr
 have hod : 3 ≤ x.od ∧ x.od ≤ 8 := by simpa using hfr.1
 have hnx := hxr.lo
 have hnx2 := hxr.hi
 have hol := hxr.len
 have l0 := ZD hxr (hxr.tops x.t0 (by simp [tops]))
 have l1 := ZD hxr (hxr.tops x.t1 (by simp [tops]))
 have l2 := ZD hxr (hxr.tops x.t2 (by simp [tops]))
 have l3 := ZD hxr (hxr.tops x.t3 (by simp [tops]))
 have HHL := z0j (zfg x)
 obtain ⟨hd, hhd⟩ : ∃ hd, hd = zfW x := ⟨_, rfl⟩
 have HHD := z0j hhd
 have HRES : Hid (zbQ x = hd ++ x.os.flatMap obB) := z0j (by rw [hhd]; rfl)
 rw [← hhd] at HHL
 obtain ⟨od, oa, os, oc, nx, t0, t1, t2, t3, fa, fs, fc⟩ := x
 simp only at hod hnx hnx2 hol l0 l1 l2 l3 HRES HLAY
 unfold zfW at HHD
 simp only at HHD
 obtain ⟨od, rfl⟩ := Int.eq_ofNat_of_zero_le (show 0 ≤ od by omega)
 obtain ⟨nx, rfl⟩ := Int.eq_ofNat_of_zero_le (show 0 ≤ nx by omega)
 obtain ⟨t0, rfl⟩ := Int.eq_ofNat_of_zero_le l0.1
 obtain ⟨t1, rfl⟩ := Int.eq_ofNat_of_zero_le l1.1
 obtain ⟨t2, rfl⟩ := Int.eq_ofNat_of_zero_le l2.1
 obtain ⟨t3, rfl⟩ := Int.eq_ofNat_of_zero_le l3.1
 simp only [Int.toNat_natCast] at HHD
 have HB1 : Hid (∀ x ∈ [od, nx], x ≤ 2147483647) := z0j (by intro x hx; simp at hx; omega)
 have HB2 : Hid (∀ x ∈ [t0, t1, t2, t3], x ≤ 2147483647) := z0j (by intro x hx; simp at hx; omega)
 have HB3 : Hid (∀ x ∈ [os.length], x ≤ 2147483647) := z0j (by intro x hx; simp at hx; omega)
 have HO : Hid (zm w oa (os.flatMap obV)) := z0j hx0.1
 have HOO : Hid (∀ o ∈ os, o.Is w) := z0j hx0.2.1
 have HOL : Hid (os.length ≤ 256) := z0j hol
 have HLA : Hid ([od, nx].length = 2) := z0j rfl
 have HLB : Hid (2 ≤ 1000) := z0j (by decide)
 have HLC : Hid ([t0, t1, t2, t3].length = 4) := z0j rfl
 have HLD : Hid (4 ≤ 1000) := z0j (by decide)
 have HLE : Hid ([os.length].length = 1) := z0j rfl
 have HLF : Hid (1 ≤ 1000) := z0j (by decide)
 have HNIL : Hid (([] : List Nat).length = 0) := z0j rfl
 have HNIL2 : Hid (0 ≤ 900000) := z0j (by decide)
 have HC1 : Hid ([Value.int .i64 (od : Int), Value.int .i64 (nx : Int)] = [od, nx].flatMap zeb) := z0j rfl
 have HC3 : Hid ([Value.int .i64 (os.length : Int)] = [os.length].flatMap zeb) := z0j rfl
 clear hfr hod hnx hnx2 hol l0 l1 l2 l3 hxr hb hx0 hhd
 simp only [hvL]
 go_enter Tryz.func25, Tryz.ntmps25
 go_wp2_with (first | (go_at_call 74; (with_reducible refine (zcW od oa os oc nx t0 t1 t2 t3 fa fs fc _ HB.out HSS.out _ (HIS.out.below hp.below)).mono ?_); rintro e w1 ⟨rfl, hb⟩; replace hp := hp.call hb; clear hb; simp only [zfV, if_true, Bool.false_eq_true, if_false]) | (go_at_call 79; replace hp := zuP hp; (with_reducible refine (zfq [od, nx] 2 HLA.out HLB.out HB1.out [] 0 HNIL.out HNIL2.out (zB.nil 5 1 none) HC1.out hp).mono ?_); clear hp; rintro e w1 ⟨rfl, y1, m1, a1, c1, R1, hy1, hm1, hr1, hp⟩; have HY1 := z0j hy1; have HM1 := z0j hm1; have HR1 := z0j hr1; clear hy1 hm1 hr1) | ((first | ((refine zk _ _ rfl ?_); refine lB hp rfl (za rfl) rfl ?_; clear hp; intro b w1 hp) | ((refine zd _ _ rfl ?_); first | refine lO hp rfl (za rfl) zkP zK ?_ | refine lA hp rfl (za rfl) zrw zK ?_) | ((refine zC _ _ _ rfl ?_); refine lS hp rfl (by intro w; go_simp; rfl) ?_; clear hp; intro b w1 hp; simp only [z0g, z0h, Nat.reduceAdd] at hp)); simp only [zc, zb, z0b, z0a]))
 obtain ⟨bh, rfl⟩ := hp.id0
 obtain ⟨bo, rfl⟩ := hp.id1
 have hm1 : m1 = 8 := by rw [← HM1.out, HY1.out, List.nil_append, ZZ]; rfl
 have HX1 : Hid (m1 ≤ 900000) := z0j (by omega)
 have HV1 := z0j hm1
 clear hm1
 go_wp2_with (first | (go_at_call 79; (with_reducible refine (zr5 [t0, t1, t2, t3] 4 HLC.out HLD.out HB2.out y1 m1 HM1.out HX1.out HR1.out (some ⟨bh, 3, none⟩) 4 zob hp).mono ?_); clear hp; rintro e w1 ⟨rfl, y2, m2, a2, c2, R2, hy2, hm2, hr2, hp⟩; have HY2 := z0j hy2; have HM2 := z0j hm2; have HR2 := z0j hr2; clear hy2 hm2 hr2) | ((first | ((refine zd _ _ rfl ?_); first | refine lO hp rfl (za rfl) zkP zK ?_) | ((refine zC _ _ _ rfl ?_); refine lS hp rfl (by intro w; go_simp; rfl) ?_; clear hp; intro b w1 hp; simp only [z0g, z0h, Nat.reduceAdd] at hp)); simp only [zc, zb, z0b, z0a]))
 have hm2 : m2 = 24 := by rw [← HM2.out, HY2.out, List.length_append, HM1.out, HV1.out, ZZ]; rfl
 have HX2 : Hid (m2 ≤ 900000) := z0j (by omega)
 clear hm2
 go_wp2_with (first | (go_at_call 79; (with_reducible refine (zfq [os.length] 1 HLE.out HLF.out HB3.out y2 m2 HM2.out HX2.out HR2.out HC3.out hp).mono ?_); clear hp; rintro e w1 ⟨rfl, y3, m3, a3, c3, R3, hy3, hm3, hr3, hp⟩; have HY3 := z0j hy3; have HM3 := z0j hm3; have HR3 := z0j hr3; clear hy3 hm3 hr3) | ((first | ((refine zd _ _ rfl ?_); first | refine lO hp rfl (za rfl) zkP zK ?_)); simp only [zc, zb, z0b, z0a]))
 have HZ : Hid (y3 = hd) := z0j (by rw [HY3.out, HY2.out, HY1.out, HHD.out, List.nil_append, List.append_assoc])
 go_loopg [32] os.length (fun k i wr => ∃ (q : Nat) (ys : List Nat) (m : Nat) (a : Option Addr) (c : Nat) (R : List Blk), k + q = os.length ∧ i = .int .i64 q ∧ Hid (ys = hd ++ (os.take q).flatMap obB) ∧ Hid (ys.length = m) ∧ Hid (zB 5 1 (.slice a m c) m (ys.flatMap byV) R) ∧
  Hp w.heap.size w wr (⟨bh, [.int .i64 od, .slice oa os.length oc, .int .i64 nx, .int .i64 t0, .int .i64 t1, .int .i64 t2, .int .i64 t3, .slice fa fs.length fc], 47, 8⟩ :: ⟨bo, [.slice a m c], 116, 1⟩ :: R))
 case atStart => exact ⟨0, y3, m3, a3, c3, R3, by omega, rfl, z0j (by rw [HZ.out]; simp), HM3, HR3, hp⟩
 case round =>
  clear hp HY1 HY2 HY3 HM1 HM2 HM3 HR1 HR2 HR3 HX1 HX2 HV1 HZ HLA HLB HC1 HB1
  obtain ⟨q, ys, m, a, c, R, hkq, rfl, HYS, HM, HR, hp⟩ := hrel
  by_cases hlt : q < os.length
  ·obtain ⟨bq, off, rfl, hx⟩ := HO.out.elems 5 Z1 (by omega) (by omega)
   have hj := List.getElem?_eq_getElem hlt
   replace hx := hx q _ hj
   have hmem := List.getElem_mem hlt
   obtain ⟨hw1, hw2⟩ := HOO.out _ hmem
   have hlay := HLAY.out _ hmem
   have htk : (os.take (q + 1)).flatMap obB = (os.take q).flatMap obB ++ obB os[q] := by rw [List.take_add_one, hj, List.flatMap_append]; simp
   have hlen := zkl (l := os.take q) (fun o ho => HLAY.out o (List.mem_of_mem_take ho))
   rw [List.length_take, Nat.min_eq_left (by omega)] at hlen
   have hm : m ≤ 28 + q * 336 := by rw [← HM.out, HYS.out, List.length_append, HHL.out]; omega
   have hol := HOL.out
   clear hmem hj hlen
   generalize os[q] = x at hx hw1 hw2 hlay htk
   obtain ⟨xh, xp, xo, wa, ws, wc, la, ls, lc⟩ := x
   obtain ⟨g1, g2, g3, g4, g5, g6, g7⟩ := hlay
   simp only at hx hw1 hw2 g1 g2 g3 g4 g5 g6 g7
   obtain ⟨xh, rfl⟩ := Int.eq_ofNat_of_zero_le g1
   obtain ⟨xp, rfl⟩ := Int.eq_ofNat_of_zero_le g3
   simp only [obV] at hx
   rw [show obB ⟨xh, xp, xo, wa, ws, wc, la, ls, lc⟩ = bn4 [xh, xp, ws.length, ls.length] ++ (bi8 ws ++ bn4 (ls.map Int.toNat)) by simp only [obB, Int.toNat_natCast]] at htk
   have hq6 : q < 256 := by omega
   have HTK := z0j htk
   have HX := z0j hx
   have HSW : Hid (∀ {p r : Blk}, zgA w.heap.size w [p, r] fun w => zm w wa (ws.flatMap iV)) := z0j (zgA.of_row hw1)
   have HSL : Hid (∀ {p r : Blk}, zgA w.heap.size w [p, r] fun w => zm w la ((ls.map Int.toNat).flatMap zeb)) := z0j (by rw [znt (fun t ht => (g7 t ht).1)]; exact zgA.of_row hw2)
   have HLA : Hid ([xh, xp, ws.length, ls.length].length = 4) := z0j rfl
   have HLB : Hid (4 ≤ 1000) := z0j (by decide)
   have HB4 : Hid (∀ x ∈ [xh, xp, ws.length, ls.length], x ≤ 2147483647) := z0j (by intro x hx; simp at hx; omega)
   have HC4 : Hid ([Value.int .i64 (xh : Int), Value.int .i64 (xp : Int), Value.int .i64 (ws.length : Int), Value.int .i64 (ls.length : Int)] = [xh, xp, ws.length, ls.length].flatMap zeb) := z0j rfl
   have HL5 : Hid (ws.length ≤ 1000) := z0j (by omega)
   have HL6 : Hid (ls.length ≤ 1000) := z0j (by omega)
   have HLN : Hid ((ls.map Int.toNat).length = ls.length) := z0j (List.length_map ..)
   have HB6 : Hid (∀ x ∈ ls.map Int.toNat, x ≤ 2147483647) := z0j (by intro x hx; obtain ⟨t, ht, rfl⟩ := List.mem_map.1 hx; have := g7 t ht; omega)
   have HX0 : Hid (m ≤ 900000) := z0j (by omega)
   have HMB : Hid (m ≤ 100000 ∧ ws.length ≤ 32 ∧ ls.length ≤ 16) := z0j ⟨by omega, g5, g6⟩
   have e1 : (0 : Int) ≤ (q : Int) := by omega
   have e2 : (q : Int) < (os.length : Int) := by omega
   clear hx hw1 hw2 g1 g2 g3 g4 g5 g6 g7 htk hm hol
   go_wp2_with (first | (go_at_call 79; (with_reducible refine (zia [xh, xp, ws.length, ls.length] 4 HLA.out HLB.out HB4.out ys m HM.out HX0.out HR.out HC4.out hp).mono ?_); clear hp; rintro e w1 ⟨rfl, y4, m4, a4, c4, R4, hy4, hm4, hr4, hp⟩; have HY4 := z0j hy4; have HM4 := z0j hm4; have HR4 := z0j hr4; clear hy4 hm4 hr4) | ((first | ((refine zi _ rfl ?_); refine lZ hp rfl (by with_reducible first | exact z6) ?_; clear hp; intro b w1 hp) | ((refine zd _ _ rfl ?_); first | refine lO hp rfl (za rfl) zkP zK ?_ | refine lR hp rfl (za rfl) zrw HX.out ?_) | ((refine zg _ _ _ rfl ?_); (first | refine sA hp rfl (za rfl) (za rfl) zrw zK ?_); clear hp; intro w1 hp; simp only [spl, z0a, z0b] at hp) | ((refine zC _ _ _ rfl ?_); refine lS hp rfl (by intro w; go_simp; rfl) ?_; clear hp; intro b w1 hp; simp only [z0g, z0h, Nat.reduceAdd] at hp)); simp only [zc, zb, z0b, z0a]))
   have hm4 : m4 = m + 16 := by rw [← HM4.out, HY4.out, List.length_append, HM.out, ZZ]; rfl
   have HX4 : Hid (m4 ≤ 900000) := z0j (by have := HMB.out; omega)
   have HV4 := z0j hm4
   clear hm4
   go_wp2_with (first | (go_at_call 80; (with_reducible refine (zr4 ws ws.length rfl HL5.out y4 m4 HM4.out HX4.out HR4.out wa wc HSW.out hp).mono ?_); clear hp; rintro e w1 ⟨rfl, y5, m5, a5, c5, R5, hy5, hm5, hr5, hp⟩; have HY5 := z0j hy5; have HM5 := z0j hm5; have HR5 := z0j hr5; clear hy5 hm5 hr5) | ((first | ((refine zd _ _ rfl ?_); first | refine lO hp rfl (za rfl) zkP zK ?_)); simp only [zc, zb, z0b, z0a]))
   have hm5 : m5 = m4 + ws.length * 8 := by rw [← HM5.out, HY5.out, List.length_append, HM4.out, zd1]
   have HX5 : Hid (m5 ≤ 900000) := z0j (by have := HMB.out; have := HV4.out; omega)
   clear hm5
   go_wp2_with (first | (go_at_call 79; (with_reducible refine (zr6 (ls.map Int.toNat) ls.length HLN.out HL6.out HB6.out y5 m5 HM5.out HX5.out HR5.out la lc HSL.out hp).mono ?_); clear hp; rintro e w1 ⟨rfl, y6, m6, a6, c6, R6, hy6, hm6, hr6, hp⟩; have HY6 := z0j hy6; have HM6 := z0j hm6; have HR6 := z0j hr6; clear hy6 hm6 hr6))
   go_roundg (gk - 1)
   case measure => omega
   case rel => exact ⟨q + 1, y6, m6, a6, c6, R6, by omega, by go_num, z0j (by rw [HY6.out, HY5.out, HY4.out, HYS.out, HTK.out]; simp only [z0i]), HM6, HR6, hp.tail⟩
  ·obtain rfl : q = os.length := by omega
   have e2 : decide ((os.length : Int) < (os.length : Int)) = false := by simp
   have hys := HYS.out
   rw [List.take_length, ← HRES.out] at hys
   clear hkq hlt
   go_wp2_with (first | ((first | ((refine zd _ _ rfl ?_); first | refine lO hp rfl (za rfl) zkP zK ?_)); simp only [zc, zb, z0b, z0a]))
   go_ret2
   have hmm := HM.out
   rw [hys] at hmm
   subst hmm
   exact ⟨a, c, R, rfl, by rw [← hys]; have h := HR.out; rw [← hys] at h; exact h, hp.tail.tail⟩
end Go.Proofs.YtaafajaadfgaoaaGreat

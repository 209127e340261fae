import Derived.Test.YtjcbpfbifbfkcaaGreatTx13
import Derived.Test.YtjcbpfbifbfkcaaGreatTx20
import Derived.Test.YtjcbpfbifbfkcaaGreatTx2
import Derived.Test.YtjcbpfbifbfkcaaGreatTx19
set_option linter.unusedSimpArgs false
set_option linter.unusedVariables false
set_option maxRecDepth 100000
set_option maxHeartbeats 60000000
namespace Go.Proofs.YtjcbpfbifbfkcaaGreat
open Go.RowKit
def I64 (v : Int) : Prop := -9223372036854775808 ≤ v ∧ v ≤ 9223372036854775807
theorem ziH {n : Nat} (h : n < 4294967296) : beV (beS 4 n) = n := by
 have e : beS 4 n = [n / 2 ^ 24 % 256, n / 2 ^ 16 % 256, n / 2 ^ 8 % 256, n / 2 ^ 0 % 256] := rfl
 rw [e]
 simp only [beV, List.foldl_cons, List.foldl_nil]
 omega
theorem zi1 {n : Nat} (h : n < 18446744073709551616) : beV (beS 8 n) = n := by
 have e : beS 8 n = [n / 2 ^ 56 % 256, n / 2 ^ 48 % 256, n / 2 ^ 40 % 256, n / 2 ^ 32 % 256, n / 2 ^ 24 % 256, n / 2 ^ 16 % 256, n / 2 ^ 8 % 256, n / 2 ^ 0 % 256] := rfl
 rw [e]
 simp only [beV, List.foldl_cons, List.foldl_nil]
 omega
theorem zkD {v : Int} (h : I64 v) : wrap64 ((uN v : Nat) : Int) = v := by
 obtain ⟨h1, h2⟩ := h
 rw [zhX]; unfold wrap64; omega
theorem zfX {n : Nat} (h : n ≤ 2147483647) (r : List Nat) : zd0 (beS 4 n ++ r) = some n := by
 unfold zd0
 have e : (beS 4 n ++ r).take 4 = beS 4 n := by rw [List.take_left' (ZL 4 n)]
 rw [e, ziH (by omega), if_pos ⟨by rw [List.length_append, ZL]; omega, h⟩]
theorem zbb {n : Nat} (h : n ≤ 2147483647) (r : List Nat) : nR (beS 4 n ++ r) = some ((n : Int), r) := by
 unfold nR
 rw [zfX h]
 show some ((n : Int), (beS 4 n ++ r).drop 4) = _
 rw [List.drop_left' (ZL 4 n)]
theorem zjP {v : Int} (h : I64 v) (r : List Nat) : iR (beS 8 (uN v) ++ r) = some (v, r) := by
 unfold iR zky
 rw [if_pos (by rw [List.length_append, ZL]; omega), List.take_left' (ZL 8 _), zi1 (zlz v), zkD h, Option.map_some, List.drop_left' (ZL 8 _)]
theorem zcZ {α β : Type} {one : List Nat → Option (β × List Nat)} (f : α → List Nat) (g : α → β) : ∀ (n : Nat) (l : List α), l.length = n → (∀ x ∈ l, ∀ r, one (f x ++ r) = some (g x, r)) → ∀ r, zbe one n (l.flatMap f ++ r) = some (l.map g, r)
 | 0, l, hl, _, r => by
  rw [List.length_eq_zero_iff.1 hl]; rfl
 | n + 1, l, hl, h, r => by
  rcases List.eq_nil_or_concat l with rfl | ⟨k, x, rfl⟩
  ·cases hl
  rw [List.concat_eq_append] at hl h ⊢
  have hk : k.length = n := by simpa using hl
  have h1 := zcZ f g n k hk (fun y hy => h y (by simp [hy])) (f x ++ r)
  have h2 := h x (by simp) r
  rw [List.flatMap_append, List.append_assoc, show [x].flatMap f = f x by simp]
  rw [za2 h1 h2, List.map_append]; rfl
theorem zi2 {l : List Int} (h : ∀ v ∈ l, I64 v) (r : List Nat) : zbe iR l.length (bi8 l ++ r) = some (l, r) := by
 have := zcZ (one := iR) (fun v => beS 8 (uN v)) id l.length l rfl (fun v hv r => zjP (h v hv) r) r
 rw [List.map_id] at this
 exact this
theorem zgj {l : List Nat} (h : ∀ v ∈ l, v ≤ 2147483647) (r : List Nat) : zbe nR l.length (bn4 l ++ r) = some (l.map fun (n : Nat) => (n : Int), r) := zcZ (one := nR) (fun v => beS 4 v) (fun n => (n : Int)) l.length l rfl (fun v hv r => zbb (h v hv) r) r
theorem Z2 (n : Nat) (l : List Nat) (r : List Nat) : bn4 (n :: l) ++ r = beS 4 n ++ (bn4 l ++ r) := by unfold bn4; rw [List.flatMap_cons, List.append_assoc]
theorem zdv (r : List Nat) : bn4 [] ++ r = r := rfl
def zdn (o : Ob) : Ob := zms o.h o.p o.o o.ws o.ls
theorem zg1 {l : List Int} (h : ∀ t ∈ l, 0 ≤ t) : ((l.map Int.toNat).map fun (n : Nat) => (n : Int)) = l := by
 rw [List.map_map]
 conv => rhs; rw [← List.map_id l]
 exact List.map_congr_left fun x hx => by have := h x hx; simp only [Function.comp_apply, id]; omega
theorem ziU {o : Ob} (hl : zhg o) (hn : zaf o.ws.length o.ls.length = o.o) (h0 : 0 ≤ o.o) (hw : ∀ v ∈ o.ws, I64 v) (r : List Nat) : zfu (obB o ++ r) = some (zdn o, r) := by
 have g1 := hl.h0
 have g2 := hl.h1
 have g3 := hl.p0
 have g4 := hl.p1
 have g5 := hl.wl
 have g6 := hl.ll
 unfold obB
 rw [List.append_assoc, Z2, Z2, Z2, Z2, zdv, List.append_assoc]
 unfold zfu
 rw [zbb (by omega)]; simp only
 rw [zbb (by omega)]; simp only
 rw [zbb (by omega)]; simp only
 rw [zbb (by omega)]; simp only
 rw [hn, if_neg (by omega), Int.toNat_natCast, Int.toNat_natCast, zi2 hw]; simp only
 rw [show o.ls.length = (o.ls.map Int.toNat).length by simp, zgj (fun v hv => by
  obtain ⟨t, ht, rfl⟩ := List.mem_map.1 hv
  have := hl.ls t ht
  omega)]
 simp only
 rw [zg1 (fun t ht => (hl.ls t ht).1), Int.toNat_of_nonneg g1, Int.toNat_of_nonneg g3]
 rfl
theorem ZO.clear (l : List Ob) : ZO (l.map zdn) l := by
 refine ⟨by simp, fun i a b ha hb => ?_⟩
 rw [List.getElem?_map, hb] at ha
 simp only [Option.map_some, Option.some.injEq] at ha
 subst ha
 exact ⟨rfl, rfl, rfl, rfl, rfl⟩
def zcU (x : Hv) : Hv := ⟨x.od, none, x.os.map zdn, 0, x.nx, x.t0, x.t1, x.t2, x.t3, none, x.fs, 0⟩
theorem zeO (x : Hv) : (zcU x).Sm x := ⟨rfl, rfl, rfl, rfl, rfl, rfl, ZO.clear _, rfl⟩
def Hv.W64 (x : Hv) : Prop := ∀ o ∈ x.os, ∀ v ∈ o.ws, I64 v
theorem zgv {x : Hv} (hx : ZF x) (hw : x.W64) (r : List Nat) : zdu (zbC x ++ r) = some (zcU x, r) := by
 have hlay := zcl hx
 have hod := zeD hx
 have hlo := hx.lo
 have hhi := hx.hi
 have hlen := hx.len
 have l0 := ZU hx (hx.tops x.t0 (by simp [tops]))
 have l1 := ZU hx (hx.tops x.t1 (by simp [tops]))
 have l2 := ZU hx (hx.tops x.t2 (by simp [tops]))
 have l3 := ZU hx (hx.tops x.t3 (by simp [tops]))
 have hob : ∀ o ∈ x.os, ∀ r, zfu (obB o ++ r) = some (zdn o, r) := fun o ho r => ziU (hlay o ho) (hx.need o ho).1 (by have := (hx.need o ho).2.1; simpa [zav] using this) (hw o ho) r
 unfold zbC ze6
 rw [List.append_assoc, List.append_assoc, List.append_assoc, Z2, Z2, zdv]
 unfold zdu
 rw [zbb (by omega)]; simp only
 rw [zbb (by omega)]; simp only
 unfold ZR
 rw [show (4 : Nat) = [x.t0.toNat, x.t1.toNat, x.t2.toNat, x.t3.toNat].length from rfl, zgj (by intro v hv; simp at hv; omega)]
 simp only
 unfold zcC
 rw [Z2, zdv, zbb (by omega)]
 simp only
 rw [if_neg (by omega), Int.toNat_natCast, zcZ obB zdn x.os.length x.os rfl hob]
 simp only
 unfold zc6
 rw [Int.toNat_of_nonneg (by omega), Int.toNat_of_nonneg (by omega)]
 have hre : Zd x.od = true := by unfold Zd; simp [hod.1, hod.2]
 have hm : zkd x.od (x.os.map zdn) x.nx ([x.t0.toNat, x.t1.toNat, x.t2.toNat, x.t3.toNat].map fun (n : Nat) => (n : Int)) (lfN (pw x.od) (x.os.map zdn) x.od.toNat 0) = zcU x := by
  rw [zjb (ZO.clear x.os), zha hx]
  unfold zkd zcU
  simp only [List.map_cons, List.map_nil, z0c, z0d, Int.toNat_of_nonneg l0.1, Int.toNat_of_nonneg l1.1, Int.toNat_of_nonneg l2.1, Int.toNat_of_nonneg l3.1]
 rw [if_pos hre, hm, if_pos (by rw [zc2 (zeO x)]; exact zaZ hx)]
theorem zh7 {x : Hv} (hx : ZF x) (hw : x.W64) : zbI (zbC x) = some (zcU x) := by
 have h := zgv hx hw []
 rw [List.append_nil] at h
 unfold zbI zbr
 rw [h]; rfl
theorem ziA {x : Rw} (hc : 0 ≤ x.c ∧ x.c ≤ 4 ∧ 0 ≤ x.s ∧ x.s ≤ 1000000 ∧ 0 ≤ x.e ∧ x.e ≤ 65535) (hv : I64 x.v) (r : List Nat) : zis (zg2 x ++ r) = some (x, r) := by
 unfold zg2
 rw [List.append_assoc, Z2, Z2, Z2, zdv]
 unfold zis
 rw [zbb (by omega)]; simp only
 rw [zbb (by omega)]; simp only
 rw [zbb (by omega)]; simp only
 rw [show bi8 [x.v] ++ r = beS 8 (uN x.v) ++ r by simp [bi8], zjP hv]
 simp only
 rw [Int.toNat_of_nonneg hc.1, Int.toNat_of_nonneg hc.2.2.1, Int.toNat_of_nonneg hc.2.2.2.2.1]
structure Sv.W64 (x : Sv) : Prop where
 hv : x.hv.W64
 rows : ∀ r ∈ x.rs, I64 r.v
def zfc (x : Sv) : Sv := ⟨zcU x.hv, none, x.rs, 0⟩
theorem zhK (x : Sv) : (zfc x).Sm x := ⟨zeO _, rfl⟩
theorem zhr {bs : List Nat} (h : bs.length ≤ 65536) (r : List Nat) : zcE ((beS 4 bs.length ++ bs) ++ r) = some (bs, r) := by
 unfold zcE
 rw [List.append_assoc, zfX (by omega)]
 simp only
 rw [List.drop_left' (ZL 4 _)]
 simp [h, ZL]
 omega
theorem zg5 {x : Sv} (hx : StR x) (hw : x.W64) : zab (zb0 x) = some (zfc x) := by
 have hlen := ze4 hx.hv
 have hrl := zbu hx.rows (by decide)
 unfold zab zbr Zl zb0
 rw [zhr (by omega)]
 simp only
 rw [zh7 hx.hv hw.hv]
 simp only
 unfold zbM
 rw [Z2, zdv, zbb (by omega)]
 simp only
 have hrow := zcZ zg2 id x.rs.length x.rs rfl (fun y hy r => ziA (by have := zaO.1 (zck hx.rows y hy); omega) (hw.rows y hy) r) []
 rw [List.append_nil, List.map_id] at hrow
 rw [if_neg (by omega), Int.toNat_natCast, hrow]
 simp only
 rw [show (⟨zcU x.hv, none, x.rs, 0⟩ : Sv) = zfc x from rfl, if_pos (by rw [zic (zhK x)]; exact zjH hx)]
 rfl
open Go.RowKit Go.ChangeShapes Go.WideShapes Go.ChangeAt Go.Deep
section
variable {H : Type} {enc : TypeId × Value → H} {w : World} {base : Nat} {spare : Nat → Bool} {held : Bool} {cs : List Value}
theorem zkP {n : Int} (h : IntKind.i64.has n) : I64 n := by
 have h5 : IntKind.i64.max = 9223372036854775807 := by decide
 have h6 : IntKind.i64.min = -9223372036854775808 := by decide
 have h7 := h.1
 have h8 := h.2
 rw [h6] at h7
 rw [h5] at h8
 exact ⟨h7, h8⟩
end
open Go.RowKit
theorem zB : zx Tryz.prog 23 = true := by kernel_rfl
theorem zk : Z6 Tryz.prog 28 5 = true := by kernel_rfl
theorem Zz : zbz Tryz.prog 28 = some ([.int .i64 0, .int .i64 0, .int .i64 0, .string ⟨#[]⟩, .slice none 0 0], 5) := by kernel_rfl
theorem zF : Z6 Tryz.prog 40 17 = true := by kernel_rfl
theorem zfZ : (Tryz.prog.info? 38).map (fun i => (i.zero, i.size, i.bytes)) = some (some (.agg #[.int .i64 0, .int .i64 0, .int .i64 0, .int .i64 0, .int .i64 0, .int .i64 0, .int .i64 0, .int .i64 0, .int .i64 0, .int .i64 0, .int .i64 0]), 11, 88) := by kernel_rfl
structure Kv where
 vw : Int
 nm : Int
 bs : Int
 im : ByteArray
 ea : Option Addr
 es : List Env
 ec : Nat
def Kv.Is (w : World) (x : Kv) : Prop := zm w x.ea (x.es.flatMap zQ)
structure Kv.Sm (x y : Kv) : Prop where
 vw : x.vw = y.vw
 nm : x.nm = y.nm
 bs : x.bs = y.bs
 im : x.im = y.im
 es : x.es = y.es
theorem zP (e : Env) : (zQ e).length = 11 := rfl
def zaB (fr : Int) : Nat → List Env → Bool
 | _, [] => true
 | q, e :: r => decide (wrap64 (wrap64 (e.nu - 1) - (q : Int)) = fr) && zaB fr (q + 1) r
theorem ziu (n lo hi : Int) (w : World) : Calls Tryz.prog 67 #[.int .i64 n, .int .i64 lo, .int .i64 hi] w fun e w' => e = .returned (.bool (inM n lo hi)) ∧ w = w' := by
 go_enter Tryz.func67, Tryz.ntmps67
 go_wp2
 all_goals go_ret
 all_goals refine ⟨ZP ?_, rfl⟩
 all_goals (simp [inM, *]; try omega)
theorem zhH (l : List Env) (fr : Int) (a : Option Addr) (c : Nat) (hl : l.length ≤ 100000) (w : World) (ha : zm w a (l.flatMap zQ)) :
  Calls Tryz.prog 68 #[.slice a l.length c, .int .i64 fr] w fun e w' => e = .returned (.bool (zaB fr 0 l)) ∧ Below w.heap.size w w' := by
 have hp := Hp.start w
 have HA := z0j ha
 clear ha
 go_enter Tryz.func68, Tryz.ntmps68
 go_wp2_with (first | go_skip | ((first | ((refine zf _ rfl ?_); refine lZ hp rfl zZ ?_; clear hp; intro b w1 hp) | ((refine ze _ _ rfl ?_); first | refine lO hp rfl (za rfl) zn aa5 ?_ | refine lA hp rfl (za rfl) zr aa5 ?_ | refine lR hp rfl (za rfl) zr HX.out ?_) | ((refine zd _ _ _ rfl ?_); (first | refine sA hp rfl (za rfl) (za rfl) zr aa5 ?_ | refine sG hp rfl (za rfl) (za rfl) zr aa5 ?_); clear hp; intro w1 hp; simp only [spl, z0a, z0b] at hp)); simp only [zc, zb, z0b, z0a]))
 go_loopg [9] l.length (fun k i wr => ∃ q : Nat, k + q = l.length ∧ i = .int .i64 q ∧ Hid (zaB fr 0 l = zaB fr q (l.drop q)) ∧ Hp w.heap.size w wr [])
 case atStart => exact ⟨0, by omega, rfl, z0j rfl, hp⟩
 case round =>
  clear hp
  obtain ⟨q, hkq, rfl, HF, hp⟩ := hrel
  by_cases hlt : q < l.length
  ·obtain ⟨bq, off, rfl, hx⟩ := HA.out.elems 11 zP (by omega) (by omega)
   have hj := List.getElem?_eq_getElem hlt
   replace hx := hx q _ hj
   have hd := List.drop_eq_getElem_cons hlt
   clear hj
   generalize l[q] = en at hx hd
   obtain ⟨nu, vi, cl, sq, ⟨kk, hh, ii, nn, cc, vv, tt⟩⟩ := en
   simp only [zQ, opL, z0f, z0e] at hx
   have HX := z0j hx
   have HF2 : Hid (zaB fr 0 l = (decide (wrap64 (wrap64 (nu - 1) - (q : Int)) = fr) && zaB fr (q + 1) (l.drop (q + 1)))) := z0j (by rw [HF.out, hd]; rfl)
   have f1 : (0 : Int) ≤ (q : Int) := by omega
   have f2 : (q : Int) < (l.length : Int) := by omega
   clear hx hd HF
   by_cases heq : wrap64 (wrap64 (nu - 1) - (q : Int)) = fr
   ·have e3 : (wrap64 (wrap64 (nu - 1) - (q : Int)) == fr) = true := by simpa using heq
    have HE := z0j heq
    clear heq
    go_wp2_with (first | go_skip | ((first | ((refine zf _ rfl ?_); refine lZ hp rfl zZ ?_; clear hp; intro b w1 hp) | ((refine ze _ _ rfl ?_); first | refine lO hp rfl (za rfl) zn aa5 ?_ | refine lA hp rfl (za rfl) zr aa5 ?_ | refine lR hp rfl (za rfl) zr HX.out ?_) | ((refine zd _ _ _ rfl ?_); (first | refine sA hp rfl (za rfl) (za rfl) zr aa5 ?_ | refine sG hp rfl (za rfl) (za rfl) zr aa5 ?_); clear hp; intro w1 hp; simp only [spl, z0a, z0b] at hp)); simp only [zc, zb, z0b, z0a]))
    go_roundg (gk - 1)
    case measure => omega
    case rel => exact ⟨q + 1, by omega, by go_num, z0j (by rw [HF2.out, HE.out]; simp), hp.tail⟩
   ·have e3 : (wrap64 (wrap64 (nu - 1) - (q : Int)) == fr) = false := by simpa using heq
    have HE := z0j heq
    clear heq
    go_wp2_with (first | go_skip | ((first | ((refine zf _ rfl ?_); refine lZ hp rfl zZ ?_; clear hp; intro b w1 hp) | ((refine ze _ _ rfl ?_); first | refine lO hp rfl (za rfl) zn aa5 ?_ | refine lA hp rfl (za rfl) zr aa5 ?_ | refine lR hp rfl (za rfl) zr HX.out ?_) | ((refine zd _ _ _ rfl ?_); (first | refine sA hp rfl (za rfl) (za rfl) zr aa5 ?_ | refine sG hp rfl (za rfl) (za rfl) zr aa5 ?_); clear hp; intro w1 hp; simp only [spl, z0a, z0b] at hp)); simp only [zc, zb, z0b, z0a]))
    go_ret
    refine ⟨?_, hp.below⟩
    rw [HF2.out, decide_eq_false HE.out]; rfl
  ·obtain rfl : q = l.length := by omega
   have e2 : decide ((l.length : Int) < (l.length : Int)) = false := by simp
   clear hkq hlt
   go_wp2_with (first | go_skip | ((first | ((refine zf _ rfl ?_); refine lZ hp rfl zZ ?_; clear hp; intro b w1 hp) | ((refine ze _ _ rfl ?_); first | refine lO hp rfl (za rfl) zn aa5 ?_ | refine lA hp rfl (za rfl) zr aa5 ?_ | refine lR hp rfl (za rfl) zr HX.out ?_) | ((refine zd _ _ _ rfl ?_); (first | refine sA hp rfl (za rfl) (za rfl) zr aa5 ?_ | refine sG hp rfl (za rfl) (za rfl) zr aa5 ?_); clear hp; intro w1 hp; simp only [spl, z0a, z0b] at hp)); simp only [zc, zb, z0b, z0a]))
   go_ret
   refine ⟨?_, hp.below⟩
   rw [HF.out, List.drop_length]; rfl
theorem zS (vw nm bs : Int) (im : ByteArray) (ea : Option Addr) (n ec : Nat) (w : World) : Calls Tryz.prog 71 #[.agg #[.int .i64 vw, .int .i64 nm, .int .i64 bs, .string im, .slice ea n ec]] w fun e w' => e = .returned (.int .i64 (wrap64 (bs + (n : Int)))) ∧ Below w.heap.size w w' := by
 have hp := Hp.start w
 go_enter Tryz.func71, Tryz.ntmps71
 go_wp2_with (first | go_skip | ((first | ((refine zg _ _ rfl ?_); refine lB hp rfl (za rfl) rfl ?_; clear hp; intro b w1 hp) | ((refine ze _ _ rfl ?_); refine lO hp rfl (za rfl) (by with_reducible first | exact zn | exact zB) aa5 ?_)); simp only [zc, zb, z0b, z0a]))
 go_ret
 exact ⟨rfl, hp.below⟩
open Go.RowKit Go.ChangeShapes Go.WideShapes Go.ChangeAt Go.Deep
section
variable {H : Type} {enc : TypeId × Value → H} {w : World} {base : Nat} {spare : Nat → Bool} {held : Bool} {cs : List Value}
theorem zff (h : zaz H enc Tryz.prog w base spare held 36 cs) : ∃ x, cs = opL x := by
 obtain ⟨hl, hz⟩ := h.struct Tryz.underlying36
 rw [show Tryz.prog.cellsOf 36 = 7 by kernel_rfl] at hl
 match cs, hl with
 | [v0, v1, v2, v3, v4, v5, v6], _ =>
  obtain ⟨a0, h0, _⟩ := (hz 0 _ rfl 0 1 rfl (by kernel_rfl)).int Tryz.underlying34
  obtain ⟨a1, h1, _⟩ := (hz 1 _ rfl 1 1 rfl (by kernel_rfl)).int Tryz.underlying3
  obtain ⟨a2, h2, _⟩ := (hz 2 _ rfl 2 1 rfl (by kernel_rfl)).int Tryz.underlying3
  obtain ⟨a3, h3, _⟩ := (hz 3 _ rfl 3 1 rfl (by kernel_rfl)).int Tryz.underlying3
  obtain ⟨a4, h4, _⟩ := (hz 4 _ rfl 4 1 rfl (by kernel_rfl)).int Tryz.underlying3
  obtain ⟨a5, h5, _⟩ := (hz 5 _ rfl 5 1 rfl (by kernel_rfl)).int Tryz.underlying3
  obtain ⟨a6, h6, _⟩ := (hz 6 _ rfl 6 1 rfl (by kernel_rfl)).int Tryz.underlying3
  simp at h0 h1 h2 h3 h4 h5 h6
  subst h0 h1 h2 h3 h4 h5 h6
  exact ⟨⟨a0, a1, a2, a3, a4, a5, a6⟩, rfl⟩
theorem ze9 (h : zaz H enc Tryz.prog w base spare held 38 cs) : ∃ x, cs = zQ x ∧ True := by
 obtain ⟨hl, hz⟩ := h.struct Tryz.underlying38
 rw [show Tryz.prog.cellsOf 38 = 11 by kernel_rfl] at hl
 match cs, hl with
 | [v0, v1, v2, v3, v4, v5, v6, v7, v8, v9, v10], _ =>
  obtain ⟨a0, h0, _⟩ := (hz 0 _ rfl 0 1 rfl (by kernel_rfl)).int Tryz.underlying3
  obtain ⟨a1, h1, _⟩ := (hz 1 _ rfl 1 1 rfl (by kernel_rfl)).int Tryz.underlying3
  obtain ⟨a2, h2, _⟩ := (hz 2 _ rfl 2 1 rfl (by kernel_rfl)).int Tryz.underlying3
  obtain ⟨a3, h3, _⟩ := (hz 3 _ rfl 3 1 rfl (by kernel_rfl)).int Tryz.underlying3
  obtain ⟨o, h4⟩ := zff (hz 4 _ rfl 4 7 rfl (by kernel_rfl))
  simp at h0 h1 h2 h3 h4
  subst h0 h1 h2 h3
  refine ⟨⟨a0, a1, a2, a3, o⟩, ?_, trivial⟩
  simp only [zQ, z0f, z0e]
  rw [← h4]
theorem zbE {a : Option Addr} {n c : Nat} (h : zaz H enc Tryz.prog w base spare held 23 [.slice a n c]) : ∃ l : List Env, l.length = n ∧ zm w a (l.flatMap zQ) ∧ n ≤ c := by
 have hc : n ≤ c := by
  obtain ⟨m, y, h'⟩ := h
  rcases open_slice Tryz.underlying23 h' with ⟨he, _⟩ | ⟨ad, n', cap, m, nn, D, Pl, he, _, hl, _⟩
  ·simp at he; omega
  ·simp at he; omega
 obtain ⟨a', l, c', h1, h2, _⟩ := h.slice zQ (fun _ => True) 11 (by decide) zP Tryz.underlying23 (by kernel_rfl) (fun cs h => ze9 h)
 simp at h1
 obtain ⟨rfl, rfl, rfl⟩ := h1
 exact ⟨l, rfl, h2, hc⟩
theorem zcX {v0 v1 v2 v3 : Value} {a : Option Addr} {n c : Nat} (h : zaz H enc Tryz.prog w base spare held 28 [v0, v1, v2, v3, .slice a n c]) : ∃ l : List Env, l.length = n ∧ zm w a (l.flatMap zQ) ∧ n ≤ c := by
 obtain ⟨_, hz⟩ := h.struct Tryz.underlying28
 exact zbE (hz 4 _ rfl 4 1 rfl (by kernel_rfl))
end
open Go.RowKit Go.ChangeShapes Go.WideShapes Go.ChangeAt Go.Deep
section
variable {H : Type} {enc : TypeId × Value → H} {w : World} {base : Nat} {spare : Nat → Bool} {held : Bool} {cs : List Value}
theorem zeS (h : zaz H enc Tryz.prog w base spare held 38 cs) : ∃ x, cs = zQ x ∧ I64 x.nu := by
 obtain ⟨hl, hz⟩ := h.struct Tryz.underlying38
 rw [show Tryz.prog.cellsOf 38 = 11 by kernel_rfl] at hl
 match cs, hl with
 | [v0, v1, v2, v3, v4, v5, v6, v7, v8, v9, v10], _ =>
  obtain ⟨a0, h0, h64⟩ := (hz 0 _ rfl 0 1 rfl (by kernel_rfl)).int Tryz.underlying3
  obtain ⟨a1, h1, _⟩ := (hz 1 _ rfl 1 1 rfl (by kernel_rfl)).int Tryz.underlying3
  obtain ⟨a2, h2, _⟩ := (hz 2 _ rfl 2 1 rfl (by kernel_rfl)).int Tryz.underlying3
  obtain ⟨a3, h3, _⟩ := (hz 3 _ rfl 3 1 rfl (by kernel_rfl)).int Tryz.underlying3
  obtain ⟨o, h4⟩ := zff (hz 4 _ rfl 4 7 rfl (by kernel_rfl))
  simp at h0 h1 h2 h3 h4
  subst h0 h1 h2 h3
  refine ⟨⟨a0, a1, a2, a3, o⟩, ?_, zkP h64⟩
  simp only [zQ, z0f, z0e]
  rw [← h4]
theorem zbF {a : Option Addr} {n c : Nat} (h : zaz H enc Tryz.prog w base spare held 23 [.slice a n c]) : ∃ l : List Env, l.length = n ∧ zm w a (l.flatMap zQ) ∧ ∀ e ∈ l, I64 e.nu := by
 obtain ⟨a', l, c', h1, h2, h3⟩ := h.slice zQ (fun e => I64 e.nu) 11 (by decide) zP Tryz.underlying23 (by kernel_rfl) (fun cs h => zeS h)
 simp at h1
 obtain ⟨rfl, rfl, rfl⟩ := h1
 exact ⟨l, rfl, h2, h3⟩
end
end Go.Proofs.YtjcbpfbifbfkcaaGreat

import Derived.Test.YtjcbpfbifbfkcaaGreatTq22
import Derived.Test.YtjcbpfbifbfkcaaGreatTq30
import Derived.Test.YtjcbpfbifbfkcaaGreatTq28
import Derived.Test.YtjcbpfbifbfkcaaGreatTq3
set_option linter.unusedSimpArgs false
set_option linter.unusedVariables false
set_option maxRecDepth 100000
set_option maxHeartbeats 60000000
namespace Go.Proofs.YtjcbpfbifbfkcaaGreat
open Go.RowKit
def I64 (v : Int) : Prop := -9223372036854775808 ≤ v ∧ v ≤ 9223372036854775807
theorem zoc {n : Nat} (h : n < 4294967296) : beV (beS 4 n) = n := by
 have e : beS 4 n = [n / 2 ^ 24 % 256, n / 2 ^ 16 % 256, n / 2 ^ 8 % 256, n / 2 ^ 0 % 256] := rfl
 rw [e]
 simp only [beV, List.foldl_cons, List.foldl_nil]
 omega
theorem zpi {n : Nat} (h : n < 18446744073709551616) : beV (beS 8 n) = n := by
 have e : beS 8 n = [n / 2 ^ 56 % 256, n / 2 ^ 48 % 256, n / 2 ^ 40 % 256, n / 2 ^ 32 % 256, n / 2 ^ 24 % 256, n / 2 ^ 16 % 256, n / 2 ^ 8 % 256, n / 2 ^ 0 % 256] := rfl
 rw [e]
 simp only [beV, List.foldl_cons, List.foldl_nil]
 omega
theorem zru {v : Int} (h : I64 v) : wrap64 ((uN v : Nat) : Int) = v := by
 obtain ⟨h1, h2⟩ := h
 rw [znJ]; unfold wrap64; omega
theorem zjT {n : Nat} (h : n ≤ 2147483647) (r : List Nat) : zgO (beS 4 n ++ r) = some n := by
 unfold zgO
 have e : (beS 4 n ++ r).take 4 = beS 4 n := by rw [List.take_left' (zam 4 n)]
 rw [e, zoc (by omega), if_pos ⟨by rw [List.length_append, zam]; omega, h⟩]
theorem zcz {n : Nat} (h : n ≤ 2147483647) (r : List Nat) : nR (beS 4 n ++ r) = some ((n : Int), r) := by
 unfold nR
 rw [zjT h]
 show some ((n : Int), (beS 4 n ++ r).drop 4) = _
 rw [List.drop_left' (zam 4 n)]
theorem zpL {v : Int} (h : I64 v) (r : List Nat) : iR (beS 8 (uN v) ++ r) = some (v, r) := by
 unfold iR zrh
 rw [if_pos (by rw [List.length_append, zam]; omega), List.take_left' (zam 8 _), zpi (zsl v), zru h, Option.map_some, List.drop_left' (zam 8 _)]
theorem zfA {α β : Type} {one : List Nat → Option (β × List Nat)} (f : α → List Nat) (g : α → β) : ∀ (n : Nat) (l : List α), l.length = n → (∀ x ∈ l, ∀ r, one (f x ++ r) = some (g x, r)) → ∀ r, zcD one n (l.flatMap f ++ r) = some (l.map g, r)
 | 0, l, hl, _, r => by
  rw [List.length_eq_zero_iff.1 hl]; rfl
 | n + 1, l, hl, h, r => by
  rcases List.eq_nil_or_concat l with rfl | ⟨k, x, rfl⟩
  ·cases hl
  rw [List.concat_eq_append] at hl h ⊢
  have hk : k.length = n := by simpa using hl
  have h1 := zfA f g n k hk (fun y hy => h y (by simp [hy])) (f x ++ r)
  have h2 := h x (by simp) r
  rw [List.flatMap_append, List.append_assoc, show [x].flatMap f = f x by simp]
  rw [zca h1 h2, List.map_append]; rfl
theorem zou {l : List Int} (h : ∀ v ∈ l, I64 v) (r : List Nat) : zcD iR l.length (bi8 l ++ r) = some (l, r) := by
 have := zfA (one := iR) (fun v => beS 8 (uN v)) id l.length l rfl (fun v hv r => zpL (h v hv) r) r
 rw [List.map_id] at this
 exact this
theorem zjR {l : List Nat} (h : ∀ v ∈ l, v ≤ 2147483647) (r : List Nat) : zcD nR l.length (bn4 l ++ r) = some (l.map fun (n : Nat) => (n : Int), r) := zfA (one := nR) (fun v => beS 4 v) (fun n => (n : Int)) l.length l rfl (fun v hv r => zcz (h v hv) r) r
theorem zaS (n : Nat) (l : List Nat) (r : List Nat) : bn4 (n :: l) ++ r = beS 4 n ++ (bn4 l ++ r) := by unfold bn4; rw [List.flatMap_cons, List.append_assoc]
theorem zfu (r : List Nat) : bn4 [] ++ r = r := rfl
def zfl (o : Ob) : Ob := zhm o.h o.p o.o o.ws o.ls
theorem zlw {l : List Int} (h : ∀ t ∈ l, 0 ≤ t) : ((l.map Int.toNat).map fun (n : Nat) => (n : Int)) = l := by
 rw [List.map_map]
 conv => rhs; rw [← List.map_id l]
 exact List.map_congr_left fun x hx => by have := h x hx; simp only [Function.comp_apply, id]; omega
theorem zpr {o : Ob} (hl : zl9 o) (hn : ZC o.ws.length o.ls.length = o.o) (h0 : 0 ≤ o.o) (hw : ∀ v ∈ o.ws, I64 v) (r : List Nat) : zjq (obB o ++ r) = some (zfl o, r) := by
 have g1 := hl.h0
 have g2 := hl.h1
 have g3 := hl.p0
 have g4 := hl.p1
 have g5 := hl.wl
 have g6 := hl.ll
 unfold obB
 rw [List.append_assoc, zaS, zaS, zaS, zaS, zfu, List.append_assoc]
 unfold zjq
 rw [zcz (by omega)]; simp only
 rw [zcz (by omega)]; simp only
 rw [zcz (by omega)]; simp only
 rw [zcz (by omega)]; simp only
 rw [hn, if_neg (by omega), Int.toNat_natCast, Int.toNat_natCast, zou hw]; simp only
 rw [show o.ls.length = (o.ls.map Int.toNat).length by simp, zjR (fun v hv => by
  obtain ⟨t, ht, rfl⟩ := List.mem_map.1 hv
  have := hl.ls t ht
  omega)]
 simp only
 rw [zlw (fun t ht => (hl.ls t ht).1), Int.toNat_of_nonneg g1, Int.toNat_of_nonneg g3]
 rfl
theorem Z4.clear (l : List Ob) : Z4 (l.map zfl) l := by
 refine ⟨by simp, fun i a b ha hb => ?_⟩
 rw [List.getElem?_map, hb] at ha
 simp only [Option.map_some, Option.some.injEq] at ha
 subst ha
 exact ⟨rfl, rfl, rfl, rfl, rfl⟩
def zfp (x : Hv) : Hv := ⟨x.od, none, x.os.map zfl, 0, x.nx, x.t0, x.t1, x.t2, x.t3, none, x.fs, 0⟩
theorem zhK (x : Hv) : (zfp x).Sm x := ⟨rfl, rfl, rfl, rfl, rfl, rfl, Z4.clear _, rfl⟩
def Hv.W64 (x : Hv) : Prop := ∀ o ∈ x.os, ∀ v ∈ o.ws, I64 v
theorem zlg {x : Hv} (hx : zQ x) (hw : x.W64) (r : List Nat) : zfD (zdg x ++ r) = some (zfp x, r) := by
 have hlay := zeD hx
 have hod := ze4 hx
 have hlo := hx.lo
 have hhi := hx.hi
 have hlen := hx.len
 have l0 := zav hx (hx.tops x.t0 (by simp [tops]))
 have l1 := zav hx (hx.tops x.t1 (by simp [tops]))
 have l2 := zav hx (hx.tops x.t2 (by simp [tops]))
 have l3 := zav hx (hx.tops x.t3 (by simp [tops]))
 have hob : ∀ o ∈ x.os, ∀ r, zjq (obB o ++ r) = some (zfl o, r) := fun o ho r => zpr (hlay o ho) (hx.need o ho).1 (by have := (hx.need o ho).2.1; simpa [zan] using this) (hw o ho) r
 unfold zdg zip
 rw [List.append_assoc, List.append_assoc, List.append_assoc, zaS, zaS, zfu]
 unfold zfD
 rw [zcz (by omega)]; simp only
 rw [zcz (by omega)]; simp only
 unfold zas
 rw [show (4 : Nat) = [x.t0.toNat, x.t1.toNat, x.t2.toNat, x.t3.toNat].length from rfl, zjR (by intro v hv; simp at hv; omega)]
 simp only
 unfold zeJ
 rw [zaS, zfu, zcz (by omega)]
 simp only
 rw [if_neg (by omega), Int.toNat_natCast, zfA obB zfl x.os.length x.os rfl hob]
 simp only
 unfold ze6
 rw [Int.toNat_of_nonneg (by omega), Int.toNat_of_nonneg (by omega)]
 have hre : Zm x.od = true := by unfold Zm; simp [hod.1, hod.2]
 have hm : zqp x.od (x.os.map zfl) x.nx ([x.t0.toNat, x.t1.toNat, x.t2.toNat, x.t3.toNat].map fun (n : Nat) => (n : Int)) (lfN (pw x.od) (x.os.map zfl) x.od.toNat 0) = zfp x := by
  rw [zot (Z4.clear x.os), znI hx]
  unfold zqp zfp
  simp only [List.map_cons, List.map_nil, z0c, z0d, Int.toNat_of_nonneg l0.1, Int.toNat_of_nonneg l1.1, Int.toNat_of_nonneg l2.1, Int.toNat_of_nonneg l3.1]
 rw [if_pos hre, hm, if_pos (by rw [zfg (zhK x)]; exact za7 hx)]
theorem zmk {x : Hv} (hx : zQ x) (hw : x.W64) : zdO (zdg x) = some (zfp x) := by
 have h := zlg hx hw []
 rw [List.append_nil] at h
 unfold zdO zc2
 rw [h]; rfl
theorem zoL {x : Rw} (hc : 0 ≤ x.c ∧ x.c ≤ 4 ∧ 0 ≤ x.s ∧ x.s ≤ 1000000 ∧ 0 ≤ x.e ∧ x.e ≤ 65535) (hv : I64 x.v) (r : List Nat) : znU (zkT x ++ r) = some (x, r) := by
 unfold zkT
 rw [List.append_assoc, zaS, zaS, zaS, zfu]
 unfold znU
 rw [zcz (by omega)]; simp only
 rw [zcz (by omega)]; simp only
 rw [zcz (by omega)]; simp only
 rw [show bi8 [x.v] ++ r = beS 8 (uN x.v) ++ r by simp [bi8], zpL hv]
 simp only
 rw [Int.toNat_of_nonneg hc.1, Int.toNat_of_nonneg hc.2.2.1, Int.toNat_of_nonneg hc.2.2.2.2.1]
structure Sv.W64 (x : Sv) : Prop where
 hv : x.hv.W64
 rows : ∀ r ∈ x.rs, I64 r.v
def zhA (x : Sv) : Sv := ⟨zfp x.hv, none, x.rs, 0⟩
theorem znL (x : Sv) : (zhA x).Sm x := ⟨zhK _, rfl⟩
theorem zns {bs : List Nat} (h : bs.length ≤ 65536) (r : List Nat) : zeQ ((beS 4 bs.length ++ bs) ++ r) = some (bs, r) := by
 unfold zeQ
 rw [List.append_assoc, zjT (by omega)]
 simp only
 rw [List.drop_left' (zam 4 _)]
 simp [h, zam]
 omega
theorem zlr {x : Sv} (hx : StR x) (hw : x.W64) : za5 (zec x) = some (zhA x) := by
 have hlen := ziz hx.hv
 have hrl := zcd hx.rows (by decide)
 unfold za5 zc2 ZE zec
 rw [zns (by omega)]
 simp only
 rw [zmk hx.hv hw.hv]
 simp only
 unfold zdE
 rw [zaS, zfu, zcz (by omega)]
 simp only
 have hrow := zfA zkT id x.rs.length x.rs rfl (fun y hy r => zoL (by have := Z5.1 (zde hx.rows y hy); omega) (hw.rows y hy) r) []
 rw [List.append_nil, List.map_id] at hrow
 rw [if_neg (by omega), Int.toNat_natCast, hrow]
 simp only
 rw [show (⟨zfp x.hv, none, x.rs, 0⟩ : Sv) = zhA x from rfl, if_pos (by rw [zea (znL x)]; exact zd2 hx)]
 rfl
open Go.RowKit
theorem Zf : zF Tryz.prog 23 = true := by kernel_rfl
theorem zI : ZM Tryz.prog 28 5 = true := by kernel_rfl
theorem zhE : zaL Tryz.prog 28 = some ([.int .i64 0, .int .i64 0, .int .i64 0, .string ⟨#[]⟩, .slice none 0 0], 5) := by kernel_rfl
theorem ziG : ZM Tryz.prog 40 17 = true := by kernel_rfl
theorem znl : (Tryz.prog.info? 38).map (fun i => (i.zero, i.size, i.bytes)) = some (some (.agg #[.int .i64 0, .int .i64 0, .int .i64 0, .int .i64 0, .int .i64 0, .int .i64 0, .int .i64 0, .int .i64 0, .int .i64 0, .int .i64 0, .int .i64 0]), 11, 88) := by kernel_rfl
structure Kv where
 vw : Int
 nm : Int
 bs : Int
 im : ByteArray
 ea : Option Addr
 es : List Env
 ec : Nat
def Kv.Is (w : World) (x : Kv) : Prop := zr w x.ea (x.es.flatMap ZI)
structure Kv.Sm (x y : Kv) : Prop where
 vw : x.vw = y.vw
 nm : x.nm = y.nm
 bs : x.bs = y.bs
 im : x.im = y.im
 es : x.es = y.es
theorem Z8 (e : Env) : (ZI e).length = 11 := rfl
def zg0 (fr : Int) : Nat → List Env → Bool
 | _, [] => true
 | q, e :: r => decide (wrap64 (wrap64 (e.nu - 1) - (q : Int)) = fr) && zg0 fr (q + 1) r
theorem znX (n lo hi : Int) (w : World) : Calls Tryz.prog 67 #[.int .i64 n, .int .i64 lo, .int .i64 hi] w fun e w' => e = .returned (.bool (inM n lo hi)) ∧ w = w' := by
 go_enter Tryz.func67, Tryz.ntmps67
 go_wp2
 all_goals go_ret
 all_goals refine ⟨Zk ?_, rfl⟩
 all_goals (simp [inM, *]; try omega)
theorem znR (l : List Env) (fr : Int) (a : Option Addr) (c : Nat) (hl : l.length ≤ 100000) (w : World) (ha : zr w a (l.flatMap ZI)) :
  Calls Tryz.prog 68 #[.slice a l.length c, .int .i64 fr] w fun e w' => e = .returned (.bool (zg0 fr 0 l)) ∧ Below w.heap.size w w' := by
 have hp := Hp.start w
 have HA := z0j ha
 clear ha
 go_enter Tryz.func68, Tryz.ntmps68
 go_wp2_with (first | go_skip | ((first | ((refine zf _ rfl ?_); refine lZ hp rfl zab ?_; clear hp; intro b w1 hp) | ((refine ze _ _ rfl ?_); first | refine lO hp rfl (za rfl) zm aa5 ?_ | refine lA hp rfl (za rfl) Zq aa5 ?_ | refine lR hp rfl (za rfl) Zq HX.out ?_) | ((refine zd _ _ _ rfl ?_); (first | refine sA hp rfl (za rfl) (za rfl) Zq aa5 ?_ | refine sG hp rfl (za rfl) (za rfl) Zq aa5 ?_); clear hp; intro w1 hp; simp only [spl, z0a, z0b] at hp)); simp only [zc, zb, z0b, z0a]))
 go_loopg [9] l.length (fun k i wr => ∃ q : Nat, k + q = l.length ∧ i = .int .i64 q ∧ Hid (zg0 fr 0 l = zg0 fr q (l.drop q)) ∧ Hp w.heap.size w wr [])
 case atStart => exact ⟨0, by omega, rfl, z0j rfl, hp⟩
 case round =>
  clear hp
  obtain ⟨q, hkq, rfl, HF, hp⟩ := hrel
  by_cases hlt : q < l.length
  ·obtain ⟨bq, off, rfl, hx⟩ := HA.out.elems 11 Z8 (by omega) (by omega)
   have hj := List.getElem?_eq_getElem hlt
   replace hx := hx q _ hj
   have hd := List.drop_eq_getElem_cons hlt
   clear hj
   generalize l[q] = en at hx hd
   obtain ⟨nu, vi, cl, sq, ⟨kk, hh, ii, nn, cc, vv, tt⟩⟩ := en
   simp only [ZI, opL, z0f, z0e] at hx
   have HX := z0j hx
   have HF2 : Hid (zg0 fr 0 l = (decide (wrap64 (wrap64 (nu - 1) - (q : Int)) = fr) && zg0 fr (q + 1) (l.drop (q + 1)))) := z0j (by rw [HF.out, hd]; rfl)
   have f1 : (0 : Int) ≤ (q : Int) := by omega
   have f2 : (q : Int) < (l.length : Int) := by omega
   clear hx hd HF
   by_cases heq : wrap64 (wrap64 (nu - 1) - (q : Int)) = fr
   ·have e3 : (wrap64 (wrap64 (nu - 1) - (q : Int)) == fr) = true := by simpa using heq
    have HE := z0j heq
    clear heq
    go_wp2_with (first | go_skip | ((first | ((refine zf _ rfl ?_); refine lZ hp rfl zab ?_; clear hp; intro b w1 hp) | ((refine ze _ _ rfl ?_); first | refine lO hp rfl (za rfl) zm aa5 ?_ | refine lA hp rfl (za rfl) Zq aa5 ?_ | refine lR hp rfl (za rfl) Zq HX.out ?_) | ((refine zd _ _ _ rfl ?_); (first | refine sA hp rfl (za rfl) (za rfl) Zq aa5 ?_ | refine sG hp rfl (za rfl) (za rfl) Zq aa5 ?_); clear hp; intro w1 hp; simp only [spl, z0a, z0b] at hp)); simp only [zc, zb, z0b, z0a]))
    go_roundg (gk - 1)
    case measure => omega
    case rel => exact ⟨q + 1, by omega, by go_num, z0j (by rw [HF2.out, HE.out]; simp), hp.tail⟩
   ·have e3 : (wrap64 (wrap64 (nu - 1) - (q : Int)) == fr) = false := by simpa using heq
    have HE := z0j heq
    clear heq
    go_wp2_with (first | go_skip | ((first | ((refine zf _ rfl ?_); refine lZ hp rfl zab ?_; clear hp; intro b w1 hp) | ((refine ze _ _ rfl ?_); first | refine lO hp rfl (za rfl) zm aa5 ?_ | refine lA hp rfl (za rfl) Zq aa5 ?_ | refine lR hp rfl (za rfl) Zq HX.out ?_) | ((refine zd _ _ _ rfl ?_); (first | refine sA hp rfl (za rfl) (za rfl) Zq aa5 ?_ | refine sG hp rfl (za rfl) (za rfl) Zq aa5 ?_); clear hp; intro w1 hp; simp only [spl, z0a, z0b] at hp)); simp only [zc, zb, z0b, z0a]))
    go_ret
    refine ⟨?_, hp.below⟩
    rw [HF2.out, decide_eq_false HE.out]; rfl
  ·obtain rfl : q = l.length := by omega
   have e2 : decide ((l.length : Int) < (l.length : Int)) = false := by simp
   clear hkq hlt
   go_wp2_with (first | go_skip | ((first | ((refine zf _ rfl ?_); refine lZ hp rfl zab ?_; clear hp; intro b w1 hp) | ((refine ze _ _ rfl ?_); first | refine lO hp rfl (za rfl) zm aa5 ?_ | refine lA hp rfl (za rfl) Zq aa5 ?_ | refine lR hp rfl (za rfl) Zq HX.out ?_) | ((refine zd _ _ _ rfl ?_); (first | refine sA hp rfl (za rfl) (za rfl) Zq aa5 ?_ | refine sG hp rfl (za rfl) (za rfl) Zq aa5 ?_); clear hp; intro w1 hp; simp only [spl, z0a, z0b] at hp)); simp only [zc, zb, z0b, z0a]))
   go_ret
   refine ⟨?_, hp.below⟩
   rw [HF.out, List.drop_length]; rfl
theorem Zs (vw nm bs : Int) (im : ByteArray) (ea : Option Addr) (n ec : Nat) (w : World) : Calls Tryz.prog 71 #[.agg #[.int .i64 vw, .int .i64 nm, .int .i64 bs, .string im, .slice ea n ec]] w fun e w' => e = .returned (.int .i64 (wrap64 (bs + (n : Int)))) ∧ Below w.heap.size w w' := by
 have hp := Hp.start w
 go_enter Tryz.func71, Tryz.ntmps71
 go_wp2_with (first | go_skip | ((first | ((refine zi _ _ rfl ?_); refine lB hp rfl (za rfl) rfl ?_; clear hp; intro b w1 hp) | ((refine ze _ _ rfl ?_); refine lO hp rfl (za rfl) (by with_reducible first | exact zm | exact Zf) aa5 ?_)); simp only [zc, zb, z0b, z0a]))
 go_ret
 exact ⟨rfl, hp.below⟩
open Go.RowKit Go.ChangeShapes Go.WideShapes Go.ChangeAt Go.Deep
section
variable {H : Type} {enc : TypeId × Value → H} {w : World} {base : Nat} {spare : Nat → Bool} {held : Bool} {cs : List Value}
theorem zm3 (h : zaM H enc Tryz.prog w base spare held 36 cs) : ∃ x, cs = opL x := by
 obtain ⟨hl, hz⟩ := h.struct Tryz.underlying36
 rw [show Tryz.prog.cellsOf 36 = 7 by kernel_rfl] at hl
 match cs, hl with
 | [v0, v1, v2, v3, v4, v5, v6], _ =>
  obtain ⟨a0, h0, _⟩ := (hz 0 _ rfl 0 1 rfl (by kernel_rfl)).int Tryz.underlying34
  obtain ⟨a1, h1, _⟩ := (hz 1 _ rfl 1 1 rfl (by kernel_rfl)).int Tryz.underlying3
  obtain ⟨a2, h2, _⟩ := (hz 2 _ rfl 2 1 rfl (by kernel_rfl)).int Tryz.underlying3
  obtain ⟨a3, h3, _⟩ := (hz 3 _ rfl 3 1 rfl (by kernel_rfl)).int Tryz.underlying3
  obtain ⟨a4, h4, _⟩ := (hz 4 _ rfl 4 1 rfl (by kernel_rfl)).int Tryz.underlying3
  obtain ⟨a5, h5, _⟩ := (hz 5 _ rfl 5 1 rfl (by kernel_rfl)).int Tryz.underlying3
  obtain ⟨a6, h6, _⟩ := (hz 6 _ rfl 6 1 rfl (by kernel_rfl)).int Tryz.underlying3
  simp at h0 h1 h2 h3 h4 h5 h6
  subst h0 h1 h2 h3 h4 h5 h6
  exact ⟨⟨a0, a1, a2, a3, a4, a5, a6⟩, rfl⟩
theorem zhJ (h : zaM H enc Tryz.prog w base spare held 38 cs) : ∃ x, cs = ZI x ∧ True := by
 obtain ⟨hl, hz⟩ := h.struct Tryz.underlying38
 rw [show Tryz.prog.cellsOf 38 = 11 by kernel_rfl] at hl
 match cs, hl with
 | [v0, v1, v2, v3, v4, v5, v6, v7, v8, v9, v10], _ =>
  obtain ⟨a0, h0, _⟩ := (hz 0 _ rfl 0 1 rfl (by kernel_rfl)).int Tryz.underlying3
  obtain ⟨a1, h1, _⟩ := (hz 1 _ rfl 1 1 rfl (by kernel_rfl)).int Tryz.underlying3
  obtain ⟨a2, h2, _⟩ := (hz 2 _ rfl 2 1 rfl (by kernel_rfl)).int Tryz.underlying3
  obtain ⟨a3, h3, _⟩ := (hz 3 _ rfl 3 1 rfl (by kernel_rfl)).int Tryz.underlying3
  obtain ⟨o, h4⟩ := zm3 (hz 4 _ rfl 4 7 rfl (by kernel_rfl))
  simp at h0 h1 h2 h3 h4
  subst h0 h1 h2 h3
  refine ⟨⟨a0, a1, a2, a3, o⟩, ?_, trivial⟩
  simp only [ZI, z0f, z0e]
  rw [← h4]
theorem zdm {a : Option Addr} {n c : Nat} (h : zaM H enc Tryz.prog w base spare held 23 [.slice a n c]) : ∃ l : List Env, l.length = n ∧ zr w a (l.flatMap ZI) ∧ n ≤ c := by
 have hc : n ≤ c := by
  obtain ⟨m, y, h'⟩ := h
  rcases open_slice Tryz.underlying23 h' with ⟨he, _⟩ | ⟨ad, n', cap, m, nn, D, Pl, he, _, hl, _⟩
  ·simp at he; omega
  ·simp at he; omega
 obtain ⟨a', l, c', h1, h2, _⟩ := h.slice ZI (fun _ => True) 11 (by decide) Z8 Tryz.underlying23 (by kernel_rfl) (fun cs h => zhJ h)
 simp at h1
 obtain ⟨rfl, rfl, rfl⟩ := h1
 exact ⟨l, rfl, h2, hc⟩
end
end Go.Proofs.YtjcbpfbifbfkcaaGreat

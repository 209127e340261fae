import Derived.Test.YtjcbpfbifbfkcaaGreatSc22
import Derived.Test.YtjcbpfbifbfkcaaGreatSc30
import Derived.Test.YtjcbpfbifbfkcaaGreatSc28
import Derived.Test.YtjcbpfbifbfkcaaGreatSc2
set_option linter.unusedSimpArgs false
set_option linter.unusedVariables false
set_option maxRecDepth 100000
set_option maxHeartbeats 60000000
namespace Go.Proofs.YtjcbpfbifbfkcaaGreat
open Go.RowKit
def I64 (v : Int) : Prop := -9223372036854775808 ≤ v ∧ v ≤ 9223372036854775807
theorem znA {n : Nat} (h : n < 4294967296) : beV (beS 4 n) = n := by
 have e : beS 4 n = [n / 2 ^ 24 % 256, n / 2 ^ 16 % 256, n / 2 ^ 8 % 256, n / 2 ^ 0 % 256] := rfl
 rw [e]
 simp only [beV, List.foldl_cons, List.foldl_nil]
 omega
theorem zm7 {n : Nat} (h : n < 18446744073709551616) : beV (beS 8 n) = n := by
 have e : beS 8 n = [n / 2 ^ 56 % 256, n / 2 ^ 48 % 256, n / 2 ^ 40 % 256, n / 2 ^ 32 % 256, n / 2 ^ 24 % 256, n / 2 ^ 16 % 256, n / 2 ^ 8 % 256, n / 2 ^ 0 % 256] := rfl
 rw [e]
 simp only [beV, List.foldl_cons, List.foldl_nil]
 omega
theorem zqq {v : Int} (h : I64 v) : wrap64 ((uN v : Nat) : Int) = v := by
 obtain ⟨h1, h2⟩ := h
 rw [zmS]; unfold wrap64; omega
theorem zjB {n : Nat} (h : n ≤ 2147483647) (r : List Nat) : zgh (beS 4 n ++ r) = some n := by
 unfold zgh
 have e : (beS 4 n ++ r).take 4 = beS 4 n := by rw [List.take_left' (zag 4 n)]
 rw [e, znA (by omega), if_pos ⟨by rw [List.length_append, zag]; omega, h⟩]
theorem zcc {n : Nat} (h : n ≤ 2147483647) (r : List Nat) : nR (beS 4 n ++ r) = some ((n : Int), r) := by
 unfold nR
 rw [zjB h]
 show some ((n : Int), (beS 4 n ++ r).drop 4) = _
 rw [List.drop_left' (zag 4 n)]
theorem zoS {v : Int} (h : I64 v) (r : List Nat) : iR (beS 8 (uN v) ++ r) = some (v, r) := by
 unfold iR znT
 rw [if_pos (by rw [List.length_append, zag]; omega), List.take_left' (zag 8 _), zm7 (zrq v), zqq h, Option.map_some, List.drop_left' (zag 8 _)]
theorem zff {α β : Type} {one : List Nat → Option (β × List Nat)} (f : α → List Nat) (g : α → β) : ∀ (n : Nat) (l : List α), l.length = n → (∀ x ∈ l, ∀ r, one (f x ++ r) = some (g x, r)) → ∀ r, zbk one n (l.flatMap f ++ r) = some (l.map g, r)
 | 0, l, hl, _, r => by
  rw [List.length_eq_zero_iff.1 hl]; rfl
 | n + 1, l, hl, h, r => by
  rcases List.eq_nil_or_concat l with rfl | ⟨k, x, rfl⟩
  ·cases hl
  rw [List.concat_eq_append] at hl h ⊢
  have hk : k.length = n := by simpa using hl
  have h1 := zff f g n k hk (fun y hy => h y (by simp [hy])) (f x ++ r)
  have h2 := h x (by simp) r
  rw [List.flatMap_append, List.append_assoc, show [x].flatMap f = f x by simp]
  rw [zbQ h1 h2, List.map_append]; rfl
theorem zoA {l : List Int} (h : ∀ v ∈ l, I64 v) (r : List Nat) : zbk iR l.length (bi8 l ++ r) = some (l, r) := by
 have := zff (one := iR) (fun v => beS 8 (uN v)) id l.length l rfl (fun v hv r => zoS (h v hv) r) r
 rw [List.map_id] at this
 exact this
theorem zjz {l : List Nat} (h : ∀ v ∈ l, v ≤ 2147483647) (r : List Nat) : zbk nR l.length (bn4 l ++ r) = some (l.map fun (n : Nat) => (n : Int), r) := zff (one := nR) (fun v => beS 4 v) (fun n => (n : Int)) l.length l rfl (fun v hv r => zcc (h v hv) r) r
theorem zaJ (n : Nat) (l : List Nat) (r : List Nat) : bn4 (n :: l) ++ r = beS 4 n ++ (bn4 l ++ r) := by unfold bn4; rw [List.flatMap_cons, List.append_assoc]
theorem ze5 (r : List Nat) : bn4 [] ++ r = r := rfl
def zeF (o : Ob) : Ob := zhw o.h o.p o.o o.ws o.ls
theorem zkL {l : List Int} (h : ∀ t ∈ l, 0 ≤ t) : ((l.map Int.toNat).map fun (n : Nat) => (n : Int)) = l := by
 rw [List.map_map]
 conv => rhs; rw [← List.map_id l]
 exact List.map_congr_left fun x hx => by have := h x hx; simp only [Function.comp_apply, id]; omega
theorem znJ {o : Ob} (hl : zl9 o) (hn : Zt o.ws.length o.ls.length = o.o) (h0 : 0 ≤ o.o) (hw : ∀ v ∈ o.ws, I64 v) (r : List Nat) : zgH (obB o ++ r) = some (zeF o, r) := by
 have g1 := hl.h0
 have g2 := hl.h1
 have g3 := hl.p0
 have g4 := hl.p1
 have g5 := hl.wl
 have g6 := hl.ll
 unfold obB
 rw [List.append_assoc, zaJ, zaJ, zaJ, zaJ, ze5, List.append_assoc]
 unfold zgH
 rw [zcc (by omega)]; simp only
 rw [zcc (by omega)]; simp only
 rw [zcc (by omega)]; simp only
 rw [zcc (by omega)]; simp only
 rw [hn, if_neg (by omega), Int.toNat_natCast, Int.toNat_natCast, zoA hw]; simp only
 rw [show o.ls.length = (o.ls.map Int.toNat).length by simp, zjz (fun v hv => by
  obtain ⟨t, ht, rfl⟩ := List.mem_map.1 hv
  have := hl.ls t ht
  omega)]
 simp only
 rw [zkL (fun t ht => (hl.ls t ht).1), Int.toNat_of_nonneg g1, Int.toNat_of_nonneg g3]
 rfl
theorem Z0.clear (l : List Ob) : Z0 (l.map zeF) l := by
 refine ⟨by simp, fun i a b ha hb => ?_⟩
 rw [List.getElem?_map, hb] at ha
 simp only [Option.map_some, Option.some.injEq] at ha
 subst ha
 exact ⟨rfl, rfl, rfl, rfl, rfl⟩
def zfh (x : Hv) : Hv := ⟨x.od, none, x.os.map zeF, 0, x.nx, x.t0, x.t1, x.t2, x.t3, none, x.fs, 0⟩
theorem zhT (x : Hv) : (zfh x).Sm x := ⟨rfl, rfl, rfl, rfl, rfl, rfl, Z0.clear _, rfl⟩
def Hv.W64 (x : Hv) : Prop := ∀ o ∈ x.os, ∀ v ∈ o.ws, I64 v
theorem zkh {x : Hv} (hx : zN x) (hw : x.W64) (r : List Nat) : zdK (zcV x ++ r) = some (zfh x, r) := by
 have hlay := zeg hx
 have hod := zhS hx
 have hlo := hx.lo
 have hhi := hx.hi
 have hlen := hx.len
 have l0 := zat hx (hx.tops x.t0 (by simp [tops]))
 have l1 := zat hx (hx.tops x.t1 (by simp [tops]))
 have l2 := zat hx (hx.tops x.t2 (by simp [tops]))
 have l3 := zat hx (hx.tops x.t3 (by simp [tops]))
 have hob : ∀ o ∈ x.os, ∀ r, zgH (obB o ++ r) = some (zeF o, r) := fun o ho r => znJ (hlay o ho) (hx.need o ho).1 (by have := (hx.need o ho).2.1; simpa [zaf] using this) (hw o ho) r
 unfold zcV zhI
 rw [List.append_assoc, List.append_assoc, List.append_assoc, zaJ, zaJ, ze5]
 unfold zdK
 rw [zcc (by omega)]; simp only
 rw [zcc (by omega)]; simp only
 unfold zaj
 rw [show (4 : Nat) = [x.t0.toNat, x.t1.toNat, x.t2.toNat, x.t3.toNat].length from rfl, zjz (by intro v hv; simp at hv; omega)]
 simp only
 unfold zdD
 rw [zaJ, ze5, zcc (by omega)]
 simp only
 rw [if_neg (by omega), Int.toNat_natCast, zff obB zeF x.os.length x.os rfl hob]
 simp only
 unfold zem
 rw [Int.toNat_of_nonneg (by omega), Int.toNat_of_nonneg (by omega)]
 have hre : Zf x.od = true := by unfold Zf; simp [hod.1, hod.2]
 have hm : zpn x.od (x.os.map zeF) x.nx ([x.t0.toNat, x.t1.toNat, x.t2.toNat, x.t3.toNat].map fun (n : Nat) => (n : Int)) (lfN (pw x.od) (x.os.map zeF) x.od.toNat 0) = zfh x := by
  rw [zoh (Z0.clear x.os), zmr hx]
  unfold zpn zfh
  simp only [List.map_cons, List.map_nil, z0c, z0d, Int.toNat_of_nonneg l0.1, Int.toNat_of_nonneg l1.1, Int.toNat_of_nonneg l2.1, Int.toNat_of_nonneg l3.1]
 rw [if_pos hre, hm, if_pos (by rw [ze3 (zhT x)]; exact zaZ hx)]
theorem zmG {x : Hv} (hx : zN x) (hw : x.W64) : zcJ (zcV x) = some (zfh x) := by
 have h := zkh hx hw []
 rw [List.append_nil] at h
 unfold zcJ zbY
 rw [h]; rfl
theorem zru {bs r : List Nat} {v : Int} (h : iR bs = some (v, r)) : I64 v := by
 unfold iR at h
 cases h1 : znT bs with
 | none => rw [h1] at h; cases h
 | some u =>
  rw [h1] at h
  simp at h
  obtain ⟨rfl, _⟩ := h
  unfold znT at h1
  split at h1
  ·injection h1 with h1
   rw [← h1]; unfold wrap64 I64; omega
  ·cases h1
theorem zng {x : Rw} (hc : 0 ≤ x.c ∧ x.c ≤ 4 ∧ 0 ≤ x.s ∧ x.s ≤ 1000000 ∧ 0 ≤ x.e ∧ x.e ≤ 65535) (hv : I64 x.v) (r : List Nat) : zke (zkz x ++ r) = some (x, r) := by
 unfold zkz
 rw [List.append_assoc, zaJ, zaJ, zaJ, ze5]
 unfold zke
 rw [zcc (by omega)]; simp only
 rw [zcc (by omega)]; simp only
 rw [zcc (by omega)]; simp only
 rw [show bi8 [x.v] ++ r = beS 8 (uN x.v) ++ r by simp [bi8], zoS hv]
 simp only
 rw [Int.toNat_of_nonneg hc.1, Int.toNat_of_nonneg hc.2.2.1, Int.toNat_of_nonneg hc.2.2.2.2.1]
structure Sv.W64 (x : Sv) : Prop where
 hv : x.hv.W64
 rows : ∀ r ∈ x.rs, I64 r.v
def zdH (x : Sv) : Sv := ⟨zfh x.hv, none, x.rs, 0⟩
theorem zmh (x : Sv) : (zdH x).Sm x := ⟨zhT _, rfl⟩
theorem zk9 {bs : List Nat} (h : bs.length ≤ 65536) (r : List Nat) : zef ((beS 4 bs.length ++ bs) ++ r) = some (bs, r) := by
 unfold zef
 rw [List.append_assoc, zjB (by omega)]
 simp only
 rw [List.drop_left' (zag 4 _)]
 simp [h, zag]
 omega
theorem zkO {x : Sv} (hx : StR x) (hw : x.W64) : zab (zdN x) = some (zdH x) := by
 have hlen := zh0 hx.hv
 have hrl := zcL hx.rows (by decide)
 unfold zab zbY Zr zdN
 rw [zk9 (by omega)]
 simp only
 rw [zmG hx.hv hw.hv]
 simp only
 unfold zct
 rw [zaJ, ze5, zcc (by omega)]
 simp only
 have hrow := zff zkz id x.rs.length x.rs rfl (fun y hy r => zng (by have := Z8.1 (zcN hx.rows y hy); omega) (hw.rows y hy) r) []
 rw [List.append_nil, List.map_id] at hrow
 rw [if_neg (by omega), Int.toNat_natCast, hrow]
 simp only
 rw [show (⟨zfh x.hv, none, x.rs, 0⟩ : Sv) = zdH x from rfl, if_pos (by rw [zje (zmh x)]; exact zmO hx)]
 rfl
open Go.RowKit
theorem Zh : zF Tryz.prog 23 = true := by kernel_rfl
theorem zH : ZU Tryz.prog 28 5 = true := by kernel_rfl
theorem zhQ : zbu Tryz.prog 28 = some ([.int .i64 0, .int .i64 0, .int .i64 0, .string ⟨#[]⟩, .slice none 0 0], 5) := by kernel_rfl
theorem ziw : ZU Tryz.prog 40 17 = true := by kernel_rfl
theorem zmL : (Tryz.prog.info? 38).map (fun i => (i.zero, i.size, i.bytes)) = some (some (.agg #[.int .i64 0, .int .i64 0, .int .i64 0, .int .i64 0, .int .i64 0, .int .i64 0, .int .i64 0, .int .i64 0, .int .i64 0, .int .i64 0, .int .i64 0]), 11, 88) := by kernel_rfl
structure Kv where
 vw : Int
 nm : Int
 bs : Int
 im : ByteArray
 ea : Option Addr
 es : List Env
 ec : Nat
def Kv.Is (w : World) (x : Kv) : Prop := zt w x.ea (x.es.flatMap Z1)
structure Kv.Sm (x y : Kv) : Prop where
 vw : x.vw = y.vw
 nm : x.nm = y.nm
 bs : x.bs = y.bs
 im : x.im = y.im
 es : x.es = y.es
theorem zaB (e : Env) : (Z1 e).length = 11 := rfl
def zgi (fr : Int) : Nat → List Env → Bool
 | _, [] => true
 | q, e :: r => decide (wrap64 (wrap64 (e.nu - 1) - (q : Int)) = fr) && zgi fr (q + 1) r
theorem zov (n lo hi : Int) (w : World) : Calls Tryz.prog 67 #[.int .i64 n, .int .i64 lo, .int .i64 hi] w fun e w' => e = .returned (.bool (inM n lo hi)) ∧ w = w' := by
 go_enter Tryz.func67, Tryz.ntmps67
 go_wp2
 all_goals go_ret
 all_goals refine ⟨ZN ?_, rfl⟩
 all_goals (simp [inM, *]; try omega)
theorem zla (l : List Env) (fr : Int) (a : Option Addr) (c : Nat) (hl : l.length ≤ 100000) (w : World) (ha : zt w a (l.flatMap Z1)) :
  Calls Tryz.prog 68 #[.slice a l.length c, .int .i64 fr] w fun e w' => e = .returned (.bool (zgi fr 0 l)) ∧ Below w.heap.size w w' := by
 have hp := Hp.start w
 have HA := z0j ha
 clear ha
 go_enter Tryz.func68, Tryz.ntmps68
 go_wp2_with (first | go_skip | ((first | ((refine zf _ rfl ?_); refine lZ hp rfl ZH ?_; clear hp; intro b w1 hp) | ((refine ze _ _ rfl ?_); first | refine lO hp rfl (za rfl) zm aa5 ?_ | refine lA hp rfl (za rfl) zaa aa5 ?_ | refine lR hp rfl (za rfl) zaa HX.out ?_) | ((refine zd _ _ _ rfl ?_); (first | refine sA hp rfl (za rfl) (za rfl) zaa aa5 ?_ | refine sG hp rfl (za rfl) (za rfl) zaa aa5 ?_); clear hp; intro w1 hp; simp only [spl, z0a, z0b] at hp)); simp only [zc, zb, z0b, z0a]))
 go_loopg [9] l.length (fun k i wr => ∃ q : Nat, k + q = l.length ∧ i = .int .i64 q ∧ Hid (zgi fr 0 l = zgi fr q (l.drop q)) ∧ Hp w.heap.size w wr [])
 case atStart => exact ⟨0, by omega, rfl, z0j rfl, hp⟩
 case round =>
  clear hp
  obtain ⟨q, hkq, rfl, HF, hp⟩ := hrel
  by_cases hlt : q < l.length
  ·obtain ⟨bq, off, rfl, hx⟩ := HA.out.elems 11 zaB (by omega) (by omega)
   have hj := List.getElem?_eq_getElem hlt
   replace hx := hx q _ hj
   have hd := List.drop_eq_getElem_cons hlt
   clear hj
   generalize l[q] = en at hx hd
   obtain ⟨nu, vi, cl, sq, ⟨kk, hh, ii, nn, cc, vv, tt⟩⟩ := en
   simp only [Z1, opL, z0f, z0e] at hx
   have HX := z0j hx
   have HF2 : Hid (zgi fr 0 l = (decide (wrap64 (wrap64 (nu - 1) - (q : Int)) = fr) && zgi fr (q + 1) (l.drop (q + 1)))) := z0j (by rw [HF.out, hd]; rfl)
   have f1 : (0 : Int) ≤ (q : Int) := by omega
   have f2 : (q : Int) < (l.length : Int) := by omega
   clear hx hd HF
   by_cases heq : wrap64 (wrap64 (nu - 1) - (q : Int)) = fr
   ·have e3 : (wrap64 (wrap64 (nu - 1) - (q : Int)) == fr) = true := by simpa using heq
    have HE := z0j heq
    clear heq
    go_wp2_with (first | go_skip | ((first | ((refine zf _ rfl ?_); refine lZ hp rfl ZH ?_; clear hp; intro b w1 hp) | ((refine ze _ _ rfl ?_); first | refine lO hp rfl (za rfl) zm aa5 ?_ | refine lA hp rfl (za rfl) zaa aa5 ?_ | refine lR hp rfl (za rfl) zaa HX.out ?_) | ((refine zd _ _ _ rfl ?_); (first | refine sA hp rfl (za rfl) (za rfl) zaa aa5 ?_ | refine sG hp rfl (za rfl) (za rfl) zaa aa5 ?_); clear hp; intro w1 hp; simp only [spl, z0a, z0b] at hp)); simp only [zc, zb, z0b, z0a]))
    go_roundg (gk - 1)
    case measure => omega
    case rel => exact ⟨q + 1, by omega, by go_num, z0j (by rw [HF2.out, HE.out]; simp), hp.tail⟩
   ·have e3 : (wrap64 (wrap64 (nu - 1) - (q : Int)) == fr) = false := by simpa using heq
    have HE := z0j heq
    clear heq
    go_wp2_with (first | go_skip | ((first | ((refine zf _ rfl ?_); refine lZ hp rfl ZH ?_; clear hp; intro b w1 hp) | ((refine ze _ _ rfl ?_); first | refine lO hp rfl (za rfl) zm aa5 ?_ | refine lA hp rfl (za rfl) zaa aa5 ?_ | refine lR hp rfl (za rfl) zaa HX.out ?_) | ((refine zd _ _ _ rfl ?_); (first | refine sA hp rfl (za rfl) (za rfl) zaa aa5 ?_ | refine sG hp rfl (za rfl) (za rfl) zaa aa5 ?_); clear hp; intro w1 hp; simp only [spl, z0a, z0b] at hp)); simp only [zc, zb, z0b, z0a]))
    go_ret
    refine ⟨?_, hp.below⟩
    rw [HF2.out, decide_eq_false HE.out]; rfl
  ·obtain rfl : q = l.length := by omega
   have e2 : decide ((l.length : Int) < (l.length : Int)) = false := by simp
   clear hkq hlt
   go_wp2_with (first | go_skip | ((first | ((refine zf _ rfl ?_); refine lZ hp rfl ZH ?_; clear hp; intro b w1 hp) | ((refine ze _ _ rfl ?_); first | refine lO hp rfl (za rfl) zm aa5 ?_ | refine lA hp rfl (za rfl) zaa aa5 ?_ | refine lR hp rfl (za rfl) zaa HX.out ?_) | ((refine zd _ _ _ rfl ?_); (first | refine sA hp rfl (za rfl) (za rfl) zaa aa5 ?_ | refine sG hp rfl (za rfl) (za rfl) zaa aa5 ?_); clear hp; intro w1 hp; simp only [spl, z0a, z0b] at hp)); simp only [zc, zb, z0b, z0a]))
   go_ret
   refine ⟨?_, hp.below⟩
   rw [HF.out, List.drop_length]; rfl
theorem Zc (vw nm bs : Int) (im : ByteArray) (ea : Option Addr) (n ec : Nat) (w : World) : Calls Tryz.prog 71 #[.agg #[.int .i64 vw, .int .i64 nm, .int .i64 bs, .string im, .slice ea n ec]] w fun e w' => e = .returned (.int .i64 (wrap64 (bs + (n : Int)))) ∧ Below w.heap.size w w' := by
 have hp := Hp.start w
 go_enter Tryz.func71, Tryz.ntmps71
 go_wp2_with (first | go_skip | ((first | ((refine zi _ _ rfl ?_); refine lB hp rfl (za rfl) rfl ?_; clear hp; intro b w1 hp) | ((refine ze _ _ rfl ?_); refine lO hp rfl (za rfl) (by with_reducible first | exact zm | exact Zh) aa5 ?_)); simp only [zc, zb, z0b, z0a]))
 go_ret
 exact ⟨rfl, hp.below⟩
open Go.RowKit Go.ChangeShapes Go.WideShapes Go.ChangeAt Go.Deep
section
variable {H : Type} {enc : TypeId × Value → H} {w : World} {base : Nat} {spare : Nat → Bool} {held : Bool} {cs : List Value}
theorem zmW (h : zcF H enc Tryz.prog w base spare held 36 cs) : ∃ x, cs = opL x := by
 obtain ⟨hl, hz⟩ := h.struct Tryz.underlying36
 rw [show Tryz.prog.cellsOf 36 = 7 by kernel_rfl] at hl
 match cs, hl with
 | [v0, v1, v2, v3, v4, v5, v6], _ =>
  obtain ⟨a0, h0, _⟩ := (hz 0 _ rfl 0 1 rfl (by kernel_rfl)).int Tryz.underlying34
  obtain ⟨a1, h1, _⟩ := (hz 1 _ rfl 1 1 rfl (by kernel_rfl)).int Tryz.underlying3
  obtain ⟨a2, h2, _⟩ := (hz 2 _ rfl 2 1 rfl (by kernel_rfl)).int Tryz.underlying3
  obtain ⟨a3, h3, _⟩ := (hz 3 _ rfl 3 1 rfl (by kernel_rfl)).int Tryz.underlying3
  obtain ⟨a4, h4, _⟩ := (hz 4 _ rfl 4 1 rfl (by kernel_rfl)).int Tryz.underlying3
  obtain ⟨a5, h5, _⟩ := (hz 5 _ rfl 5 1 rfl (by kernel_rfl)).int Tryz.underlying3
  obtain ⟨a6, h6, _⟩ := (hz 6 _ rfl 6 1 rfl (by kernel_rfl)).int Tryz.underlying3
  simp at h0 h1 h2 h3 h4 h5 h6
  subst h0 h1 h2 h3 h4 h5 h6
  exact ⟨⟨a0, a1, a2, a3, a4, a5, a6⟩, rfl⟩
theorem zhv (h : zcF H enc Tryz.prog w base spare held 38 cs) : ∃ x, cs = Z1 x ∧ True := by
 obtain ⟨hl, hz⟩ := h.struct Tryz.underlying38
 rw [show Tryz.prog.cellsOf 38 = 11 by kernel_rfl] at hl
 match cs, hl with
 | [v0, v1, v2, v3, v4, v5, v6, v7, v8, v9, v10], _ =>
  obtain ⟨a0, h0, _⟩ := (hz 0 _ rfl 0 1 rfl (by kernel_rfl)).int Tryz.underlying3
  obtain ⟨a1, h1, _⟩ := (hz 1 _ rfl 1 1 rfl (by kernel_rfl)).int Tryz.underlying3
  obtain ⟨a2, h2, _⟩ := (hz 2 _ rfl 2 1 rfl (by kernel_rfl)).int Tryz.underlying3
  obtain ⟨a3, h3, _⟩ := (hz 3 _ rfl 3 1 rfl (by kernel_rfl)).int Tryz.underlying3
  obtain ⟨o, h4⟩ := zmW (hz 4 _ rfl 4 7 rfl (by kernel_rfl))
  simp at h0 h1 h2 h3 h4
  subst h0 h1 h2 h3
  refine ⟨⟨a0, a1, a2, a3, o⟩, ?_, trivial⟩
  simp only [Z1, z0f, z0e]
  rw [← h4]
theorem zfA {a : Option Addr} {n c : Nat} (h : zcF H enc Tryz.prog w base spare held 23 [.slice a n c]) : ∃ l : List Env, l.length = n ∧ zt w a (l.flatMap Z1) ∧ n ≤ c := by
 have hc : n ≤ c := by
  obtain ⟨m, y, h'⟩ := h
  rcases open_slice Tryz.underlying23 h' with ⟨he, _⟩ | ⟨ad, n', cap, m, nn, D, Pl, he, _, hl, _⟩
  ·simp at he; omega
  ·simp at he; omega
 obtain ⟨a', l, c', h1, h2, _⟩ := h.slice Z1 (fun _ => True) 11 (by decide) zaB Tryz.underlying23 (by kernel_rfl) (fun cs h => zhv h)
 simp at h1
 obtain ⟨rfl, rfl, rfl⟩ := h1
 exact ⟨l, rfl, h2, hc⟩
theorem ziD {v0 v1 v2 v3 : Value} {a : Option Addr} {n c : Nat} (h : zcF H enc Tryz.prog w base spare held 28 [v0, v1, v2, v3, .slice a n c]) : ∃ l : List Env, l.length = n ∧ zt w a (l.flatMap Z1) ∧ n ≤ c := by
 obtain ⟨_, hz⟩ := h.struct Tryz.underlying28
 exact zfA (hz 4 _ rfl 4 1 rfl (by kernel_rfl))
end
end Go.Proofs.YtjcbpfbifbfkcaaGreat

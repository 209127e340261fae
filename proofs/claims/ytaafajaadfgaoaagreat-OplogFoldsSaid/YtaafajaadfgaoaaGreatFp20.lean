import Derived.Test.YtaafajaadfgaoaaGreatFp13
import Derived.Test.YtaafajaadfgaoaaGreatFp19
import Derived.Test.YtaafajaadfgaoaaGreatFp18
import Derived.Test.YtaafajaadfgaoaaGreatFp2
set_option linter.unusedSimpArgs false
set_option linter.unusedVariables false
set_option maxRecDepth 100000
set_option maxHeartbeats 60000000
namespace Go.Proofs.YtaafajaadfgaoaaGreat
open Go.RowKit
def I64 (v : Int) : Prop := -9223372036854775808 ≤ v ∧ v ≤ 9223372036854775807
theorem zkF {n : Nat} (h : n < 4294967296) : beV (beS 4 n) = n := by
 have e : beS 4 n = [n / 2 ^ 24 % 256, n / 2 ^ 16 % 256, n / 2 ^ 8 % 256, n / 2 ^ 0 % 256] := rfl
 rw [e]
 simp only [beV, List.foldl_cons, List.foldl_nil]
 omega
theorem zkG {n : Nat} (h : n < 18446744073709551616) : beV (beS 8 n) = n := by
 have e : beS 8 n = [n / 2 ^ 56 % 256, n / 2 ^ 48 % 256, n / 2 ^ 40 % 256, n / 2 ^ 32 % 256, n / 2 ^ 24 % 256, n / 2 ^ 16 % 256, n / 2 ^ 8 % 256, n / 2 ^ 0 % 256] := rfl
 rw [e]
 simp only [beV, List.foldl_cons, List.foldl_nil]
 omega
theorem zm2 {v : Int} (h : I64 v) : wrap64 ((uN v : Nat) : Int) = v := by
 obtain ⟨h1, h2⟩ := h
 rw [zkr]; unfold wrap64; omega
theorem zhR {n : Nat} (h : n ≤ 2147483647) (r : List Nat) : zef (beS 4 n ++ r) = some n := by
 unfold zef
 have e : (beS 4 n ++ r).take 4 = beS 4 n := by rw [List.take_left' (zan 4 n)]
 rw [e, zkF (by omega), if_pos ⟨by rw [List.length_append, zan]; omega, h⟩]
theorem zct {n : Nat} (h : n ≤ 2147483647) (r : List Nat) : nR (beS 4 n ++ r) = some ((n : Int), r) := by
 unfold nR
 rw [zhR h]
 show some ((n : Int), (beS 4 n ++ r).drop 4) = _
 rw [List.drop_left' (zan 4 n)]
theorem zl1 {v : Int} (h : I64 v) (r : List Nat) : iR (beS 8 (uN v) ++ r) = some (v, r) := by
 unfold iR zhH
 rw [if_pos (by rw [List.length_append, zan]; omega), List.take_left' (zan 8 _), zkG (znW v), zm2 h, Option.map_some, List.drop_left' (zan 8 _)]
theorem zeM {α β : Type} {one : List Nat → Option (β × List Nat)} (f : α → List Nat) (g : α → β) : ∀ (n : Nat) (l : List α), l.length = n → (∀ x ∈ l, ∀ r, one (f x ++ r) = some (g x, r)) → ∀ r, zal one n (l.flatMap f ++ r) = some (l.map g, r)
 | 0, l, hl, _, r => by
  rw [List.length_eq_zero_iff.1 hl]; rfl
 | n + 1, l, hl, h, r => by
  rcases List.eq_nil_or_concat l with rfl | ⟨k, x, rfl⟩
  ·cases hl
  rw [List.concat_eq_append] at hl h ⊢
  have hk : k.length = n := by simpa using hl
  have h1 := zeM f g n k hk (fun y hy => h y (by simp [hy])) (f x ++ r)
  have h2 := h x (by simp) r
  rw [List.flatMap_append, List.append_assoc, show [x].flatMap f = f x by simp]
  rw [zbg h1 h2, List.map_append]; rfl
theorem zlz {l : List Int} (h : ∀ v ∈ l, I64 v) (r : List Nat) : zal iR l.length (bi8 l ++ r) = some (l, r) := by
 have := zeM (one := iR) (fun v => beS 8 (uN v)) id l.length l rfl (fun v hv r => zl1 (h v hv) r) r
 rw [List.map_id] at this
 exact this
theorem zhW {l : List Nat} (h : ∀ v ∈ l, v ≤ 2147483647) (r : List Nat) : zal nR l.length (bn4 l ++ r) = some (l.map fun (n : Nat) => (n : Int), r) := zeM (one := nR) (fun v => beS 4 v) (fun n => (n : Int)) l.length l rfl (fun v hv r => zct (h v hv) r) r
theorem zaK (n : Nat) (l : List Nat) (r : List Nat) : bn4 (n :: l) ++ r = beS 4 n ++ (bn4 l ++ r) := by unfold bn4; rw [List.flatMap_cons, List.append_assoc]
theorem zex (r : List Nat) : bn4 [] ++ r = r := rfl
def zez (o : Ob) : Ob := zn1 o.h o.p o.o o.ws o.ls
theorem ziP {l : List Int} (h : ∀ t ∈ l, 0 ≤ t) : ((l.map Int.toNat).map fun (n : Nat) => (n : Int)) = l := by
 rw [List.map_map]
 conv => rhs; rw [← List.map_id l]
 exact List.map_congr_left fun x hx => by have := h x hx; simp only [Function.comp_apply, id]; omega
theorem zlo {o : Ob} (hl : ziY o) (hn : Z9 o.ws.length o.ls.length = o.o) (h0 : 0 ≤ o.o) (hw : ∀ v ∈ o.ws, I64 v) (r : List Nat) : zc8 (obB o ++ r) = some (zez o, r) := by
 have g1 := hl.h0
 have g2 := hl.h1
 have g3 := hl.p0
 have g4 := hl.p1
 have g5 := hl.wl
 have g6 := hl.ll
 unfold obB
 rw [List.append_assoc, zaK, zaK, zaK, zaK, zex, List.append_assoc]
 unfold zc8
 rw [zct (by omega)]; simp only
 rw [zct (by omega)]; simp only
 rw [zct (by omega)]; simp only
 rw [zct (by omega)]; simp only
 rw [hn, if_neg (by omega), Int.toNat_natCast, Int.toNat_natCast, zlz hw]; simp only
 rw [show o.ls.length = (o.ls.map Int.toNat).length by simp, zhW (fun v hv => by
  obtain ⟨t, ht, rfl⟩ := List.mem_map.1 hv
  have := hl.ls t ht
  omega)]
 simp only
 rw [ziP (fun t ht => (hl.ls t ht).1), Int.toNat_of_nonneg g1, Int.toNat_of_nonneg g3]
 rfl
theorem Z7.clear (l : List Ob) : Z7 (l.map zez) l := by
 refine ⟨by simp, fun i a b ha hb => ?_⟩
 rw [List.getElem?_map, hb] at ha
 simp only [Option.map_some, Option.some.injEq] at ha
 subst ha
 exact ⟨rfl, rfl, rfl, rfl, rfl⟩
def zey (x : Hv) : Hv := ⟨x.od, none, x.os.map zez, 0, x.nx, x.t0, x.t1, x.t2, x.t3, none, x.fs, 0⟩
theorem zf9 (x : Hv) : (zey x).Sm x := ⟨rfl, rfl, rfl, rfl, rfl, rfl, Z7.clear _, rfl⟩
def Hv.W64 (x : Hv) : Prop := ∀ o ∈ x.os, ∀ v ∈ o.ws, I64 v
theorem zil {x : Hv} (hx : zai x) (hw : x.W64) (r : List Nat) : zba (zcS x ++ r) = some (zey x, r) := by
 have hlay := zdQ hx
 have hod := zgp hx
 have hlo := hx.lo
 have hhi := hx.hi
 have hlen := hx.len
 have l0 := zaC hx (hx.tops x.t0 (by simp [tops]))
 have l1 := zaC hx (hx.tops x.t1 (by simp [tops]))
 have l2 := zaC hx (hx.tops x.t2 (by simp [tops]))
 have l3 := zaC hx (hx.tops x.t3 (by simp [tops]))
 have hob : ∀ o ∈ x.os, ∀ r, zc8 (obB o ++ r) = some (zez o, r) := fun o ho r => zlo (hlay o ho) (hx.need o ho).1 (by have := (hx.need o ho).2.1; simpa [zaE] using this) (hw o ho) r
 unfold zcS zgm
 rw [List.append_assoc, List.append_assoc, List.append_assoc, zaK, zaK, zex]
 unfold zba
 rw [zct (by omega)]; simp only
 rw [zct (by omega)]; simp only
 unfold zae
 rw [show (4 : Nat) = [x.t0.toNat, x.t1.toNat, x.t2.toNat, x.t3.toNat].length from rfl, zhW (by intro v hv; simp at hv; omega)]
 simp only
 unfold zc0
 rw [zaK, zex, zct (by omega)]
 simp only
 rw [if_neg (by omega), Int.toNat_natCast, zeM obB zez x.os.length x.os rfl hob]
 simp only
 unfold zcA
 rw [Int.toNat_of_nonneg (by omega), Int.toNat_of_nonneg (by omega)]
 have hre : Zg x.od = true := by unfold Zg; simp [hod.1, hod.2]
 have hm : zlh x.od (x.os.map zez) x.nx ([x.t0.toNat, x.t1.toNat, x.t2.toNat, x.t3.toNat].map fun (n : Nat) => (n : Int)) (lfN (pw x.od) (x.os.map zez) x.od.toNat 0) = zey x := by
  rw [zjL (Z7.clear x.os), zjI hx]
  unfold zlh zey
  simp only [List.map_cons, List.map_nil, z0c, z0d, Int.toNat_of_nonneg l0.1, Int.toNat_of_nonneg l1.1, Int.toNat_of_nonneg l2.1, Int.toNat_of_nonneg l3.1]
 rw [if_pos hre, hm, if_pos (by rw [zcC (zf9 x)]; exact zbt hx)]
theorem zjy {x : Hv} (hx : zai x) (hw : x.W64) : Z2 (zcS x) = some (zey x) := by
 have h := zil hx hw []
 rw [List.append_nil] at h
 unfold Z2 zbC
 rw [h]; rfl
theorem zlD {x : Rw} (hc : 0 ≤ x.c ∧ x.c ≤ 4 ∧ 0 ≤ x.s ∧ x.s ≤ 1000000 ∧ 0 ≤ x.e ∧ x.e ≤ 65535) (hv : I64 x.v) (r : List Nat) : zf1 (ziH x ++ r) = some (x, r) := by
 unfold ziH
 rw [List.append_assoc, zaK, zaK, zaK, zex]
 unfold zf1
 rw [zct (by omega)]; simp only
 rw [zct (by omega)]; simp only
 rw [zct (by omega)]; simp only
 rw [show bi8 [x.v] ++ r = beS 8 (uN x.v) ++ r by simp [bi8], zl1 hv]
 simp only
 rw [Int.toNat_of_nonneg hc.1, Int.toNat_of_nonneg hc.2.2.1, Int.toNat_of_nonneg hc.2.2.2.2.1]
structure Sv.W64 (x : Sv) : Prop where
 hv : x.hv.W64
 rows : ∀ r ∈ x.rs, I64 r.v
def zga (x : Sv) : Sv := ⟨zey x.hv, none, x.rs, 0⟩
theorem zji (x : Sv) : (zga x).Sm x := ⟨zf9 _, rfl⟩
theorem zkm {bs : List Nat} (h : bs.length ≤ 65536) (r : List Nat) : zcV ((beS 4 bs.length ++ bs) ++ r) = some (bs, r) := by
 unfold zcV
 rw [List.append_assoc, zhR (by omega)]
 simp only
 rw [List.drop_left' (zan 4 _)]
 simp [h, zan]
 omega
theorem ziL {x : Sv} (hx : StR x) (hw : x.W64) : Zz (zdz x) = some (zga x) := by
 have hlen := zgo hx.hv
 have hrl := zca hx.rows (by decide)
 unfold Zz zbC Zx zdz
 rw [zkm (by omega)]
 simp only
 rw [zjy hx.hv hw.hv]
 simp only
 unfold zbR
 rw [zaK, zex, zct (by omega)]
 simp only
 have hrow := zeM ziH id x.rs.length x.rs rfl (fun y hy r => zlD (by have := zbh.1 (zdZ hx.rows y hy); omega) (hw.rows y hy) r) []
 rw [List.append_nil, List.map_id] at hrow
 rw [if_neg (by omega), Int.toNat_natCast, hrow]
 simp only
 rw [show (⟨zey x.hv, none, x.rs, 0⟩ : Sv) = zga x from rfl, if_pos (by rw [zgL (zji x)]; exact zma hx)]
 rfl
open Go.RowKit
theorem zO : zB Tryz.prog 22 = true := by kernel_rfl
theorem zF : zac Tryz.prog 24 5 = true := by kernel_rfl
theorem zW : zcW Tryz.prog 24 = some ([.int .i64 0, .int .i64 0, .int .i64 0, .string ⟨#[]⟩, .slice none 0 0], 5) := by kernel_rfl
theorem Zr : zac Tryz.prog 33 17 = true := by kernel_rfl
theorem zfh : (Tryz.prog.info? 31).map (fun i => (i.zero, i.size, i.bytes)) = some (some (.agg #[.int .i64 0, .int .i64 0, .int .i64 0, .int .i64 0, .int .i64 0, .int .i64 0, .int .i64 0, .int .i64 0, .int .i64 0, .int .i64 0, .int .i64 0]), 11, 88) := by kernel_rfl
structure Kv where
 vw : Int
 nm : Int
 bs : Int
 im : ByteArray
 ea : Option Addr
 es : List Env
 ec : Nat
def Kv.Is (w : World) (x : Kv) : Prop := zr w x.ea (x.es.flatMap Zi)
structure Kv.Sm (x y : Kv) : Prop where
 vw : x.vw = y.vw
 nm : x.nm = y.nm
 bs : x.bs = y.bs
 im : x.im = y.im
 es : x.es = y.es
theorem ZM (e : Env) : (Zi e).length = 11 := rfl
def zc5 (fr : Int) : Nat → List Env → Bool
 | _, [] => true
 | q, e :: r => decide (wrap64 (wrap64 (e.nu - 1) - (q : Int)) = fr) && zc5 fr (q + 1) r
theorem zks (n lo hi : Int) (w : World) : Calls Tryz.prog 136 #[.int .i64 n, .int .i64 lo, .int .i64 hi] w fun e w' => e = .returned (.bool (inM n lo hi)) ∧ w = w' := by
 go_enter Tryz.func136, Tryz.ntmps136
 go_wp2
 all_goals go_ret
 all_goals refine ⟨zL ?_, rfl⟩
 all_goals (simp [inM, *]; try omega)
theorem zii (l : List Env) (fr : Int) (a : Option Addr) (c : Nat) (hl : l.length ≤ 100000) (w : World) (ha : zr w a (l.flatMap Zi)) :
  Calls Tryz.prog 137 #[.slice a l.length c, .int .i64 fr] w fun e w' => e = .returned (.bool (zc5 fr 0 l)) ∧ Below w.heap.size w w' := by
 have hp := Hp.start w
 have HA := z0j ha
 clear ha
 go_enter Tryz.func137, Tryz.ntmps137
 go_wp2_with (first | go_skip | ((first | ((refine zg _ rfl ?_); refine lZ hp rfl Zh ?_; clear hp; intro b w1 hp) | ((refine zh _ _ rfl ?_); refine lB hp rfl (za rfl) rfl ?_; clear hp; intro b w1 hp) | ((refine zf _ _ rfl ?_); first | refine lO hp rfl (za rfl) (by with_reducible first | exact zq | exact zA | exact zO) aa5 ?_ | refine lA hp rfl (za rfl) (by with_reducible first | exact Zq | exact zF) aa5 ?_ | refine lR hp rfl (za rfl) (by with_reducible first | exact Zq | exact zF) HX.out ?_) | ((refine zd _ _ _ rfl ?_); (first | refine sO hp rfl (za rfl) (by with_reducible first | exact zq | exact zA | exact zO) aa5 ?_ | refine sA hp rfl (za rfl) (za rfl) (by with_reducible first | exact Zq | exact zF) aa5 ?_ | refine sG hp rfl (za rfl) (za rfl) (by with_reducible first | exact Zq | exact zF) aa5 ?_); clear hp; intro w1 hp; simp only [spl, z0a, z0b] at hp)); simp only [zc, zb, z0b, z0a]))
 go_loopg [9] l.length (fun k i wr => ∃ q : Nat, k + q = l.length ∧ i = .int .i64 q ∧ Hid (zc5 fr 0 l = zc5 fr q (l.drop q)) ∧ Hp w.heap.size w wr [])
 case atStart => exact ⟨0, by omega, rfl, z0j rfl, hp⟩
 case round =>
  clear hp
  obtain ⟨q, hkq, rfl, HF, hp⟩ := hrel
  by_cases hlt : q < l.length
  ·obtain ⟨bq, off, rfl, hx⟩ := HA.out.elems 11 ZM (by omega) (by omega)
   have hj := List.getElem?_eq_getElem hlt
   replace hx := hx q _ hj
   have hd := List.drop_eq_getElem_cons hlt
   clear hj
   generalize l[q] = en at hx hd
   obtain ⟨nu, vi, cl, sq, ⟨kk, hh, ii, nn, cc, vv, tt⟩⟩ := en
   simp only [Zi, opL, z0f, z0e] at hx
   have HX := z0j hx
   have HF2 : Hid (zc5 fr 0 l = (decide (wrap64 (wrap64 (nu - 1) - (q : Int)) = fr) && zc5 fr (q + 1) (l.drop (q + 1)))) := z0j (by rw [HF.out, hd]; rfl)
   have f1 : (0 : Int) ≤ (q : Int) := by omega
   have f2 : (q : Int) < (l.length : Int) := by omega
   clear hx hd HF
   by_cases heq : wrap64 (wrap64 (nu - 1) - (q : Int)) = fr
   ·have e3 : (wrap64 (wrap64 (nu - 1) - (q : Int)) == fr) = true := by simpa using heq
    have HE := z0j heq
    clear heq
    go_wp2_with (first | go_skip | ((first | ((refine zg _ rfl ?_); refine lZ hp rfl Zh ?_; clear hp; intro b w1 hp) | ((refine zh _ _ rfl ?_); refine lB hp rfl (za rfl) rfl ?_; clear hp; intro b w1 hp) | ((refine zf _ _ rfl ?_); first | refine lO hp rfl (za rfl) (by with_reducible first | exact zq | exact zA | exact zO) aa5 ?_ | refine lA hp rfl (za rfl) (by with_reducible first | exact Zq | exact zF) aa5 ?_ | refine lR hp rfl (za rfl) (by with_reducible first | exact Zq | exact zF) HX.out ?_) | ((refine zd _ _ _ rfl ?_); (first | refine sO hp rfl (za rfl) (by with_reducible first | exact zq | exact zA | exact zO) aa5 ?_ | refine sA hp rfl (za rfl) (za rfl) (by with_reducible first | exact Zq | exact zF) aa5 ?_ | refine sG hp rfl (za rfl) (za rfl) (by with_reducible first | exact Zq | exact zF) aa5 ?_); clear hp; intro w1 hp; simp only [spl, z0a, z0b] at hp)); simp only [zc, zb, z0b, z0a]))
    go_roundg (gk - 1)
    case measure => omega
    case rel => exact ⟨q + 1, by omega, by go_num, z0j (by rw [HF2.out, HE.out]; simp), hp.tail⟩
   ·have e3 : (wrap64 (wrap64 (nu - 1) - (q : Int)) == fr) = false := by simpa using heq
    have HE := z0j heq
    clear heq
    go_wp2_with (first | go_skip | ((first | ((refine zg _ rfl ?_); refine lZ hp rfl Zh ?_; clear hp; intro b w1 hp) | ((refine zh _ _ rfl ?_); refine lB hp rfl (za rfl) rfl ?_; clear hp; intro b w1 hp) | ((refine zf _ _ rfl ?_); first | refine lO hp rfl (za rfl) (by with_reducible first | exact zq | exact zA | exact zO) aa5 ?_ | refine lA hp rfl (za rfl) (by with_reducible first | exact Zq | exact zF) aa5 ?_ | refine lR hp rfl (za rfl) (by with_reducible first | exact Zq | exact zF) HX.out ?_) | ((refine zd _ _ _ rfl ?_); (first | refine sO hp rfl (za rfl) (by with_reducible first | exact zq | exact zA | exact zO) aa5 ?_ | refine sA hp rfl (za rfl) (za rfl) (by with_reducible first | exact Zq | exact zF) aa5 ?_ | refine sG hp rfl (za rfl) (za rfl) (by with_reducible first | exact Zq | exact zF) aa5 ?_); clear hp; intro w1 hp; simp only [spl, z0a, z0b] at hp)); simp only [zc, zb, z0b, z0a]))
    go_ret
    refine ⟨?_, hp.below⟩
    rw [HF2.out, decide_eq_false HE.out]; rfl
  ·obtain rfl : q = l.length := by omega
   have e2 : decide ((l.length : Int) < (l.length : Int)) = false := by simp
   clear hkq hlt
   go_wp2_with (first | go_skip | ((first | ((refine zg _ rfl ?_); refine lZ hp rfl Zh ?_; clear hp; intro b w1 hp) | ((refine zh _ _ rfl ?_); refine lB hp rfl (za rfl) rfl ?_; clear hp; intro b w1 hp) | ((refine zf _ _ rfl ?_); first | refine lO hp rfl (za rfl) (by with_reducible first | exact zq | exact zA | exact zO) aa5 ?_ | refine lA hp rfl (za rfl) (by with_reducible first | exact Zq | exact zF) aa5 ?_ | refine lR hp rfl (za rfl) (by with_reducible first | exact Zq | exact zF) HX.out ?_) | ((refine zd _ _ _ rfl ?_); (first | refine sO hp rfl (za rfl) (by with_reducible first | exact zq | exact zA | exact zO) aa5 ?_ | refine sA hp rfl (za rfl) (za rfl) (by with_reducible first | exact Zq | exact zF) aa5 ?_ | refine sG hp rfl (za rfl) (za rfl) (by with_reducible first | exact Zq | exact zF) aa5 ?_); clear hp; intro w1 hp; simp only [spl, z0a, z0b] at hp)); simp only [zc, zb, z0b, z0a]))
   go_ret
   refine ⟨?_, hp.below⟩
   rw [HF.out, List.drop_length]; rfl
theorem ZK (vw nm bs : Int) (im : ByteArray) (ea : Option Addr) (n ec : Nat) (w : World) : Calls Tryz.prog 71 #[.agg #[.int .i64 vw, .int .i64 nm, .int .i64 bs, .string im, .slice ea n ec]] w fun e w' => e = .returned (.int .i64 (wrap64 (bs + (n : Int)))) ∧ Below w.heap.size w w' := by
 have hp := Hp.start w
 go_enter Tryz.func71, Tryz.ntmps71
 go_wp2_with (first | go_skip | ((first | ((refine zg _ rfl ?_); refine lZ hp rfl Zh ?_; clear hp; intro b w1 hp) | ((refine zh _ _ rfl ?_); refine lB hp rfl (za rfl) rfl ?_; clear hp; intro b w1 hp) | ((refine zf _ _ rfl ?_); first | refine lO hp rfl (za rfl) (by with_reducible first | exact zq | exact zA | exact zO) aa5 ?_ | refine lA hp rfl (za rfl) (by with_reducible first | exact Zq | exact zF) aa5 ?_ | refine lR hp rfl (za rfl) (by with_reducible first | exact Zq | exact zF) HX.out ?_) | ((refine zd _ _ _ rfl ?_); (first | refine sO hp rfl (za rfl) (by with_reducible first | exact zq | exact zA | exact zO) aa5 ?_ | refine sA hp rfl (za rfl) (za rfl) (by with_reducible first | exact Zq | exact zF) aa5 ?_ | refine sG hp rfl (za rfl) (za rfl) (by with_reducible first | exact Zq | exact zF) aa5 ?_); clear hp; intro w1 hp; simp only [spl, z0a, z0b] at hp)); simp only [zc, zb, z0b, z0a]))
 go_ret
 exact ⟨rfl, hp.below⟩
open Go.RowKit Go.ChangeShapes Go.WideShapes Go.ChangeAt Go.Deep
section
variable {H : Type} {enc : TypeId × Value → H} {w : World} {base : Nat} {spare : Nat → Bool} {held : Bool} {cs : List Value}
theorem zj7 (h : zcf H enc Tryz.prog w base spare held 29 cs) : ∃ x, cs = opL x := by
 obtain ⟨hl, hz⟩ := h.struct Tryz.underlying29
 rw [show Tryz.prog.cellsOf 29 = 7 by kernel_rfl] at hl
 match cs, hl with
 | [v0, v1, v2, v3, v4, v5, v6], _ =>
  obtain ⟨a0, h0, _⟩ := (hz 0 _ rfl 0 1 rfl (by kernel_rfl)).int Tryz.underlying27
  obtain ⟨a1, h1, _⟩ := (hz 1 _ rfl 1 1 rfl (by kernel_rfl)).int Tryz.underlying3
  obtain ⟨a2, h2, _⟩ := (hz 2 _ rfl 2 1 rfl (by kernel_rfl)).int Tryz.underlying3
  obtain ⟨a3, h3, _⟩ := (hz 3 _ rfl 3 1 rfl (by kernel_rfl)).int Tryz.underlying3
  obtain ⟨a4, h4, _⟩ := (hz 4 _ rfl 4 1 rfl (by kernel_rfl)).int Tryz.underlying3
  obtain ⟨a5, h5, _⟩ := (hz 5 _ rfl 5 1 rfl (by kernel_rfl)).int Tryz.underlying3
  obtain ⟨a6, h6, _⟩ := (hz 6 _ rfl 6 1 rfl (by kernel_rfl)).int Tryz.underlying3
  simp at h0 h1 h2 h3 h4 h5 h6
  subst h0 h1 h2 h3 h4 h5 h6
  exact ⟨⟨a0, a1, a2, a3, a4, a5, a6⟩, rfl⟩
theorem zgE (h : zcf H enc Tryz.prog w base spare held 31 cs) : ∃ x, cs = Zi x ∧ True := by
 obtain ⟨hl, hz⟩ := h.struct Tryz.underlying31
 rw [show Tryz.prog.cellsOf 31 = 11 by kernel_rfl] at hl
 match cs, hl with
 | [v0, v1, v2, v3, v4, v5, v6, v7, v8, v9, v10], _ =>
  obtain ⟨a0, h0, _⟩ := (hz 0 _ rfl 0 1 rfl (by kernel_rfl)).int Tryz.underlying3
  obtain ⟨a1, h1, _⟩ := (hz 1 _ rfl 1 1 rfl (by kernel_rfl)).int Tryz.underlying3
  obtain ⟨a2, h2, _⟩ := (hz 2 _ rfl 2 1 rfl (by kernel_rfl)).int Tryz.underlying3
  obtain ⟨a3, h3, _⟩ := (hz 3 _ rfl 3 1 rfl (by kernel_rfl)).int Tryz.underlying3
  obtain ⟨o, h4⟩ := zj7 (hz 4 _ rfl 4 7 rfl (by kernel_rfl))
  simp at h0 h1 h2 h3 h4
  subst h0 h1 h2 h3
  refine ⟨⟨a0, a1, a2, a3, o⟩, ?_, trivial⟩
  simp only [Zi, z0f, z0e]
  rw [← h4]
theorem zc2 {a : Option Addr} {n c : Nat} (h : zcf H enc Tryz.prog w base spare held 22 [.slice a n c]) : ∃ l : List Env, l.length = n ∧ zr w a (l.flatMap Zi) ∧ n ≤ c := by
 have hc : n ≤ c := by
  obtain ⟨m, y, h'⟩ := h
  rcases open_slice Tryz.underlying22 h' with ⟨he, _⟩ | ⟨ad, n', cap, m, nn, D, Pl, he, _, hl, _⟩
  ·simp at he; omega
  ·simp at he; omega
 obtain ⟨a', l, c', h1, h2, _⟩ := h.slice Zi (fun _ => True) 11 (by decide) ZM Tryz.underlying22 (by kernel_rfl) (fun cs h => zgE h)
 simp at h1
 obtain ⟨rfl, rfl, rfl⟩ := h1
 exact ⟨l, rfl, h2, hc⟩
theorem zhm {v0 v1 v2 v3 : Value} {a : Option Addr} {n c : Nat} (h : zcf H enc Tryz.prog w base spare held 24 [v0, v1, v2, v3, .slice a n c]) : ∃ l : List Env, l.length = n ∧ zr w a (l.flatMap Zi) ∧ n ≤ c := by
 obtain ⟨_, hz⟩ := h.struct Tryz.underlying24
 exact zc2 (hz 4 _ rfl 4 1 rfl (by kernel_rfl))
theorem ziF {v0 v1 v2 v3 v4 v5 v6 v7 v8 v9 v10 v11 v12 v13 v14 v15 : Value} {a : Option Addr} {n c : Nat} (h : zcf H enc Tryz.prog w base spare held 33 [v0, v1, v2, v3, v4, v5, v6, v7, v8, v9, v10, v11, v12, v13, v14, v15, .slice a n c]) : ∃ l : List Env, l.length = n ∧ zr w a (l.flatMap Zi) ∧ n ≤ c := by
 obtain ⟨_, hz⟩ := h.struct Tryz.underlying33
 exact zc2 (hz 6 _ rfl 16 1 rfl (by kernel_rfl))
end
end Go.Proofs.YtaafajaadfgaoaaGreat

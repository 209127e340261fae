import Derived.Test.YtaafajaadfgaoaaGreatCx23
import Derived.Test.YtaafajaadfgaoaaGreatCx31
import Derived.Test.YtaafajaadfgaoaaGreatCx2
import Derived.Test.YtaafajaadfgaoaaGreatCx29
set_option linter.unusedSimpArgs false
set_option linter.unusedVariables false
set_option maxRecDepth 100000
set_option maxHeartbeats 60000000
namespace Go.Proofs.YtaafajaadfgaoaaGreat
open Go.RowKit
def I64 (v : Int) : Prop := -9223372036854775808 ≤ v ∧ v ≤ 9223372036854775807
theorem zoz {n : Nat} (h : n < 4294967296) : beV (beS 4 n) = n := by
 have e : beS 4 n = [n / 2 ^ 24 % 256, n / 2 ^ 16 % 256, n / 2 ^ 8 % 256, n / 2 ^ 0 % 256] := rfl
 rw [e]
 simp only [beV, List.foldl_cons, List.foldl_nil]
 omega
theorem zoA {n : Nat} (h : n < 18446744073709551616) : beV (beS 8 n) = n := by
 have e : beS 8 n = [n / 2 ^ 56 % 256, n / 2 ^ 48 % 256, n / 2 ^ 40 % 256, n / 2 ^ 32 % 256, n / 2 ^ 24 % 256, n / 2 ^ 16 % 256, n / 2 ^ 8 % 256, n / 2 ^ 0 % 256] := rfl
 rw [e]
 simp only [beV, List.foldl_cons, List.foldl_nil]
 omega
theorem zsr {v : Int} (h : I64 v) : wrap64 ((uN v : Nat) : Int) = v := by
 obtain ⟨h1, h2⟩ := h
 rw [zof]; unfold wrap64; omega
theorem zkk {n : Nat} (h : n ≤ 2147483647) (r : List Nat) : zg0 (beS 4 n ++ r) = some n := by
 unfold zg0
 have e : (beS 4 n ++ r).take 4 = beS 4 n := by rw [List.take_left' (Zp 4 n)]
 rw [e, zoz (by omega), if_pos ⟨by rw [List.length_append, Zp]; omega, h⟩]
theorem zcu {n : Nat} (h : n ≤ 2147483647) (r : List Nat) : nR (beS 4 n ++ r) = some ((n : Int), r) := by
 unfold nR
 rw [zkk h]
 show some ((n : Int), (beS 4 n ++ r).drop 4) = _
 rw [List.drop_left' (Zp 4 n)]
theorem zqB {v : Int} (h : I64 v) (r : List Nat) : iR (beS 8 (uN v) ++ r) = some (v, r) := by
 unfold iR zpo
 rw [if_pos (by rw [List.length_append, Zp]; omega), List.take_left' (Zp 8 _), zoA (zsp v), zsr h, Option.map_some, List.drop_left' (Zp 8 _)]
theorem zfu {α β : Type} {one : List Nat → Option (β × List Nat)} (f : α → List Nat) (g : α → β) : ∀ (n : Nat) (l : List α), l.length = n → (∀ x ∈ l, ∀ r, one (f x ++ r) = some (g x, r)) → ∀ r, zaI one n (l.flatMap f ++ r) = some (l.map g, r)
 | 0, l, hl, _, r => by
  rw [List.length_eq_zero_iff.1 hl]; rfl
 | n + 1, l, hl, h, r => by
  rcases List.eq_nil_or_concat l with rfl | ⟨k, x, rfl⟩
  ·cases hl
  rw [List.concat_eq_append] at hl h ⊢
  have hk : k.length = n := by simpa using hl
  have h1 := zfu f g n k hk (fun y hy => h y (by simp [hy])) (f x ++ r)
  have h2 := h x (by simp) r
  rw [List.flatMap_append, List.append_assoc, show [x].flatMap f = f x by simp]
  rw [za8 h1 h2, List.map_append]; rfl
theorem zpX {l : List Int} (h : ∀ v ∈ l, I64 v) (r : List Nat) : zaI iR l.length (bi8 l ++ r) = some (l, r) := by
 have := zfu (one := iR) (fun v => beS 8 (uN v)) id l.length l rfl (fun v hv r => zqB (h v hv) r) r
 rw [List.map_id] at this
 exact this
theorem zkr {l : List Nat} (h : ∀ v ∈ l, v ≤ 2147483647) (r : List Nat) : zaI nR l.length (bn4 l ++ r) = some (l.map fun (n : Nat) => (n : Int), r) := zfu (one := nR) (fun v => beS 4 v) (fun n => (n : Int)) l.length l rfl (fun v hv r => zcu (h v hv) r) r
theorem zaJ (n : Nat) (l : List Nat) (r : List Nat) : bn4 (n :: l) ++ r = beS 4 n ++ (bn4 l ++ r) := by unfold bn4; rw [List.flatMap_cons, List.append_assoc]
theorem ze4 (r : List Nat) : bn4 [] ++ r = r := rfl
def ze7 (o : Ob) : Ob := zhe o.h o.p o.o o.ws o.ls
theorem zlT {l : List Int} (h : ∀ t ∈ l, 0 ≤ t) : ((l.map Int.toNat).map fun (n : Nat) => (n : Int)) = l := by
 rw [List.map_map]
 conv => rhs; rw [← List.map_id l]
 exact List.map_congr_left fun x hx => by have := h x hx; simp only [Function.comp_apply, id]; omega
theorem zpM {o : Ob} (hl : zl4 o) (hn : Zk o.ws.length o.ls.length = o.o) (h0 : 0 ≤ o.o) (hw : ∀ v ∈ o.ws, I64 v) (r : List Nat) : zey (obB o ++ r) = some (ze7 o, r) := by
 have g1 := hl.h0
 have g2 := hl.h1
 have g3 := hl.p0
 have g4 := hl.p1
 have g5 := hl.wl
 have g6 := hl.ll
 unfold obB
 rw [List.append_assoc, zaJ, zaJ, zaJ, zaJ, ze4, List.append_assoc]
 unfold zey
 rw [zcu (by omega)]; simp only
 rw [zcu (by omega)]; simp only
 rw [zcu (by omega)]; simp only
 rw [zcu (by omega)]; simp only
 rw [hn, if_neg (by omega), Int.toNat_natCast, Int.toNat_natCast, zpX hw]; simp only
 rw [show o.ls.length = (o.ls.map Int.toNat).length by simp, zkr (fun v hv => by
  obtain ⟨t, ht, rfl⟩ := List.mem_map.1 hv
  have := hl.ls t ht
  omega)]
 simp only
 rw [zlT (fun t ht => (hl.ls t ht).1), Int.toNat_of_nonneg g1, Int.toNat_of_nonneg g3]
 rfl
theorem ZJ.clear (l : List Ob) : ZJ (l.map ze7) l := by
 refine ⟨by simp, fun i a b ha hb => ?_⟩
 rw [List.getElem?_map, hb] at ha
 simp only [Option.map_some, Option.some.injEq] at ha
 subst ha
 exact ⟨rfl, rfl, rfl, rfl, rfl⟩
def ze6 (x : Hv) : Hv := ⟨x.od, none, x.os.map ze7, 0, x.nx, x.t0, x.t1, x.t2, x.t3, none, x.fs, 0⟩
theorem zhA (x : Hv) : (ze6 x).Sm x := ⟨rfl, rfl, rfl, rfl, rfl, rfl, ZJ.clear _, rfl⟩
def Hv.W64 (x : Hv) : Prop := ∀ o ∈ x.os, ∀ v ∈ o.ws, I64 v
theorem zli {x : Hv} (hx : zJ x) (hw : x.W64) (r : List Nat) : zdH (zbQ x ++ r) = some (ze6 x, r) := by
 have hlay := zb3 hx
 have hod := zhX hx
 have hlo := hx.lo
 have hhi := hx.hi
 have hlen := hx.len
 have l0 := ZD hx (hx.tops x.t0 (by simp [tops]))
 have l1 := ZD hx (hx.tops x.t1 (by simp [tops]))
 have l2 := ZD hx (hx.tops x.t2 (by simp [tops]))
 have l3 := ZD hx (hx.tops x.t3 (by simp [tops]))
 have hob : ∀ o ∈ x.os, ∀ r, zey (obB o ++ r) = some (ze7 o, r) := fun o ho r => zpM (hlay o ho) (hx.need o ho).1 (by have := (hx.need o ho).2.1; simpa [Z3] using this) (hw o ho) r
 unfold zbQ zfW
 rw [List.append_assoc, List.append_assoc, List.append_assoc, zaJ, zaJ, ze4]
 unfold zdH
 rw [zcu (by omega)]; simp only
 rw [zcu (by omega)]; simp only
 unfold zae
 rw [show (4 : Nat) = [x.t0.toNat, x.t1.toNat, x.t2.toNat, x.t3.toNat].length from rfl, zkr (by intro v hv; simp at hv; omega)]
 simp only
 unfold zdI
 rw [zaJ, ze4, zcu (by omega)]
 simp only
 rw [if_neg (by omega), Int.toNat_natCast, zfu obB ze7 x.os.length x.os rfl hob]
 simp only
 unfold zew
 rw [Int.toNat_of_nonneg (by omega), Int.toNat_of_nonneg (by omega)]
 have hre : zZ x.od = true := by unfold zZ; simp [hod.1, hod.2]
 have hm : zrS x.od (x.os.map ze7) x.nx ([x.t0.toNat, x.t1.toNat, x.t2.toNat, x.t3.toNat].map fun (n : Nat) => (n : Int)) (lfN (pw x.od) (x.os.map ze7) x.od.toNat 0) = ze6 x := by
  rw [zpu (ZJ.clear x.os), znh hx]
  unfold zrS ze6
  simp only [List.map_cons, List.map_nil, z0c, z0d, Int.toNat_of_nonneg l0.1, Int.toNat_of_nonneg l1.1, Int.toNat_of_nonneg l2.1, Int.toNat_of_nonneg l3.1]
 rw [if_pos hre, hm, if_pos (by rw [zfh (zhA x)]; exact zag hx)]
theorem zm0 {x : Hv} (hx : zJ x) (hw : x.W64) : zcH (zbQ x) = some (ze6 x) := by
 have h := zli hx hw []
 rw [List.append_nil] at h
 unfold zcH zcd
 rw [h]; rfl
theorem ztc {bs r : List Nat} {v : Int} (h : iR bs = some (v, r)) : I64 v := by
 unfold iR at h
 cases h1 : zpo bs with
 | none => rw [h1] at h; cases h
 | some u =>
  rw [h1] at h
  simp at h
  obtain ⟨rfl, _⟩ := h
  unfold zpo at h1
  split at h1
  ·injection h1 with h1
   rw [← h1]; unfold wrap64 I64; omega
  ·cases h1
theorem zp2 {x : Rw} (hc : 0 ≤ x.c ∧ x.c ≤ 4 ∧ 0 ≤ x.s ∧ x.s ≤ 1000000 ∧ 0 ≤ x.e ∧ x.e ≤ 65535) (hv : I64 x.v) (r : List Nat) : zlK (zeI x ++ r) = some (x, r) := by
 unfold zeI
 rw [List.append_assoc, zaJ, zaJ, zaJ, ze4]
 unfold zlK
 rw [zcu (by omega)]; simp only
 rw [zcu (by omega)]; simp only
 rw [zcu (by omega)]; simp only
 rw [show bi8 [x.v] ++ r = beS 8 (uN x.v) ++ r by simp [bi8], zqB hv]
 simp only
 rw [Int.toNat_of_nonneg hc.1, Int.toNat_of_nonneg hc.2.2.1, Int.toNat_of_nonneg hc.2.2.2.2.1]
structure Sv.W64 (x : Sv) : Prop where
 hv : x.hv.W64
 rows : ∀ r ∈ x.rs, I64 r.v
def zcr (x : Sv) : Sv := ⟨ze6 x.hv, none, x.rs, 0⟩
theorem zhB (x : Sv) : (zcr x).Sm x := ⟨zhA _, rfl⟩
theorem zn7 {bs : List Nat} (h : bs.length ≤ 65536) (r : List Nat) : zel ((beS 4 bs.length ++ bs) ++ r) = some (bs, r) := by
 unfold zel
 rw [List.append_assoc, zkk (by omega)]
 simp only
 rw [List.drop_left' (Zp 4 _)]
 simp [h, Zp]
 omega
theorem zgn {x : Sv} (hx : StR x) (hw : x.W64) : ZQ (zav x) = some (zcr x) := by
 have hlen := zdG hx.hv
 have hrl := zbj hx.rows (by decide)
 unfold ZQ zcd Zv zav
 rw [zn7 (by omega)]
 simp only
 rw [zm0 hx.hv hw.hv]
 simp only
 unfold zcM
 rw [zaJ, ze4, zcu (by omega)]
 simp only
 have hrow := zfu zeI id x.rs.length x.rs rfl (fun y hy r => zp2 (by have := ZF.1 (zca hx.rows y hy); omega) (hw.rows y hy) r) []
 rw [List.append_nil, List.map_id] at hrow
 rw [if_neg (by omega), Int.toNat_natCast, hrow]
 simp only
 rw [show (⟨ze6 x.hv, none, x.rs, 0⟩ : Sv) = zcr x from rfl, if_pos (by rw [zio (zhB x)]; exact zkx hx)]
 rfl
open Go.RowKit Go.ChangeShapes Go.WideShapes Go.ChangeAt Go.Deep
section
variable {H : Type} {enc : TypeId × Value → H} {w : World} {base : Nat} {spare : Nat → Bool} {held : Bool} {cs : List Value}
theorem zrC {n : Int} (h : IntKind.i64.has n) : I64 n := by
 have h5 : IntKind.i64.max = 9223372036854775807 := by decide
 have h6 : IntKind.i64.min = -9223372036854775808 := by decide
 have h7 := h.1
 have h8 := h.2
 rw [h6] at h7
 rw [h5] at h8
 exact ⟨h7, h8⟩
end
open Go.RowKit
theorem zaj : zy Tryz.prog 22 = true := by kernel_rfl
theorem zbf : ZB Tryz.prog 24 5 = true := by kernel_rfl
theorem zaR : zbB Tryz.prog 24 = some ([.int .i64 0, .int .i64 0, .int .i64 0, .string ⟨#[]⟩, .slice none 0 0], 5) := by kernel_rfl
theorem zfM : ZB Tryz.prog 33 17 = true := by kernel_rfl
theorem zm6 : (Tryz.prog.info? 31).map (fun i => (i.zero, i.size, i.bytes)) = some (some (.agg #[.int .i64 0, .int .i64 0, .int .i64 0, .int .i64 0, .int .i64 0, .int .i64 0, .int .i64 0, .int .i64 0, .int .i64 0, .int .i64 0, .int .i64 0]), 11, 88) := by kernel_rfl
structure Kv where
 vw : Int
 nm : Int
 bs : Int
 im : ByteArray
 ea : Option Addr
 es : List Env
 ec : Nat
def Kv.Is (w : World) (x : Kv) : Prop := zm w x.ea (x.es.flatMap Zy)
structure Kv.Sm (x y : Kv) : Prop where
 vw : x.vw = y.vw
 nm : x.nm = y.nm
 bs : x.bs = y.bs
 im : x.im = y.im
 es : x.es = y.es
theorem zaD (e : Env) : (Zy e).length = 11 := rfl
def zeP (fr : Int) : Nat → List Env → Bool
 | _, [] => true
 | q, e :: r => decide (wrap64 (wrap64 (e.nu - 1) - (q : Int)) = fr) && zeP fr (q + 1) r
theorem zoh (n lo hi : Int) (w : World) : Calls Tryz.prog 136 #[.int .i64 n, .int .i64 lo, .int .i64 hi] w fun e w' => e = .returned (.bool (inM n lo hi)) ∧ w = w' := by
 go_enter Tryz.func136, Tryz.ntmps136
 go_wp2
 all_goals go_ret
 all_goals refine ⟨zU ?_, rfl⟩
 all_goals (simp [inM, *]; try omega)
theorem zla (l : List Env) (fr : Int) (a : Option Addr) (c : Nat) (hl : l.length ≤ 100000) (w : World) (ha : zm w a (l.flatMap Zy)) :
  Calls Tryz.prog 137 #[.slice a l.length c, .int .i64 fr] w fun e w' => e = .returned (.bool (zeP fr 0 l)) ∧ Below w.heap.size w w' := by
 have hp := Hp.start w
 have HA := z0j ha
 clear ha
 go_enter Tryz.func137, Tryz.ntmps137
 go_wp2_with (first | fail)
 go_loopg [9] l.length (fun k i wr => ∃ q : Nat, k + q = l.length ∧ i = .int .i64 q ∧ Hid (zeP fr 0 l = zeP fr q (l.drop q)) ∧ Hp w.heap.size w wr [])
 case atStart => exact ⟨0, by omega, rfl, z0j rfl, hp⟩
 case round =>
  clear hp
  obtain ⟨q, hkq, rfl, HF, hp⟩ := hrel
  by_cases hlt : q < l.length
  ·obtain ⟨bq, off, rfl, hx⟩ := HA.out.elems 11 zaD (by omega) (by omega)
   have hj := List.getElem?_eq_getElem hlt
   replace hx := hx q _ hj
   have hd := List.drop_eq_getElem_cons hlt
   clear hj
   generalize l[q] = en at hx hd
   obtain ⟨nu, vi, cl, sq, ⟨kk, hh, ii, nn, cc, vv, tt⟩⟩ := en
   simp only [Zy, opL, z0f, z0e] at hx
   have HX := z0j hx
   have HF2 : Hid (zeP fr 0 l = (decide (wrap64 (wrap64 (nu - 1) - (q : Int)) = fr) && zeP fr (q + 1) (l.drop (q + 1)))) := z0j (by rw [HF.out, hd]; rfl)
   have f1 : (0 : Int) ≤ (q : Int) := by omega
   have f2 : (q : Int) < (l.length : Int) := by omega
   clear hx hd HF
   by_cases heq : wrap64 (wrap64 (nu - 1) - (q : Int)) = fr
   ·have e3 : (wrap64 (wrap64 (nu - 1) - (q : Int)) == fr) = true := by simpa using heq
    have HE := z0j heq
    clear heq
    go_wp2_with (first | ((first | ((refine zi _ rfl ?_); refine lZ hp rfl zeB ?_; clear hp; intro b w1 hp) | ((refine zd _ _ rfl ?_); first | refine lO hp rfl (za rfl) (by with_reducible first | exact zr) aa5 ?_ | refine lR hp rfl (za rfl) (by with_reducible first | exact zc6) HX.out ?_) | ((refine zg _ _ _ rfl ?_); (first | refine sA hp rfl (za rfl) (za rfl) (by with_reducible first | exact zc6) aa5 ?_); clear hp; intro w1 hp; simp only [spl, z0a, z0b] at hp)); simp only [zc, zb, z0b, z0a]))
    go_roundg (gk - 1)
    case measure => omega
    case rel => exact ⟨q + 1, by omega, by go_num, z0j (by rw [HF2.out, HE.out]; simp), hp.tail⟩
   ·have e3 : (wrap64 (wrap64 (nu - 1) - (q : Int)) == fr) = false := by simpa using heq
    have HE := z0j heq
    clear heq
    go_wp2_with (first | ((first | ((refine zi _ rfl ?_); refine lZ hp rfl zeB ?_; clear hp; intro b w1 hp) | ((refine zd _ _ rfl ?_); first | refine lO hp rfl (za rfl) (by with_reducible first | exact zr) aa5 ?_ | refine lR hp rfl (za rfl) (by with_reducible first | exact zc6) HX.out ?_) | ((refine zg _ _ _ rfl ?_); (first | refine sA hp rfl (za rfl) (za rfl) (by with_reducible first | exact zc6) aa5 ?_); clear hp; intro w1 hp; simp only [spl, z0a, z0b] at hp)); simp only [zc, zb, z0b, z0a]))
    go_ret
    refine ⟨?_, hp.below⟩
    rw [HF2.out, decide_eq_false HE.out]; rfl
  ·obtain rfl : q = l.length := by omega
   have e2 : decide ((l.length : Int) < (l.length : Int)) = false := by simp
   clear hkq hlt
   go_wp2_with (first | fail)
   go_ret
   refine ⟨?_, hp.below⟩
   rw [HF.out, List.drop_length]; rfl
theorem za3 (vw nm bs : Int) (im : ByteArray) (ea : Option Addr) (n ec : Nat) (w : World) : Calls Tryz.prog 71 #[.agg #[.int .i64 vw, .int .i64 nm, .int .i64 bs, .string im, .slice ea n ec]] w fun e w' => e = .returned (.int .i64 (wrap64 (bs + (n : Int)))) ∧ Below w.heap.size w w' := by
 have hp := Hp.start w
 go_enter Tryz.func71, Tryz.ntmps71
 go_wp2_with (first | ((first | ((refine zk _ _ rfl ?_); refine lB hp rfl (za rfl) rfl ?_; clear hp; intro b w1 hp) | ((refine zd _ _ rfl ?_); first | refine lO hp rfl (za rfl) (by with_reducible first | exact zr | exact zaj) aa5 ?_)); simp only [zc, zb, z0b, z0a]))
 go_ret
 exact ⟨rfl, hp.below⟩
open Go.RowKit Go.ChangeShapes Go.WideShapes Go.ChangeAt Go.Deep
section
variable {H : Type} {enc : TypeId × Value → H} {w : World} {base : Nat} {spare : Nat → Bool} {held : Bool} {cs : List Value}
theorem znH (h : zbW H enc Tryz.prog w base spare held 29 cs) : ∃ x, cs = opL x := by
 obtain ⟨hl, hz⟩ := h.struct Tryz.underlying29
 rw [show Tryz.prog.cellsOf 29 = 7 by kernel_rfl] at hl
 match cs, hl with
 | [v0, v1, v2, v3, v4, v5, v6], _ =>
  obtain ⟨a0, h0, _⟩ := (hz 0 _ rfl 0 1 rfl (by kernel_rfl)).int Tryz.underlying27
  obtain ⟨a1, h1, _⟩ := (hz 1 _ rfl 1 1 rfl (by kernel_rfl)).int Tryz.underlying3
  obtain ⟨a2, h2, _⟩ := (hz 2 _ rfl 2 1 rfl (by kernel_rfl)).int Tryz.underlying3
  obtain ⟨a3, h3, _⟩ := (hz 3 _ rfl 3 1 rfl (by kernel_rfl)).int Tryz.underlying3
  obtain ⟨a4, h4, _⟩ := (hz 4 _ rfl 4 1 rfl (by kernel_rfl)).int Tryz.underlying3
  obtain ⟨a5, h5, _⟩ := (hz 5 _ rfl 5 1 rfl (by kernel_rfl)).int Tryz.underlying3
  obtain ⟨a6, h6, _⟩ := (hz 6 _ rfl 6 1 rfl (by kernel_rfl)).int Tryz.underlying3
  simp at h0 h1 h2 h3 h4 h5 h6
  subst h0 h1 h2 h3 h4 h5 h6
  exact ⟨⟨a0, a1, a2, a3, a4, a5, a6⟩, rfl⟩
theorem zif (h : zbW H enc Tryz.prog w base spare held 31 cs) : ∃ x, cs = Zy x ∧ True := by
 obtain ⟨hl, hz⟩ := h.struct Tryz.underlying31
 rw [show Tryz.prog.cellsOf 31 = 11 by kernel_rfl] at hl
 match cs, hl with
 | [v0, v1, v2, v3, v4, v5, v6, v7, v8, v9, v10], _ =>
  obtain ⟨a0, h0, _⟩ := (hz 0 _ rfl 0 1 rfl (by kernel_rfl)).int Tryz.underlying3
  obtain ⟨a1, h1, _⟩ := (hz 1 _ rfl 1 1 rfl (by kernel_rfl)).int Tryz.underlying3
  obtain ⟨a2, h2, _⟩ := (hz 2 _ rfl 2 1 rfl (by kernel_rfl)).int Tryz.underlying3
  obtain ⟨a3, h3, _⟩ := (hz 3 _ rfl 3 1 rfl (by kernel_rfl)).int Tryz.underlying3
  obtain ⟨o, h4⟩ := znH (hz 4 _ rfl 4 7 rfl (by kernel_rfl))
  simp at h0 h1 h2 h3 h4
  subst h0 h1 h2 h3
  refine ⟨⟨a0, a1, a2, a3, o⟩, ?_, trivial⟩
  simp only [Zy, z0f, z0e]
  rw [← h4]
theorem zfX {a : Option Addr} {n c : Nat} (h : zbW H enc Tryz.prog w base spare held 22 [.slice a n c]) : ∃ l : List Env, l.length = n ∧ zm w a (l.flatMap Zy) ∧ n ≤ c := by
 have hc : n ≤ c := by
  obtain ⟨m, y, h'⟩ := h
  rcases open_slice Tryz.underlying22 h' with ⟨he, _⟩ | ⟨ad, n', cap, m, nn, D, Pl, he, _, hl, _⟩
  ·simp at he; omega
  ·simp at he; omega
 obtain ⟨a', l, c', h1, h2, _⟩ := h.slice Zy (fun _ => True) 11 (by decide) zaD Tryz.underlying22 (by kernel_rfl) (fun cs h => zif h)
 simp at h1
 obtain ⟨rfl, rfl, rfl⟩ := h1
 exact ⟨l, rfl, h2, hc⟩
end
open Go.RowKit Go.ChangeShapes Go.WideShapes Go.ChangeAt Go.Deep
section
variable {H : Type} {enc : TypeId × Value → H} {w : World} {base : Nat} {spare : Nat → Bool} {held : Bool} {cs : List Value}
theorem znI (h : zbW H enc Tryz.prog w base spare held 29 cs) : ∃ x, cs = opL x ∧ I64 x.v := by
 obtain ⟨hl, hz⟩ := h.struct Tryz.underlying29
 rw [show Tryz.prog.cellsOf 29 = 7 by kernel_rfl] at hl
 match cs, hl with
 | [v0, v1, v2, v3, v4, v5, v6], _ =>
  obtain ⟨a0, h0, _⟩ := (hz 0 _ rfl 0 1 rfl (by kernel_rfl)).int Tryz.underlying27
  obtain ⟨a1, h1, _⟩ := (hz 1 _ rfl 1 1 rfl (by kernel_rfl)).int Tryz.underlying3
  obtain ⟨a2, h2, _⟩ := (hz 2 _ rfl 2 1 rfl (by kernel_rfl)).int Tryz.underlying3
  obtain ⟨a3, h3, _⟩ := (hz 3 _ rfl 3 1 rfl (by kernel_rfl)).int Tryz.underlying3
  obtain ⟨a4, h4, _⟩ := (hz 4 _ rfl 4 1 rfl (by kernel_rfl)).int Tryz.underlying3
  obtain ⟨a5, h5, h64⟩ := (hz 5 _ rfl 5 1 rfl (by kernel_rfl)).int Tryz.underlying3
  obtain ⟨a6, h6, _⟩ := (hz 6 _ rfl 6 1 rfl (by kernel_rfl)).int Tryz.underlying3
  simp at h0 h1 h2 h3 h4 h5 h6
  subst h0 h1 h2 h3 h4 h5 h6
  exact ⟨⟨a0, a1, a2, a3, a4, a5, a6⟩, rfl, zrC h64⟩
theorem zig (h : zbW H enc Tryz.prog w base spare held 31 cs) : ∃ x, cs = Zy x ∧ I64 x.op.v := by
 obtain ⟨hl, hz⟩ := h.struct Tryz.underlying31
 rw [show Tryz.prog.cellsOf 31 = 11 by kernel_rfl] at hl
 match cs, hl with
 | [v0, v1, v2, v3, v4, v5, v6, v7, v8, v9, v10], _ =>
  obtain ⟨a0, h0, _⟩ := (hz 0 _ rfl 0 1 rfl (by kernel_rfl)).int Tryz.underlying3
  obtain ⟨a1, h1, _⟩ := (hz 1 _ rfl 1 1 rfl (by kernel_rfl)).int Tryz.underlying3
  obtain ⟨a2, h2, _⟩ := (hz 2 _ rfl 2 1 rfl (by kernel_rfl)).int Tryz.underlying3
  obtain ⟨a3, h3, _⟩ := (hz 3 _ rfl 3 1 rfl (by kernel_rfl)).int Tryz.underlying3
  obtain ⟨o, h4, h64⟩ := znI (hz 4 _ rfl 4 7 rfl (by kernel_rfl))
  simp at h0 h1 h2 h3 h4
  subst h0 h1 h2 h3
  refine ⟨⟨a0, a1, a2, a3, o⟩, ?_, h64⟩
  simp only [Zy, z0f, z0e]
  rw [← h4]
theorem zfY {a : Option Addr} {n c : Nat} (h : zbW H enc Tryz.prog w base spare held 22 [.slice a n c]) : ∃ l : List Env, l.length = n ∧ zm w a (l.flatMap Zy) ∧ ∀ e ∈ l, I64 e.op.v := by
 obtain ⟨a', l, c', h1, h2, h3⟩ := h.slice Zy (fun e => I64 e.op.v) 11 (by decide) zaD Tryz.underlying22 (by kernel_rfl) (fun cs h => zig h)
 simp at h1
 obtain ⟨rfl, rfl, rfl⟩ := h1
 exact ⟨l, rfl, h2, h3⟩
theorem zjw {v0 v1 v2 v3 : Value} {a : Option Addr} {n c : Nat} (h : zbW H enc Tryz.prog w base spare held 24 [v0, v1, v2, v3, .slice a n c]) : ∃ l : List Env, l.length = n ∧ zm w a (l.flatMap Zy) ∧ (n ≤ c ∧ ∀ e ∈ l, I64 e.op.v) := by
 obtain ⟨_, hz⟩ := h.struct Tryz.underlying24
 obtain ⟨l, h1, h2, h3⟩ := zfY (hz 4 _ rfl 4 1 rfl (by kernel_rfl))
 obtain ⟨_, _, _, h4⟩ := zfX (hz 4 _ rfl 4 1 rfl (by kernel_rfl))
 exact ⟨l, h1, h2, h4, h3⟩
end
end Go.Proofs.YtaafajaadfgaoaaGreat

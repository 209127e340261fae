import Derived.Test.YtaafajaadfgaoaaGreatFp5
import Derived.Test.YtaafajaadfgaoaaGreatFp10
set_option linter.unusedSimpArgs false
set_option linter.unusedVariables false
set_option maxRecDepth 100000
set_option maxHeartbeats 60000000
namespace Go.Proofs.YtaafajaadfgaoaaGreat
open Go.RowKit
theorem zbE {ty : TypeId} {k : Nat} (h : zac Tryz.prog ty k = true := by with_reducible first | exact zaR | exact zN | exact zv | exact ZC | exact zY) : zac Tryz.prog ty k = true := h
theorem zdl {ty : TypeId} (h : zB Tryz.prog ty = true := by with_reducible first | exact zq | exact zA | exact zS | exact za8 | exact zbi | exact za9 | exact Ze) : zB Tryz.prog ty = true := h
def zm4 (B : Nat) (w0 : World) (bo : Nat) (zs : List Nat) (H : Blk → List Blk → List Blk) (e : Ending) (w' : World) : Prop :=
 e = .returned (.tuple #[]) ∧ ∃ ys m a c R, ys = zs ∧ ys.length = m ∧ zD 5 1 (.slice a m c) m (ys.flatMap byV) R ∧ Hp B w0 w' (H ⟨bo, [.slice a m c], 116, 1⟩ R)
theorem zfT {B : Nat} {w0 : World} {bl t n : Nat} {cs : List Value} {K : List Blk} : zfA B w0 (⟨bl, cs, t, n⟩ :: K) fun w => zr w (some ⟨bl, 0, none⟩) cs :=
 fun w1 L1 hp hm => (zaG.row bl cs t n).at hp (fun p hp2 => by rw [List.mem_singleton.1 hp2]; exact hm _ (by simp))
theorem zmN (l : List Nat) (n : Nat) (hn : l.length = n) (hl : n ≤ 1000) (hb : ∀ x ∈ l, x ≤ 2147483647) (xs : List Nat) (m : Nat) (hm : xs.length = m) (hx : m ≤ 900000) {B : Nat} {w0 w : World} {bo c : Nat} {a : Option Addr} {p : Blk} {R : List Blk} (hr : zD 5 1 (.slice a m c) m (xs.flatMap byV) R) (al : Option Addr) (cl : Nat) (hk : zfA B w0 [p] fun w => zr w al (l.flatMap zgw))
  (hp : Hp B w0 w (p :: ⟨bo, [.slice a m c], 116, 1⟩ :: R)) :
  Calls Tryz.prog 79 #[.pointer (some ⟨bo, 0, none⟩), .slice al n cl] w (zm4 B w0 bo (xs ++ bn4 l) fun b R => p :: b :: R) := by
 subst hn hm
 refine (zhT l hl hb xs hx bo al cl ⟨a, c, R, hr, hp.kp⟩ hk).mono fun e w' h => ?_
 obtain ⟨he, a', c', R', h1, h2⟩ := h
 exact ⟨he, _, _, a', c', R', rfl, rfl, h1, h2.kp⟩
theorem zeI (l : List Nat) (n : Nat) (hn : l.length = n) (hl : n ≤ 1000) (hb : ∀ x ∈ l, x ≤ 2147483647) (xs : List Nat) (m : Nat) (hm : xs.length = m) (hx : m ≤ 900000) {B : Nat} {w0 w : World} {bl bo t nn c cl : Nat} {a : Option Addr} {cs : List Value} {p : Blk} {R : List Blk} (hr : zD 5 1 (.slice a m c) m (xs.flatMap byV) R)
  (hcs : cs = l.flatMap zgw) (hp : Hp B w0 w (⟨bl, cs, t, nn⟩ :: p :: ⟨bo, [.slice a m c], 116, 1⟩ :: R)) :
  Calls Tryz.prog 79 #[.pointer (some ⟨bo, 0, none⟩), .slice (some ⟨bl, 0, none⟩) n cl] w (zm4 B w0 bo (xs ++ bn4 l) fun b R => p :: b :: R) := by
 subst hn hm hcs
 refine (zhT l hl hb xs hx bo (some ⟨bl, 0, none⟩) cl (L := ⟨bl, l.flatMap zgw, t, nn⟩ :: [p]) ⟨a, c, R, hr, hp.kp⟩ zfT).mono fun e w' h => ?_
 obtain ⟨he, a', c', R', h1, h2⟩ := h
 exact ⟨he, _, _, a', c', R', rfl, rfl, h1, h2.kp⟩
theorem zmO (l : List Nat) (n : Nat) (hn : l.length = n) (hl : n ≤ 1000) (hb : ∀ x ∈ l, x ≤ 2147483647) (xs : List Nat) (m : Nat) (hm : xs.length = m) (hx : m ≤ 900000) {B : Nat} {w0 w : World} {bo c : Nat} {a : Option Addr} {p q : Blk} {R : List Blk} (hr : zD 5 1 (.slice a m c) m (xs.flatMap byV) R) (al : Option Addr) (cl : Nat) (hk : zfA B w0 [p, q] fun w => zr w al (l.flatMap zgw))
  (hp : Hp B w0 w (p :: q :: ⟨bo, [.slice a m c], 116, 1⟩ :: R)) :
  Calls Tryz.prog 79 #[.pointer (some ⟨bo, 0, none⟩), .slice al n cl] w (zm4 B w0 bo (xs ++ bn4 l) fun b R => p :: q :: b :: R) := by
 subst hn hm
 refine (zhT l hl hb xs hx bo al cl ⟨a, c, R, hr, hp.kp⟩ hk).mono fun e w' h => ?_
 obtain ⟨he, a', c', R', h1, h2⟩ := h
 exact ⟨he, _, _, a', c', R', rfl, rfl, h1, h2.kp⟩
theorem zgA (l : List Nat) (n : Nat) (hn : l.length = n) (hl : n ≤ 1000) (hb : ∀ x ∈ l, x ≤ 2147483647) (xs : List Nat) (m : Nat) (hm : xs.length = m) (hx : m ≤ 900000) {B : Nat} {w0 w : World} {bl bo t nn c cl : Nat} {a : Option Addr} {cs : List Value} {p q : Blk} {R : List Blk} (hr : zD 5 1 (.slice a m c) m (xs.flatMap byV) R)
  (hcs : cs = l.flatMap zgw) (hp : Hp B w0 w (⟨bl, cs, t, nn⟩ :: p :: q :: ⟨bo, [.slice a m c], 116, 1⟩ :: R)) :
  Calls Tryz.prog 79 #[.pointer (some ⟨bo, 0, none⟩), .slice (some ⟨bl, 0, none⟩) n cl] w (zm4 B w0 bo (xs ++ bn4 l) fun b R => p :: q :: b :: R) := by
 subst hn hm hcs
 refine (zhT l hl hb xs hx bo (some ⟨bl, 0, none⟩) cl (L := ⟨bl, l.flatMap zgw, t, nn⟩ :: [p, q]) ⟨a, c, R, hr, hp.kp⟩ zfT).mono fun e w' h => ?_
 obtain ⟨he, a', c', R', h1, h2⟩ := h
 exact ⟨he, _, _, a', c', R', rfl, rfl, h1, h2.kp⟩
theorem zmM (l : List Int) (n : Nat) (hn : l.length = n) (hl : n ≤ 1000) (xs : List Nat) (m : Nat) (hm : xs.length = m) (hx : m ≤ 900000) {B : Nat} {w0 w : World} {bo c : Nat} {a : Option Addr} {p q : Blk} {R : List Blk} (hr : zD 5 1 (.slice a m c) m (xs.flatMap byV) R) (al : Option Addr) (cl : Nat) (hk : zfA B w0 [p, q] fun w => zr w al (l.flatMap iV))
  (hp : Hp B w0 w (p :: q :: ⟨bo, [.slice a m c], 116, 1⟩ :: R)) :
  Calls Tryz.prog 80 #[.pointer (some ⟨bo, 0, none⟩), .slice al n cl] w (zm4 B w0 bo (xs ++ bi8 l) fun b R => p :: q :: b :: R) := by
 subst hn hm
 refine (zl6 l hl xs hx bo al cl ⟨a, c, R, hr, hp.kp⟩ hk).mono fun e w' h => ?_
 obtain ⟨he, a', c', R', h1, h2⟩ := h
 exact ⟨he, _, _, a', c', R', rfl, rfl, h1, h2.kp⟩
theorem zjY (l : List Int) (n : Nat) (hn : l.length = n) (hl : n ≤ 1000) (xs : List Nat) (m : Nat) (hm : xs.length = m) (hx : m ≤ 900000) {B : Nat} {w0 w : World} {bl bo t nn c cl : Nat} {a : Option Addr} {cs : List Value} {p q : Blk} {R : List Blk} (hr : zD 5 1 (.slice a m c) m (xs.flatMap byV) R)
  (hcs : cs = l.flatMap iV) (hp : Hp B w0 w (⟨bl, cs, t, nn⟩ :: p :: q :: ⟨bo, [.slice a m c], 116, 1⟩ :: R)) :
  Calls Tryz.prog 80 #[.pointer (some ⟨bo, 0, none⟩), .slice (some ⟨bl, 0, none⟩) n cl] w (zm4 B w0 bo (xs ++ bi8 l) fun b R => p :: q :: b :: R) := by
 subst hn hm hcs
 refine (zl6 l hl xs hx bo (some ⟨bl, 0, none⟩) cl (L := ⟨bl, l.flatMap iV, t, nn⟩ :: [p, q]) ⟨a, c, R, hr, hp.kp⟩ zfT).mono fun e w' h => ?_
 obtain ⟨he, a', c', R', h1, h2⟩ := h
 exact ⟨he, _, _, a', c', R', rfl, rfl, h1, h2.kp⟩
def obB (o : Ob) : List Nat := bn4 [o.h.toNat, o.p.toNat, o.ws.length, o.ls.length] ++ (bi8 o.ws ++ bn4 (o.ls.map Int.toNat))
def zgm (x : Hv) : List Nat := bn4 [x.od.toNat, x.nx.toNat] ++ (bn4 [x.t0.toNat, x.t1.toNat, x.t2.toNat, x.t3.toNat] ++ bn4 [x.os.length])
def zcS (x : Hv) : List Nat := zgm x ++ x.os.flatMap obB
theorem zmG {l : List Int} (h : ∀ x ∈ l, 0 ≤ x) : (l.map Int.toNat).flatMap zgw = l.flatMap iV := by
 induction l with
 | nil => rfl
 | cons x l ih =>
  rw [List.map_cons, List.flatMap_cons, List.flatMap_cons, ih (fun y hy => h y (by simp [hy]))]
  have := h x (by simp)
  simp only [zgw, iV, Int.toNat_of_nonneg this]
structure ziY (o : Ob) : Prop where
 h0 : 0 ≤ o.h
 h1 : o.h ≤ 2147483647
 p0 : 0 ≤ o.p
 p1 : o.p ≤ 2147483647
 wl : o.ws.length ≤ 32
 ll : o.ls.length ≤ 16
 ls : ∀ t ∈ o.ls, 0 ≤ t ∧ t ≤ 2147483647
theorem zaC {x : Hv} (hx : zai x) {t : Int} (h : ZY x.os t) : 0 ≤ t ∧ t ≤ 1000001 := by
 rcases h with rfl | ⟨o, ho, rfl⟩
 ·exact ⟨by omega, by omega⟩
 ·obtain ⟨i, hi, rfl⟩ := List.getElem_of_mem ho
  have h := hx.rise i _ (List.getElem?_eq_getElem hi)
  have := hx.hi
  omega
theorem zdQ {x : Hv} (hx : zai x) : ∀ o ∈ x.os, ziY o := by
 intro o ho
 have hn := hx.need o ho
 have hlead : ZY x.os o.h := .inr ⟨o, ho, rfl⟩
 have h1 := zaC hx hlead
 have hf := hx.free
 unfold Zv Zg at hf
 rw [Bool.and_eq_true] at hf
 have hod : 3 ≤ x.od ∧ x.od ≤ 8 := by simpa using hf.1
 have hm := hn.2
 have hp2 := hm.2.2.2.1
 have hp1 := hm.2.2.1
 have hpw := zb5 hod.2
 have hpp := zP o.o
 simp only [zaE] at hp1 hp2
 have hnd := hn.1
 have h0 := hm.1
 simp only [zaE] at h0
 have hok := zdu (a := o.ws.length) (b := o.ls.length) (by omega)
 exact ⟨h1.1, by omega, hp1, by omega, by omega, by omega, fun t ht => by have := zaC hx (hx.links o ho t ht); omega⟩
theorem zmJ {o : Ob} (h : ziY o) : (obB o).length ≤ 336 := by
 have := h.wl
 have := h.ll
 unfold obB
 rw [List.length_append, List.length_append, zaL, zew, zaL, List.length_map]
 simp only [z0g, z0h]
 omega
theorem zlp {l : List Ob} (h : ∀ o ∈ l, ziY o) : (l.flatMap obB).length ≤ l.length * 336 := by
 induction l with
 | nil => simp
 | cons o l ih =>
  have h1 := ih (fun x hx => h x (by simp [hx]))
  have h2 := zmJ (h o (by simp))
  rw [List.flatMap_cons, List.length_append, List.length_cons]; omega
theorem zgn (x : Hv) : (zgm x).length = 28 := by unfold zgm; rw [List.length_append, List.length_append, zaL, zaL, zaL]; rfl
def zi4 (w : World) (r : Option (List Nat)) (e : Ending) (w' : World) : Prop := match r with
 | some bs => ∃ a c R, e = .returned (.tuple #[.slice a bs.length c, .int .i64 0]) ∧ zD 5 1 (.slice a bs.length c) bs.length (bs.flatMap byV) R ∧ Hp w.heap.size w w' R
 | none => e = .returned (.tuple #[.slice none 0 0, .int .i64 60]) ∧ Below w.heap.size w w'
theorem zon {B : Nat} {w0 w : World} {b o h : Blk} {R : List Blk} (hp : Hp B w0 w (b :: o :: h :: R)) : Hp B w0 w (b :: h :: o :: R) := hp.kp
theorem znh {B : Nat} {w0 w : World} {L : List Blk} {p : Blk} (hp : Hp B w0 w L) (hm : p ∈ L) {j : Nat} {v : Value} (hj : p.l[j]? = some v) : w.cell? ⟨p.id, j, none⟩ = some v := by
 obtain ⟨k, hk, hkl⟩ := List.getElem_of_mem hm
 obtain ⟨b, l, t, n⟩ := p
 exact hp.cell (i := k) (by rw [List.getElem?_eq_getElem hk, hkl]) hj
theorem zko {B : Nat} {w0 : World} {bh : Nat} {v0 v1 v2 v7 : Value} {t0 t1 t2 t3 : Nat} : zfA B w0 [⟨bh, [v0, v1, v2, .int .i64 t0, .int .i64 t1, .int .i64 t2, .int .i64 t3, v7], 47, 8⟩] fun w => zr w (some ⟨bh, 3, none⟩) ([t0, t1, t2, t3].flatMap zgw) := fun w1 L1 hp hm j v hj => by
 refine ⟨bh, 3, rfl, znh hp (hm _ (List.mem_singleton.2 rfl)) (j := 3 + j) ?_⟩
 match j, hj with
 | 0, hj => exact hj
 | 1, hj => exact hj
 | 2, hj => exact hj
 | 3, hj => exact hj
theorem ziD (x : Hv) (hb : Zk x = true) (w : World) (hx0 : x.Is w) : Calls Tryz.prog 25 #[.agg (hvL x).toArray] w (zi4 w (some (zcS x))) := by
 have hxr := zcB hb
 have HB := z0j hb
 have HSS := z0j hxr.small
 have HIS := z0j hx0
 have HLAY := z0j (zdQ hxr)
 have hp := Hp.start w
 have hfr := hxr.free
 unfold Zv Zg at hfr
 rw [Bool.and_eq_true] at hfr
 have hod : 3 ≤ x.od ∧ x.od ≤ 8 := by simpa using hfr.1
 have hnx := hxr.lo
 have hnx2 := hxr.hi
 have hol := hxr.len
 have l0 := zaC hxr (hxr.tops x.t0 (by simp [tops]))
 have l1 := zaC hxr (hxr.tops x.t1 (by simp [tops]))
 have l2 := zaC hxr (hxr.tops x.t2 (by simp [tops]))
 have l3 := zaC hxr (hxr.tops x.t3 (by simp [tops]))
 have HHL := z0j (zgn x)
 obtain ⟨hd, hhd⟩ : ∃ hd, hd = zgm x := ⟨_, rfl⟩
 have HHD := z0j hhd
 have HRES : Hid (zcS x = hd ++ x.os.flatMap obB) := z0j (by rw [hhd]; rfl)
 rw [← hhd] at HHL
 obtain ⟨od, oa, os, oc, nx, t0, t1, t2, t3, fa, fs, fc⟩ := x
 simp only at hod hnx hnx2 hol l0 l1 l2 l3 HRES HLAY
 unfold zgm at HHD
 simp only at HHD
 obtain ⟨od, rfl⟩ := Int.eq_ofNat_of_zero_le (show 0 ≤ od by omega)
 obtain ⟨nx, rfl⟩ := Int.eq_ofNat_of_zero_le (show 0 ≤ nx by omega)
 obtain ⟨t0, rfl⟩ := Int.eq_ofNat_of_zero_le l0.1
 obtain ⟨t1, rfl⟩ := Int.eq_ofNat_of_zero_le l1.1
 obtain ⟨t2, rfl⟩ := Int.eq_ofNat_of_zero_le l2.1
 obtain ⟨t3, rfl⟩ := Int.eq_ofNat_of_zero_le l3.1
 simp only [Int.toNat_natCast] at HHD
 have HB1 : Hid (∀ x ∈ [od, nx], x ≤ 2147483647) := z0j (by intro x hx; simp at hx; omega)
 have HB2 : Hid (∀ x ∈ [t0, t1, t2, t3], x ≤ 2147483647) := z0j (by intro x hx; simp at hx; omega)
 have HB3 : Hid (∀ x ∈ [os.length], x ≤ 2147483647) := z0j (by intro x hx; simp at hx; omega)
 have HO : Hid (zr w oa (os.flatMap obV)) := z0j hx0.1
 have HOO : Hid (∀ o ∈ os, o.Is w) := z0j hx0.2.1
 have HOL : Hid (os.length ≤ 256) := z0j hol
 have HLA : Hid ([od, nx].length = 2) := z0j rfl
 have HLB : Hid (2 ≤ 1000) := z0j (by decide)
 have HLC : Hid ([t0, t1, t2, t3].length = 4) := z0j rfl
 have HLD : Hid (4 ≤ 1000) := z0j (by decide)
 have HLE : Hid ([os.length].length = 1) := z0j rfl
 have HLF : Hid (1 ≤ 1000) := z0j (by decide)
 have HNIL : Hid (([] : List Nat).length = 0) := z0j rfl
 have HNIL2 : Hid (0 ≤ 900000) := z0j (by decide)
 have HC1 : Hid ([Value.int .i64 (od : Int), Value.int .i64 (nx : Int)] = [od, nx].flatMap zgw) := z0j rfl
 have HC3 : Hid ([Value.int .i64 (os.length : Int)] = [os.length].flatMap zgw) := z0j rfl
 clear hfr hod hnx hnx2 hol l0 l1 l2 l3 hxr hb hx0 hhd
 simp only [hvL]
 go_enter Tryz.func25, Tryz.ntmps25
 go_wp2_with (first | (go_at_call 74; (with_reducible refine (zei od oa os oc nx t0 t1 t2 t3 fa fs fc _ HB.out HSS.out _ (HIS.out.below hp.below)).mono ?_); rintro e w1 ⟨rfl, hb⟩; replace hp := hp.call hb; clear hb; simp only [ziS, if_true, Bool.false_eq_true, if_false]) | (go_at_call 79; replace hp := zon hp; (with_reducible refine (zeI [od, nx] 2 HLA.out HLB.out HB1.out [] 0 HNIL.out HNIL2.out (zD.nil 5 1 none) HC1.out hp).mono ?_); clear hp; rintro e w1 ⟨rfl, y1, m1, a1, c1, R1, hy1, hm1, hr1, hp⟩; have HY1 := z0j hy1; have HM1 := z0j hm1; have HR1 := z0j hr1; clear hy1 hm1 hr1) | go_skip | ((first | ((refine zg _ rfl ?_); refine lZ hp rfl (by with_reducible first | exact zC | exact ZV) ?_; clear hp; intro b w1 hp) | ((refine zh _ _ rfl ?_); refine lB hp rfl (za rfl) rfl ?_; clear hp; intro b w1 hp) | ((refine zf _ _ rfl ?_); first | refine lO hp rfl (za rfl) zdl zu ?_ | refine lA hp rfl (za rfl) zbE zu ?_) | ((refine zd _ _ _ rfl ?_); (first | refine sO hp rfl (za rfl) zdl zu ?_ | refine sA hp rfl (za rfl) (za rfl) zbE zu ?_ | refine sG hp rfl (za rfl) (za rfl) zbE zu ?_); clear hp; intro w1 hp; simp only [spl, z0a, z0b] at hp) | ((refine zi _ _ _ rfl ?_); refine lS hp rfl (by intro w; go_simp; rfl) ?_; clear hp; intro b w1 hp; simp only [z0g, z0h, Nat.reduceAdd] at hp)); simp only [zc, zb, z0b, z0a]))
 obtain ⟨bh, rfl⟩ := hp.id0
 obtain ⟨bo, rfl⟩ := hp.id1
 have hm1 : m1 = 8 := by rw [← HM1.out, HY1.out, List.nil_append, zaL]; rfl
 have HX1 : Hid (m1 ≤ 900000) := z0j (by omega)
 have HV1 := z0j hm1
 clear hm1
 go_wp2_with (first | (go_at_call 79; (with_reducible refine (zmN [t0, t1, t2, t3] 4 HLC.out HLD.out HB2.out y1 m1 HM1.out HX1.out HR1.out (some ⟨bh, 3, none⟩) 4 zko hp).mono ?_); clear hp; rintro e w1 ⟨rfl, y2, m2, a2, c2, R2, hy2, hm2, hr2, hp⟩; have HY2 := z0j hy2; have HM2 := z0j hm2; have HR2 := z0j hr2; clear hy2 hm2 hr2) | go_skip | ((first | ((refine zg _ rfl ?_); refine lZ hp rfl (by with_reducible first | exact zC | exact ZV) ?_; clear hp; intro b w1 hp) | ((refine zh _ _ rfl ?_); refine lB hp rfl (za rfl) rfl ?_; clear hp; intro b w1 hp) | ((refine zf _ _ rfl ?_); first | refine lO hp rfl (za rfl) zdl zu ?_ | refine lA hp rfl (za rfl) zbE zu ?_) | ((refine zd _ _ _ rfl ?_); (first | refine sO hp rfl (za rfl) zdl zu ?_ | refine sA hp rfl (za rfl) (za rfl) zbE zu ?_ | refine sG hp rfl (za rfl) (za rfl) zbE zu ?_); clear hp; intro w1 hp; simp only [spl, z0a, z0b] at hp) | ((refine zi _ _ _ rfl ?_); refine lS hp rfl (by intro w; go_simp; rfl) ?_; clear hp; intro b w1 hp; simp only [z0g, z0h, Nat.reduceAdd] at hp)); simp only [zc, zb, z0b, z0a]))
 have hm2 : m2 = 24 := by rw [← HM2.out, HY2.out, List.length_append, HM1.out, HV1.out, zaL]; rfl
 have HX2 : Hid (m2 ≤ 900000) := z0j (by omega)
 clear hm2
 go_wp2_with (first | (go_at_call 79; (with_reducible refine (zeI [os.length] 1 HLE.out HLF.out HB3.out y2 m2 HM2.out HX2.out HR2.out HC3.out hp).mono ?_); clear hp; rintro e w1 ⟨rfl, y3, m3, a3, c3, R3, hy3, hm3, hr3, hp⟩; have HY3 := z0j hy3; have HM3 := z0j hm3; have HR3 := z0j hr3; clear hy3 hm3 hr3) | go_skip | ((first | ((refine zg _ rfl ?_); refine lZ hp rfl (by with_reducible first | exact zC | exact ZV) ?_; clear hp; intro b w1 hp) | ((refine zh _ _ rfl ?_); refine lB hp rfl (za rfl) rfl ?_; clear hp; intro b w1 hp) | ((refine zf _ _ rfl ?_); first | refine lO hp rfl (za rfl) zdl zu ?_ | refine lA hp rfl (za rfl) zbE zu ?_) | ((refine zd _ _ _ rfl ?_); (first | refine sO hp rfl (za rfl) zdl zu ?_ | refine sA hp rfl (za rfl) (za rfl) zbE zu ?_ | refine sG hp rfl (za rfl) (za rfl) zbE zu ?_); clear hp; intro w1 hp; simp only [spl, z0a, z0b] at hp) | ((refine zi _ _ _ rfl ?_); refine lS hp rfl (by intro w; go_simp; rfl) ?_; clear hp; intro b w1 hp; simp only [z0g, z0h, Nat.reduceAdd] at hp)); simp only [zc, zb, z0b, z0a]))
 have HZ : Hid (y3 = hd) := z0j (by rw [HY3.out, HY2.out, HY1.out, HHD.out, List.nil_append, List.append_assoc])
 go_loopg [32] os.length (fun k i wr => ∃ (q : Nat) (ys : List Nat) (m : Nat) (a : Option Addr) (c : Nat) (R : List Blk), k + q = os.length ∧ i = .int .i64 q ∧ Hid (ys = hd ++ (os.take q).flatMap obB) ∧ Hid (ys.length = m) ∧ Hid (zD 5 1 (.slice a m c) m (ys.flatMap byV) R) ∧
  Hp w.heap.size w wr (⟨bh, [.int .i64 od, .slice oa os.length oc, .int .i64 nx, .int .i64 t0, .int .i64 t1, .int .i64 t2, .int .i64 t3, .slice fa fs.length fc], 47, 8⟩ :: ⟨bo, [.slice a m c], 116, 1⟩ :: R))
 case atStart => exact ⟨0, y3, m3, a3, c3, R3, by omega, rfl, z0j (by rw [HZ.out]; simp), HM3, HR3, hp⟩
 case round =>
  clear hp HY1 HY2 HY3 HM1 HM2 HM3 HR1 HR2 HR3 HX1 HX2 HV1 HZ HLA HLB HC1 HB1
  obtain ⟨q, ys, m, a, c, R, hkq, rfl, HYS, HM, HR, hp⟩ := hrel
  by_cases hlt : q < os.length
  ·obtain ⟨bq, off, rfl, hx⟩ := HO.out.elems 5 zbP (by omega) (by omega)
   have hj := List.getElem?_eq_getElem hlt
   replace hx := hx q _ hj
   have hmem := List.getElem_mem hlt
   obtain ⟨hw1, hw2⟩ := HOO.out _ hmem
   have hlay := HLAY.out _ hmem
   have htk : (os.take (q + 1)).flatMap obB = (os.take q).flatMap obB ++ obB os[q] := by rw [List.take_add_one, hj, List.flatMap_append]; simp
   have hlen := zlp (l := os.take q) (fun o ho => HLAY.out o (List.mem_of_mem_take ho))
   rw [List.length_take, Nat.min_eq_left (by omega)] at hlen
   have hm : m ≤ 28 + q * 336 := by rw [← HM.out, HYS.out, List.length_append, HHL.out]; omega
   have hol := HOL.out
   clear hmem hj hlen
   generalize os[q] = x at hx hw1 hw2 hlay htk
   obtain ⟨xh, xp, xo, wa, ws, wc, la, ls, lc⟩ := x
   obtain ⟨g1, g2, g3, g4, g5, g6, g7⟩ := hlay
   simp only at hx hw1 hw2 g1 g2 g3 g4 g5 g6 g7
   obtain ⟨xh, rfl⟩ := Int.eq_ofNat_of_zero_le g1
   obtain ⟨xp, rfl⟩ := Int.eq_ofNat_of_zero_le g3
   simp only [obV] at hx
   rw [show obB ⟨xh, xp, xo, wa, ws, wc, la, ls, lc⟩ = bn4 [xh, xp, ws.length, ls.length] ++ (bi8 ws ++ bn4 (ls.map Int.toNat)) by simp only [obB, Int.toNat_natCast]] at htk
   have hq6 : q < 256 := by omega
   have HTK := z0j htk
   have HX := z0j hx
   have HSW : Hid (∀ {p r : Blk}, zfA w.heap.size w [p, r] fun w => zr w wa (ws.flatMap iV)) := z0j (zfA.of_row hw1)
   have HSL : Hid (∀ {p r : Blk}, zfA w.heap.size w [p, r] fun w => zr w la ((ls.map Int.toNat).flatMap zgw)) := z0j (by rw [zmG (fun t ht => (g7 t ht).1)]; exact zfA.of_row hw2)
   have HLA : Hid ([xh, xp, ws.length, ls.length].length = 4) := z0j rfl
   have HLB : Hid (4 ≤ 1000) := z0j (by decide)
   have HB4 : Hid (∀ x ∈ [xh, xp, ws.length, ls.length], x ≤ 2147483647) := z0j (by intro x hx; simp at hx; omega)
   have HC4 : Hid ([Value.int .i64 (xh : Int), Value.int .i64 (xp : Int), Value.int .i64 (ws.length : Int), Value.int .i64 (ls.length : Int)] = [xh, xp, ws.length, ls.length].flatMap zgw) := z0j rfl
   have HL5 : Hid (ws.length ≤ 1000) := z0j (by omega)
   have HL6 : Hid (ls.length ≤ 1000) := z0j (by omega)
   have HLN : Hid ((ls.map Int.toNat).length = ls.length) := z0j (List.length_map ..)
   have HB6 : Hid (∀ x ∈ ls.map Int.toNat, x ≤ 2147483647) := z0j (by intro x hx; obtain ⟨t, ht, rfl⟩ := List.mem_map.1 hx; have := g7 t ht; omega)
   have HX0 : Hid (m ≤ 900000) := z0j (by omega)
   have HMB : Hid (m ≤ 100000 ∧ ws.length ≤ 32 ∧ ls.length ≤ 16) := z0j ⟨by omega, g5, g6⟩
   have e1 : (0 : Int) ≤ (q : Int) := by omega
   have e2 : (q : Int) < (os.length : Int) := by omega
   clear hx hw1 hw2 g1 g2 g3 g4 g5 g6 g7 htk hm hol
   go_wp2_with (first | (go_at_call 79; (with_reducible refine (zgA [xh, xp, ws.length, ls.length] 4 HLA.out HLB.out HB4.out ys m HM.out HX0.out HR.out HC4.out hp).mono ?_); clear hp; rintro e w1 ⟨rfl, y4, m4, a4, c4, R4, hy4, hm4, hr4, hp⟩; have HY4 := z0j hy4; have HM4 := z0j hm4; have HR4 := z0j hr4; clear hy4 hm4 hr4) | go_skip | ((first | ((refine zg _ rfl ?_); refine lZ hp rfl (by with_reducible first | exact zC | exact ZV) ?_; clear hp; intro b w1 hp) | ((refine zh _ _ rfl ?_); refine lB hp rfl (za rfl) rfl ?_; clear hp; intro b w1 hp) | ((refine zf _ _ rfl ?_); first | refine lO hp rfl (za rfl) zdl zu ?_ | refine lA hp rfl (za rfl) zbE zu ?_ | refine lR hp rfl (za rfl) zbE HX.out ?_) | ((refine zd _ _ _ rfl ?_); (first | refine sO hp rfl (za rfl) zdl zu ?_ | refine sA hp rfl (za rfl) (za rfl) zbE zu ?_ | refine sG hp rfl (za rfl) (za rfl) zbE zu ?_); clear hp; intro w1 hp; simp only [spl, z0a, z0b] at hp) | ((refine zi _ _ _ rfl ?_); refine lS hp rfl (by intro w; go_simp; rfl) ?_; clear hp; intro b w1 hp; simp only [z0g, z0h, Nat.reduceAdd] at hp)); simp only [zc, zb, z0b, z0a]))
   have hm4 : m4 = m + 16 := by rw [← HM4.out, HY4.out, List.length_append, HM.out, zaL]; rfl
   have HX4 : Hid (m4 ≤ 900000) := z0j (by have := HMB.out; omega)
   have HV4 := z0j hm4
   clear hm4
   go_wp2_with (first | (go_at_call 80; (with_reducible refine (zmM ws ws.length rfl HL5.out y4 m4 HM4.out HX4.out HR4.out wa wc HSW.out hp).mono ?_); clear hp; rintro e w1 ⟨rfl, y5, m5, a5, c5, R5, hy5, hm5, hr5, hp⟩; have HY5 := z0j hy5; have HM5 := z0j hm5; have HR5 := z0j hr5; clear hy5 hm5 hr5) | go_skip | ((first | ((refine zg _ rfl ?_); refine lZ hp rfl (by with_reducible first | exact zC | exact ZV) ?_; clear hp; intro b w1 hp) | ((refine zh _ _ rfl ?_); refine lB hp rfl (za rfl) rfl ?_; clear hp; intro b w1 hp) | ((refine zf _ _ rfl ?_); first | refine lO hp rfl (za rfl) zdl zu ?_ | refine lA hp rfl (za rfl) zbE zu ?_) | ((refine zd _ _ _ rfl ?_); (first | refine sO hp rfl (za rfl) zdl zu ?_ | refine sA hp rfl (za rfl) (za rfl) zbE zu ?_ | refine sG hp rfl (za rfl) (za rfl) zbE zu ?_); clear hp; intro w1 hp; simp only [spl, z0a, z0b] at hp) | ((refine zi _ _ _ rfl ?_); refine lS hp rfl (by intro w; go_simp; rfl) ?_; clear hp; intro b w1 hp; simp only [z0g, z0h, Nat.reduceAdd] at hp)); simp only [zc, zb, z0b, z0a]))
   have hm5 : m5 = m4 + ws.length * 8 := by rw [← HM5.out, HY5.out, List.length_append, HM4.out, zew]
   have HX5 : Hid (m5 ≤ 900000) := z0j (by have := HMB.out; have := HV4.out; omega)
   clear hm5
   go_wp2_with (first | (go_at_call 79; (with_reducible refine (zmO (ls.map Int.toNat) ls.length HLN.out HL6.out HB6.out y5 m5 HM5.out HX5.out HR5.out la lc HSL.out hp).mono ?_); clear hp; rintro e w1 ⟨rfl, y6, m6, a6, c6, R6, hy6, hm6, hr6, hp⟩; have HY6 := z0j hy6; have HM6 := z0j hm6; have HR6 := z0j hr6; clear hy6 hm6 hr6) | go_skip | ((first | ((refine zg _ rfl ?_); refine lZ hp rfl (by with_reducible first | exact zC | exact ZV) ?_; clear hp; intro b w1 hp) | ((refine zh _ _ rfl ?_); refine lB hp rfl (za rfl) rfl ?_; clear hp; intro b w1 hp) | ((refine zf _ _ rfl ?_); first | refine lO hp rfl (za rfl) zdl zu ?_ | refine lA hp rfl (za rfl) zbE zu ?_) | ((refine zd _ _ _ rfl ?_); (first | refine sO hp rfl (za rfl) zdl zu ?_ | refine sA hp rfl (za rfl) (za rfl) zbE zu ?_ | refine sG hp rfl (za rfl) (za rfl) zbE zu ?_); clear hp; intro w1 hp; simp only [spl, z0a, z0b] at hp) | ((refine zi _ _ _ rfl ?_); refine lS hp rfl (by intro w; go_simp; rfl) ?_; clear hp; intro b w1 hp; simp only [z0g, z0h, Nat.reduceAdd] at hp)); simp only [zc, zb, z0b, z0a]))
   go_roundg (gk - 1)
   case measure => omega
   case rel => exact ⟨q + 1, y6, m6, a6, c6, R6, by omega, by go_num, z0j (by rw [HY6.out, HY5.out, HY4.out, HYS.out, HTK.out]; simp only [z0i]), HM6, HR6, hp.tail⟩
  ·obtain rfl : q = os.length := by omega
   have e2 : decide ((os.length : Int) < (os.length : Int)) = false := by simp
   have hys := HYS.out
   rw [List.take_length, ← HRES.out] at hys
   clear hkq hlt
   go_wp2_with (first | go_skip | ((first | ((refine zg _ rfl ?_); refine lZ hp rfl (by with_reducible first | exact zC | exact ZV) ?_; clear hp; intro b w1 hp) | ((refine zh _ _ rfl ?_); refine lB hp rfl (za rfl) rfl ?_; clear hp; intro b w1 hp) | ((refine zf _ _ rfl ?_); first | refine lO hp rfl (za rfl) zdl zu ?_ | refine lA hp rfl (za rfl) zbE zu ?_) | ((refine zd _ _ _ rfl ?_); (first | refine sO hp rfl (za rfl) zdl zu ?_ | refine sA hp rfl (za rfl) (za rfl) zbE zu ?_ | refine sG hp rfl (za rfl) (za rfl) zbE zu ?_); clear hp; intro w1 hp; simp only [spl, z0a, z0b] at hp) | ((refine zi _ _ _ rfl ?_); refine lS hp rfl (by intro w; go_simp; rfl) ?_; clear hp; intro b w1 hp; simp only [z0g, z0h, Nat.reduceAdd] at hp)); simp only [zc, zb, z0b, z0a]))
   go_ret2
   have hmm := HM.out
   rw [hys] at hmm
   subst hmm
   exact ⟨a, c, R, rfl, by rw [← hys]; have h := HR.out; rw [← hys] at h; exact h, hp.tail.tail⟩
end Go.Proofs.YtaafajaadfgaoaaGreat

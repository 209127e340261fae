import Derived.Test.YtjcbpfbifbfkcaaGreatTx11
import Derived.Test.YtjcbpfbifbfkcaaGreatTx12
set_option linter.unusedSimpArgs false
set_option linter.unusedVariables false
set_option maxRecDepth 100000
set_option maxHeartbeats 60000000
namespace Go.Proofs.YtjcbpfbifbfkcaaGreat
open Go.RowKit
theorem zgN {ty : TypeId} {k : Nat} (h : Z6 Tryz.prog ty k = true := by with_reducible first | exact ZH | exact zN | exact zjG | exact zY) : Z6 Tryz.prog ty k = true := h
theorem zhl {ty : TypeId} (h : zx Tryz.prog ty = true := by with_reducible first | exact zn | exact Zy | exact zbd | exact zaN | exact zX) : zx Tryz.prog ty = true := h
theorem ziZ {n : Int} (h0 : 0 ≤ n) (h : n < 64) : n + 1 ≤ pw (zfG n) := by
 unfold zfG
 have p0 : pw 0 = 1 := by decide
 have p1 : pw 1 = 2 := by decide
 have p2 : pw 2 = 4 := by decide
 have p3 : pw 3 = 8 := by decide
 have p4 : pw 4 = 16 := by decide
 have p5 : pw 5 = 32 := by decide
 have p6 : pw 6 = 64 := by decide
 repeat' split
 all_goals omega
theorem zjx {l : List Ob} (h : ∀ o ∈ l, zhg o ∧ zaf o.ws.length o.ls.length = o.o ∧ 0 ≤ o.o) : ((l.flatMap obB).length : Int) ≤ 16 * zb2 (l.map zav) := by
 induction l with
 | nil => simp [zb2]
 | cons o l ih =>
  have h1 := ih (fun x hx => h x (by simp [hx]))
  obtain ⟨hl, hn, h0⟩ := h o (by simp)
  have hw := hl.wl
  have hk := hl.ll
  have hg : (o.ws.length : Int) + o.ls.length + 1 ≤ pw o.o := by
   have := ziZ (n := (o.ws.length : Int) + o.ls.length) (by omega) (by omega)
   unfold zaf at hn
   rw [if_pos (by omega)] at hn
   rw [← hn]; exact this
  have hb : ((obB o).length : Int) = 16 + 8 * o.ws.length + 4 * o.ls.length := by
   unfold obB
   rw [List.length_append, List.length_append, Z4, zcW, Z4, List.length_map]
   simp only [z0g, z0h]
   push_cast; omega
  rw [List.flatMap_cons, List.length_append, List.map_cons, ZT]
  simp only [zav]
  push_cast
  omega
theorem ze4 {x : Hv} (hx : ZF x) : (zbC x).length ≤ 4124 := by
 have hl := zcl hx
 have h1 := zjx (l := x.os) (fun o ho => ⟨hl o ho, (hx.need o ho).1, by have := (hx.need o ho).2.1; simpa [zav] using this⟩)
 have h2 := hx.words
 have hf := hx.free
 unfold Zp Zd at hf
 rw [Bool.and_eq_true] at hf
 have hod : 3 ≤ x.od ∧ x.od ≤ 8 := by simpa using hf.1
 have h3 := zde hod.2
 have h4 : zb2 (zc4 x) = zb2 x.fs + zb2 (x.os.map zav) := zfO _ _
 have h5 := zfs x.fs
 unfold zbC
 rw [List.length_append, zeU]
 omega
theorem zbi (l : List Nat) : zao (bn4 l) := by
 intro x hx
 obtain ⟨n, _, h⟩ := List.mem_flatMap.1 hx
 exact ze8 4 n x h
theorem zia (l : List Int) : zao (bi8 l) := by
 intro x hx
 obtain ⟨n, _, h⟩ := List.mem_flatMap.1 hx
 exact ze8 8 _ x h
theorem zfr (x : Hv) : zao (zbC x) := by
 unfold zbC ze6
 refine zao.app ((zbi _).app ((zbi _).app (zbi _))) fun y hy => ?_
 obtain ⟨o, _, h⟩ := List.mem_flatMap.1 hy
 unfold obB at h
 exact ((zbi _).app ((zia _).app (zbi _))) y h
def zg2 (r : Rw) : List Nat := bn4 [r.c.toNat, r.s.toNat, r.e.toNat] ++ bi8 [r.v]
def zb0 (x : Sv) : List Nat := (beS 4 (zbC x.hv).length ++ zbC x.hv) ++ (bn4 [x.rs.length] ++ x.rs.flatMap zg2)
theorem zlL (od : Int) (oa : Option Addr) (os : List Ob) (oc : Nat) (nx t0 t1 t2 t3 : Int) (fa : Option Addr) (fs : List Bl) (fc : Nat) (bs : List Nat) (hbs : zbC ⟨od, oa, os, oc, nx, t0, t1, t2, t3, fa, fs, fc⟩ = bs) (hb : Zn ⟨od, oa, os, oc, nx, t0, t1, t2, t3, fa, fs, fc⟩ = true) (w : World) (hx0 : Hv.Is w ⟨od, oa, os, oc, nx, t0, t1, t2, t3, fa, fs, fc⟩) :
  Calls Tryz.prog 38 #[.agg #[.int .i64 od, .slice oa os.length oc, .int .i64 nx, .int .i64 t0, .int .i64 t1, .int .i64 t2, .int .i64 t3, .slice fa fs.length fc]] w fun e w' => ∃ a c m R, e = .returned (.tuple #[.slice a m c, .int .i64 0]) ∧ bs.length = m ∧ zw 5 1 (.slice a m c) m (bs.flatMap byV) R ∧ Hp w.heap.size w w' R := by
 subst hbs
 refine (zgu _ hb w hx0).mono fun e w' h => ?_
 obtain ⟨a, c, R, h1, h2, h3⟩ := h
 exact ⟨a, c, _, R, h1, rfl, h2, h3⟩
theorem zlf (s : ByteArray) (hs : s.size ≤ 65536) (w : World) : Calls Tryz.prog 90 #[.slice none 0 0, .string s] w fun e w' => ∃ ys m a c R, e = .returned (.tuple #[.slice a m c, .int .i64 0]) ∧ ys = beS 4 s.size ++ zbV s ∧ ys.length = m ∧ zw 5 1 (.slice a m c) m (ys.flatMap byV) R ∧ Hp w.heap.size w w' R := by
 refine (zlQ [] (by simp) s hs none 0 w (zm.nil _ _)).mono fun e w' h => ?_
 obtain ⟨v, R, h1, h2, h3⟩ := h
 obtain ⟨a, c, rfl, _, _⟩ := h2.kept
 exact ⟨_, _, a, c, R, h1, rfl, rfl, h2, h3⟩
theorem zil {B : Nat} {w0 w : World} {o b : Blk} {RH R : List Blk} (hp : Hp B w0 w ((o :: b :: RH) ++ R)) : Hp B w0 w (b :: o :: R) := hp.kp
theorem zeY : ∀ l : List Rw, (l.flatMap zg2).length = l.length * 20
 | [] => rfl
 | r :: l => by
  rw [List.flatMap_cons, List.length_append, zeY l, List.length_cons]
  unfold zg2
  rw [List.length_append, Z4, zcW]
  simp only [z0g, z0h]; omega
theorem zg3 (x : Sv) (hb : stB x = true) (w : World) (hx0 : x.Is w) : Calls Tryz.prog 35 #[.agg (svL x).toArray] w (zhR w (some (zb0 x))) := by
 have hst := zmC hb
 have hbl := ze4 hst.hv
 have hrows := hst.rows
 have hrl := zbu hrows (by decide)
 have HB := z0j hb
 have HHB := z0j (zaZ hst.hv)
 have HSS := z0j hst.small
 have HIS := z0j hx0
 have HIH := z0j hx0.1
 have HRI := z0j hx0.2
 obtain ⟨bs, hbs⟩ : ∃ bs, zbC x.hv = bs := ⟨_, rfl⟩
 have HRES : Hid (zb0 x = (beS 4 bs.length ++ bs) ++ (bn4 [x.rs.length] ++ x.rs.flatMap zg2)) := z0j (by unfold zb0; rw [hbs])
 have HBS := z0j hbs
 rw [hbs] at hbl
 have HBL := z0j hbl
 have hby : zao bs := by
  rw [← hbs]; exact zfr x.hv
 have HNI : Hid (∀ m, bs.length = m → (nI bs).length = m) := z0j (fun m h => by rw [zho]; exact h)
 have HSB : Hid (zbV (strOfNums (nI bs)) = bs ∧ (strOfNums (nI bs)).size = bs.length) := z0j ⟨zcq hby, by rw [← ZQ, zcq hby]⟩
 have HSZ : Hid ((strOfNums (nI bs)).size ≤ 65536) := z0j (by rw [← ZQ, zcq hby]; omega)
 have HLAY : Hid (∀ r ∈ x.rs, 0 ≤ r.c ∧ r.c ≤ 4 ∧ 0 ≤ r.s ∧ r.s ≤ 1000000 ∧ 0 ≤ r.e ∧ r.e ≤ 65535) := z0j (fun r hr => by
  have := zaO.1 (zck hrows r hr); omega)
 have hp := Hp.start w
 clear hb hx0 hbs hbl hst hby hrows
 obtain ⟨⟨od, oa, os, oc, nx, t0, t1, t2, t3, fa, fs, fc⟩, ra, rs, rc⟩ := x
 simp only [svL, hvL, z0f, z0e]
 simp only at hrl
 have hrl4 : rs.length ≤ 4 := by omega
 have HRL := z0j hrl4
 have HLE : Hid ([rs.length].length = 1) := z0j rfl
 have HLF : Hid (1 ≤ 1000) := z0j (by decide)
 have HB3 : Hid (∀ x ∈ [rs.length], x ≤ 2147483647) := z0j (by intro x hx; simp at hx; omega)
 have HC3 : Hid ([Value.int .i64 (rs.length : Int)] = [rs.length].flatMap zeC) := z0j rfl
 clear hrl hrl4
 go_enter Tryz.func35, Tryz.ntmps35
 go_wp2_with (first | (go_at_call 89; (with_reducible refine (zeb od oa os oc nx t0 t1 t2 t3 fa fs fc ra rs rc _ HB.out HSS.out _ (HIS.out.below hp.below)).mono ?_); rintro e w1 ⟨rfl, hb⟩; replace hp := hp.call hb; clear hb; simp only [zln, if_true, Bool.false_eq_true, if_false]) | (go_at_call 38; (with_reducible refine (zlL od oa os oc nx t0 t1 t2 t3 fa fs fc bs HBS.out HHB.out _ (HIH.out.below hp.below)).mono ?_); rintro e w1 ⟨ah, ch, mh, RH, rfl, hmh, hrh, hp2⟩; replace hp := hp.join hp2; have HMH := z0j hmh; have HRH := z0j hrh; clear hp2 hmh hrh; simp only [z0f, z0e] at hp) | ((refine Zx _ _ _ rfl ?_); refine zay 74 9 5 _ rfl wy Tryz.underlying74 Tryz.underlying5 Tryz.underlying9 ah mh ch (za rfl) (nI bs) (HNI.out _ HMH.out) (by rw [zd6]; exact HRH.out.keptS.at hp (by intro p hp2; simp [hp2])) ?_; simp only [zc, zb, z0b, z0a]) | (go_at_call 90; (with_reducible refine (zlf (strOfNums (nI bs)) HSZ.out _).mono ?_); rintro e w1 ⟨y1, m1, a1, c1, R1, rfl, hy1, hm1, hr1, hp2⟩; replace hp := zil (hp.join hp2); have HY1 := z0j hy1; have HM1 := z0j hm1; have HR1 := z0j hr1; clear hp2 hy1 hm1 hr1) | go_skip | ((first | ((refine zf _ rfl ?_); refine lZ hp rfl Zr ?_; clear hp; intro b w1 hp) | ((refine zg _ _ rfl ?_); refine lB hp rfl (za rfl) rfl ?_; clear hp; intro b w1 hp) | ((refine ze _ _ rfl ?_); first | refine lO hp rfl (za rfl) zhl zW ?_ | refine lA hp rfl (za rfl) zgN zW ?_) | ((refine zd _ _ _ rfl ?_); (first | refine sO hp rfl (za rfl) zbd zW ?_ | refine sA hp rfl (za rfl) (za rfl) zY zW ?_ | refine sG hp rfl (za rfl) (za rfl) zY zW ?_); clear hp; intro w1 hp; simp only [spl, z0a, z0b] at hp) | ((refine zj _ _ _ rfl ?_); refine lS hp rfl (by intro w; go_simp; rfl) ?_; clear hp; intro b w1 hp; simp only [z0g, z0h, Nat.reduceAdd] at hp)); simp only [zc, zb, z0b, z0a]))
 obtain ⟨bx, hbx⟩ := hp.id1
 obtain ⟨bo, hbo⟩ := hp.id2
 subst hbx hbo
 have hz : y1 = beS 4 bs.length ++ bs := by rw [HY1.out, HSB.out.1, HSB.out.2]
 have hm1 : m1 = 4 + bs.length := by rw [← HM1.out, hz, List.length_append, ZL]
 have HX1 : Hid (m1 ≤ 900000) := z0j (by have := HBL.out; omega)
 have HZ1 := z0j hz
 have HV1 := z0j hm1
 clear hz hm1
 go_wp2_with (first | (go_at_call 91; (with_reducible refine (zdc [rs.length] 1 HLE.out HLF.out HB3.out y1 m1 HM1.out HX1.out HR1.out HC3.out hp).mono ?_); clear hp; rintro e w1 ⟨rfl, y2, m2, a2, c2, R2, hy2, hm2, hr2, hp⟩; have HY2 := z0j hy2; have HM2 := z0j hm2; have HR2 := z0j hr2; clear hy2 hm2 hr2) | go_skip | ((first | ((refine zf _ rfl ?_); refine lZ hp rfl Zr ?_; clear hp; intro b w1 hp) | ((refine zg _ _ rfl ?_); refine lB hp rfl (za rfl) rfl ?_; clear hp; intro b w1 hp) | ((refine ze _ _ rfl ?_); first | refine lO hp rfl (za rfl) zhl zW ?_ | refine lA hp rfl (za rfl) zgN zW ?_) | ((refine zd _ _ _ rfl ?_); (first | refine sO hp rfl (za rfl) zbd zW ?_ | refine sA hp rfl (za rfl) (za rfl) zY zW ?_ | refine sG hp rfl (za rfl) (za rfl) zY zW ?_); clear hp; intro w1 hp; simp only [spl, z0a, z0b] at hp) | ((refine zj _ _ _ rfl ?_); refine lS hp rfl (by intro w; go_simp; rfl) ?_; clear hp; intro b w1 hp; simp only [z0g, z0h, Nat.reduceAdd] at hp)); simp only [zc, zb, z0b, z0a]))
 have HZ : Hid (y2 = (beS 4 bs.length ++ bs) ++ bn4 [rs.length]) := z0j (by rw [HY2.out, HZ1.out])
 have HV : Hid (((beS 4 bs.length ++ bs) ++ bn4 [rs.length]).length ≤ 5000) := z0j (by rw [← HZ1.out, List.length_append, HM1.out, HV1.out, Z4]; have := HBL.out; simp only [z0g, z0h]; omega)
 obtain ⟨hd, hhd⟩ : ∃ hd, hd = (beS 4 bs.length ++ bs) ++ bn4 [rs.length] := ⟨_, rfl⟩
 rw [← List.append_assoc, ← hhd] at HRES
 rw [← hhd] at HZ HV
 clear hhd
 go_loopg [41] rs.length (fun k i wr => ∃ (q : Nat) (ys : List Nat) (m : Nat) (a : Option Addr) (c : Nat) (R : List Blk), k + q = rs.length ∧ i = .int .i64 q ∧ Hid (ys = hd ++ (rs.take q).flatMap zg2) ∧ Hid (ys.length = m) ∧ Hid (zw 5 1 (.slice a m c) m (ys.flatMap byV) R) ∧
  Hp w.heap.size w wr (⟨bx, [.int .i64 od, .slice oa os.length oc, .int .i64 nx, .int .i64 t0, .int .i64 t1, .int .i64 t2, .int .i64 t3, .slice fa fs.length fc, .slice ra rs.length rc], 67, 9⟩ :: ⟨bo, [.slice a m c], 137, 1⟩ :: R))
 case atStart => exact ⟨0, y2, m2, a2, c2, R2, by omega, rfl, z0j (by rw [HZ.out]; simp), HM2, HR2, hp⟩
 case round =>
  clear hp HY1 HY2 HM1 HM2 HR1 HR2 HX1 HV1 HZ HZ1 HC3 HB3 HLE HRH HMH HNI HSZ HSB
  obtain ⟨q, ys, m, a, c, R, hkq, rfl, HYS, HM, HR, hp⟩ := hrel
  by_cases hlt : q < rs.length
  ·obtain ⟨bq, off, rfl, hx⟩ := HRI.out.elems 4 zh8 (by omega) (by omega)
   have hj := List.getElem?_eq_getElem hlt
   replace hx := hx q _ hj
   have hmem := List.getElem_mem hlt
   have hlay := HLAY.out _ hmem
   have htk : (rs.take (q + 1)).flatMap zg2 = (rs.take q).flatMap zg2 ++ zg2 rs[q] := by rw [List.take_add_one, hj, List.flatMap_append]; simp
   have hlen := zeY (rs.take q)
   rw [List.length_take, Nat.min_eq_left (by omega)] at hlen
   have hm : m ≤ 5000 + q * 20 := by have := HV.out; rw [← HM.out, HYS.out, List.length_append]; omega
   have hrl := HRL.out
   clear hmem hj hlen
   generalize rs[q] = x at hx hlay htk
   obtain ⟨rc', rq', re', rv'⟩ := x
   obtain ⟨g1, g2, g3, g4, g5, g6⟩ := hlay
   simp only at hx g1 g2 g3 g4 g5 g6
   obtain ⟨rc', rfl⟩ := Int.eq_ofNat_of_zero_le g1
   obtain ⟨rq', rfl⟩ := Int.eq_ofNat_of_zero_le g3
   obtain ⟨re', rfl⟩ := Int.eq_ofNat_of_zero_le g5
   simp only [rwV] at hx
   rw [show zg2 ⟨(rc' : Nat), (rq' : Nat), (re' : Nat), rv'⟩ = bn4 [rc', rq', re'] ++ bi8 [rv'] by simp only [zg2, Int.toNat_natCast]] at htk
   have hq6 : q < 4 := by omega
   have HTK := z0j htk
   have HX := z0j hx
   have HLA : Hid ([rc', rq', re'].length = 3) := z0j rfl
   have HLB : Hid (3 ≤ 1000) := z0j (by decide)
   have HLG : Hid ([rv'].length = 1) := z0j rfl
   have HB4 : Hid (∀ x ∈ [rc', rq', re'], x ≤ 2147483647) := z0j (by intro x hx; simp at hx; omega)
   have HC4 : Hid ([Value.int .i64 (rc' : Int), Value.int .i64 (rq' : Int), Value.int .i64 (re' : Int)] = [rc', rq', re'].flatMap zeC) := z0j rfl
   have HC5 : Hid ([Value.int .i64 rv'] = [rv'].flatMap iV) := z0j rfl
   have HX0 : Hid (m ≤ 900000) := z0j (by omega)
   have HMB : Hid (m ≤ 100000) := z0j (by omega)
   have e1 : (0 : Int) ≤ (q : Int) := by omega
   have e2 : (q : Int) < (rs.length : Int) := by omega
   clear hx g1 g2 g3 g4 g5 g6 htk hm hrl
   go_wp2_with (first | (go_at_call 91; (with_reducible refine (zeN [rc', rq', re'] 3 HLA.out HLB.out HB4.out ys m HM.out HX0.out HR.out HC4.out hp).mono ?_); clear hp; rintro e w1 ⟨rfl, y4, m4, a4, c4, R4, hy4, hm4, hr4, hp⟩; have HY4 := z0j hy4; have HM4 := z0j hm4; have HR4 := z0j hr4; clear hy4 hm4 hr4) | go_skip | ((first | ((refine zf _ rfl ?_); refine lZ hp rfl Zr ?_; clear hp; intro b w1 hp) | ((refine zg _ _ rfl ?_); refine lB hp rfl (za rfl) rfl ?_; clear hp; intro b w1 hp) | ((refine ze _ _ rfl ?_); first | refine lO hp rfl (za rfl) zhl zW ?_ | refine lA hp rfl (za rfl) zgN zW ?_ | refine lR hp rfl (za rfl) zgN HX.out ?_) | ((refine zd _ _ _ rfl ?_); (first | refine sO hp rfl (za rfl) zbd zW ?_ | refine sA hp rfl (za rfl) (za rfl) zY zW ?_ | refine sG hp rfl (za rfl) (za rfl) zY zW ?_); clear hp; intro w1 hp; simp only [spl, z0a, z0b] at hp) | ((refine zj _ _ _ rfl ?_); refine lS hp rfl (by intro w; go_simp; rfl) ?_; clear hp; intro b w1 hp; simp only [z0g, z0h, Nat.reduceAdd] at hp)); simp only [zc, zb, z0b, z0a]))
   have hm4 : m4 = m + 12 := by rw [← HM4.out, HY4.out, List.length_append, HM.out, Z4]; rfl
   have HX4 : Hid (m4 ≤ 900000) := z0j (by have := HMB.out; omega)
   clear hm4
   go_wp2_with (first | (go_at_call 92; (with_reducible refine (zhT [rv'] 1 HLG.out HLF.out y4 m4 HM4.out HX4.out HR4.out HC5.out hp).mono ?_); clear hp; rintro e w1 ⟨rfl, y5, m5, a5, c5, R5, hy5, hm5, hr5, hp⟩; have HY5 := z0j hy5; have HM5 := z0j hm5; have HR5 := z0j hr5; clear hy5 hm5 hr5) | go_skip | ((first | ((refine zf _ rfl ?_); refine lZ hp rfl Zr ?_; clear hp; intro b w1 hp) | ((refine zg _ _ rfl ?_); refine lB hp rfl (za rfl) rfl ?_; clear hp; intro b w1 hp) | ((refine ze _ _ rfl ?_); first | refine lO hp rfl (za rfl) zhl zW ?_ | refine lA hp rfl (za rfl) zgN zW ?_) | ((refine zd _ _ _ rfl ?_); (first | refine sO hp rfl (za rfl) zbd zW ?_ | refine sA hp rfl (za rfl) (za rfl) zY zW ?_ | refine sG hp rfl (za rfl) (za rfl) zY zW ?_); clear hp; intro w1 hp; simp only [spl, z0a, z0b] at hp) | ((refine zj _ _ _ rfl ?_); refine lS hp rfl (by intro w; go_simp; rfl) ?_; clear hp; intro b w1 hp; simp only [z0g, z0h, Nat.reduceAdd] at hp)); simp only [zc, zb, z0b, z0a]))
   go_roundg (gk - 1)
   case measure => omega
   case rel => exact ⟨q + 1, y5, m5, a5, c5, R5, by omega, by go_num, z0j (by rw [HY5.out, HY4.out, HYS.out, HTK.out]; simp only [z0i]), HM5, HR5, hp.tail⟩
  ·obtain rfl : q = rs.length := by omega
   have e2 : decide ((rs.length : Int) < (rs.length : Int)) = false := by simp
   have hys := HYS.out
   rw [List.take_length, ← HRES.out] at hys
   clear hkq hlt
   go_wp2_with (first | go_skip | ((first | ((refine zf _ rfl ?_); refine lZ hp rfl Zr ?_; clear hp; intro b w1 hp) | ((refine zg _ _ rfl ?_); refine lB hp rfl (za rfl) rfl ?_; clear hp; intro b w1 hp) | ((refine ze _ _ rfl ?_); first | refine lO hp rfl (za rfl) zhl zW ?_ | refine lA hp rfl (za rfl) zgN zW ?_) | ((refine zd _ _ _ rfl ?_); (first | refine sO hp rfl (za rfl) zbd zW ?_ | refine sA hp rfl (za rfl) (za rfl) zY zW ?_ | refine sG hp rfl (za rfl) (za rfl) zY zW ?_); clear hp; intro w1 hp; simp only [spl, z0a, z0b] at hp) | ((refine zj _ _ _ rfl ?_); refine lS hp rfl (by intro w; go_simp; rfl) ?_; clear hp; intro b w1 hp; simp only [z0g, z0h, Nat.reduceAdd] at hp)); simp only [zc, zb, z0b, z0a]))
   go_ret2
   have hmm := HM.out
   rw [hys] at hmm
   subst hmm
   exact ⟨a, c, R, rfl, by rw [← hys]; have h := HR.out; rw [← hys] at h; exact h, hp.tail.tail⟩
end Go.Proofs.YtjcbpfbifbfkcaaGreat

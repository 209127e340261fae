import Derived.Test.YtaafajaadfgaoaaGreatFp11
import Derived.Test.YtaafajaadfgaoaaGreatFp12
import Derived.Test.YtaafajaadfgaoaaGreatFp4
import Derived.Test.YtaafajaadfgaoaaGreatFp6
set_option linter.unusedSimpArgs false
set_option linter.unusedVariables false
set_option maxRecDepth 100000
set_option maxHeartbeats 60000000
namespace Go.Proofs.YtaafajaadfgaoaaGreat
open Go.RowKit
theorem zcR {ty : TypeId} {k : Nat} (h : zac Tryz.prog ty k = true := by with_reducible first | exact zaR | exact zN | exact ZC | exact zY) : zac Tryz.prog ty k = true := h
theorem zeZ {ty : TypeId} (h : zB Tryz.prog ty = true := by with_reducible first | exact zq | exact zA | exact zS | exact za9 | exact Ze) : zB Tryz.prog ty = true := h
theorem zlj {n : Int} (h0 : 0 ≤ n) (h : n < 64) : n + 1 ≤ pw (zgx n) := by
 unfold zgx
 have p0 : pw 0 = 1 := by decide
 have p1 : pw 1 = 2 := by decide
 have p2 : pw 2 = 4 := by decide
 have p3 : pw 3 = 8 := by decide
 have p4 : pw 4 = 16 := by decide
 have p5 : pw 5 = 32 := by decide
 have p6 : pw 6 = 64 := by decide
 repeat' split
 all_goals omega
theorem zln {l : List Ob} (h : ∀ o ∈ l, ziY o ∧ Z9 o.ws.length o.ls.length = o.o ∧ 0 ≤ o.o) : ((l.flatMap obB).length : Int) ≤ 16 * zbS (l.map zaE) := by
 induction l with
 | nil => simp [zbS]
 | cons o l ih =>
  have h1 := ih (fun x hx => h x (by simp [hx]))
  obtain ⟨hl, hn, h0⟩ := h o (by simp)
  have hw := hl.wl
  have hk := hl.ll
  have hg : (o.ws.length : Int) + o.ls.length + 1 ≤ pw o.o := by
   have := zlj (n := (o.ws.length : Int) + o.ls.length) (by omega) (by omega)
   unfold Z9 at hn
   rw [if_pos (by omega)] at hn
   rw [← hn]; exact this
  have hb : ((obB o).length : Int) = 16 + 8 * o.ws.length + 4 * o.ls.length := by
   unfold obB
   rw [List.length_append, List.length_append, zaL, zew, zaL, List.length_map]
   simp only [z0g, z0h]
   push_cast; omega
  rw [List.flatMap_cons, List.length_append, List.map_cons, zap]
  simp only [zaE]
  push_cast
  omega
theorem zgo {x : Hv} (hx : zai x) : (zcS x).length ≤ 4124 := by
 have hl := zdQ hx
 have h1 := zln (l := x.os) (fun o ho => ⟨hl o ho, (hx.need o ho).1, by have := (hx.need o ho).2.1; simpa [zaE] using this⟩)
 have h2 := hx.words
 have hf := hx.free
 unfold Zv Zg at hf
 rw [Bool.and_eq_true] at hf
 have hod : 3 ≤ x.od ∧ x.od ≤ 8 := by simpa using hf.1
 have h3 := zb5 hod.2
 have h4 : zbS (zdM x) = zbS x.fs + zbS (x.os.map zaE) := zeQ _ _
 have h5 := zeR x.fs
 unfold zcS
 rw [List.length_append, zgn]
 omega
theorem zcy (l : List Nat) : za4 (bn4 l) := by
 intro x hx
 obtain ⟨n, _, h⟩ := List.mem_flatMap.1 hx
 exact zf6 4 n x h
theorem zi9 (l : List Int) : za4 (bi8 l) := by
 intro x hx
 obtain ⟨n, _, h⟩ := List.mem_flatMap.1 hx
 exact zf6 8 _ x h
theorem zg6 (x : Hv) : za4 (zcS x) := by
 unfold zcS zgm
 refine za4.app ((zcy _).app ((zcy _).app (zcy _))) fun y hy => ?_
 obtain ⟨o, _, h⟩ := List.mem_flatMap.1 hy
 unfold obB at h
 exact ((zcy _).app ((zi9 _).app (zcy _))) y h
def ziH (r : Rw) : List Nat := bn4 [r.c.toNat, r.s.toNat, r.e.toNat] ++ bi8 [r.v]
def zdz (x : Sv) : List Nat := (beS 4 (zcS x.hv).length ++ zcS x.hv) ++ (bn4 [x.rs.length] ++ x.rs.flatMap ziH)
theorem znK (od : Int) (oa : Option Addr) (os : List Ob) (oc : Nat) (nx t0 t1 t2 t3 : Int) (fa : Option Addr) (fs : List Bl) (fc : Nat) (bs : List Nat) (hbs : zcS ⟨od, oa, os, oc, nx, t0, t1, t2, t3, fa, fs, fc⟩ = bs) (hb : Zk ⟨od, oa, os, oc, nx, t0, t1, t2, t3, fa, fs, fc⟩ = true) (w : World) (hx0 : Hv.Is w ⟨od, oa, os, oc, nx, t0, t1, t2, t3, fa, fs, fc⟩) :
  Calls Tryz.prog 25 #[.agg #[.int .i64 od, .slice oa os.length oc, .int .i64 nx, .int .i64 t0, .int .i64 t1, .int .i64 t2, .int .i64 t3, .slice fa fs.length fc]] w fun e w' => ∃ a c m R, e = .returned (.tuple #[.slice a m c, .int .i64 0]) ∧ bs.length = m ∧ zD 5 1 (.slice a m c) m (bs.flatMap byV) R ∧ Hp w.heap.size w w' R := by
 subst hbs
 refine (ziD _ hb w hx0).mono fun e w' h => ?_
 obtain ⟨a, c, R, h1, h2, h3⟩ := h
 exact ⟨a, c, _, R, h1, rfl, h2, h3⟩
theorem znN (s : ByteArray) (hs : s.size ≤ 65536) (w : World) : Calls Tryz.prog 78 #[.slice none 0 0, .string s] w fun e w' => ∃ ys m a c R, e = .returned (.tuple #[.slice a m c, .int .i64 0]) ∧ ys = beS 4 s.size ++ zbG s ∧ ys.length = m ∧ zD 5 1 (.slice a m c) m (ys.flatMap byV) R ∧ Hp w.heap.size w w' R := by
 refine (znM [] (by simp) s hs none 0 w (zr.nil _ _)).mono fun e w' h => ?_
 obtain ⟨v, R, h1, h2, h3⟩ := h
 obtain ⟨a, c, rfl, _, _⟩ := h2.kept
 exact ⟨_, _, a, c, R, h1, rfl, rfl, h2, h3⟩
theorem zj4 {B : Nat} {w0 w : World} {o b : Blk} {RH R : List Blk} (hp : Hp B w0 w ((o :: b :: RH) ++ R)) : Hp B w0 w (b :: o :: R) := hp.kp
theorem zgH : ∀ l : List Rw, (l.flatMap ziH).length = l.length * 20
 | [] => rfl
 | r :: l => by
  rw [List.flatMap_cons, List.length_append, zgH l, List.length_cons]
  unfold ziH
  rw [List.length_append, zaL, zew]
  simp only [z0g, z0h]; omega
theorem ziE (x : Sv) (hb : stB x = true) (w : World) (hx0 : x.Is w) : Calls Tryz.prog 22 #[.agg (svL x).toArray] w (zi4 w (some (zdz x))) := by
 have hst := znR hb
 have hbl := zgo hst.hv
 have hrows := hst.rows
 have hrl := zca hrows (by decide)
 have HB := z0j hb
 have HHB := z0j (zbt hst.hv)
 have HSS := z0j hst.small
 have HIS := z0j hx0
 have HIH := z0j hx0.1
 have HRI := z0j hx0.2
 obtain ⟨bs, hbs⟩ : ∃ bs, zcS x.hv = bs := ⟨_, rfl⟩
 have HRES : Hid (zdz x = (beS 4 bs.length ++ bs) ++ (bn4 [x.rs.length] ++ x.rs.flatMap ziH)) := z0j (by unfold zdz; rw [hbs])
 have HBS := z0j hbs
 rw [hbs] at hbl
 have HBL := z0j hbl
 have hby : za4 bs := by
  rw [← hbs]; exact zg6 x.hv
 have HNI : Hid (∀ m, bs.length = m → (nI bs).length = m) := z0j (fun m h => by rw [zhN]; exact h)
 have HSB : Hid (zbG (strOfNums (nI bs)) = bs ∧ (strOfNums (nI bs)).size = bs.length) := z0j ⟨zcJ hby, by rw [← ZP, zcJ hby]⟩
 have HSZ : Hid ((strOfNums (nI bs)).size ≤ 65536) := z0j (by rw [← ZP, zcJ hby]; omega)
 have HLAY : Hid (∀ r ∈ x.rs, 0 ≤ r.c ∧ r.c ≤ 4 ∧ 0 ≤ r.s ∧ r.s ≤ 1000000 ∧ 0 ≤ r.e ∧ r.e ≤ 65535) := z0j (fun r hr => by
  have := zbh.1 (zdZ hrows r hr); omega)
 have hp := Hp.start w
 clear hb hx0 hbs hbl hst hby hrows
 obtain ⟨⟨od, oa, os, oc, nx, t0, t1, t2, t3, fa, fs, fc⟩, ra, rs, rc⟩ := x
 simp only [svL, hvL, z0f, z0e]
 simp only at hrl
 have hrl4 : rs.length ≤ 4 := by omega
 have HRL := z0j hrl4
 have HLE : Hid ([rs.length].length = 1) := z0j rfl
 have HLF : Hid (1 ≤ 1000) := z0j (by decide)
 have HB3 : Hid (∀ x ∈ [rs.length], x ≤ 2147483647) := z0j (by intro x hx; simp at hx; omega)
 have HC3 : Hid ([Value.int .i64 (rs.length : Int)] = [rs.length].flatMap zgw) := z0j rfl
 clear hrl hrl4
 go_enter Tryz.func22, Tryz.ntmps22
 go_wp2_with (first | (go_at_call 35; (with_reducible refine (zfD od oa os oc nx t0 t1 t2 t3 fa fs fc ra rs rc _ HB.out HSS.out _ (HIS.out.below hp.below)).mono ?_); rintro e w1 ⟨rfl, hb⟩; replace hp := hp.call hb; clear hb; simp only [znm, if_true, Bool.false_eq_true, if_false]) | (go_at_call 25; (with_reducible refine (znK od oa os oc nx t0 t1 t2 t3 fa fs fc bs HBS.out HHB.out _ (HIH.out.below hp.below)).mono ?_); rintro e w1 ⟨ah, ch, mh, RH, rfl, hmh, hrh, hp2⟩; replace hp := hp.join hp2; have HMH := z0j hmh; have HRH := z0j hrh; clear hp2 hmh hrh; simp only [z0f, z0e] at hp) | ((refine Zl _ _ _ rfl ?_); refine zaq 57 9 5 _ rfl wy Tryz.underlying57 Tryz.underlying5 Tryz.underlying9 ah mh ch (za rfl) (nI bs) (HNI.out _ HMH.out) (by rw [zfN]; exact HRH.out.keptS.at hp (by intro p hp2; simp [hp2])) ?_; simp only [zc, zb, z0b, z0a]) | (go_at_call 78; (with_reducible refine (znN (strOfNums (nI bs)) HSZ.out _).mono ?_); rintro e w1 ⟨y1, m1, a1, c1, R1, rfl, hy1, hm1, hr1, hp2⟩; replace hp := zj4 (hp.join hp2); have HY1 := z0j hy1; have HM1 := z0j hm1; have HR1 := z0j hr1; clear hp2 hy1 hm1 hr1) | go_skip | ((first | ((refine zg _ rfl ?_); refine lZ hp rfl ZV ?_; clear hp; intro b w1 hp) | ((refine zh _ _ rfl ?_); refine lB hp rfl (za rfl) rfl ?_; clear hp; intro b w1 hp) | ((refine zf _ _ rfl ?_); first | refine lO hp rfl (za rfl) zeZ zu ?_ | refine lA hp rfl (za rfl) zcR zu ?_) | ((refine zd _ _ _ rfl ?_); (first | refine sO hp rfl (za rfl) zeZ zu ?_ | refine sA hp rfl (za rfl) (za rfl) zcR zu ?_ | refine sG hp rfl (za rfl) (za rfl) zcR zu ?_); clear hp; intro w1 hp; simp only [spl, z0a, z0b] at hp) | ((refine zi _ _ _ rfl ?_); refine lS hp rfl (by intro w; go_simp; rfl) ?_; clear hp; intro b w1 hp; simp only [z0g, z0h, Nat.reduceAdd] at hp)); simp only [zc, zb, z0b, z0a]))
 obtain ⟨bx, hbx⟩ := hp.id1
 obtain ⟨bo, hbo⟩ := hp.id2
 subst hbx hbo
 have hz : y1 = beS 4 bs.length ++ bs := by rw [HY1.out, HSB.out.1, HSB.out.2]
 have hm1 : m1 = 4 + bs.length := by rw [← HM1.out, hz, List.length_append, zan]
 have HX1 : Hid (m1 ≤ 900000) := z0j (by have := HBL.out; omega)
 have HZ1 := z0j hz
 have HV1 := z0j hm1
 clear hz hm1
 go_wp2_with (first | (go_at_call 79; (with_reducible refine (zeI [rs.length] 1 HLE.out HLF.out HB3.out y1 m1 HM1.out HX1.out HR1.out HC3.out hp).mono ?_); clear hp; rintro e w1 ⟨rfl, y2, m2, a2, c2, R2, hy2, hm2, hr2, hp⟩; have HY2 := z0j hy2; have HM2 := z0j hm2; have HR2 := z0j hr2; clear hy2 hm2 hr2) | go_skip | ((first | ((refine zg _ rfl ?_); refine lZ hp rfl ZV ?_; clear hp; intro b w1 hp) | ((refine zh _ _ rfl ?_); refine lB hp rfl (za rfl) rfl ?_; clear hp; intro b w1 hp) | ((refine zf _ _ rfl ?_); first | refine lO hp rfl (za rfl) zeZ zu ?_ | refine lA hp rfl (za rfl) zcR zu ?_) | ((refine zd _ _ _ rfl ?_); (first | refine sO hp rfl (za rfl) zeZ zu ?_ | refine sA hp rfl (za rfl) (za rfl) zcR zu ?_ | refine sG hp rfl (za rfl) (za rfl) zcR zu ?_); clear hp; intro w1 hp; simp only [spl, z0a, z0b] at hp) | ((refine zi _ _ _ rfl ?_); refine lS hp rfl (by intro w; go_simp; rfl) ?_; clear hp; intro b w1 hp; simp only [z0g, z0h, Nat.reduceAdd] at hp)); simp only [zc, zb, z0b, z0a]))
 have HZ : Hid (y2 = (beS 4 bs.length ++ bs) ++ bn4 [rs.length]) := z0j (by rw [HY2.out, HZ1.out])
 have HV : Hid (((beS 4 bs.length ++ bs) ++ bn4 [rs.length]).length ≤ 5000) := z0j (by rw [← HZ1.out, List.length_append, HM1.out, HV1.out, zaL]; have := HBL.out; simp only [z0g, z0h]; omega)
 obtain ⟨hd, hhd⟩ : ∃ hd, hd = (beS 4 bs.length ++ bs) ++ bn4 [rs.length] := ⟨_, rfl⟩
 rw [← List.append_assoc, ← hhd] at HRES
 rw [← hhd] at HZ HV
 clear hhd
 go_loopg [41] rs.length (fun k i wr => ∃ (q : Nat) (ys : List Nat) (m : Nat) (a : Option Addr) (c : Nat) (R : List Blk), k + q = rs.length ∧ i = .int .i64 q ∧ Hid (ys = hd ++ (rs.take q).flatMap ziH) ∧ Hid (ys.length = m) ∧ Hid (zD 5 1 (.slice a m c) m (ys.flatMap byV) R) ∧
  Hp w.heap.size w wr (⟨bx, [.int .i64 od, .slice oa os.length oc, .int .i64 nx, .int .i64 t0, .int .i64 t1, .int .i64 t2, .int .i64 t3, .slice fa fs.length fc, .slice ra rs.length rc], 50, 9⟩ :: ⟨bo, [.slice a m c], 116, 1⟩ :: R))
 case atStart => exact ⟨0, y2, m2, a2, c2, R2, by omega, rfl, z0j (by rw [HZ.out]; simp), HM2, HR2, hp⟩
 case round =>
  clear hp HY1 HY2 HM1 HM2 HR1 HR2 HX1 HV1 HZ HZ1 HC3 HB3 HLE HRH HMH HNI HSZ HSB
  obtain ⟨q, ys, m, a, c, R, hkq, rfl, HYS, HM, HR, hp⟩ := hrel
  by_cases hlt : q < rs.length
  ·obtain ⟨bq, off, rfl, hx⟩ := HRI.out.elems 4 zho (by omega) (by omega)
   have hj := List.getElem?_eq_getElem hlt
   replace hx := hx q _ hj
   have hmem := List.getElem_mem hlt
   have hlay := HLAY.out _ hmem
   have htk : (rs.take (q + 1)).flatMap ziH = (rs.take q).flatMap ziH ++ ziH rs[q] := by rw [List.take_add_one, hj, List.flatMap_append]; simp
   have hlen := zgH (rs.take q)
   rw [List.length_take, Nat.min_eq_left (by omega)] at hlen
   have hm : m ≤ 5000 + q * 20 := by have := HV.out; rw [← HM.out, HYS.out, List.length_append]; omega
   have hrl := HRL.out
   clear hmem hj hlen
   generalize rs[q] = x at hx hlay htk
   obtain ⟨rc', rq', re', rv'⟩ := x
   obtain ⟨g1, g2, g3, g4, g5, g6⟩ := hlay
   simp only at hx g1 g2 g3 g4 g5 g6
   obtain ⟨rc', rfl⟩ := Int.eq_ofNat_of_zero_le g1
   obtain ⟨rq', rfl⟩ := Int.eq_ofNat_of_zero_le g3
   obtain ⟨re', rfl⟩ := Int.eq_ofNat_of_zero_le g5
   simp only [rwV] at hx
   rw [show ziH ⟨(rc' : Nat), (rq' : Nat), (re' : Nat), rv'⟩ = bn4 [rc', rq', re'] ++ bi8 [rv'] by simp only [ziH, Int.toNat_natCast]] at htk
   have hq6 : q < 4 := by omega
   have HTK := z0j htk
   have HX := z0j hx
   have HLA : Hid ([rc', rq', re'].length = 3) := z0j rfl
   have HLB : Hid (3 ≤ 1000) := z0j (by decide)
   have HLG : Hid ([rv'].length = 1) := z0j rfl
   have HB4 : Hid (∀ x ∈ [rc', rq', re'], x ≤ 2147483647) := z0j (by intro x hx; simp at hx; omega)
   have HC4 : Hid ([Value.int .i64 (rc' : Int), Value.int .i64 (rq' : Int), Value.int .i64 (re' : Int)] = [rc', rq', re'].flatMap zgw) := z0j rfl
   have HC5 : Hid ([Value.int .i64 rv'] = [rv'].flatMap iV) := z0j rfl
   have HX0 : Hid (m ≤ 900000) := z0j (by omega)
   have HMB : Hid (m ≤ 100000) := z0j (by omega)
   have e1 : (0 : Int) ≤ (q : Int) := by omega
   have e2 : (q : Int) < (rs.length : Int) := by omega
   clear hx g1 g2 g3 g4 g5 g6 htk hm hrl
   go_wp2_with (first | (go_at_call 79; (with_reducible refine (zgA [rc', rq', re'] 3 HLA.out HLB.out HB4.out ys m HM.out HX0.out HR.out HC4.out hp).mono ?_); clear hp; rintro e w1 ⟨rfl, y4, m4, a4, c4, R4, hy4, hm4, hr4, hp⟩; have HY4 := z0j hy4; have HM4 := z0j hm4; have HR4 := z0j hr4; clear hy4 hm4 hr4) | go_skip | ((first | ((refine zg _ rfl ?_); refine lZ hp rfl ZV ?_; clear hp; intro b w1 hp) | ((refine zh _ _ rfl ?_); refine lB hp rfl (za rfl) rfl ?_; clear hp; intro b w1 hp) | ((refine zf _ _ rfl ?_); first | refine lO hp rfl (za rfl) zeZ zu ?_ | refine lA hp rfl (za rfl) zcR zu ?_ | refine lR hp rfl (za rfl) zcR HX.out ?_) | ((refine zd _ _ _ rfl ?_); (first | refine sO hp rfl (za rfl) zeZ zu ?_ | refine sA hp rfl (za rfl) (za rfl) zcR zu ?_ | refine sG hp rfl (za rfl) (za rfl) zcR zu ?_); clear hp; intro w1 hp; simp only [spl, z0a, z0b] at hp) | ((refine zi _ _ _ rfl ?_); refine lS hp rfl (by intro w; go_simp; rfl) ?_; clear hp; intro b w1 hp; simp only [z0g, z0h, Nat.reduceAdd] at hp)); simp only [zc, zb, z0b, z0a]))
   have hm4 : m4 = m + 12 := by rw [← HM4.out, HY4.out, List.length_append, HM.out, zaL]; rfl
   have HX4 : Hid (m4 ≤ 900000) := z0j (by have := HMB.out; omega)
   clear hm4
   go_wp2_with (first | (go_at_call 80; (with_reducible refine (zjY [rv'] 1 HLG.out HLF.out y4 m4 HM4.out HX4.out HR4.out HC5.out hp).mono ?_); clear hp; rintro e w1 ⟨rfl, y5, m5, a5, c5, R5, hy5, hm5, hr5, hp⟩; have HY5 := z0j hy5; have HM5 := z0j hm5; have HR5 := z0j hr5; clear hy5 hm5 hr5) | go_skip | ((first | ((refine zg _ rfl ?_); refine lZ hp rfl ZV ?_; clear hp; intro b w1 hp) | ((refine zh _ _ rfl ?_); refine lB hp rfl (za rfl) rfl ?_; clear hp; intro b w1 hp) | ((refine zf _ _ rfl ?_); first | refine lO hp rfl (za rfl) zeZ zu ?_ | refine lA hp rfl (za rfl) zcR zu ?_) | ((refine zd _ _ _ rfl ?_); (first | refine sO hp rfl (za rfl) zeZ zu ?_ | refine sA hp rfl (za rfl) (za rfl) zcR zu ?_ | refine sG hp rfl (za rfl) (za rfl) zcR zu ?_); clear hp; intro w1 hp; simp only [spl, z0a, z0b] at hp) | ((refine zi _ _ _ rfl ?_); refine lS hp rfl (by intro w; go_simp; rfl) ?_; clear hp; intro b w1 hp; simp only [z0g, z0h, Nat.reduceAdd] at hp)); simp only [zc, zb, z0b, z0a]))
   go_roundg (gk - 1)
   case measure => omega
   case rel => exact ⟨q + 1, y5, m5, a5, c5, R5, by omega, by go_num, z0j (by rw [HY5.out, HY4.out, HYS.out, HTK.out]; simp only [z0i]), HM5, HR5, hp.tail⟩
  ·obtain rfl : q = rs.length := by omega
   have e2 : decide ((rs.length : Int) < (rs.length : Int)) = false := by simp
   have hys := HYS.out
   rw [List.take_length, ← HRES.out] at hys
   clear hkq hlt
   go_wp2_with (first | go_skip | ((first | ((refine zg _ rfl ?_); refine lZ hp rfl ZV ?_; clear hp; intro b w1 hp) | ((refine zh _ _ rfl ?_); refine lB hp rfl (za rfl) rfl ?_; clear hp; intro b w1 hp) | ((refine zf _ _ rfl ?_); first | refine lO hp rfl (za rfl) zeZ zu ?_ | refine lA hp rfl (za rfl) zcR zu ?_) | ((refine zd _ _ _ rfl ?_); (first | refine sO hp rfl (za rfl) zeZ zu ?_ | refine sA hp rfl (za rfl) (za rfl) zcR zu ?_ | refine sG hp rfl (za rfl) (za rfl) zcR zu ?_); clear hp; intro w1 hp; simp only [spl, z0a, z0b] at hp) | ((refine zi _ _ _ rfl ?_); refine lS hp rfl (by intro w; go_simp; rfl) ?_; clear hp; intro b w1 hp; simp only [z0g, z0h, Nat.reduceAdd] at hp)); simp only [zc, zb, z0b, z0a]))
   go_ret2
   have hmm := HM.out
   rw [hys] at hmm
   subst hmm
   exact ⟨a, c, R, rfl, by rw [← hys]; have h := HR.out; rw [← hys] at h; exact h, hp.tail.tail⟩
open Go.RowKit
def zeg (B : Nat) (w0 : World) (n : Nat) (xs : List Value) (M : List Blk) (e : Ending) (w' : World) : Prop := ∃ v' R', e = .returned v' ∧ zD 124 2 v' n xs R' ∧ Hp B w0 w' (R' ++ M)
theorem zg7 (v : Value) {B : Nat} {w0 w : World} {R M : List Blk} (news : List Value) (hnl : news.length = 4) (hn1 : news.all (·.oneCell') = true) (bv : Nat) (ev : TypeId) (mv : Nat) (hR : zD 124 2 v 0 [] R) (hp : Hp B w0 w (⟨bv, news, ev, mv⟩ :: (R ++ M))) :
  Calls Tryz.prog 212 #[v, .int .i64 0, .slice (some ⟨bv, 0, none⟩) 2 2] w (zeg B w0 2 news M) := by
 obtain ⟨i0, hi0, hz0, hz1, hz2⟩ := info_parts zcD
 have HNL : Hid (news.length = 2 * 2) := z0j (by rw [hnl])
 have HN1 := z0j hn1
 have HR := z0j hR
 rcases hR with ⟨_, ⟨_, ⟨a, rfl⟩, rfl⟩ | ⟨g, off, cap, pre, rfl, _, _, _, rfl⟩⟩
 ·clear hnl hn1
  rcases a with _ | ⟨g, off, x⟩
  all_goals
   go_enter Tryz.func212, Tryz.ntmps212
   go_wp2_with (first | ((refine Z5 _ _ 45 45 rfl ?_); refine Zp (K := [_]) (M := M) hp _ _ _ _ rfl wy 124 i0 _ 2 16 Tryz.underlying45 hi0 hz0 hz1 hz2 rfl _ 0 [] (za rfl) HR.out _ (za rfl) 2 news (Src.ofRow Tryz.underlying45 (by decide) _ 2 2 news HNL.out (hp.rowIs at0) HN1.out) (by decide) (by decide) ?_; clear hp; intro v' R' w1 hR' hp; have HR' := z0j hR'; clear hR'; simp only [zc, zb, z0b, z0a]) | go_skip)
   go_ret
   exact ⟨v', R', rfl, by simpa using HR'.out, hp.tail⟩
 ·clear hnl hn1
  by_cases hc : cap = 0
  ·subst hc
   go_enter Tryz.func212, Tryz.ntmps212
   go_wp2_with (first | ((refine Z5 _ _ 45 45 rfl ?_); refine Zp (K := [_]) (M := M) hp _ _ _ _ rfl wy 124 i0 _ 2 16 Tryz.underlying45 hi0 hz0 hz1 hz2 rfl _ 0 [] (za rfl) HR.out _ (za rfl) 2 news (Src.ofRow Tryz.underlying45 (by decide) _ 2 2 news HNL.out (hp.rowIs at0) HN1.out) (by decide) (by decide) ?_; clear hp; intro v' R' w1 hR' hp; have HR' := z0j hR'; clear hR'; simp only [zc, zb, z0b, z0a]) | go_skip)
   go_ret
   exact ⟨v', R', rfl, by simpa using HR'.out, hp.tail⟩
  ·go_enter Tryz.func212, Tryz.ntmps212
   go_wp2_with (first | ((refine Z5 _ _ 45 45 rfl ?_); refine Zp (K := [_]) (M := M) hp _ _ _ _ rfl wy 124 i0 _ 2 16 Tryz.underlying45 hi0 hz0 hz1 hz2 rfl _ 0 [] (za rfl) HR.out _ (za rfl) 2 news (Src.ofRow Tryz.underlying45 (by decide) _ 2 2 news HNL.out (hp.rowIs at0) HN1.out) (by decide) (by decide) ?_; clear hp; intro v' R' w1 hR' hp; have HR' := z0j hR'; clear hR'; simp only [zc, zb, z0b, z0a]) | go_skip)
   go_ret
   exact ⟨v', R', rfl, by simpa using HR'.out, hp.tail⟩
theorem zhl {pre xs : List Value} {off j : Nat} {u : Value} (h : pre.length = off) (hj : xs[j]? = some u) : (pre ++ xs)[off + j]? = some u := by
 rw [List.getElem?_append_right (by omega), show off + j - pre.length = j by omega]; exact hj
theorem zgr (n : Nat) (h0 : 0 < n) (hn : n ≤ 1000) (xs : List Value) (hxl : xs.length = n * 2) (g off cap : Nat) (pre : List Value) (hpre : pre.length = off) (hnc : n ≤ cap) (hcap : cap < n + 2) {B : Nat} {w0 w : World} {M : List Blk} (news : List Value) (hnl : news.length = 4) (hn1 : news.all (·.oneCell') = true) (hx1 : xs.all (·.oneCell') = true) (bv : Nat) (ev : TypeId) (mv N : Nat) (hp : Hp B w0 w (⟨bv, news, ev, mv⟩ :: ⟨g, pre ++ xs, 124, N⟩ :: M)) :
  Calls Tryz.prog 212 #[.slice (some ⟨g, off, none⟩) n cap, .int .i64 0, .slice (some ⟨bv, 0, none⟩) 2 2] w (zeg B w0 (n + 2) (news ++ xs) M) := by
 obtain ⟨i0, hi0, hz0, hz1, hz2⟩ := info_parts zcD
 have HNL : Hid (news.length = 2 * 2) := z0j (by rw [hnl])
 have HN1 := z0j hn1
 have HX1 := z0j hx1
 have HXL := z0j hxl
 have HDK : Hid (∀ (j : Nat) u, xs[j]? = some u → (pre ++ xs)[off + j]? = some u) := z0j (fun j u hj => zhl hpre hj)
 have HKZ : Hid ((n : Int) + 2 = ((n + 2 : Nat) : Int)) := z0j (by omega)
 have HMIN : Hid (Nat.min 2 (n + 2) = 2) := z0j (Nat.min_eq_left (by omega))
 have HMIN2 : Hid (Nat.min n n = n) := z0j (Nat.min_self _)
 have k0 : 0 < n + 2 := by omega
 have kg : cap < n + 2 := by omega
 have k63 : n + 2 ≤ maxLen := by unfold maxLen; omega
 have kby : (n + 2) * 16 ≤ 100000000 := by omega
 have f1 : (0 : Int) ≤ (n : Int) := by omega
 have f2 : (0 : Int) ≤ (cap : Int) := by omega
 have f4 : ((0 : Int) == (n : Int)) = false := by simp; omega
 have f5 : (cap : Int) < (n : Int) + 2 := by omega
 have f6 : ¬ (cap = 0) := by omega
 clear hnl hn1 hx1 hxl
 go_enter Tryz.func212, Tryz.ntmps212
 go_wp2_with (first | (at_builtin; refine zdg hp _ _ 124 _ _ rfl wy Tryz.underlying45 .i64 Tryz.underlying3 i0 _ hi0 hz0 2 16 hz1 hz2 rfl (by decide) _ cap (za rfl) _ (n + 2) HKZ.out (za rfl) k0 kg k63 kby ?_; clear hp; intro g2 cap2 w1 hc2 hcm2 hp; generalize hzs : (Builtin.zeroCells _ (n + 2)).toList = zs at hp; have HZL := z0j (show zs.length = (n + 2) * 2 by rw [← hzs, Array.length_toList, size_zeroCells]; rfl); clear hzs; have f7 : ¬ (cap2 = 0) := (by omega); have f8 : ¬ (cap2 = 2) := (by omega); have f9 : (2 : Int) ≤ (cap2 : Int) := (by omega); have HFIT : Hid (0 + 2 * 2 ≤ zs.length) := z0j (by rw [HZL.out]; omega); simp only [zc, zb, z0b, z0a]) | ((refine zeq _ _ _ _ rfl ?_); refine zbr hp _ _ 124 _ _ rfl wy Tryz.underlying45 2 zfW g2 0 (n + 2) cap2 (za rfl) bv 0 2 2 (za rfl) 0 _ _ at0 2 HMIN.out news HNL.out HFIT.out (fun j u hj => hp.cell at1 (by rw [Nat.zero_add]; exact hj)) HN1.out ?_; clear hp; intro v2 w1 hp; simp only [z0a] at hp; simp only [zc, zb, z0b, z0a]) | go_skip)
 have HL1 : Hid (zs.take 0 ++ (news ++ zs.drop (0 + 2 * 2)) = news ++ zs.drop 4) := z0j (by simp)
 rw [HL1.out] at hp
 have HFIT2 : Hid (4 + n * 2 ≤ (news ++ zs.drop 4).length) := z0j (by rw [List.length_append, List.length_drop, HNL.out, HZL.out]; omega)
 have f10 : (2 : Int) ≤ (n : Int) + 2 := by omega
 have HW1 : Hid (wrap64 (2 : Int) = 2) := z0j (by unfold wrap64; omega)
 refine zk _ (zE.all hp.drew) [8] [(0, true), (1, true), (2, true), (3, true), (4, true), (5, true), (6, true), (7, true), (8, false)] (by kernel_rfl) (by kernel_rfl) rfl (by kernel_rfl) (fun _ _ d _ _ h => by cases d <;> exact h) ?_
 replace hp := hp.drew
 repeat' (with_reducible refine zG ?_); first | (with_reducible refine zw ?_) | ((with_reducible refine zR ?_); refine zy rfl ?_; (first | ((with_reducible refine Zy _ rfl ?_); refine tM rfl ?_) | refine tG (fun w _ => (by go_simp; try rfl)) ?_); try simp only [zc, zb, zm, zj, z0b, z0a, z0d, z0c, zn, HW1.out]) | (refine zQ rfl (fun K hK => ?_); go_wp2_with (((refine zeq _ _ _ _ rfl ?_); refine zbr hp _ _ 124 _ _ rfl wy Tryz.underlying45 2 zfW g2 4 n (cap2 - 2) (za rfl) g off n cap (za rfl) 0 _ _ at0 n HMIN2.out xs HXL.out HFIT2.out (fun j u hj => hp.cell at2 (HDK.out j u hj)) HX1.out ?_; clear hp; intro v2 w1 hp; simp only [z0a] at hp; simp only [zc, zb, z0b, z0a])); (first | refine hK.out _ _ (.inl rfl) ?_ | refine hK.out _ _ (.inr (zdp hp)) ?_); clear hK K; try simp only [zc, zb, zm, zj, z0b, z0a, z0d, z0c, zn, HW1.out])
 go_wp2_with fail
 go_ret
 have hyl : (news ++ xs).length = (n + 2) * 2 := by rw [List.length_append, HNL.out, HXL.out]; omega
 refine ⟨_, [⟨g2, news ++ xs, 124, cap2 * 2⟩], rfl, ⟨hyl, .inr ⟨g2, 0, cap2, [], rfl, hc2, hcm2, rfl, by rw [Nat.zero_add, List.nil_append]⟩⟩, ?_⟩
 have e : (news ++ zs.drop 4).take 4 ++ (xs ++ (news ++ zs.drop 4).drop (4 + n * 2)) = news ++ xs := by
  rw [List.take_append_of_le_length (by rw [HNL.out]; omega), List.take_of_length_le (by rw [HNL.out]; omega), List.drop_eq_nil_of_le (by rw [List.length_append, List.length_drop, HNL.out, HZL.out]; omega), List.append_nil]
 rw [e] at hp
 exact hp.kp
theorem zls {B : Nat} {w0 w : World} {L : List Blk} {bv g ev mv nv : Nat} {news l : List Value} {eg : TypeId} (hp : Hp B w0 w (⟨bv, news, ev, mv⟩ :: ⟨g, l, eg, nv⟩ :: L)) (hnv : nv ≠ 0) (od lb cb : Nat) :
  (callFunc 237 #[.slice (some ⟨bv, 0, none⟩) 2 2, .slice (some ⟨g, od, none⟩) lb cb]).run Tryz.prog w = .ok (.value (.bool false)) w := by
 have hne : bv ≠ g := by
  have := hp.nodup
  simp only [List.map_cons, List.nodup_cons, List.mem_cons] at this
  exact fun h => this.1 (.inl h)
 rw [run_callFunc_extern Tryz.func237 (by kernel_rfl) (by kernel_rfl) (by kernel_rfl) (e := Extern.SlicesOverlaps.overlaps #[45, 45] #[4]) (by kernel_rfl),
  Lib.run_overlaps_apart w 45 4 124 Tryz.underlying45 2 (fun w => (zbq zt w).2) ⟨bv, 0, none⟩ ⟨g, od, none⟩ 2 2 lb cb hne ev eg mv nv (hp.shape at0) (hp.shape at1) hnv (hp.free at0 0) (hp.free at0 mv)]
 rfl
theorem znr (n off : Nat) (pre xs l2 : List Value) (hp : pre.length = off) (hx : xs.length = n * 2) (h2 : l2.length = 4) :
  (pre ++ xs ++ l2).take (off + 4) ++ (xs ++ (pre ++ xs ++ l2).drop (off + 4 + n * 2)) = pre ++ ((xs ++ l2).take 4 ++ xs) := by
 rw [List.drop_eq_nil_of_le (by rw [List.length_append, List.length_append]; omega), List.append_nil, List.append_assoc pre xs l2, List.take_append, List.take_of_length_le (by omega), hp, show off + 4 - off = 4 by omega, List.append_assoc]
theorem zns (off : Nat) (pre ys xs news : List Value) (hp : pre.length = off) (hy : ys.length = 4) :
  (pre ++ (ys ++ xs)).take off ++ (news ++ (pre ++ (ys ++ xs)).drop (off + 2 * 2)) = pre ++ (news ++ xs) := by
 rw [List.take_append_of_le_length (by omega), List.take_of_length_le (by omega), List.drop_append, List.drop_eq_nil_of_le (by omega), List.nil_append, hp, show off + 2 * 2 - off = 4 by omega, List.drop_append_of_le_length (by omega), List.drop_eq_nil_of_le (by omega), List.nil_append]
theorem zgs (n : Nat) (h0 : 0 < n) (hn : n ≤ 1000) (xs : List Value) (hxl : xs.length = n * 2) (g off cap : Nat) (pre : List Value) (hpre : pre.length = off) (hcm : cap ≤ maxLen) (hcap : n + 2 ≤ cap) {B : Nat} {w0 w : World} {M : List Blk} (news : List Value) (hnl : news.length = 4) (hn1 : news.all (·.oneCell') = true) (hx1 : xs.all (·.oneCell') = true) (bv : Nat) (ev : TypeId) (mv : Nat) (hp : Hp B w0 w (⟨bv, news, ev, mv⟩ :: ⟨g, pre ++ xs, 124, off + cap * 2⟩ :: M)) :
  Calls Tryz.prog 212 #[.slice (some ⟨g, off, none⟩) n cap, .int .i64 0, .slice (some ⟨bv, 0, none⟩) 2 2] w (zeg B w0 (n + 2) (news ++ xs) M) := by
 obtain ⟨l2, hl2, hp2⟩ := (hp.reorder (List.Perm.swap _ _ _)).more 4 (by rw [List.length_append, hpre, hxl]; omega)
 replace hp := hp2.reorder (List.Perm.swap _ _ _)
 clear hp2
 have HNL : Hid (news.length = 2 * 2) := z0j (by rw [hnl])
 have HN1 := z0j hn1
 have HX1 := z0j hx1
 have HXL := z0j hxl
 have HMIN : Hid (Nat.min 2 (n + 2) = 2) := z0j (Nat.min_eq_left (by omega))
 have HMIN3 : Hid (Nat.min (n + 2) n = n) := z0j (Nat.min_eq_right (by omega))
 have HDK : Hid (∀ (j : Nat) u, xs[j]? = some u → (pre ++ xs ++ l2)[off + j]? = some u) := z0j (fun j u hj => by
  rw [List.append_assoc]
  refine zhl hpre ?_
  rw [List.getElem?_append_left (List.getElem?_eq_some_iff.1 hj).1]; exact hj)
 have HFIT3 : Hid (off + 4 + n * 2 ≤ (pre ++ xs ++ l2).length) := z0j (by rw [List.length_append, List.length_append, hpre, hxl, hl2]; omega)
 have hyl : ((xs ++ l2).take 4).length = 4 := by rw [List.length_take, List.length_append, hl2]; omega
 have HFIT4 : Hid (off + 2 * 2 ≤ (pre ++ ((xs ++ l2).take 4 ++ xs)).length) := z0j (by rw [List.length_append, List.length_append, hyl, hpre]; omega)
 have HC := z0j (znr n off pre xs l2 hpre hxl hl2)
 have HDD := z0j (zns off pre ((xs ++ l2).take 4) xs news hpre hyl)
 have HPRE := z0j hpre
 have hov : ∀ od lb cb, (callFunc 237 #[.slice (some ⟨bv, 0, none⟩) 2 2, .slice (some ⟨g, od, none⟩) lb cb]).run Tryz.prog w = .ok (.value (.bool false)) w := fun od lb cb => zls hp (by omega) od lb cb
 have f1 : (0 : Int) ≤ (n : Int) := by omega
 have f2 : (0 : Int) ≤ (cap : Int) := by omega
 have f4 : ((0 : Int) == (n : Int)) = false := by simp; omega
 have f5 : decide ((cap : Int) < (n : Int) + 2) = false := by simp; omega
 have f6 : ¬ (cap = 0) := by omega
 have f7 : ¬ (cap = 2) := by omega
 have f13 : (n : Int) + 2 ≤ (cap : Int) := by omega
 have f14 : (0 : Int) ≤ (n : Int) + 2 := by omega
 have f15 : ((n : Int) + 2).toNat = n + 2 := by omega
 have f16 : (2 : Int) ≤ (n : Int) + 2 := by omega
 have HW1 : Hid (wrap64 (2 : Int) = 2) := z0j (by unfold wrap64; omega)
 have f17 : (2 : Int) ≤ (cap : Int) := by omega
 clear hnl hn1 hx1 hxl hl2 hyl
 go_enter Tryz.func212, Tryz.ntmps212
 go_wp2_with (first | (simp only [hov]; done) | go_skip)
 refine zk _ (zE.all hp.drew) [8] [(0, true), (1, true), (2, true), (3, true), (4, true), (5, true), (6, true), (7, true), (8, false)] (by kernel_rfl) (by kernel_rfl) rfl (by kernel_rfl) (fun _ _ d _ _ h => by cases d <;> exact h) ?_
 replace hp := hp.drew
 repeat' (with_reducible refine zG ?_); first | (with_reducible refine zw ?_) | ((with_reducible refine zR ?_); refine zy rfl ?_; (first | ((with_reducible refine Zy _ rfl ?_); refine tM rfl ?_) | refine tG (fun w _ => (by go_simp; try rfl)) ?_); try simp only [zc, zb, zm, zj, z0b, z0a, z0d, z0c, zn, HW1.out]) | (refine zQ rfl (fun K hK => ?_); go_wp2_with (((refine zeq _ _ _ _ rfl ?_); refine zbr hp _ _ 124 _ _ rfl wy Tryz.underlying45 2 zfW g (off + 4) n (cap - 2) (za rfl) g off (n + 2) cap (za rfl) 1 _ _ at1 n HMIN3.out xs HXL.out HFIT3.out (fun j u hj => hp.cell at1 (HDK.out j u hj)) HX1.out ?_; clear hp; intro v2 w1 hp; simp only [z0b, z0a] at hp; simp only [zc, zb, z0b, z0a])); (first | refine hK.out _ _ (.inl rfl) ?_ | refine hK.out _ _ (.inr (zdp hp)) ?_); clear hK K; try simp only [zc, zb, zm, zj, z0b, z0a, z0d, z0c, zn, HW1.out])
 rw [HC.out] at hp
 go_wp2_with (first | ((refine zeq _ _ _ _ rfl ?_); refine zbr hp _ _ 124 _ _ rfl wy Tryz.underlying45 2 zfW g off (n + 2) cap (za rfl) bv 0 2 2 (za rfl) 1 _ _ at1 2 HMIN.out news HNL.out HFIT4.out (fun j u hj => hp.cell at0 (by rw [Nat.zero_add]; exact hj)) HN1.out ?_; clear hp; intro v3 w1 hp; simp only [z0b, z0a] at hp; simp only [zc, zb, z0b, z0a]) | go_skip)
 rw [HDD.out] at hp
 go_ret
 refine ⟨_, [⟨g, pre ++ (news ++ xs), 124, off + cap * 2⟩], rfl, ⟨by rw [List.length_append, HNL.out, HXL.out]; omega, .inr ⟨g, off, cap, pre, rfl, hcap, hcm, HPRE.out, rfl⟩⟩, hp.tail⟩
theorem zmA (n : Nat) (hn : n ≤ 1000) (xs : List Value) (v : Value) {B : Nat} {w0 w : World} {R M : List Blk} (news : List Value) (hnl : news.length = 4) (hn1 : news.all (·.oneCell') = true) (hx1 : xs.all (·.oneCell') = true) (bv : Nat) (ev : TypeId) (mv : Nat) (hR : zD 124 2 v n xs R) (hp : Hp B w0 w (⟨bv, news, ev, mv⟩ :: (R ++ M))) :
  Calls Tryz.prog 212 #[v, .int .i64 0, .slice (some ⟨bv, 0, none⟩) 2 2] w (zeg B w0 (n + 2) (news ++ xs) M) := by
 rcases Nat.eq_zero_or_pos n with h0 | h0
 ·subst h0
  have hx : xs = [] := List.eq_nil_of_length_eq_zero (by simpa using hR.1)
  subst hx
  rw [List.append_nil]
  exact zg7 v news hnl hn1 bv ev mv hR hp
 ·obtain ⟨hxl, ⟨h, _⟩ | ⟨g, off, cap, pre, hv, hnc, hcm, hpre, hr⟩⟩ := hR
  ·omega
  ·subst hv hr
   rcases Nat.lt_or_ge cap (n + 2) with h2 | h2
   ·exact zgr n h0 hn xs hxl g off cap pre hpre hnc h2 news hnl hn1 hx1 bv ev mv _ hp
   ·exact zgs n h0 hn xs hxl g off cap pre hpre hcm h2 news hnl hn1 hx1 bv ev mv hp
end Go.Proofs.YtaafajaadfgaoaaGreat

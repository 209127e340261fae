import Derived.Test.YtaafajaadfgaoaaGreatCx43
import Derived.Test.YtaafajaadfgaoaaGreatCx44
set_option linter.unusedSimpArgs false
set_option linter.unusedVariables false
set_option maxRecDepth 100000
set_option maxHeartbeats 60000000
namespace Go.Proofs.YtaafajaadfgaoaaGreat
open Go.RowKit
theorem zpc {ty : TypeId} {k : Nat} (h : ZB Tryz.prog ty k = true := by with_reducible first | exact zap | exact zW | exact zV) : ZB Tryz.prog ty k = true := h
theorem zq9 {ty : TypeId} (h : zy Tryz.prog ty = true := by with_reducible first | exact zr | exact Ze | exact zev | exact zkQ | exact zaC | exact Zb) : zy Tryz.prog ty = true := h
theorem zsm (bs : List Nat) (hby : zan bs) (hn : bs.length ≤ 65536) (w : World) : Calls Tryz.prog 85 #[.string (strOfNums (nI bs))] w fun e w' => ∃ a m c R, e = .returned (.tuple #[.slice a m c, .int .i64 0]) ∧ (beS 4 bs.length ++ bs).length = m ∧ zB 5 1 (.slice a m c) m ((beS 4 bs.length ++ bs).flatMap byV) R ∧ Hp w.heap.size w w' R := by
 have h1 : (strOfNums (nI bs)).size = bs.length := by rw [← ZR, zbt hby]
 have h := ztT (strOfNums (nI bs)) (by omega) w
 rw [h1, zbt hby] at h
 exact h
theorem zn8 {B : Nat} {w0 w : World} {x : Blk} {RH R : List Blk} (hp : Hp B w0 w ((x :: RH) ++ R)) : Hp B w0 w (x :: (R ++ RH)) := hp.kp
theorem zpT (od : Int) (oa : Option Addr) (os : List Ob) (oc : Nat) (nx t0 t1 t2 t3 : Int) (fa : Option Addr) (fs : List Bl) (fc : Nat) (bs : List Nat) (hbs : zbQ ⟨od, oa, os, oc, nx, t0, t1, t2, t3, fa, fs, fc⟩ = bs) (m : Nat) (hm : bs.length = m) (hb : zY ⟨od, oa, os, oc, nx, t0, t1, t2, t3, fa, fs, fc⟩ = true) (w : World) (hx0 : Hv.Is w ⟨od, oa, os, oc, nx, t0, t1, t2, t3, fa, fs, fc⟩) :
  Calls Tryz.prog 84 #[.agg #[.int .i64 od, .slice oa os.length oc, .int .i64 nx, .int .i64 t0, .int .i64 t1, .int .i64 t2, .int .i64 t3, .slice fa fs.length fc]] w (zuk w bs m) := zlD _ hb bs hbs m hm w hx0
theorem znD (od : Int) (oa : Option Addr) (os : List Ob) (oc : Nat) (nx t0 t1 t2 t3 : Int) (fa : Option Addr) (fs : List Bl) (fc : Nat) (ra : Option Addr) (rs : List Rw) (rc : Nat) (hb : stB ⟨⟨od, oa, os, oc, nx, t0, t1, t2, t3, fa, fs, fc⟩, ra, rs, rc⟩ = false) (hs : Sv.Small ⟨⟨od, oa, os, oc, nx, t0, t1, t2, t3, fa, fs, fc⟩, ra, rs, rc⟩) (hnx : nx ≤ 9223372036854775807) (w : World) (hx0 : Sv.Is w ⟨⟨od, oa, os, oc, nx, t0, t1, t2, t3, fa, fs, fc⟩, ra, rs, rc⟩) : Calls Tryz.prog 29 #[.agg #[.int .i64 od, .slice oa os.length oc, .int .i64 nx, .int .i64 t0, .int .i64 t1, .int .i64 t2, .int .i64 t3, .slice fa fs.length fc, .slice ra rs.length rc]] w fun e w' => e = .returned (.tuple #[.slice none 0 0, .int .i64 60]) ∧ Below w.heap.size w w' := by
 have HB := z0j hb
 have HSS := z0j hs
 have HIS := z0j hx0
 have HNX := z0j hnx
 have hp := Hp.start w
 clear hb hs hx0 hnx
 go_enter Tryz.func29, Tryz.ntmps29
 go_wp2_with (first | (go_at_call 36; (with_reducible refine (zks od oa os oc nx t0 t1 t2 t3 fa fs fc ra rs rc _ HB.out HSS.out HNX.out _ (HIS.out.below hp.below)).mono ?_); rintro e w1 ⟨rfl, hb⟩; replace hp := hp.call hb; clear hb) | ((first | ((refine zk _ _ rfl ?_); refine lB hp rfl (za rfl) rfl ?_; clear hp; intro b w1 hp) | ((refine zd _ _ rfl ?_); first | refine lA hp rfl (za rfl) zpc aa5 ?_)); simp only [zc, zb, z0b, z0a]))
 go_ret2
 exact ⟨rfl, hp.below⟩
theorem zc2 (od : Int) (oa : Option Addr) (os : List Ob) (oc : Nat) (nx t0 t1 t2 t3 : Int) (fa : Option Addr) (fs : List Bl) (fc : Nat) (ra : Option Addr) (rs : List Rw) (rc : Nat) (hb : stB ⟨⟨od, oa, os, oc, nx, t0, t1, t2, t3, fa, fs, fc⟩, ra, rs, rc⟩ = true) (ss : List Nat) (hss : zav ⟨⟨od, oa, os, oc, nx, t0, t1, t2, t3, fa, fs, fc⟩, ra, rs, rc⟩ = ss) (ms : Nat) (hms : ss.length = ms) (w : World) (hx0 : Sv.Is w ⟨⟨od, oa, os, oc, nx, t0, t1, t2, t3, fa, fs, fc⟩, ra, rs, rc⟩) : Calls Tryz.prog 29 #[.agg #[.int .i64 od, .slice oa os.length oc, .int .i64 nx, .int .i64 t0, .int .i64 t1, .int .i64 t2, .int .i64 t3, .slice fa fs.length fc, .slice ra rs.length rc]] w (zuk w ss ms) := by
 obtain ⟨i0, hi0, hz0, hz1, hz2⟩ := info_parts zhY
 subst hss hms
 have hst := zfz hb
 have hbl := zdG hst.hv
 have hrows := hst.rows
 have hrl := zbj hrows (by decide)
 have HB := z0j hb
 have HHB := z0j (zag hst.hv)
 have HSS := z0j hst.small
 have HIS := z0j hx0
 have HIH := z0j hx0.1
 have HRI := z0j hx0.2
 have hnx := hst.hv.hi
 have HNX : Hid (nx ≤ 9223372036854775807) := z0j (by simp only at hnx; omega)
 have hby : zan (zbQ ⟨od, oa, os, oc, nx, t0, t1, t2, t3, fa, fs, fc⟩) := zdl _
 obtain ⟨bs, hbs⟩ : ∃ bs, zbQ ⟨od, oa, os, oc, nx, t0, t1, t2, t3, fa, fs, fc⟩ = bs := ⟨_, rfl⟩
 have HRES : Hid (zav ⟨⟨od, oa, os, oc, nx, t0, t1, t2, t3, fa, fs, fc⟩, ra, rs, rc⟩ = ((beS 4 bs.length ++ bs) ++ beS 4 rs.length) ++ rs.flatMap zeI) := z0j (by unfold zav; simp only [hbs]; rw [List.append_assoc, List.append_assoc]; simp [bn4])
 have HBS := z0j hbs
 simp only at hbl hrl hrows
 rw [hbs] at hbl hby
 have HBY := z0j hby
 obtain ⟨mh, hmh⟩ : ∃ mh, bs.length = mh := ⟨_, rfl⟩
 have HMH := z0j hmh
 have HNI : Hid ((nI bs).length = mh) := z0j (by rw [zh5]; exact hmh)
 have HSZ : Hid (bs.length ≤ 65536) := z0j (by omega)
 have HLAY : Hid (∀ r ∈ rs, 0 ≤ r.c ∧ r.c ≤ 4 ∧ 0 ≤ r.s ∧ r.s ≤ 1000000 ∧ 0 ≤ r.e ∧ r.e ≤ 65535) := z0j (fun r hr => by
  have := ZF.1 (zca hrows r hr); omega)
 have hp := Hp.start w
 have hrl4 : rs.length ≤ 4 := by omega
 have HRL := z0j hrl4
 have HL4 : Hid (rs.length ≤ 2147483647) := z0j (by omega)
 have HBL : Hid ((beS 4 bs.length ++ bs).length ≤ 4200 ∧ (beS 4 rs.length).length = 4) := z0j ⟨by rw [List.length_append, Zp]; omega, Zp 4 _⟩
 clear hb hx0 hbs hbl hst hby hrows hrl hrl4 hmh hnx
 go_enter Tryz.func29, Tryz.ntmps29
 go_wp2_with (first | (go_at_call 36; (with_reducible refine (zks od oa os oc nx t0 t1 t2 t3 fa fs fc ra rs rc _ HB.out HSS.out HNX.out _ (HIS.out.below hp.below)).mono ?_); rintro e w1 ⟨rfl, hb⟩; replace hp := hp.call hb; clear hb) | (go_at_call 84; (with_reducible refine (zpT od oa os oc nx t0 t1 t2 t3 fa fs fc bs HBS.out mh HMH.out HHB.out _ (HIH.out.below hp.below)).mono ?_); rintro e w1 ⟨ah, ch, RH, rfl, hrh, hp2⟩; replace hp := hp.join hp2; have HRH := z0j hrh; clear hp2 hrh; simp only [z0f, z0e] at hp) | ((refine z8 _ _ _ rfl ?_); refine Zs 57 9 5 _ rfl wy Tryz.underlying57 Tryz.underlying5 Tryz.underlying9 ah mh ch (za rfl) (nI bs) HNI.out (by rw [zbG]; exact HRH.out.keptS.at hp (by intro p hp2; simp [hp2])) ?_; simp only [zc, zb, z0b, z0a]) | (go_at_call 85; (with_reducible refine (zsm bs HBY.out HSZ.out _).mono ?_); rintro e w1 ⟨a, m, c, R, rfl, hm, hr, hp2⟩; replace hp := zn8 (hp.join hp2); have HM := z0j hm; have HR := z0j hr; clear hp2 hm hr) | (go_at_call 86; (with_reducible refine (zmN rs.length HL4.out _).mono ?_); rintro e w1 ⟨a2, m2, c2, R2, rfl, hm2, hr2, hp2⟩; replace hp := hp.join hp2; have HM2 := z0j hm2; have HR2 := z0j hr2; clear hm2 hr2 hp2; simp only [z0f, z0e, z0i] at hp) | ((refine Zl _ _ 57 57 rfl ?_); refine zP (K := [_]) (R := R) hp _ _ _ _ rfl wy 5 i0 _ 1 1 Tryz.underlying57 hi0 hz0 hz1 hz2 rfl _ _ _ (za rfl) HR.out _ (za rfl) m2 _ (Src.ofRow Tryz.underlying57 (by decide) a2 m2 c2 _ (by rw [zS byV 1 zbl, HM2.out]) (HR2.out.keptS.at hp (fun p hm => by simp [hm])) (zdB _)) (by have := HM2.out; have := HM.out; have := HBL.out; unfold maxLen; omega) (by have := HM2.out; have := HM.out; have := HBL.out; omega) ?_; clear hp; intro v' R' w1 hR' hp; obtain ⟨a', c', rfl, _⟩ := hR'.kept; have HR' := z0j hR'; clear hR'; simp only [z0f, z0e] at hp; simp only [zc, zb, z0b, z0a]) | ((first | ((refine zk _ _ rfl ?_); refine lB hp rfl (za rfl) rfl ?_; clear hp; intro b w1 hp) | ((refine zd _ _ rfl ?_); first | refine lO hp rfl (za rfl) zq9 aa5 ?_ | refine lA hp rfl (za rfl) zpc aa5 ?_)); simp only [zc, zb, z0b, z0a]))
 obtain ⟨bx, rfl⟩ := hp.id0
 have HMB : Hid (m ≤ 4200) := z0j (by have := HM.out; have := HBL.out; omega)
 have HMC : Hid (m2 = 4) := z0j (by rw [← HM2.out]; exact HBL.out.2)
 have hz : Hid (zB 5 1 (.slice a' (m + m2) c') (m + m2) (((beS 4 bs.length ++ bs) ++ beS 4 rs.length).flatMap byV) R') := z0j (by rw [List.flatMap_append]; exact HR'.out)
 have hy : Hid (((beS 4 bs.length ++ bs) ++ beS 4 rs.length).length = m + m2) := z0j (by rw [List.length_append, HM.out, HM2.out])
 have hv : Hid (((beS 4 bs.length ++ bs) ++ beS 4 rs.length).length ≤ 5000) := z0j (by rw [hy.out]; have := HMB.out; have := HMC.out; omega)
 generalize hhd : (beS 4 bs.length ++ bs) ++ beS 4 rs.length = hd at HRES hz hy hv
 clear HR HR' HM HM2 HR2 HMB HMC HRH HNI HSZ HBL hhd
 go_loopg [6, 9] rs.length (fun k v i wr => ∃ (q m : Nat) (a : Option Addr) (c : Nat) (R M : List Blk), k + q = rs.length ∧ i = .int .i64 q ∧ v = .slice a m c ∧ Hid ((hd ++ (rs.take q).flatMap zeI).length = m) ∧ Hid (zB 5 1 (.slice a m c) m ((hd ++ (rs.take q).flatMap zeI).flatMap byV) R) ∧ Hp w.heap.size w wr (⟨bx, [.int .i64 od, .slice oa os.length oc, .int .i64 nx, .int .i64 t0, .int .i64 t1, .int .i64 t2, .int .i64 t3, .slice fa fs.length fc, .slice ra rs.length rc], 50, 9⟩ :: (R ++ M)))
 case atStart => exact ⟨0, m + m2, a', c', R', _, by omega, rfl, rfl, z0j (by simpa using hy.out), z0j (by simpa using hz.out), hp⟩
 case round =>
  clear hp hz hy
  obtain ⟨q, m, a, c, R, M, hkq, rfl, rfl, HM, HR, hp⟩ := hrel
  by_cases hlt : q < rs.length
  ·obtain ⟨bq, off, rfl, hx⟩ := HRI.out.elems 4 ZL (by omega) (by omega)
   have hj := List.getElem?_eq_getElem hlt
   replace hx := hx q _ hj
   have hmem := List.getElem_mem hlt
   have hlay := HLAY.out _ hmem
   have htk : (rs.take (q + 1)).flatMap zeI = (rs.take q).flatMap zeI ++ zeI rs[q] := by rw [List.take_add_one, hj, List.flatMap_append]; simp
   have hlen := zdP (rs.take q)
   rw [List.length_take, Nat.min_eq_left (by omega)] at hlen
   have hm : m ≤ 5000 + q * 20 := by have := hv.out; rw [← HM.out, List.length_append]; omega
   have hrl := HRL.out
   clear hmem hj hlen
   generalize rs[q] = x at hx hlay htk
   obtain ⟨rc', rq', re', rv'⟩ := x
   obtain ⟨g1, g2, g3, g4, g5, g6⟩ := hlay
   simp only at hx g1 g2 g3 g4 g5 g6
   obtain ⟨rc', rfl⟩ := Int.eq_ofNat_of_zero_le g1
   obtain ⟨rq', rfl⟩ := Int.eq_ofNat_of_zero_le g3
   obtain ⟨re', rfl⟩ := Int.eq_ofNat_of_zero_le g5
   simp only [rwV] at hx
   rw [show zeI ⟨(rc' : Nat), (rq' : Nat), (re' : Nat), rv'⟩ = bn4 [rc', rq', re'] ++ beS 8 (uN rv') by simp [zeI, bi8]] at htk
   have hq6 : q < 4 := by omega
   generalize hbase : hd ++ (rs.take q).flatMap zeI = base at HM HR
   have HTK : Hid (hd ++ (rs.take (q + 1)).flatMap zeI = (base ++ bn4 [rc', rq', re']) ++ beS 8 (uN rv')) := z0j (by rw [htk, ← hbase]; simp only [z0i])
   have HX := z0j hx
   have HLA : Hid ([rc', rq', re'].length = 3) := z0j rfl
   have HLB : Hid (3 ≤ 1000) := z0j (by decide)
   have HB4 : Hid (∀ x ∈ [rc', rq', re'], x ≤ 2147483647) := z0j (by intro x hx; simp at hx; omega)
   have HC4 : Hid ([Value.int .i64 (rc' : Int), Value.int .i64 (rq' : Int), Value.int .i64 (re' : Int)] = [rc', rq', re'].flatMap zeb) := z0j rfl
   have HMB : Hid (m ≤ 100000 ∧ (bn4 [rc', rq', re']).length = 12) := z0j ⟨by omega, by rw [ZZ]; rfl⟩
   have e1 : (0 : Int) ≤ (q : Int) := by omega
   have e2 : (q : Int) < (rs.length : Int) := by omega
   clear hx g1 g2 g3 g4 g5 g6 htk hm hrl hbase
   go_wp2_with (first | (go_at_call 87; (with_reducible refine (zny [rc', rq', re'] 3 HLA.out HLB.out HB4.out HC4.out hp).mono ?_); clear hp; rintro e w1 ⟨a2, m2, c2, R2, rfl, hm2, hr2, hp⟩; have HM2 := z0j hm2; have HR2 := z0j hr2; clear hm2 hr2) | ((refine Zl _ _ 57 57 rfl ?_); refine zP (K := [_, _]) (R := R) hp _ _ _ _ rfl wy 5 i0 _ 1 1 Tryz.underlying57 hi0 hz0 hz1 hz2 rfl _ _ _ (za rfl) HR.out _ (za rfl) m2 _ (Src.ofRow Tryz.underlying57 (by decide) a2 m2 c2 _ (by rw [zS byV 1 zbl, HM2.out]) (HR2.out.keptS.at hp (fun p hm => by simp [hm])) (zdB _)) (by have := HM2.out; have := HMB.out; unfold maxLen; omega) (by have := HM2.out; have := HMB.out; omega) ?_; clear hp; intro v' R' w1 hR' hp; obtain ⟨a', c', rfl, _⟩ := hR'.kept; have HR' := z0j hR'; clear hR'; simp only [z0f, z0e] at hp; simp only [zc, zb, z0b, z0a]) | ((first | ((refine zi _ rfl ?_); refine lZ hp rfl zaY ?_; clear hp; intro b w1 hp) | ((refine zd _ _ rfl ?_); first | refine lO hp rfl (za rfl) zq9 aa5 ?_ | refine lR hp rfl (za rfl) zpc HX.out ?_) | ((refine zg _ _ _ rfl ?_); (first | refine sA hp rfl (za rfl) (za rfl) zpc aa5 ?_); clear hp; intro w1 hp; simp only [spl, z0a, z0b] at hp) | ((refine zC _ _ _ rfl ?_); refine lS hp rfl (by intro w; go_simp; rfl) ?_; clear hp; intro b w1 hp; simp only [z0g, z0h, Nat.reduceAdd] at hp)); simp only [zc, zb, z0b, z0a]))
   have hm2 : m2 = 12 := by rw [← HM2.out, HMB.out.2]
   subst hm2
   have HRB : Hid (zB 5 1 (.slice a' (m + 12) c') (m + 12) ((base ++ bn4 [rc', rq', re']).flatMap byV) R') := z0j (by rw [List.flatMap_append]; exact HR'.out)
   have HMD : Hid ((base ++ bn4 [rc', rq', re']).length = m + 12) := z0j (by rw [List.length_append, HM.out, HMB.out.2])
   have HME : Hid (m ≤ 100000 ∧ (beS 8 (uN rv')).length = 8) := z0j ⟨HMB.out.1, Zp 8 _⟩
   clear HR HR2 HM2 HR' HMB HM
   have HR := HRB
   have HMB := HME
   clear HRB HME
   obtain ⟨RZ, hrz⟩ : ∃ RZ, R' = RZ := ⟨_, rfl⟩
   rw [hrz] at HR hp
   clear hrz
   go_wp2_with (first | (go_at_call 88; (with_reducible refine (zmE rv' hp).mono ?_); clear hp; rintro e w1 ⟨a2, m2, c2, R2, rfl, hm2, hr2, hp⟩; have HM2 := z0j hm2; have HR2 := z0j hr2; clear hm2 hr2) | ((refine Zl _ _ 57 57 rfl ?_); refine zP (K := [_, _]) (R := RZ) hp _ _ _ _ rfl wy 5 i0 _ 1 1 Tryz.underlying57 hi0 hz0 hz1 hz2 rfl _ _ _ (za rfl) HR.out _ (za rfl) m2 _ (Src.ofRow Tryz.underlying57 (by decide) a2 m2 c2 _ (by rw [zS byV 1 zbl, HM2.out]) (HR2.out.keptS.at hp (fun p hm => by simp [hm])) (zdB _)) (by have := HM2.out; have := HMB.out; unfold maxLen; omega) (by have := HM2.out; have := HMB.out; omega) ?_; clear hp; intro v' R'' w1 hR' hp; obtain ⟨a'', c'', rfl, _⟩ := hR'.kept; have HR' := z0j hR'; clear hR'; simp only [z0f, z0e] at hp; simp only [zc, zb, z0b, z0a]))
   go_roundg (gk - 1)
   case measure => omega
   case rel => exact ⟨q + 1, m + 12 + m2, a'', c'', R'', _, by omega, by go_num, rfl, z0j (by rw [HTK.out, List.length_append, HMD.out, HM2.out]), z0j (by rw [HTK.out, List.flatMap_append]; exact HR'.out), hp.tail⟩
  ·obtain rfl : q = rs.length := by omega
   have e2 : decide ((rs.length : Int) < (rs.length : Int)) = false := by simp
   have hys := HM.out
   have hrr := HR.out
   rw [List.take_length, ← HRES.out] at hys hrr
   have HYS := z0j hys
   have HRR := z0j hrr
   clear hkq hlt HM HR hys hrr
   go_wp2_with (first | ((first | ((refine zd _ _ rfl ?_); first | refine lO hp rfl (za rfl) zq9 aa5 ?_)); simp only [zc, zb, z0b, z0a]))
   go_ret2
   have hmm := HYS.out
   subst hmm
   exact ⟨a, c, R, rfl, HRR.out, hp.tail.sub (List.sublist_append_left _ _)⟩
end Go.Proofs.YtaafajaadfgaoaaGreat

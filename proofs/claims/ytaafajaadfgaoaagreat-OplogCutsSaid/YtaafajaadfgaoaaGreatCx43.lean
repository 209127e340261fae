import Derived.Test.YtaafajaadfgaoaaGreatCx40
import Derived.Test.YtaafajaadfgaoaaGreatCx24
import Derived.Test.YtaafajaadfgaoaaGreatCx28
import Derived.Test.YtaafajaadfgaoaaGreatCx42
import Derived.Test.YtaafajaadfgaoaaGreatCx23
set_option linter.unusedSimpArgs false
set_option linter.unusedVariables false
set_option maxRecDepth 100000
set_option maxHeartbeats 60000000
namespace Go.Proofs.YtaafajaadfgaoaaGreat
open Go.RowKit
theorem zlA {l k : List Ob} {x y : Ob} (h : ZJ l k) (hx : x.Sm y) : ZJ (l ++ [x]) (k ++ [y]) := zh8 h hx
def zou (q : Nat) (st : Option (List Nat)) (l : List Ob) (st' : Option (List Nat)) : Prop := match st.bind (zaI zey q) with
 | some (l0, b1) => ZJ l l0 ∧ st' = some b1
 | none => st' = none
theorem zou.step {q : Nat} {st st1 st2 : Option (List Nat)} {l : List Ob} {x : Ob} (h1 : zou q st l st1) (h2 : zuj st1 x st2) : zou (q + 1) st (l ++ [x]) st2 := by
 have hn : ∀ {s : Option (List Nat)}, zuj none x s → s = none := fun h => h
 cases st with
 | none =>
  obtain rfl : st1 = none := h1
  obtain rfl := hn h2
  rfl
 | some b =>
  unfold zou at h1 ⊢
  replace h1 : (match zaI zey q b with | some (l0, b1) => ZJ l l0 ∧ st1 = some b1 | none => st1 = none) := h1
  show (match zaI zey (q + 1) b with | some (l0, b1) => ZJ (l ++ [x]) l0 ∧ st2 = some b1 | none => st2 = none)
  cases e1 : zaI zey q b with
  | none =>
   rw [e1] at h1
   obtain rfl : st1 = none := h1
   obtain rfl := hn h2
   have e2 : zaI zey (q + 1) b = none := by unfold zaI; rw [e1]
   rw [e2]
  | some p =>
   obtain ⟨l0, b1⟩ := p
   rw [e1] at h1
   obtain ⟨hl, rfl⟩ := h1
   unfold zuj at h2
   replace h2 : (match zey b1 with | some (o, b1) => x.Sm o ∧ st2 = some b1 | none => st2 = none) := h2
   cases e2 : zey b1 with
   | none =>
    rw [e2] at h2
    rw [za7 e1 e2 (q + 1) (Nat.lt_succ_self q)]
    exact h2
   | some p2 =>
    obtain ⟨x0, b2⟩ := p2
    rw [e2] at h2
    obtain ⟨hx, rfl⟩ := h2
    rw [za8 e1 e2]
    exact ⟨zlA hl hx, rfl⟩
theorem znN (od : Int) (oa : Option Addr) (os : List Ob) (oc : Nat) (nx t0 t1 t2 t3 : Int) (fa : Option Addr) (fs : List Bl) (fc : Nat) (b : Bool) (hb : zY ⟨od, oa, os, oc, nx, t0, t1, t2, t3, fa, fs, fc⟩ = b) (hs : Hv.Small ⟨od, oa, os, oc, nx, t0, t1, t2, t3, fa, fs, fc⟩) (hnx : nx ≤ 9223372036854775807) (w : World) (h : Hv.Is w ⟨od, oa, os, oc, nx, t0, t1, t2, t3, fa, fs, fc⟩) :
  Calls Tryz.prog 96 #[.agg #[.int .i64 od, .slice oa os.length oc, .int .i64 nx, .int .i64 t0, .int .i64 t1, .int .i64 t2, .int .i64 t3, .slice fa fs.length fc]] w fun e w' => e = .returned (.bool b) ∧ Below w.heap.size w w' := hb ▸ znP ⟨od, oa, os, oc, nx, t0, t1, t2, t3, fa, fs, fc⟩ hs hnx w h
open Go.RowKit
theorem zml {ty : TypeId} (h : zy Tryz.prog ty = true := by with_reducible first | exact zr | exact Ze | exact zev | exact zkQ | exact z7 | exact Zh | exact Zb) : zy Tryz.prog ty = true := h
theorem zmj (l m : List Nat) : bn4 (l ++ m) = bn4 l ++ bn4 m := List.flatMap_append
def zt5 (B : Nat) (w0 : World) (bs : List Nat) (H : List Blk → List Blk) (e : Ending) (w' : World) : Prop := ∃ a m c R, e = .returned (.slice a m c) ∧ bs.length = m ∧ zB 5 1 (.slice a m c) m (bs.flatMap byV) R ∧ Hp B w0 w' (H R)
theorem zrX (l : List Nat) (n : Nat) (hn : l.length = n) (hl : n ≤ 1000) (hb : ∀ x ∈ l, x ≤ 2147483647) {B : Nat} {w0 w : World} {bl t nn cl : Nat} {cs : List Value} {p : Blk} (hcs : cs = l.flatMap zeb) (hp : Hp B w0 w (⟨bl, cs, t, nn⟩ :: p :: [])) :
  Calls Tryz.prog 87 #[.slice (some ⟨bl, 0, none⟩) n cl] w (zt5 B w0 (bn4 l) fun R => p :: (R ++ [])) := by
 subst hn hcs
 refine (zfo l hl hb _ cl w (hp.rowIs (i := 0) rfl)).mono fun e w' h => ?_
 obtain ⟨a, m, c, R, h1, h2, h3, h4⟩ := h
 have h5 := hp.join h4
 simp only [z0f, z0e] at h5
 exact ⟨a, m, c, R, h1, h2, h3, h5.kp⟩
theorem zny (l : List Nat) (n : Nat) (hn : l.length = n) (hl : n ≤ 1000) (hb : ∀ x ∈ l, x ≤ 2147483647) {B : Nat} {w0 w : World} {bl t nn cl : Nat} {cs : List Value} {p q : Blk} {R M : List Blk} (hcs : cs = l.flatMap zeb) (hp : Hp B w0 w (⟨bl, cs, t, nn⟩ :: p :: q :: (R ++ M))) :
  Calls Tryz.prog 87 #[.slice (some ⟨bl, 0, none⟩) n cl] w (zt5 B w0 (bn4 l) fun R2 => p :: q :: (R ++ (M ++ R2))) := by
 subst hn hcs
 refine (zfo l hl hb _ cl w (hp.rowIs (i := 0) rfl)).mono fun e w' h => ?_
 obtain ⟨a, m, c, R2, h1, h2, h3, h4⟩ := h
 have h5 := hp.join h4
 simp only [z0f, z0i] at h5
 exact ⟨a, m, c, R2, h1, h2, h3, h5.kp⟩
theorem ztt (l : List Nat) (n : Nat) (hn : l.length = n) (hl : n ≤ 1000) (hb : ∀ x ∈ l, x ≤ 2147483647) (al : Option Addr) (cl : Nat) {B : Nat} {w0 w : World} {p q : Blk} {R M : List Blk} (hr : zm w al (l.flatMap zeb)) (hp : Hp B w0 w (p :: q :: (R ++ M))) :
  Calls Tryz.prog 87 #[.slice al n cl] w (zt5 B w0 (bn4 l) fun R2 => p :: q :: (R ++ (M ++ R2))) := by
 subst hn
 refine (zfo l hl hb _ cl w hr).mono fun e w' h => ?_
 obtain ⟨a, m, c, R2, h1, h2, h3, h4⟩ := h
 have h5 := hp.join h4
 simp only [z0f, z0i] at h5
 exact ⟨a, m, c, R2, h1, h2, h3, h5⟩
theorem zmE (n : Int) {B : Nat} {w0 w : World} {p q : Blk} {R M : List Blk} (hp : Hp B w0 w (p :: q :: (R ++ M))) :
  Calls Tryz.prog 88 #[.int .i64 n] w (zt5 B w0 (beS 8 (uN n)) fun R2 => p :: q :: (R ++ (M ++ R2))) := by
 refine (zo2 n w).mono fun e w' h => ?_
 obtain ⟨a, m, c, R2, h1, h2, h3, h4⟩ := h
 have h5 := hp.join h4
 simp only [z0f, z0i] at h5
 exact ⟨a, m, c, R2, h1, h2, h3, h5⟩
def zuk (w : World) (bs : List Nat) (m : Nat) (e : Ending) (w' : World) : Prop := ∃ a c R, e = .returned (.tuple #[.slice a m c, .int .i64 0]) ∧ zB 5 1 (.slice a m c) m (bs.flatMap byV) R ∧ Hp w.heap.size w w' R
theorem zlD (x : Hv) (hb : zY x = true) (bs : List Nat) (hbs : zbQ x = bs) (m : Nat) (hm : bs.length = m) (w : World) (hx0 : x.Is w) : Calls Tryz.prog 84 #[.agg (hvL x).toArray] w (zuk w bs m) := by
 obtain ⟨i0, hi0, hz0, hz1, hz2⟩ := info_parts zhY
 subst hbs hm
 have hxr := zb4 hb
 have HB := z0j hb
 have HSS := z0j hxr.small
 have HIS := z0j hx0
 have HLAY := z0j (zb3 hxr)
 have hp := Hp.start w
 have hfr := hxr.free
 unfold zM zZ at hfr
 rw [Bool.and_eq_true] at hfr
 have hod : 3 ≤ x.od ∧ x.od ≤ 8 := by simpa using hfr.1
 have hnx := hxr.lo
 have hnx2 := hxr.hi
 have hol := hxr.len
 have l0 := ZD hxr (hxr.tops x.t0 (by simp [tops]))
 have l1 := ZD hxr (hxr.tops x.t1 (by simp [tops]))
 have l2 := ZD hxr (hxr.tops x.t2 (by simp [tops]))
 have l3 := ZD hxr (hxr.tops x.t3 (by simp [tops]))
 have HHL := z0j (zfg x)
 obtain ⟨hd, hhd⟩ : ∃ hd, hd = zfW x := ⟨_, rfl⟩
 have HHD := z0j hhd
 have HRES : Hid (zbQ x = hd ++ x.os.flatMap obB) := z0j (by rw [hhd]; rfl)
 rw [← hhd] at HHL
 obtain ⟨od, oa, os, oc, nx, t0, t1, t2, t3, fa, fs, fc⟩ := x
 simp only at hod hnx hnx2 hol l0 l1 l2 l3 HRES HLAY
 unfold zfW at HHD
 simp only at HHD
 obtain ⟨od, rfl⟩ := Int.eq_ofNat_of_zero_le (show 0 ≤ od by omega)
 obtain ⟨nx, rfl⟩ := Int.eq_ofNat_of_zero_le (show 0 ≤ nx by omega)
 obtain ⟨t0, rfl⟩ := Int.eq_ofNat_of_zero_le l0.1
 obtain ⟨t1, rfl⟩ := Int.eq_ofNat_of_zero_le l1.1
 obtain ⟨t2, rfl⟩ := Int.eq_ofNat_of_zero_le l2.1
 obtain ⟨t3, rfl⟩ := Int.eq_ofNat_of_zero_le l3.1
 simp only [Int.toNat_natCast] at HHD
 have HNX : Hid ((nx : Int) ≤ 9223372036854775807) := z0j (by omega)
 have HB1 : Hid (∀ x ∈ [od, nx, t0, t1, t2, t3, os.length], x ≤ 2147483647) := z0j (by intro x hx; simp at hx; omega)
 have HO : Hid (zm w oa (os.flatMap obV)) := z0j hx0.1
 have HOO : Hid (∀ o ∈ os, o.Is w) := z0j hx0.2.1
 have HOL : Hid (os.length ≤ 256) := z0j hol
 have HLA : Hid ([od, nx, t0, t1, t2, t3, os.length].length = 7) := z0j rfl
 have HLB : Hid (7 ≤ 1000) := z0j (by decide)
 have HC1 : Hid ([Value.int .i64 (od : Int), Value.int .i64 (nx : Int), Value.int .i64 (t0 : Int), Value.int .i64 (t1 : Int), Value.int .i64 (t2 : Int), Value.int .i64 (t3 : Int), Value.int .i64 (os.length : Int)] = [od, nx, t0, t1, t2, t3, os.length].flatMap zeb) := z0j rfl
 have HZ : Hid (bn4 [od, nx, t0, t1, t2, t3, os.length] = hd) := z0j (by rw [HHD.out, ← zmj, ← zmj]; rfl)
 clear hfr hod hnx hnx2 hol l0 l1 l2 l3 hxr hb hx0 hhd
 simp only [hvL]
 go_enter Tryz.func84, Tryz.ntmps84
 go_wp2_with (first | (go_at_call 96; (with_reducible refine (znN od oa os oc nx t0 t1 t2 t3 fa fs fc _ HB.out HSS.out HNX.out _ (HIS.out.below hp.below)).mono ?_); rintro e w1 ⟨rfl, hb⟩; replace hp := hp.call hb; clear hb) | (go_at_call 87; (with_reducible refine (zrX [od, nx, t0, t1, t2, t3, os.length] 7 HLA.out HLB.out HB1.out HC1.out hp).mono ?_); clear hp; rintro e w1 ⟨a1, m1, c1, R1, rfl, hm1, hr1, hp⟩; have HM1 := z0j hm1; have HR1 := z0j hr1; clear hm1 hr1) | ((first | ((refine zk _ _ rfl ?_); refine lB hp rfl (za rfl) rfl ?_; clear hp; intro b w1 hp) | ((refine zd _ _ rfl ?_); first | refine lO hp rfl (za rfl) zml aa5 ?_ | refine lA hp rfl (za rfl) (by with_reducible first | exact zW) aa5 ?_) | ((refine zC _ _ _ rfl ?_); refine lS hp rfl (by intro w; go_simp; rfl) ?_; clear hp; intro b w1 hp; simp only [z0g, z0h, Nat.reduceAdd] at hp)); simp only [zc, zb, z0b, z0a]))
 obtain ⟨bh, rfl⟩ := hp.id0
 go_loopg [4, 5] os.length (fun k v i wr => ∃ (q m : Nat) (a : Option Addr) (c : Nat) (R M : List Blk), k + q = os.length ∧ i = .int .i64 q ∧ v = .slice a m c ∧ Hid ((hd ++ (os.take q).flatMap obB).length = m) ∧ Hid (zB 5 1 (.slice a m c) m ((hd ++ (os.take q).flatMap obB).flatMap byV) R) ∧ Hp w.heap.size w wr (⟨bh, [.int .i64 od, .slice oa os.length oc, .int .i64 nx, .int .i64 t0, .int .i64 t1, .int .i64 t2, .int .i64 t3, .slice fa fs.length fc], 47, 8⟩ :: (R ++ M)))
 case atStart => exact ⟨0, m1, a1, c1, R1, [], by omega, rfl, rfl, z0j (by rw [← HZ.out]; simpa using HM1.out), z0j (by rw [← HZ.out]; simpa using HR1.out), hp⟩
 case round =>
  clear hp HM1 HR1 HZ HLA HLB HC1 HB1
  obtain ⟨q, m, a, c, R, M, hkq, rfl, rfl, HM, HR, hp⟩ := hrel
  by_cases hlt : q < os.length
  ·obtain ⟨bq, off, rfl, hx⟩ := HO.out.elems 5 Z1 (by omega) (by omega)
   have hj := List.getElem?_eq_getElem hlt
   replace hx := hx q _ hj
   have hmem := List.getElem_mem hlt
   obtain ⟨hw1, hw2⟩ := HOO.out _ hmem
   have hlay := HLAY.out _ hmem
   have htk : (os.take (q + 1)).flatMap obB = (os.take q).flatMap obB ++ obB os[q] := by rw [List.take_add_one, hj, List.flatMap_append]; simp
   have hlen := zkl (l := os.take q) (fun o ho => HLAY.out o (List.mem_of_mem_take ho))
   rw [List.length_take, Nat.min_eq_left (by omega)] at hlen
   have hm : m ≤ 28 + q * 336 := by rw [← HM.out, List.length_append, HHL.out]; omega
   have hol := HOL.out
   clear hmem hj hlen
   generalize os[q] = x at hx hw1 hw2 hlay htk
   obtain ⟨xh, xp, xo, wa, ws, wc, la, ls, lc⟩ := x
   obtain ⟨g1, g2, g3, g4, g5, g6, g7⟩ := hlay
   simp only at hx hw1 hw2 g1 g2 g3 g4 g5 g6 g7
   obtain ⟨xh, rfl⟩ := Int.eq_ofNat_of_zero_le g1
   obtain ⟨xp, rfl⟩ := Int.eq_ofNat_of_zero_le g3
   simp only [obV] at hx
   rw [show obB ⟨xh, xp, xo, wa, ws, wc, la, ls, lc⟩ = bn4 [xh, xp, ws.length, ls.length] ++ (bi8 ws ++ bn4 (ls.map Int.toNat)) by simp only [obB, Int.toNat_natCast]] at htk
   have hq6 : q < 256 := by omega
   generalize hbase : hd ++ (os.take q).flatMap obB = base at HM HR
   have HTK : Hid (hd ++ (os.take (q + 1)).flatMap obB = base ++ (bn4 [xh, xp, ws.length, ls.length] ++ (bi8 ws ++ bn4 (ls.map Int.toNat)))) := z0j (by rw [htk, ← hbase, List.append_assoc])
   have HX := z0j hx
   have HSW : Hid (zm w wa (ws.flatMap iV)) := z0j hw1
   have HSL : Hid (zm w la ((ls.map Int.toNat).flatMap zeb)) := z0j (by rw [znt (fun t ht => (g7 t ht).1)]; exact hw2)
   have HLA : Hid ([xh, xp, ws.length, ls.length].length = 4) := z0j rfl
   have HLB : Hid (4 ≤ 1000) := z0j (by decide)
   have HB4 : Hid (∀ x ∈ [xh, xp, ws.length, ls.length], x ≤ 2147483647) := z0j (by intro x hx; simp at hx; omega)
   have HC4 : Hid ([Value.int .i64 (xh : Int), Value.int .i64 (xp : Int), Value.int .i64 (ws.length : Int), Value.int .i64 (ls.length : Int)] = [xh, xp, ws.length, ls.length].flatMap zeb) := z0j rfl
   have HL6 : Hid (ls.length ≤ 1000) := z0j (by omega)
   have HLN : Hid ((ls.map Int.toNat).length = ls.length) := z0j (List.length_map ..)
   have HB6 : Hid (∀ x ∈ ls.map Int.toNat, x ≤ 2147483647) := z0j (by intro x hx; obtain ⟨t, ht, rfl⟩ := List.mem_map.1 hx; have := g7 t ht; omega)
   have HLW : Hid (ws.length ≤ 32 ∧ ls.length ≤ 16 ∧ m ≤ 90000) := z0j ⟨g5, g6, by omega⟩
   have HMB : Hid (m ≤ 100000 ∧ (bn4 [xh, xp, ws.length, ls.length]).length = 16) := z0j ⟨by omega, by rw [ZZ]; rfl⟩
   have e1 : (0 : Int) ≤ (q : Int) := by omega
   have e2 : (q : Int) < (os.length : Int) := by omega
   clear hx hw1 hw2 g1 g2 g3 g4 g6 g7 htk hm hol hbase
   go_wp2_with (first | (go_at_call 87; (with_reducible refine (zny [xh, xp, ws.length, ls.length] 4 HLA.out HLB.out HB4.out HC4.out hp).mono ?_); clear hp; rintro e w1 ⟨a2, m2, c2, R2, rfl, hm2, hr2, hp⟩; have HM2 := z0j hm2; have HR2 := z0j hr2; clear hm2 hr2) | ((refine Zl _ _ 57 57 rfl ?_); refine zP (K := [_, _]) (R := R) hp _ _ _ _ rfl wy 5 i0 _ 1 1 Tryz.underlying57 hi0 hz0 hz1 hz2 rfl _ _ _ (za rfl) HR.out _ (za rfl) m2 _ (Src.ofRow Tryz.underlying57 (by decide) a2 m2 c2 _ (by rw [zS byV 1 zbl, HM2.out]) (HR2.out.keptS.at hp (fun p hm => by simp [hm])) (zdB _)) (by have := HM2.out; have := HMB.out; unfold maxLen; omega) (by have := HM2.out; have := HMB.out; omega) ?_; clear hp; intro v' R' w1 hR' hp; obtain ⟨a', c', rfl, _⟩ := hR'.kept; have HR' := z0j hR'; clear hR'; simp only [z0f, z0e] at hp; simp only [zc, zb, z0b, z0a]) | ((first | ((refine zi _ rfl ?_); refine lZ hp rfl z6 ?_; clear hp; intro b w1 hp) | ((refine zd _ _ rfl ?_); first | refine lO hp rfl (za rfl) zml aa5 ?_ | refine lR hp rfl (za rfl) (by with_reducible first | exact zD) HX.out ?_) | ((refine zg _ _ _ rfl ?_); (first | refine sA hp rfl (za rfl) (za rfl) (by with_reducible first | exact zD) aa5 ?_); clear hp; intro w1 hp; simp only [spl, z0a, z0b] at hp) | ((refine zC _ _ _ rfl ?_); refine lS hp rfl (by intro w; go_simp; rfl) ?_; clear hp; intro b w1 hp; simp only [z0g, z0h, Nat.reduceAdd] at hp)); simp only [zc, zb, z0b, z0a]))
   obtain ⟨bo, rfl⟩ := hp.id0
   have hm2 : m2 = 16 := by rw [← HM2.out, HMB.out.2]
   subst hm2
   have HRA := HR'
   clear HR HR2 HM2 HR' HMB e1 e2
   go_loopg [4, 8] ws.length (fun k v i wr => ∃ (j n : Nat) (a : Option Addr) (c : Nat) (R M : List Blk), k + j = ws.length ∧ i = .int .i64 j ∧ v = .slice a n c ∧ Hid (n = m + 16 + 8 * j) ∧ Hid (zB 5 1 (.slice a n c) n ((base ++ (bn4 [xh, xp, ws.length, ls.length] ++ bi8 (ws.take j))).flatMap byV) R) ∧ Hp w.heap.size w wr (⟨bo, [.int .i64 xh, .int .i64 xp, .int .i64 xo, .slice wa ws.length wc, .slice la ls.length lc], 126, 5⟩ :: ⟨bh, [.int .i64 od, .slice (some ⟨bq, off, none⟩) os.length oc, .int .i64 nx, .int .i64 t0, .int .i64 t1, .int .i64 t2, .int .i64 t3, .slice fa fs.length fc], 47, 8⟩ :: (R ++ M)))
   case atStart => exact ⟨0, m + 16, a', c', R', _, by omega, rfl, rfl, z0j (by omega), z0j (by simp only [List.take_zero, bi8, List.flatMap_nil, List.append_nil]; rw [List.flatMap_append]; exact HRA.out), hp⟩
   case round =>
    clear hp HRA
    obtain ⟨j, n, a, c, R, M, hkj, rfl, rfl, HN, HR, hp⟩ := hrel
    by_cases hlj : j < ws.length
    ·have hj := List.getElem?_eq_getElem hlj
     generalize ws[j] = x at hj
     have hiv : (ws.flatMap iV)[j]? = some (.int .i64 x) := by rw [zcY, List.getElem?_map, hj]; rfl
     obtain ⟨bw, ofw, rfl, hcx⟩ := zkt HSW.out hiv
     have HXJ := z0j hcx
     have HT : Hid (bi8 (ws.take (j + 1)) = bi8 (ws.take j) ++ beS 8 (uN x)) := z0j (by unfold bi8; rw [List.take_add_one, hj, List.flatMap_append]; simp)
     have HMB : Hid (n ≤ 100000 ∧ (beS 8 (uN x)).length = 8) := z0j ⟨by have := HLW.out; have := HN.out; omega, Zp 8 _⟩
     clear hj hiv hcx
     have e1 : (0 : Int) ≤ (j : Int) := by omega
     have e2 : (j : Int) < (ws.length : Int) := by omega
     go_wp2_with (first | (go_at_call 88; (with_reducible refine (zmE x hp).mono ?_); clear hp; rintro e w1 ⟨a2, m2, c2, R2, rfl, hm2, hr2, hp⟩; have HM2 := z0j hm2; have HR2 := z0j hr2; clear hm2 hr2) | ((refine zd 3 _ rfl ?_); refine lRO (Hp.start _) rfl (za rfl) zr ((HXJ.out.below hp.below).now) ?_; simp only [zc, zb, z0b, z0a]) | ((refine Zl _ _ 57 57 rfl ?_); refine zP (K := [_, _]) (R := R) hp _ _ _ _ rfl wy 5 i0 _ 1 1 Tryz.underlying57 hi0 hz0 hz1 hz2 rfl _ _ _ (za rfl) HR.out _ (za rfl) m2 _ (Src.ofRow Tryz.underlying57 (by decide) a2 m2 c2 _ (by rw [zS byV 1 zbl, HM2.out]) (HR2.out.keptS.at hp (fun p hm => by simp [hm])) (zdB _)) (by have := HM2.out; have := HMB.out; unfold maxLen; omega) (by have := HM2.out; have := HMB.out; omega) ?_; clear hp; intro v' R' w1 hR' hp; obtain ⟨a', c', rfl, _⟩ := hR'.kept; have HR' := z0j hR'; clear hR'; simp only [z0f, z0e] at hp; simp only [zc, zb, z0b, z0a]) | ((first | ((refine zd _ _ rfl ?_); first | refine lO hp rfl (za rfl) zml aa5 ?_)); simp only [zc, zb, z0b, z0a]))
     go_roundg (gk - 1)
     case measure => omega
     case rel => exact ⟨j + 1, n + m2, a', c', R', _, by omega, by go_num, rfl, z0j (by have := HM2.out; have := HMB.out; have := HN.out; omega), z0j (by rw [HT.out, ← List.append_assoc, ← List.append_assoc, List.flatMap_append, List.append_assoc base]; exact HR'.out), hp⟩
    ·obtain rfl : j = ws.length := by omega
     have e2 : decide ((ws.length : Int) < (ws.length : Int)) = false := by simp
     have hr := HR.out
     rw [List.take_length] at hr
     have HRT := z0j hr
     clear HR hr hkj hlj
     have HR := HRT
     have HMB : Hid (n ≤ 90272 ∧ (bn4 (ls.map Int.toNat)).length ≤ 64) := z0j ⟨by have := HLW.out; have := HN.out; omega, by rw [ZZ, List.length_map]; have := HLW.out; omega⟩
     go_wp2_with (first | (go_at_call 87; (with_reducible refine (ztt (ls.map Int.toNat) ls.length HLN.out HL6.out HB6.out la lc (HSL.out.below hp.below) hp).mono ?_); clear hp; rintro e w1 ⟨a2, m2, c2, R2, rfl, hm2, hr2, hp⟩; have HM2 := z0j hm2; have HR2 := z0j hr2; clear hm2 hr2) | ((refine Zl _ _ 57 57 rfl ?_); refine zP (K := [_, _]) (R := R) hp _ _ _ _ rfl wy 5 i0 _ 1 1 Tryz.underlying57 hi0 hz0 hz1 hz2 rfl _ _ _ (za rfl) HR.out _ (za rfl) m2 _ (Src.ofRow Tryz.underlying57 (by decide) a2 m2 c2 _ (by rw [zS byV 1 zbl, HM2.out]) (HR2.out.keptS.at hp (fun p hm => by simp [hm])) (zdB _)) (by have := HM2.out; have := HMB.out; unfold maxLen; omega) (by have := HM2.out; have := HMB.out; omega) ?_; clear hp; intro v' R' w1 hR' hp; obtain ⟨a', c', rfl, _⟩ := hR'.kept; have HR' := z0j hR'; clear hR'; simp only [z0f, z0e] at hp; simp only [zc, zb, z0b, z0a]) | ((first | ((refine zd _ _ rfl ?_); first | refine lO hp rfl (za rfl) zml aa5 ?_)); simp only [zc, zb, z0b, z0a]))
     go_roundg (os.length - (q + 1))
     case measure => omega
     case rel => exact ⟨q + 1, n + m2, a', c', R', _, by omega, by go_num, rfl, z0j (by rw [HTK.out, List.length_append, List.length_append, List.length_append, HM.out, zd1, HM2.out, ZZ, HN.out]; simp only [z0g, z0h]; omega), z0j (by rw [HTK.out]; have h := HR'.out; rw [← List.flatMap_append] at h; simpa only [List.append_assoc] using h), hp.tail⟩
  ·obtain rfl : q = os.length := by omega
   have e2 : decide ((os.length : Int) < (os.length : Int)) = false := by simp
   have hys := HM.out
   have hrr := HR.out
   rw [List.take_length, ← HRES.out] at hys hrr
   have HYS := z0j hys
   have HRR := z0j hrr
   clear hkq hlt HM HR hys hrr
   go_wp2_with (first | ((first | ((refine zd _ _ rfl ?_); first | refine lO hp rfl (za rfl) zml aa5 ?_)); simp only [zc, zb, z0b, z0a]))
   go_ret2
   have hmm := HYS.out
   subst hmm
   exact ⟨a, c, R, rfl, HRR.out, hp.tail.sub (List.sublist_append_left _ _)⟩
end Go.Proofs.YtaafajaadfgaoaaGreat

/- Parts of the proof. -/
import Derived.Test.YtaafajaadfgaoaaIk11
import Derived.Test.YtaafajaadfgaoaaIk12
import Derived.Test.YtaafajaadfgaoaaIk7
import Derived.Test.YtaafajaadfgaoaaIk2
open List renaming set_cons_zero → zSet, set_cons_succ → sSet
/- The walk of the document's PutHeap. -/
set_option linter.unusedSimpArgs false
set_option linter.unusedVariables false
namespace Go.Proofs.Ytaafajaadfgaoaa
open Go.RowKit
theorem ceGQ0 {ty : TypeId} (h : cellB Try.prog ty = true := by with_reducible first | exact cell3 | exact cell4 | exact cell31 | exact cell5 | exact cell22 | exact cell56 | exact cell32) : cellB Try.prog ty = true := h
theorem bn4_app (l m : List Nat) : bn4 (l ++ m) = bn4 l ++ bn4 m := List.flatMap_append
def RowQ (B : Nat) (w0 : World) (bs : List Nat) (H : List Blk → List Blk) (e : Ending) (w' : World) : Prop := ∃ a m c R, e = .returned (.slice a m c) ∧ bs.length = m ∧ SubRow 5 1 (.slice a m c) m (bs.flatMap byV) R ∧ Hp B w0 w' (H R)
theorem nums_b1 (l : List Nat) (n : Nat) (hn : l.length = n) (hl : n ≤ 1000) (hb : ∀ x ∈ l, x ≤ 2147483647) {B : Nat} {w0 w : World} {bl t nn cl : Nat} {cs : List Value} {p : Blk} (hcs : cs = l.flatMap natV) (hp : Hp B w0 w (⟨bl, cs, t, nn⟩ :: p :: [])) :
    Calls Try.prog 35 #[.slice (some ⟨bl, 0, none⟩) n cl] w (RowQ B w0 (bn4 l) fun R => p :: (R ++ [])) := by
  subst hn hcs
  refine (numbers35 l hl hb _ cl w (hp.rowIs (i := 0) rfl)).mono fun e w' h => ?_
  obtain ⟨a, m, c, R, h1, h2, h3, h4⟩ := h
  have h5 := hp.join h4
  simp only [List.cons_append, List.nil_append] at h5
  exact ⟨a, m, c, R, h1, h2, h3, h5.kp⟩
theorem nums_b2 (l : List Nat) (n : Nat) (hn : l.length = n) (hl : n ≤ 1000) (hb : ∀ x ∈ l, x ≤ 2147483647) {B : Nat} {w0 w : World} {bl t nn cl : Nat} {cs : List Value} {p q : Blk} {R M : List Blk} (hcs : cs = l.flatMap natV) (hp : Hp B w0 w (⟨bl, cs, t, nn⟩ :: p :: q :: (R ++ M))) :
    Calls Try.prog 35 #[.slice (some ⟨bl, 0, none⟩) n cl] w (RowQ B w0 (bn4 l) fun R2 => p :: q :: (R ++ (M ++ R2))) := by
  subst hn hcs
  refine (numbers35 l hl hb _ cl w (hp.rowIs (i := 0) rfl)).mono fun e w' h => ?_
  obtain ⟨a, m, c, R2, h1, h2, h3, h4⟩ := h
  have h5 := hp.join h4
  simp only [List.cons_append, List.append_assoc] at h5
  exact ⟨a, m, c, R2, h1, h2, h3, h5.kp⟩
theorem nums_r (l : List Nat) (n : Nat) (hn : l.length = n) (hl : n ≤ 1000) (hb : ∀ x ∈ l, x ≤ 2147483647) (al : Option Addr) (cl : Nat) {B : Nat} {w0 w : World} {p q : Blk} {R M : List Blk} (hr : RowIs w al (l.flatMap natV)) (hp : Hp B w0 w (p :: q :: (R ++ M))) :
    Calls Try.prog 35 #[.slice al n cl] w (RowQ B w0 (bn4 l) fun R2 => p :: q :: (R ++ (M ++ R2))) := by
  subst hn
  refine (numbers35 l hl hb _ cl w hr).mono fun e w' h => ?_
  obtain ⟨a, m, c, R2, h1, h2, h3, h4⟩ := h
  have h5 := hp.join h4
  simp only [List.cons_append, List.append_assoc] at h5
  exact ⟨a, m, c, R2, h1, h2, h3, h5⟩
theorem eight_r (n : Int) {B : Nat} {w0 w : World} {p q : Blk} {R M : List Blk} (hp : Hp B w0 w (p :: q :: (R ++ M))) :
    Calls Try.prog 36 #[.int .i64 n] w (RowQ B w0 (beS 8 (uN n)) fun R2 => p :: q :: (R ++ (M ++ R2))) := by
  refine (eights36 n w).mono fun e w' h => ?_
  obtain ⟨a, m, c, R2, h1, h2, h3, h4⟩ := h
  have h5 := hp.join h4
  simp only [List.cons_append, List.append_assoc] at h5
  exact ⟨a, m, c, R2, h1, h2, h3, h5⟩
def PutO (w : World) (bs : List Nat) (m : Nat) (e : Ending) (w' : World) : Prop := ∃ a c R, e = .returned (.tuple #[.slice a m c, .int .i64 0]) ∧ SubRow 5 1 (.slice a m c) m (bs.flatMap byV) R ∧ Hp w.heap.size w w' R
set_option maxRecDepth 100000 in
set_option maxHeartbeats 8000000 in
theorem puth06_no (od : Int) (oa : Option Addr) (os : List Ob) (oc : Nat) (nx t0 t1 t2 t3 : Int) (fa : Option Addr) (fs : List Bl) (fc : Nat) (hb : hrightB ⟨od, oa, os, oc, nx, t0, t1, t2, t3, fa, fs, fc⟩ = false) (hs : Hv.Small ⟨od, oa, os, oc, nx, t0, t1, t2, t3, fa, fs, fc⟩) (hnx : nx ≤ 9223372036854775807) (w : World) (hx0 : Hv.Is w ⟨od, oa, os, oc, nx, t0, t1, t2, t3, fa, fs, fc⟩) : Calls Try.prog 14 #[.agg #[.int .i64 od, .slice oa os.length oc, .int .i64 nx, .int .i64 t0, .int .i64 t1, .int .i64 t2, .int .i64 t3, .slice fa fs.length fc]] w fun e w' => e = .returned (.tuple #[.slice none 0 0, .int .i64 60]) ∧ Below w.heap.size w w' := by
  have HB := Lib.hid hb
  have HSS := Lib.hid hs
  have HIS := Lib.hid hx0
  have HNX := Lib.hid hnx
  have hp := Hp.start w
  clear hb hs hx0 hnx
  go_enter Try.func14, Try.ntmps14
  go_wp2_with (first | (go_at_call 34; (with_reducible refine (right05_L od oa os oc nx t0 t1 t2 t3 fa fs fc _ HB.out HSS.out HNX.out _ (HIS.out.below hp.below)).mono ?_); rintro e w1 ⟨rfl, hb⟩; replace hp := hp.call hb; clear hb) | go_skip | ((first | ((with_reducible refine pre_alloc _ rfl ?_); refine lZ hp rfl zero60 ?_; clear hp; intro b w1 hp) | ((with_reducible refine pre_box _ _ rfl ?_); refine lB hp rfl (sTm rfl) rfl ?_; clear hp; intro b w1 hp) | ((with_reducible refine pre_load _ _ rfl ?_); first | refine lO hp rfl (sTm rfl) ceGQ0 aa5 ?_ | refine lA hp rfl (sTm rfl) (by with_reducible first | exact agg26 | exact agg60) aa5 ?_) | ((with_reducible refine pre_store _ _ _ rfl ?_); (first | refine sO hp rfl (sTm rfl) ceGQ0 aa5 ?_ | refine sA hp rfl (sTm rfl) (sTm rfl) (by with_reducible first | exact agg26 | exact agg60) aa5 ?_ | refine sG hp rfl (sTm rfl) (sTm rfl) (by with_reducible first | exact agg26 | exact agg60) aa5 ?_); clear hp; intro w1 hp; simp only [spl, zSet, sSet] at hp) | ((with_reducible refine pre_build _ _ _ rfl ?_); refine lS hp rfl (by intro w; go_simp; rfl) ?_; clear hp; intro b w1 hp; simp only [List.length_cons, List.length_nil, Nat.reduceAdd] at hp)); simp only [put_some, put_none, sSet, zSet]))
  go_ret2
  exact ⟨rfl, hp.below⟩
set_option maxRecDepth 100000 in
set_option maxHeartbeats 16000000 in
theorem puth06_yes (x : Hv) (hb : hrightB x = true) (bs : List Nat) (hbs : heapB x = bs) (m : Nat) (hm : bs.length = m) (w : World) (hx0 : x.Is w) : Calls Try.prog 14 #[.agg (hvL x).toArray] w (PutO w bs m) := by
  obtain ⟨i0, hi0, hz0, hz1, hz2⟩ := info_parts info5
  subst hbs hm
  have hxr := hright_of hb
  have HB := Lib.hid hb
  have HSS := Lib.hid hxr.small
  have HIS := Lib.hid hx0
  have HLAY := Lib.hid (hright_lay hxr)
  have hp := Hp.start w
  have hfr := hxr.free
  unfold rightB regionB at hfr
  rw [Bool.and_eq_true] at hfr
  have hod : 3 ≤ x.od ∧ x.od ≤ 8 := by simpa using hfr.1
  have hnx := hxr.lo
  have hnx2 := hxr.hi
  have hol := hxr.len
  have l0 := leads_lay hxr (hxr.tops x.t0 (by simp [tops]))
  have l1 := leads_lay hxr (hxr.tops x.t1 (by simp [tops]))
  have l2 := leads_lay hxr (hxr.tops x.t2 (by simp [tops]))
  have l3 := leads_lay hxr (hxr.tops x.t3 (by simp [tops]))
  have HHL := Lib.hid (headB_len x)
  obtain ⟨hd, hhd⟩ : ∃ hd, hd = headB x := ⟨_, rfl⟩
  have HHD := Lib.hid hhd
  have HRES : RowKit.Hid (heapB x = hd ++ x.os.flatMap obB) := Lib.hid (by rw [hhd]; rfl)
  rw [← hhd] at HHL
  obtain ⟨od, oa, os, oc, nx, t0, t1, t2, t3, fa, fs, fc⟩ := x
  simp only at hod hnx hnx2 hol l0 l1 l2 l3 HRES HLAY
  unfold headB at HHD
  simp only at HHD
  obtain ⟨od, rfl⟩ := Int.eq_ofNat_of_zero_le (show 0 ≤ od by omega)
  obtain ⟨nx, rfl⟩ := Int.eq_ofNat_of_zero_le (show 0 ≤ nx by omega)
  obtain ⟨t0, rfl⟩ := Int.eq_ofNat_of_zero_le l0.1
  obtain ⟨t1, rfl⟩ := Int.eq_ofNat_of_zero_le l1.1
  obtain ⟨t2, rfl⟩ := Int.eq_ofNat_of_zero_le l2.1
  obtain ⟨t3, rfl⟩ := Int.eq_ofNat_of_zero_le l3.1
  simp only [Int.toNat_natCast] at HHD
  have HNX : RowKit.Hid ((nx : Int) ≤ 9223372036854775807) := Lib.hid (by omega)
  have HB1 : RowKit.Hid (∀ x ∈ [od, nx, t0, t1, t2, t3, os.length], x ≤ 2147483647) := Lib.hid (by intro x hx; simp at hx; omega)
  have HO : RowKit.Hid (RowIs w oa (os.flatMap obV)) := Lib.hid hx0.1
  have HOO : RowKit.Hid (∀ o ∈ os, o.Is w) := Lib.hid hx0.2.1
  have HOL : RowKit.Hid (os.length ≤ 256) := Lib.hid hol
  have HLA : RowKit.Hid ([od, nx, t0, t1, t2, t3, os.length].length = 7) := Lib.hid rfl
  have HLB : RowKit.Hid (7 ≤ 1000) := Lib.hid (by decide)
  have HC1 : RowKit.Hid ([Value.int .i64 (od : Int), Value.int .i64 (nx : Int), Value.int .i64 (t0 : Int), Value.int .i64 (t1 : Int), Value.int .i64 (t2 : Int), Value.int .i64 (t3 : Int), Value.int .i64 (os.length : Int)] = [od, nx, t0, t1, t2, t3, os.length].flatMap natV) := Lib.hid rfl
  have HZ : RowKit.Hid (bn4 [od, nx, t0, t1, t2, t3, os.length] = hd) := Lib.hid (by rw [HHD.out, ← bn4_app, ← bn4_app]; rfl)
  clear hfr hod hnx hnx2 hol l0 l1 l2 l3 hxr hb hx0 hhd
  simp only [hvL]
  go_enter Try.func14, Try.ntmps14
  go_wp2_with (first | (go_at_call 34; (with_reducible refine (right05_L od oa os oc nx t0 t1 t2 t3 fa fs fc _ HB.out HSS.out HNX.out _ (HIS.out.below hp.below)).mono ?_); rintro e w1 ⟨rfl, hb⟩; replace hp := hp.call hb; clear hb) | (go_at_call 35; (with_reducible refine (nums_b1 [od, nx, t0, t1, t2, t3, os.length] 7 HLA.out HLB.out HB1.out HC1.out hp).mono ?_); clear hp; rintro e w1 ⟨a1, m1, c1, R1, rfl, hm1, hr1, hp⟩; have HM1 := Lib.hid hm1; have HR1 := Lib.hid hr1; clear hm1 hr1) | go_skip | ((first | ((with_reducible refine pre_alloc _ rfl ?_); refine lZ hp rfl zero60 ?_; clear hp; intro b w1 hp) | ((with_reducible refine pre_box _ _ rfl ?_); refine lB hp rfl (sTm rfl) rfl ?_; clear hp; intro b w1 hp) | ((with_reducible refine pre_load _ _ rfl ?_); first | refine lO hp rfl (sTm rfl) ceGQ0 aa5 ?_ | refine lA hp rfl (sTm rfl) (by with_reducible first | exact agg26 | exact agg60) aa5 ?_) | ((with_reducible refine pre_store _ _ _ rfl ?_); (first | refine sO hp rfl (sTm rfl) ceGQ0 aa5 ?_ | refine sA hp rfl (sTm rfl) (sTm rfl) (by with_reducible first | exact agg26 | exact agg60) aa5 ?_ | refine sG hp rfl (sTm rfl) (sTm rfl) (by with_reducible first | exact agg26 | exact agg60) aa5 ?_); clear hp; intro w1 hp; simp only [spl, zSet, sSet] at hp) | ((with_reducible refine pre_build _ _ _ rfl ?_); refine lS hp rfl (by intro w; go_simp; rfl) ?_; clear hp; intro b w1 hp; simp only [List.length_cons, List.length_nil, Nat.reduceAdd] at hp)); simp only [put_some, put_none, sSet, zSet]))
  obtain ⟨bh, rfl⟩ := hp.id0
  go_loopg [4, 5] os.length (fun k v i wr => ∃ (q m : Nat) (a : Option Addr) (c : Nat) (R M : List Blk), k + q = os.length ∧ i = .int .i64 q ∧ v = .slice a m c ∧ RowKit.Hid ((hd ++ (os.take q).flatMap obB).length = m) ∧ RowKit.Hid (SubRow 5 1 (.slice a m c) m ((hd ++ (os.take q).flatMap obB).flatMap byV) R) ∧ Hp w.heap.size w wr (⟨bh, [.int .i64 od, .slice oa os.length oc, .int .i64 nx, .int .i64 t0, .int .i64 t1, .int .i64 t2, .int .i64 t3, .slice fa fs.length fc], 26, 8⟩ :: (R ++ M)))
  case atStart => exact ⟨0, m1, a1, c1, R1, [], by omega, rfl, rfl, Lib.hid (by rw [← HZ.out]; simpa using HM1.out), Lib.hid (by rw [← HZ.out]; simpa using HR1.out), hp⟩
  case round =>
    clear hp HM1 HR1 HZ HLA HLB HC1 HB1
    obtain ⟨q, m, a, c, R, M, hkq, rfl, rfl, HM, HR, hp⟩ := hrel
    by_cases hlt : q < os.length
    · obtain ⟨bq, off, rfl, hx⟩ := HO.out.elems 5 obV_len (by omega) (by omega)
      have hj := List.getElem?_eq_getElem hlt
      replace hx := hx q _ hj
      have hmem := List.getElem_mem hlt
      obtain ⟨hw1, hw2⟩ := HOO.out _ hmem
      have hlay := HLAY.out _ hmem
      have htk : (os.take (q + 1)).flatMap obB = (os.take q).flatMap obB ++ obB os[q] := by rw [List.take_add_one, hj, List.flatMap_append]; simp
      have hlen := obsB_len (l := os.take q) (fun o ho => HLAY.out o (List.mem_of_mem_take ho))
      rw [List.length_take, Nat.min_eq_left (by omega)] at hlen
      have hm : m ≤ 28 + q * 336 := by rw [← HM.out, List.length_append, HHL.out]; omega
      have hol := HOL.out
      clear hmem hj hlen
      generalize os[q] = x at hx hw1 hw2 hlay htk
      obtain ⟨xh, xp, xo, wa, ws, wc, la, ls, lc⟩ := x
      obtain ⟨g1, g2, g3, g4, g5, g6, g7⟩ := hlay
      simp only at hx hw1 hw2 g1 g2 g3 g4 g5 g6 g7
      obtain ⟨xh, rfl⟩ := Int.eq_ofNat_of_zero_le g1
      obtain ⟨xp, rfl⟩ := Int.eq_ofNat_of_zero_le g3
      simp only [obV] at hx
      rw [show obB ⟨xh, xp, xo, wa, ws, wc, la, ls, lc⟩ = bn4 [xh, xp, ws.length, ls.length] ++ (bi8 ws ++ bn4 (ls.map Int.toNat)) by simp only [obB, Int.toNat_natCast]] at htk
      have hq6 : q < 256 := by omega
      generalize hbase : hd ++ (os.take q).flatMap obB = base at HM HR
      have HTK : RowKit.Hid (hd ++ (os.take (q + 1)).flatMap obB = base ++ (bn4 [xh, xp, ws.length, ls.length] ++ (bi8 ws ++ bn4 (ls.map Int.toNat)))) := Lib.hid (by rw [htk, ← hbase, List.append_assoc])
      have HX := Lib.hid hx
      have HSW : RowKit.Hid (RowIs w wa (ws.flatMap iV)) := Lib.hid hw1
      have HSL : RowKit.Hid (RowIs w la ((ls.map Int.toNat).flatMap natV)) := Lib.hid (by rw [nat_row (fun t ht => (g7 t ht).1)]; exact hw2)
      have HLA : RowKit.Hid ([xh, xp, ws.length, ls.length].length = 4) := Lib.hid rfl
      have HLB : RowKit.Hid (4 ≤ 1000) := Lib.hid (by decide)
      have HB4 : RowKit.Hid (∀ x ∈ [xh, xp, ws.length, ls.length], x ≤ 2147483647) := Lib.hid (by intro x hx; simp at hx; omega)
      have HC4 : RowKit.Hid ([Value.int .i64 (xh : Int), Value.int .i64 (xp : Int), Value.int .i64 (ws.length : Int), Value.int .i64 (ls.length : Int)] = [xh, xp, ws.length, ls.length].flatMap natV) := Lib.hid rfl
      have HL6 : RowKit.Hid (ls.length ≤ 1000) := Lib.hid (by omega)
      have HLN : RowKit.Hid ((ls.map Int.toNat).length = ls.length) := Lib.hid (List.length_map ..)
      have HB6 : RowKit.Hid (∀ x ∈ ls.map Int.toNat, x ≤ 2147483647) := Lib.hid (by intro x hx; obtain ⟨t, ht, rfl⟩ := List.mem_map.1 hx; have := g7 t ht; omega)
      have HLW : RowKit.Hid (ws.length ≤ 32 ∧ ls.length ≤ 16 ∧ m ≤ 90000) := Lib.hid ⟨g5, g6, by omega⟩
      have HMB : RowKit.Hid (m ≤ 100000 ∧ (bn4 [xh, xp, ws.length, ls.length]).length = 16) := Lib.hid ⟨by omega, by rw [bn4_len]; rfl⟩
      have e1 : (0 : Int) ≤ (q : Int) := by omega
      have e2 : (q : Int) < (os.length : Int) := by omega
      clear hx hw1 hw2 g1 g2 g3 g4 g6 g7 htk hm hol hbase
      go_wp2_with (first | (go_at_call 35; (with_reducible refine (nums_b2 [xh, xp, ws.length, ls.length] 4 HLA.out HLB.out HB4.out HC4.out hp).mono ?_); clear hp; rintro e w1 ⟨a2, m2, c2, R2, rfl, hm2, hr2, hp⟩; have HM2 := Lib.hid hm2; have HR2 := Lib.hid hr2; clear hm2 hr2) | ((with_reducible refine pre_append2 _ _ 31 31 rfl ?_); refine wpList_appendSub (K := [_, _]) (R := R) hp _ _ _ _ rfl wy 5 i0 _ 1 1 Try.underlying31 hi0 hz0 hz1 hz2 rfl _ _ _ (sTm rfl) HR.out _ (sTm rfl) m2 _ (Src.ofRow Try.underlying31 (by decide) a2 m2 c2 _ (by rw [flat_len byV 1 byV_len, HM2.out]) (HR2.out.keptS.at hp (fun p hm => by simp [hm])) (by_one _)) (by have := HM2.out; have := HMB.out; unfold maxLen; omega) (by have := HM2.out; have := HMB.out; omega) ?_; clear hp; intro v' R' w1 hR' hp; obtain ⟨a', c', rfl, _⟩ := hR'.kept; have HR' := Lib.hid hR'; clear hR'; simp only [List.cons_append, List.nil_append] at hp; simp only [put_some, put_none, sSet, zSet]) | go_skip | ((first | ((with_reducible refine pre_alloc _ rfl ?_); refine lZ hp rfl zero60 ?_; clear hp; intro b w1 hp) | ((with_reducible refine pre_box _ _ rfl ?_); refine lB hp rfl (sTm rfl) rfl ?_; clear hp; intro b w1 hp) | ((with_reducible refine pre_load _ _ rfl ?_); first | refine lO hp rfl (sTm rfl) ceGQ0 aa5 ?_ | refine lA hp rfl (sTm rfl) (by with_reducible first | exact agg26 | exact agg60) aa5 ?_ | refine lR hp rfl (sTm rfl) (by with_reducible first | exact agg26 | exact agg60) HX.out ?_) | ((with_reducible refine pre_store _ _ _ rfl ?_); (first | refine sO hp rfl (sTm rfl) ceGQ0 aa5 ?_ | refine sA hp rfl (sTm rfl) (sTm rfl) (by with_reducible first | exact agg26 | exact agg60) aa5 ?_ | refine sG hp rfl (sTm rfl) (sTm rfl) (by with_reducible first | exact agg26 | exact agg60) aa5 ?_); clear hp; intro w1 hp; simp only [spl, zSet, sSet] at hp) | ((with_reducible refine pre_build _ _ _ rfl ?_); refine lS hp rfl (by intro w; go_simp; rfl) ?_; clear hp; intro b w1 hp; simp only [List.length_cons, List.length_nil, Nat.reduceAdd] at hp)); simp only [put_some, put_none, sSet, zSet]))
      obtain ⟨bo, rfl⟩ := hp.id0
      have hm2 : m2 = 16 := by rw [← HM2.out, HMB.out.2]
      subst hm2
      have HRA := HR'
      clear HR HR2 HM2 HR' HMB e1 e2
      go_loopg [4, 8] ws.length (fun k v i wr => ∃ (j n : Nat) (a : Option Addr) (c : Nat) (R M : List Blk), k + j = ws.length ∧ i = .int .i64 j ∧ v = .slice a n c ∧ RowKit.Hid (n = m + 16 + 8 * j) ∧ RowKit.Hid (SubRow 5 1 (.slice a n c) n ((base ++ (bn4 [xh, xp, ws.length, ls.length] ++ bi8 (ws.take j))).flatMap byV) R) ∧ Hp w.heap.size w wr (⟨bo, [.int .i64 xh, .int .i64 xp, .int .i64 xo, .slice wa ws.length wc, .slice la ls.length lc], 60, 5⟩ :: ⟨bh, [.int .i64 od, .slice (some ⟨bq, off, none⟩) os.length oc, .int .i64 nx, .int .i64 t0, .int .i64 t1, .int .i64 t2, .int .i64 t3, .slice fa fs.length fc], 26, 8⟩ :: (R ++ M)))
      case atStart => exact ⟨0, m + 16, a', c', R', _, by omega, rfl, rfl, Lib.hid (by omega), Lib.hid (by simp only [List.take_zero, bi8, List.flatMap_nil, List.append_nil]; rw [List.flatMap_append]; exact HRA.out), hp⟩
      case round =>
        clear hp HRA
        obtain ⟨j, n, a, c, R, M, hkj, rfl, rfl, HN, HR, hp⟩ := hrel
        by_cases hlj : j < ws.length
        · have hj := List.getElem?_eq_getElem hlj
          generalize ws[j] = x at hj
          have hiv : (ws.flatMap iV)[j]? = some (.int .i64 x) := by rw [ints_map, List.getElem?_map, hj]; rfl
          obtain ⟨bw, ofw, rfl, hcx⟩ := row_cell HSW.out hiv
          have HXJ := Lib.hid hcx
          have HT : RowKit.Hid (bi8 (ws.take (j + 1)) = bi8 (ws.take j) ++ beS 8 (uN x)) := Lib.hid (by unfold bi8; rw [List.take_add_one, hj, List.flatMap_append]; simp)
          have HMB : RowKit.Hid (n ≤ 100000 ∧ (beS 8 (uN x)).length = 8) := Lib.hid ⟨by have := HLW.out; have := HN.out; omega, beS_len 8 _⟩
          clear hj hiv hcx
          have e1 : (0 : Int) ≤ (j : Int) := by omega
          have e2 : (j : Int) < (ws.length : Int) := by omega
          go_wp2_with (first | (go_at_call 36; (with_reducible refine (eight_r x hp).mono ?_); clear hp; rintro e w1 ⟨a2, m2, c2, R2, rfl, hm2, hr2, hp⟩; have HM2 := Lib.hid hm2; have HR2 := Lib.hid hr2; clear hm2 hr2) | ((with_reducible refine pre_load 3 _ rfl ?_); refine lRO (Hp.start _) rfl (sTm rfl) cell3 ((HXJ.out.below hp.below).now) ?_; simp only [put_some, put_none, sSet, zSet]) | ((with_reducible refine pre_append2 _ _ 31 31 rfl ?_); refine wpList_appendSub (K := [_, _]) (R := R) hp _ _ _ _ rfl wy 5 i0 _ 1 1 Try.underlying31 hi0 hz0 hz1 hz2 rfl _ _ _ (sTm rfl) HR.out _ (sTm rfl) m2 _ (Src.ofRow Try.underlying31 (by decide) a2 m2 c2 _ (by rw [flat_len byV 1 byV_len, HM2.out]) (HR2.out.keptS.at hp (fun p hm => by simp [hm])) (by_one _)) (by have := HM2.out; have := HMB.out; unfold maxLen; omega) (by have := HM2.out; have := HMB.out; omega) ?_; clear hp; intro v' R' w1 hR' hp; obtain ⟨a', c', rfl, _⟩ := hR'.kept; have HR' := Lib.hid hR'; clear hR'; simp only [List.cons_append, List.nil_append] at hp; simp only [put_some, put_none, sSet, zSet]) | go_skip | ((first | ((with_reducible refine pre_alloc _ rfl ?_); refine lZ hp rfl zero60 ?_; clear hp; intro b w1 hp) | ((with_reducible refine pre_box _ _ rfl ?_); refine lB hp rfl (sTm rfl) rfl ?_; clear hp; intro b w1 hp) | ((with_reducible refine pre_load _ _ rfl ?_); first | refine lO hp rfl (sTm rfl) ceGQ0 aa5 ?_ | refine lA hp rfl (sTm rfl) (by with_reducible first | exact agg26 | exact agg60) aa5 ?_) | ((with_reducible refine pre_store _ _ _ rfl ?_); (first | refine sO hp rfl (sTm rfl) ceGQ0 aa5 ?_ | refine sA hp rfl (sTm rfl) (sTm rfl) (by with_reducible first | exact agg26 | exact agg60) aa5 ?_ | refine sG hp rfl (sTm rfl) (sTm rfl) (by with_reducible first | exact agg26 | exact agg60) aa5 ?_); clear hp; intro w1 hp; simp only [spl, zSet, sSet] at hp) | ((with_reducible refine pre_build _ _ _ rfl ?_); refine lS hp rfl (by intro w; go_simp; rfl) ?_; clear hp; intro b w1 hp; simp only [List.length_cons, List.length_nil, Nat.reduceAdd] at hp)); simp only [put_some, put_none, sSet, zSet]))
          go_roundg (gk - 1)
          case measure => omega
          case rel => exact ⟨j + 1, n + m2, a', c', R', _, by omega, by go_num, rfl, Lib.hid (by have := HM2.out; have := HMB.out; have := HN.out; omega), Lib.hid (by rw [HT.out, ← List.append_assoc, ← List.append_assoc, List.flatMap_append, List.append_assoc base]; exact HR'.out), hp⟩
        · obtain rfl : j = ws.length := by omega
          have e2 : decide ((ws.length : Int) < (ws.length : Int)) = false := by simp
          have hr := HR.out
          rw [List.take_length] at hr
          have HRT := Lib.hid hr
          clear HR hr hkj hlj
          have HR := HRT
          have HMB : RowKit.Hid (n ≤ 90272 ∧ (bn4 (ls.map Int.toNat)).length ≤ 64) := Lib.hid ⟨by have := HLW.out; have := HN.out; omega, by rw [bn4_len, List.length_map]; have := HLW.out; omega⟩
          go_wp2_with (first | (go_at_call 35; (with_reducible refine (nums_r (ls.map Int.toNat) ls.length HLN.out HL6.out HB6.out la lc (HSL.out.below hp.below) hp).mono ?_); clear hp; rintro e w1 ⟨a2, m2, c2, R2, rfl, hm2, hr2, hp⟩; have HM2 := Lib.hid hm2; have HR2 := Lib.hid hr2; clear hm2 hr2) | ((with_reducible refine pre_append2 _ _ 31 31 rfl ?_); refine wpList_appendSub (K := [_, _]) (R := R) hp _ _ _ _ rfl wy 5 i0 _ 1 1 Try.underlying31 hi0 hz0 hz1 hz2 rfl _ _ _ (sTm rfl) HR.out _ (sTm rfl) m2 _ (Src.ofRow Try.underlying31 (by decide) a2 m2 c2 _ (by rw [flat_len byV 1 byV_len, HM2.out]) (HR2.out.keptS.at hp (fun p hm => by simp [hm])) (by_one _)) (by have := HM2.out; have := HMB.out; unfold maxLen; omega) (by have := HM2.out; have := HMB.out; omega) ?_; clear hp; intro v' R' w1 hR' hp; obtain ⟨a', c', rfl, _⟩ := hR'.kept; have HR' := Lib.hid hR'; clear hR'; simp only [List.cons_append, List.nil_append] at hp; simp only [put_some, put_none, sSet, zSet]) | go_skip | ((first | ((with_reducible refine pre_alloc _ rfl ?_); refine lZ hp rfl zero60 ?_; clear hp; intro b w1 hp) | ((with_reducible refine pre_box _ _ rfl ?_); refine lB hp rfl (sTm rfl) rfl ?_; clear hp; intro b w1 hp) | ((with_reducible refine pre_load _ _ rfl ?_); first | refine lO hp rfl (sTm rfl) ceGQ0 aa5 ?_ | refine lA hp rfl (sTm rfl) (by with_reducible first | exact agg26 | exact agg60) aa5 ?_) | ((with_reducible refine pre_store _ _ _ rfl ?_); (first | refine sO hp rfl (sTm rfl) ceGQ0 aa5 ?_ | refine sA hp rfl (sTm rfl) (sTm rfl) (by with_reducible first | exact agg26 | exact agg60) aa5 ?_ | refine sG hp rfl (sTm rfl) (sTm rfl) (by with_reducible first | exact agg26 | exact agg60) aa5 ?_); clear hp; intro w1 hp; simp only [spl, zSet, sSet] at hp) | ((with_reducible refine pre_build _ _ _ rfl ?_); refine lS hp rfl (by intro w; go_simp; rfl) ?_; clear hp; intro b w1 hp; simp only [List.length_cons, List.length_nil, Nat.reduceAdd] at hp)); simp only [put_some, put_none, sSet, zSet]))
          go_roundg (os.length - (q + 1))
          case measure => omega
          case rel => exact ⟨q + 1, n + m2, a', c', R', _, by omega, by go_num, rfl, Lib.hid (by rw [HTK.out, List.length_append, List.length_append, List.length_append, HM.out, bi8_len, HM2.out, bn4_len, HN.out]; simp only [List.length_cons, List.length_nil]; omega), Lib.hid (by rw [HTK.out]; have h := HR'.out; rw [← List.flatMap_append] at h; simpa only [List.append_assoc] using h), hp.tail⟩
    · obtain rfl : q = os.length := by omega
      have e2 : decide ((os.length : Int) < (os.length : Int)) = false := by simp
      have hys := HM.out
      have hrr := HR.out
      rw [List.take_length, ← HRES.out] at hys hrr
      have HYS := Lib.hid hys
      have HRR := Lib.hid hrr
      clear hkq hlt HM HR hys hrr
      go_wp2_with (first | go_skip | ((first | ((with_reducible refine pre_alloc _ rfl ?_); refine lZ hp rfl zero60 ?_; clear hp; intro b w1 hp) | ((with_reducible refine pre_box _ _ rfl ?_); refine lB hp rfl (sTm rfl) rfl ?_; clear hp; intro b w1 hp) | ((with_reducible refine pre_load _ _ rfl ?_); first | refine lO hp rfl (sTm rfl) ceGQ0 aa5 ?_ | refine lA hp rfl (sTm rfl) (by with_reducible first | exact agg26 | exact agg60) aa5 ?_) | ((with_reducible refine pre_store _ _ _ rfl ?_); (first | refine sO hp rfl (sTm rfl) ceGQ0 aa5 ?_ | refine sA hp rfl (sTm rfl) (sTm rfl) (by with_reducible first | exact agg26 | exact agg60) aa5 ?_ | refine sG hp rfl (sTm rfl) (sTm rfl) (by with_reducible first | exact agg26 | exact agg60) aa5 ?_); clear hp; intro w1 hp; simp only [spl, zSet, sSet] at hp) | ((with_reducible refine pre_build _ _ _ rfl ?_); refine lS hp rfl (by intro w; go_simp; rfl) ?_; clear hp; intro b w1 hp; simp only [List.length_cons, List.length_nil, Nat.reduceAdd] at hp)); simp only [put_some, put_none, sSet, zSet]))
      go_ret2
      have hmm := HYS.out
      subst hmm
      exact ⟨a, c, R, rfl, HRR.out, hp.tail.sub (List.sublist_append_left _ _)⟩
end Go.Proofs.Ytaafajaadfgaoaa
/- Heaps that are laid and read, by their parts; the chapter's examples of heaps. -/
namespace Go.Proofs.Ytaafajaadfgaoaa
open Go.RowKit
theorem ceXH0 {ty : TypeId} (h : cellB Try.prog ty = true := by with_reducible first | exact cell3 | exact cell4 | exact cell32 | exact cell31 | exact cell24) : cellB Try.prog ty = true := h
theorem RowIs.fixC {w : World} {b off : Nat} {xs : List Value} (h : RowIs w (some ⟨b, off, none⟩) xs) : ∀ j v, xs[j]? = some v → w.cell? ⟨b, off + j, none⟩ = some v := fun j v hj => by
  obtain ⟨b', off', he, hc⟩ := h j v hj
  injection he with he; injection he with e1 e2; subst e1; subst e2; exact hc
theorem obsB_sm {l k : List Ob} (h : ObsSm l k) : l.flatMap obB = k.flatMap obB := by
  have : l.map obB = k.map obB := by
    apply List.ext_getElem?
    intro i
    rw [List.getElem?_map, List.getElem?_map]
    rcases Nat.lt_or_ge i l.length with hi | hi
    · have ha := List.getElem?_eq_getElem hi
      have hb := List.getElem?_eq_getElem (l := k) (i := i) (by have := h.1; omega)
      obtain ⟨h1, h2, h3, h4, h5⟩ := h.2 i _ _ ha hb
      rw [ha, hb]
      simp only [Option.map_some, obB, h1, h2, h4, h5]
    · rw [List.getElem?_eq_none hi, List.getElem?_eq_none (by have := h.1; omega)]
  rw [List.flatMap_def, List.flatMap_def, this]
theorem heapB_sm {x y : Hv} (h : x.Sm y) : heapB x = heapB y := by
  unfold heapB headB
  rw [h.od, h.nx, h.t0, h.t1, h.t2, h.t3, obsB_sm h.os, h.os.1]
def GotH (w : World) (x : Hv) (e : Ending) (w' : World) : Prop := ∃ od oa os oc nx t0 t1 t2 t3 fa fs fc R, e = .returned (.tuple #[.agg #[.int .i64 od, .slice oa (List.length os) oc, .int .i64 nx, .int .i64 t0, .int .i64 t1, .int .i64 t2, .int .i64 t3, .slice fa (List.length fs) fc], .int .i64 0]) ∧ Hv.Sm ⟨od, oa, os, oc, nx, t0, t1, t2, t3, fa, fs, fc⟩ x ∧ HvO ⟨od, oa, os, oc, nx, t0, t1, t2, t3, fa, fs, fc⟩ R ∧ Hp w.heap.size w w' R
theorem HvO.kept {y : Hv} {R : List Blk} (h : HvO y R) : Kept R fun w => y.Is w := by
  obtain ⟨RO, RF, M, rfl, h⟩ := h
  exact h.kept
theorem geth_yes (bs : List Nat) (x : Hv) (hr : heapR bs = some x) (a : Option Addr) (n c : Nat) (hn : bs.length = n) (hnc : n ≤ c) (w : World) (ha : RdAt w a bs) : Calls Try.prog 11 #[.slice a n c] w (GotH w x) := by
  subst hn
  refine (geth11 bs a c hnc w ha).mono fun e w' h => ?_
  rw [hr] at h
  obtain ⟨y, R, h1, h2, h3, h4⟩ := h
  obtain ⟨od, oa, os, oc, nx, t0, t1, t2, t3, fa, fs, fc⟩ := y
  exact ⟨od, oa, os, oc, nx, t0, t1, t2, t3, fa, fs, fc, R, h1, h2, h3, h4⟩
theorem geth_no (bs : List Nat) (hr : heapR bs = none) (a : Option Addr) (n c : Nat) (hn : bs.length = n) (hnc : n ≤ c) (w : World) (ha : RdAt w a bs) : Calls Try.prog 11 #[.slice a n c] w fun e w' => e = .returned (.tuple #[.agg #[.int .i64 0, .slice none 0 0, .int .i64 0, .int .i64 0, .int .i64 0, .int .i64 0, .int .i64 0, .slice none 0 0], .int .i64 60]) ∧ Below w.heap.size w w' := by
  subst hn
  refine (geth11 bs a c hnc w ha).mono fun e w' h => ?_
  rw [hr] at h
  exact h
theorem heapR_nil : heapR [] = none := rfl
theorem rd_nil (w : World) : RdAt w none [] := ⟨RowIs.nil _ _, Bytes.nil⟩
theorem geth_nil (w : World) : Calls Try.prog 11 #[.slice none 0 0] w fun e w' => e = .returned (.tuple #[.agg #[.int .i64 0, .slice none 0 0, .int .i64 0, .int .i64 0, .int .i64 0, .int .i64 0, .int .i64 0, .slice none 0 0], .int .i64 60]) ∧ Below w.heap.size w w' := geth_no [] heapR_nil none 0 0 rfl (Nat.le_refl _) w (rd_nil w)
theorem SubRow.cap {e : TypeId} {c n m : Nat} {a : Option Addr} {k : Nat} {xs : List Value} {R : List Blk} (h : SubRow e c (.slice a n k) m xs R) (hn : n = m) : m ≤ k := by
  obtain ⟨a', k', hv, hk, _⟩ := h.kept
  injection hv with _ _ hk'
  omega
theorem puth_yes (od : Int) (oa : Option Addr) (os : List Ob) (oc : Nat) (nx t0 t1 t2 t3 : Int) (fa : Option Addr) (fs : List Bl) (fc : Nat) (bs : List Nat) (hbs : heapB ⟨od, oa, os, oc, nx, t0, t1, t2, t3, fa, fs, fc⟩ = bs) (hb : hrightB ⟨od, oa, os, oc, nx, t0, t1, t2, t3, fa, fs, fc⟩ = true) (w : World) (hx0 : Hv.Is w ⟨od, oa, os, oc, nx, t0, t1, t2, t3, fa, fs, fc⟩) :
    Calls Try.prog 7 #[.agg #[.int .i64 od, .slice oa os.length oc, .int .i64 nx, .int .i64 t0, .int .i64 t1, .int .i64 t2, .int .i64 t3, .slice fa fs.length fc]] w fun e w' => ∃ a c m R, e = .returned (.tuple #[.slice a m c, .int .i64 0]) ∧ bs.length = m ∧ m ≤ c ∧ SubRow 5 1 (.slice a m c) m (bs.flatMap byV) R ∧ Kept R (fun w => RdAt w a bs) ∧ Hp w.heap.size w w' R := by
  refine (puth_L od oa os oc nx t0 t1 t2 t3 fa fs fc bs hbs hb w hx0).mono fun e w' h => ?_
  obtain ⟨a, c, m, R, h1, h2, h3, h4⟩ := h
  refine ⟨a, c, m, R, h1, h2, h3.cap rfl, h3, ?_, h4⟩
  have hby : Bytes bs := by rw [← hbs]; exact heapB_bytes _
  exact h3.keptS.mono (fun _ hp => hp) fun w hw => ⟨hw, hby⟩
theorem puth_no (od : Int) (oa : Option Addr) (os : List Ob) (oc : Nat) (nx t0 t1 t2 t3 : Int) (fa : Option Addr) (fs : List Bl) (fc : Nat) (hb : hrightB ⟨od, oa, os, oc, nx, t0, t1, t2, t3, fa, fs, fc⟩ = false) (hs : Hv.Small ⟨od, oa, os, oc, nx, t0, t1, t2, t3, fa, fs, fc⟩) (w : World) (hx0 : Hv.Is w ⟨od, oa, os, oc, nx, t0, t1, t2, t3, fa, fs, fc⟩) :
    Calls Try.prog 7 #[.agg #[.int .i64 od, .slice oa os.length oc, .int .i64 nx, .int .i64 t0, .int .i64 t1, .int .i64 t2, .int .i64 t3, .slice fa fs.length fc]] w fun e w' => e = .returned (.tuple #[.slice none 0 0, .int .i64 60]) ∧ Below w.heap.size w w' := puth7_no _ hb hs w hx0
theorem puth_zero (w : World) : Calls Try.prog 7 #[.agg #[.int .i64 0, .slice none 0 0, .int .i64 0, .int .i64 0, .int .i64 0, .int .i64 0, .int .i64 0, .slice none 0 0]] w fun e w' => e = .returned (.tuple #[.slice none 0 0, .int .i64 60]) ∧ Below w.heap.size w w' :=
  puth_no 0 none [] 0 0 0 0 0 0 none [] 0 hright_zero ⟨⟨by simp, by simp⟩, by simp⟩ w ⟨RowIs.nil _ _, (fun o ho => by cases ho), RowIs.nil _ _⟩
def b28 : List Nat := [0, 0, 0, 3, 0, 0, 0, 1, 0, 0, 0, 0, 0, 0, 0, 0, 0, 0, 0, 0, 0, 0, 0, 0, 0, 0, 0, 0]
theorem heapB_one : heapB (oneHv 3) = b28 := rfl
theorem right_one3 : hrightB (oneHv 3) = true := hright_one (by decide) (by decide)
theorem heapR_one : heapR b28 = some (clearH (oneHv 3)) := by
  rw [← heapB_one]; exact heapR_put (hright_of right_one3) (fun o ho => by cases ho)
def GotK (w : World) (x : Hv) (e : Ending) (w' : World) : Prop := ∃ od oa os oc nx t0 t1 t2 t3 fa fs fc R, e = .returned (.tuple #[.agg #[.int .i64 od, .slice oa (List.length os) oc, .int .i64 nx, .int .i64 t0, .int .i64 t1, .int .i64 t2, .int .i64 t3, .slice fa (List.length fs) fc], .int .i64 0]) ∧ Hv.Sm ⟨od, oa, os, oc, nx, t0, t1, t2, t3, fa, fs, fc⟩ x ∧ Kept R (fun w => Hv.Is w ⟨od, oa, os, oc, nx, t0, t1, t2, t3, fa, fs, fc⟩) ∧ Hp w.heap.size w w' R
theorem newh_3 (w : World) : Calls Try.prog 21 #[.int .i64 3] w (GotK w (oneHv 3)) := by
  refine (newh21_yes 3 rfl w).mono fun e w' h => ?_
  obtain ⟨y, R, h1, h2, h3, h4⟩ := h
  obtain ⟨od, oa, os, oc, nx, t0, t1, t2, t3, fa, fs, fc⟩ := y
  exact ⟨od, oa, os, oc, nx, t0, t1, t2, t3, fa, fs, fc, R, h1, h2, h3, h4⟩
theorem puth_one (od : Int) (oa : Option Addr) (os : List Ob) (oc : Nat) (nx t0 t1 t2 t3 : Int) (fa : Option Addr) (fs : List Bl) (fc : Nat) (hsm : Hv.Sm ⟨od, oa, os, oc, nx, t0, t1, t2, t3, fa, fs, fc⟩ (oneHv 3)) (w : World) (hx0 : Hv.Is w ⟨od, oa, os, oc, nx, t0, t1, t2, t3, fa, fs, fc⟩) :
    Calls Try.prog 7 #[.agg #[.int .i64 od, .slice oa os.length oc, .int .i64 nx, .int .i64 t0, .int .i64 t1, .int .i64 t2, .int .i64 t3, .slice fa fs.length fc]] w fun e w' => ∃ b off c R, e = .returned (.tuple #[.slice (some ⟨b, off, none⟩) 28 c, .int .i64 0]) ∧ 28 ≤ c ∧ Kept R (fun w => RdAt w (some ⟨b, off, none⟩) b28) ∧ Hp w.heap.size w w' R := by
  refine (puth_yes od oa os oc nx t0 t1 t2 t3 fa fs fc b28 ((heapB_sm hsm).trans heapB_one) ((hright_sm hsm).trans right_one3) w hx0).mono fun e w' h => ?_
  obtain ⟨a, c, m, R, h1, h2, h3, h4, h5, h6⟩ := h
  have hm : m = 28 := h2.symm
  subst hm
  obtain ⟨b, off, rfl, _⟩ := (h5.at h6 (fun p hm => hm)).1.elems 1 byV_len (by decide) (by decide)
  exact ⟨b, off, c, R, h1, h3, h5, h6⟩
theorem geth_one (a : Option Addr) (c : Nat) (hnc : 28 ≤ c) (w : World) (ha : RdAt w a b28) : Calls Try.prog 11 #[.slice a 28 c] w fun e w' => ∃ od oa on oc t0 t1 t2 t3 fa fc R, e = .returned (.tuple #[.agg #[.int .i64 od, .slice oa on oc, .int .i64 1, .int .i64 t0, .int .i64 t1, .int .i64 t2, .int .i64 t3, .slice fa 1 fc], .int .i64 0]) ∧ Hp w.heap.size w w' R := by
  refine (geth_yes b28 _ heapR_one a 28 c rfl hnc w ha).mono fun e w' h => ?_
  obtain ⟨od, oa, os, oc, nx, t0, t1, t2, t3, fa, fs, fc, R, h1, h2, h3, h4⟩ := h
  have hnx : nx = 1 := h2.nx
  have hfs : fs = [⟨0, 3⟩] := h2.fs
  subst hnx hfs
  exact ⟨od, oa, os.length, oc, t0, t1, t2, t3, fa, fc, R, h1, h4⟩
theorem get28 {w : World} {b off : Nat} (h : RdAt w (some ⟨b, off, none⟩) b28) : w.cell? ⟨b, off + 3, none⟩ = some (.int .u8 3) ∧ w.cell? ⟨b, off + 7, none⟩ = some (.int .u8 1) := ⟨RowIs.fixC h.1 3 _ rfl, RowIs.fixC h.1 7 _ rfl⟩
set_option maxRecDepth 100000 in
set_option maxHeartbeats 8000000 in
theorem heaps9 (w : World) : Calls Try.prog 9 #[] w fun e w' => e = .returned (.bool true) ∧ Below w.heap.size w w' := by
  have hp := Hp.start w
  go_enter Try.func9, Try.ntmps9
  go_wp2_with (first | (go_at_call 21; (with_reducible refine (newh_3 _).mono ?_); rintro e w1 ⟨od, oa, os, oc, nx, t0, t1, t2, t3, fa, fs, fc, RN, rfl, hsm, hk, hpn⟩; replace hp := hp.join hpn; have HSM := Lib.hid hsm; have HK := Lib.hid hk; clear hpn hsm hk; simp only [List.cons_append, List.nil_append] at hp) | (go_at_call 7; (with_reducible refine (puth_one od oa os oc nx t0 t1 t2 t3 fa fs fc HSM.out _ (HK.out.at hp (fun p hm => by simp [hm]))).mono ?_); rintro e w1 ⟨ab, ob, cb, RB, rfl, hcb, hkb, hpn⟩; replace hp := hp.join hpn; have HCB := Lib.hid hcb; have HKB := Lib.hid hkb; clear hpn hcb hkb; simp only [List.cons_append, List.nil_append] at hp) | (go_at_call 11; (with_reducible refine (geth_one _ cb HCB.out _ (HKB.out.at hp (fun p hm => by simp [hm]))).mono ?_); rintro e w1 ⟨odX, oaX, onX, ocX, t0X, t1X, t2X, t3X, faX, fcX, RX, rfl, hpn⟩; replace hp := hp.join hpn; clear hpn; simp only [List.cons_append, List.nil_append] at hp) | (go_at_call 11; (with_reducible refine (geth_nil _).mono ?_); rintro e w1 ⟨rfl, hb⟩; replace hp := hp.call hb; clear hb) | (go_at_call 7; (with_reducible refine (puth_zero _).mono ?_); rintro e w1 ⟨rfl, hb⟩; replace hp := hp.call hb; clear hb) | ((with_reducible refine pre_load 5 _ rfl ?_); first | refine lRO (Hp.start _) rfl (sTm rfl) cell5 (get28 (HKB.out.at hp (fun p hm => by simp [hm]))).1 ?_ | refine lRO (Hp.start _) rfl (sTm rfl) cell5 (get28 (HKB.out.at hp (fun p hm => by simp [hm]))).2 ?_; simp only [put_some, put_none, sSet, zSet]) | go_skip | ((first | ((with_reducible refine pre_alloc _ rfl ?_); refine lZ hp rfl zero26 ?_; clear hp; intro b w1 hp) | ((with_reducible refine pre_box _ _ rfl ?_); refine lB hp rfl (sTm rfl) rfl ?_; clear hp; intro b w1 hp) | ((with_reducible refine pre_load _ _ rfl ?_); first | refine lO hp rfl (sTm rfl) ceXH0 aa5 ?_ | refine lA hp rfl (sTm rfl) agg26 aa5 ?_) | ((with_reducible refine pre_store _ _ _ rfl ?_); (first | refine sO hp rfl (sTm rfl) ceXH0 aa5 ?_ | refine sA hp rfl (sTm rfl) (sTm rfl) agg26 aa5 ?_ | refine sG hp rfl (sTm rfl) (sTm rfl) agg26 aa5 ?_); clear hp; intro w1 hp; simp only [spl, zSet, sSet] at hp)); simp only [put_some, put_none, sSet, zSet]))
  go_ret
  exact ⟨rfl, hp.below⟩
end Go.Proofs.Ytaafajaadfgaoaa
/- The walk of the law ImageHeaps (written by from XI). -/
namespace Go.Proofs.Ytaafajaadfgaoaa
open Go.RowKit
theorem ceXJ0 {ty : TypeId} (h : cellB Try.prog ty = true := by with_reducible first | exact cell3 | exact cell4 | exact cell32 | exact cell31) : cellB Try.prog ty = true := h
theorem own5I (odX : Int) (oaX : Option Addr) (osX : List Ob) (ocX : Nat) (nxX t0X t1X t2X t3X : Int) (faX : Option Addr) (fsX : List Bl) (fcX : Nat) (hs : Hv.Small ⟨odX, oaX, osX, ocX, nxX, t0X, t1X, t2X, t3X, faX, fsX, fcX⟩) (w : World) (hx0 : Hv.Is w ⟨odX, oaX, osX, ocX, nxX, t0X, t1X, t2X, t3X, faX, fsX, fcX⟩) : Calls Try.prog 13 #[.agg #[.int .i64 odX, .slice oaX (List.length osX) ocX, .int .i64 nxX, .int .i64 t0X, .int .i64 t1X, .int .i64 t2X, .int .i64 t3X, .slice faX (List.length fsX) fcX]] w fun e w' => ∃ od oa os oc nx t0 t1 t2 t3 fa fs fc R, e = .returned (.agg #[.int .i64 od, .slice oa (List.length os) oc, .int .i64 nx, .int .i64 t0, .int .i64 t1, .int .i64 t2, .int .i64 t3, .slice fa (List.length fs) fc]) ∧ Hv.Sm ⟨odX, oaX, osX, ocX, nxX, t0X, t1X, t2X, t3X, faX, fsX, fcX⟩ ⟨od, oa, os, oc, nx, t0, t1, t2, t3, fa, fs, fc⟩ ∧ Kept R (fun w => Hv.Is w ⟨od, oa, os, oc, nx, t0, t1, t2, t3, fa, fs, fc⟩) ∧ Hp w.heap.size w w' R :=
  (own13 _ hs w hx0).mono fun e w' ⟨⟨od, oa, os, oc, nx, t0, t1, t2, t3, fa, fs, fc⟩, R, h1, h2, h3, h4⟩ => ⟨od, oa, os, oc, nx, t0, t1, t2, t3, fa, fs, fc, R, h1, h2, h3, h4⟩
theorem geth_I (bs : List Nat) (x : Hv) (hr : heapR bs = some x) (a : Option Addr) (m c : Nat) (hm : bs.length = m) (hc : m ≤ c) (w : World) (ha : RdAt w a bs) : Calls Try.prog 11 #[.slice a m c] w fun e w' => ∃ od oa os oc nx t0 t1 t2 t3 fa fs fc R, e = .returned (.tuple #[.agg #[.int .i64 od, .slice oa (List.length os) oc, .int .i64 nx, .int .i64 t0, .int .i64 t1, .int .i64 t2, .int .i64 t3, .slice fa (List.length fs) fc], .int .i64 0]) ∧ Hv.Sm ⟨od, oa, os, oc, nx, t0, t1, t2, t3, fa, fs, fc⟩ x ∧ Kept R (fun w => Hv.Is w ⟨od, oa, os, oc, nx, t0, t1, t2, t3, fa, fs, fc⟩) ∧ Hp w.heap.size w w' R := by
  subst hm
  refine (geth11 bs a c hc w ha).mono fun e w' h => ?_
  rw [hr] at h
  obtain ⟨⟨od, oa, os, oc, nx, t0, t1, t2, t3, fa, fs, fc⟩, R, h1, h2, h3, h4⟩ := h
  exact ⟨od, oa, os, oc, nx, t0, t1, t2, t3, fa, fs, fc, R, h1, h2, h3.kept, h4⟩
theorem puth_I (odX : Int) (oaX : Option Addr) (osX : List Ob) (ocX : Nat) (nxX t0X t1X t2X t3X : Int) (faX : Option Addr) (fsX : List Bl) (fcX : Nat) (bs : List Nat) (hbs : heapB ⟨odX, oaX, osX, ocX, nxX, t0X, t1X, t2X, t3X, faX, fsX, fcX⟩ = bs) (m : Nat) (hm : bs.length = m) (hb : hrightB ⟨odX, oaX, osX, ocX, nxX, t0X, t1X, t2X, t3X, faX, fsX, fcX⟩ = true) (w : World) (hx0 : Hv.Is w ⟨odX, oaX, osX, ocX, nxX, t0X, t1X, t2X, t3X, faX, fsX, fcX⟩) : Calls Try.prog 7 #[.agg #[.int .i64 odX, .slice oaX (List.length osX) ocX, .int .i64 nxX, .int .i64 t0X, .int .i64 t1X, .int .i64 t2X, .int .i64 t3X, .slice faX (List.length fsX) fcX]] w fun e w' => ∃ a c R, e = .returned (.tuple #[.slice a m c, .int .i64 0]) ∧ m ≤ c ∧ Kept R (fun w => RdAt w a bs) ∧ Hp w.heap.size w w' R := by
  subst hm
  refine (puth_yes odX oaX osX ocX nxX t0X t1X t2X t3X faX fsX fcX bs hbs hb w hx0).mono fun e w' h => ?_
  obtain ⟨a, c, m, R, h1, h2, h3, h4, h5, h6⟩ := h
  subst h2
  exact ⟨a, c, R, h1, h3, h5, h6⟩
theorem kept_nI2 {R : List Blk} {a : Option Addr} {c : List Nat} (h : Kept R fun w => RdAt w a c) : Kept R fun w => RowIs w a ((nI c).map (Value.int .u8)) := h.mono (fun _ hp => hp) fun w hw => by rw [nI_cells]; exact hw.1
theorem puth06_Q (odX : Int) (oaX : Option Addr) (osX : List Ob) (ocX : Nat) (nxX t0X t1X t2X t3X : Int) (faX : Option Addr) (fsX : List Bl) (fcX : Nat) (bs : List Nat) (hbs : heapB ⟨odX, oaX, osX, ocX, nxX, t0X, t1X, t2X, t3X, faX, fsX, fcX⟩ = bs) (m : Nat) (hm : bs.length = m) (hb : hrightB ⟨odX, oaX, osX, ocX, nxX, t0X, t1X, t2X, t3X, faX, fsX, fcX⟩ = true) (w : World) (hx0 : Hv.Is w ⟨odX, oaX, osX, ocX, nxX, t0X, t1X, t2X, t3X, faX, fsX, fcX⟩) :
    Calls Try.prog 14 #[.agg #[.int .i64 odX, .slice oaX (List.length osX) ocX, .int .i64 nxX, .int .i64 t0X, .int .i64 t1X, .int .i64 t2X, .int .i64 t3X, .slice faX (List.length fsX) fcX]] w (PutO w bs m) := puth06_yes _ hb bs hbs m hm w hx0
set_option maxRecDepth 100000 in
set_option maxHeartbeats 16000000 in
theorem law_heaps (odX : Int) (oaX : Option Addr) (osX : List Ob) (ocX : Nat) (nxX t0X t1X t2X t3X : Int) (faX : Option Addr) (fsX : List Bl) (fcX : Nat) (w : World) (hx : Hv.Is w ⟨odX, oaX, osX, ocX, nxX, t0X, t1X, t2X, t3X, faX, fsX, fcX⟩) (hw : Hv.W64 ⟨odX, oaX, osX, ocX, nxX, t0X, t1X, t2X, t3X, faX, fsX, fcX⟩) (hnx : nxX ≤ 9223372036854775807) :
    Calls Try.prog 4 #[.agg #[.int .i64 odX, .slice oaX (List.length osX) ocX, .int .i64 nxX, .int .i64 t0X, .int .i64 t1X, .int .i64 t2X, .int .i64 t3X, .slice faX (List.length fsX) fcX]] w fun e w' => e = .returned (.bool true) ∧ Below w.heap.size w w' := by
  have hp := Hp.start w
  have HIX := Lib.hid hx
  have HWX := Lib.hid hw
  have HNX := Lib.hid hnx
  clear hx hw hnx
  go_enter Try.func4, Try.ntmps4
  go_wp2_with (first | (go_at_call 12; (with_reducible refine (big12L odX oaX osX ocX nxX t0X t1X t2X t3X faX fsX fcX _ (HIX.out.below hp.below)).mono ?_); rintro e w1 ⟨bb, rfl, hbb, hb⟩; replace hp := hp.call hb; clear hb; cases bb) | go_skip | ((first | ((with_reducible refine pre_alloc _ rfl ?_); refine lZ hp rfl zero26 ?_; clear hp; intro b w1 hp) | ((with_reducible refine pre_box _ _ rfl ?_); refine lB hp rfl (sTm rfl) rfl ?_; clear hp; intro b w1 hp) | ((with_reducible refine pre_load _ _ rfl ?_); first | refine lO hp rfl (sTm rfl) ceXJ0 aa14 ?_ | refine lA hp rfl (sTm rfl) agg26 aa14 ?_) | ((with_reducible refine pre_store _ _ _ rfl ?_); (first | refine sO hp rfl (sTm rfl) ceXJ0 aa14 ?_ | refine sA hp rfl (sTm rfl) (sTm rfl) agg26 aa14 ?_ | refine sG hp rfl (sTm rfl) (sTm rfl) agg26 aa14 ?_); clear hp; intro w1 hp; simp only [spl, zSet, sSet] at hp)); simp only [put_some, put_none, sSet, zSet]))
  · have HSX := Lib.hid (hbb (by first | rfl | trivial))
    clear hbb
    cases hbX : hrightB ⟨odX, oaX, osX, ocX, nxX, t0X, t1X, t2X, t3X, faX, fsX, fcX⟩ with
    | false =>
      have HBX := Lib.hid hbX
      clear hbX
      obtain ⟨ix, hix⟩ : ∃ ix, strOfNums [] = ix := ⟨_, rfl⟩
      have HIX2 := Lib.hid hix
      have e9 : (ix.toList == ix.toList) = true := beq_self_eq_true _
      clear hix
      go_wp2_with (first | (go_at_call 13; (with_reducible refine (own5I odX oaX osX ocX nxX t0X t1X t2X t3X faX fsX fcX HSX.out _ (HIX.out.below hp.below)).mono ?_); rintro e w1 ⟨odO, oaO, osO, ocO, nxO, t0O, t1O, t2O, t3O, faO, fsO, fcO, RO, rfl, hsm, hk, hpn⟩; replace hp := hp.join hpn; have HOM := Lib.hid hsm; have HOK := Lib.hid hk; clear hpn hsm hk; simp only [List.cons_append, List.nil_append, List.append_assoc] at hp) | go_skip | ((first | ((with_reducible refine pre_alloc _ rfl ?_); refine lZ hp rfl zero26 ?_; clear hp; intro b w1 hp) | ((with_reducible refine pre_box _ _ rfl ?_); refine lB hp rfl (sTm rfl) rfl ?_; clear hp; intro b w1 hp) | ((with_reducible refine pre_load _ _ rfl ?_); first | refine lO hp rfl (sTm rfl) ceXJ0 aa14 ?_ | refine lA hp rfl (sTm rfl) agg26 aa14 ?_) | ((with_reducible refine pre_store _ _ _ rfl ?_); (first | refine sO hp rfl (sTm rfl) ceXJ0 aa14 ?_ | refine sA hp rfl (sTm rfl) (sTm rfl) agg26 aa14 ?_ | refine sG hp rfl (sTm rfl) (sTm rfl) agg26 aa14 ?_); clear hp; intro w1 hp; simp only [spl, zSet, sSet] at hp)); simp only [put_some, put_none, sSet, zSet]))
      have HBO : RowKit.Hid (hrightB ⟨odO, oaO, osO, ocO, nxO, t0O, t1O, t2O, t3O, faO, fsO, fcO⟩ = false) := Lib.hid (by rw [← hright_sm HOM.out]; exact HBX.out)
      have HSO : RowKit.Hid (Hv.Small ⟨odO, oaO, osO, ocO, nxO, t0O, t1O, t2O, t3O, faO, fsO, fcO⟩) := Lib.hid (HSX.out.sm HOM.out)
      have HNO : RowKit.Hid (nxO ≤ 9223372036854775807) := Lib.hid (by have h1 := HOM.out.nx; have h2 := HNX.out; simp only at h1; omega)
      go_wp2_with (first | (go_at_call 7; (with_reducible refine (puth_no odX oaX osX ocX nxX t0X t1X t2X t3X faX fsX fcX HBX.out HSX.out _ (HIX.out.below hp.below)).mono ?_); rintro e w1 ⟨rfl, hb⟩; replace hp := hp.call hb; clear hb) | (go_at_call 14; (with_reducible refine (puth06_no odO oaO osO ocO nxO t0O t1O t2O t3O faO fsO fcO HBO.out HSO.out HNO.out _ (HOK.out.at hp (fun p hm => by simp [hm]))).mono ?_); rintro e w1 ⟨rfl, hb⟩; replace hp := hp.call hb; clear hb) | ((with_reducible refine pre_convert _ _ _ rfl ?_); refine wpList_conv_row 31 9 5 _ rfl wy Try.underlying31 Try.underlying5 Try.underlying9 none 0 0 (sTm rfl) [] rfl (RowIs.nil _ _) ?_; rw [HIX2.out]; simp only [put_some, put_none, sSet, zSet]) | (go_at_call 15; (with_reducible refine (same15L odX oaX osX ocX nxX t0X t1X t2X t3X faX fsX fcX odO oaO osO ocO nxO t0O t1O t2O t3O faO fsO fcO HSX.out HOM.out _ (HIX.out.below hp.below) (HOK.out.at hp (fun p hm => by simp [hm]))).mono ?_); rintro e w1 ⟨rfl, hb⟩; replace hp := hp.call hb; clear hb) | (go_at_call 9; (with_reducible refine (heaps9 _).mono ?_); rintro e w1 ⟨rfl, hb⟩; replace hp := hp.call hb; clear hb) | go_skip | ((first | ((with_reducible refine pre_alloc _ rfl ?_); refine lZ hp rfl zero26 ?_; clear hp; intro b w1 hp) | ((with_reducible refine pre_box _ _ rfl ?_); refine lB hp rfl (sTm rfl) rfl ?_; clear hp; intro b w1 hp) | ((with_reducible refine pre_load _ _ rfl ?_); first | refine lO hp rfl (sTm rfl) ceXJ0 aa14 ?_ | refine lA hp rfl (sTm rfl) agg26 aa14 ?_) | ((with_reducible refine pre_store _ _ _ rfl ?_); (first | refine sO hp rfl (sTm rfl) ceXJ0 aa14 ?_ | refine sA hp rfl (sTm rfl) (sTm rfl) agg26 aa14 ?_ | refine sG hp rfl (sTm rfl) (sTm rfl) agg26 aa14 ?_); clear hp; intro w1 hp; simp only [spl, zSet, sSet] at hp)); simp only [put_some, put_none, sSet, zSet]))
      go_ret
      exact ⟨rfl, hp.below⟩
    | true =>
      have HBX := Lib.hid hbX
      have hst := hright_of hbX
      have hsl := heapB_len hst
      have hge := heapR_put hst HWX.out
      obtain ⟨ss, hss⟩ : ∃ ss, heapB ⟨odX, oaX, osX, ocX, nxX, t0X, t1X, t2X, t3X, faX, fsX, fcX⟩ = ss := ⟨_, rfl⟩
      obtain ⟨mh, hmh⟩ : ∃ mh, ss.length = mh := ⟨_, rfl⟩
      obtain ⟨ix, hix⟩ : ∃ ix, strOfNums (nI ss) = ix := ⟨_, rfl⟩
      rw [hss] at hsl hge
      have HPX := Lib.hid hss
      have HGE := Lib.hid hge
      have HIX2 := Lib.hid hix
      have HMS := Lib.hid hmh
      have HNI : RowKit.Hid ((nI ss).length = mh) := Lib.hid (by rw [nI_len]; exact hmh)
      have HMB : RowKit.Hid (mh ≤ 1000000000) := Lib.hid (by omega)
      have e9 : (ix.toList == ix.toList) = true := beq_self_eq_true _
      have HQZ : RowKit.Hid (∀ y : Hv, y.Sm (clearH ⟨odX, oaX, osX, ocX, nxX, t0X, t1X, t2X, t3X, faX, fsX, fcX⟩) → y.Small ∧ y.Sm ⟨odX, oaX, osX, ocX, nxX, t0X, t1X, t2X, t3X, faX, fsX, fcX⟩) := Lib.hid (fun y h => by
        have h2 := h.trans (clearH_sm _)
        exact ⟨HSX.out.sm h2.symm, h2⟩)
      clear hbX hst hsl hge hss hmh hix
      go_wp2_with (first | (go_at_call 13; (with_reducible refine (own5I odX oaX osX ocX nxX t0X t1X t2X t3X faX fsX fcX HSX.out _ (HIX.out.below hp.below)).mono ?_); rintro e w1 ⟨odO, oaO, osO, ocO, nxO, t0O, t1O, t2O, t3O, faO, fsO, fcO, RO, rfl, hsm, hk, hpn⟩; replace hp := hp.join hpn; have HOM := Lib.hid hsm; have HOK := Lib.hid hk; clear hpn hsm hk; simp only [List.cons_append, List.nil_append, List.append_assoc] at hp) | go_skip | ((first | ((with_reducible refine pre_alloc _ rfl ?_); refine lZ hp rfl zero26 ?_; clear hp; intro b w1 hp) | ((with_reducible refine pre_box _ _ rfl ?_); refine lB hp rfl (sTm rfl) rfl ?_; clear hp; intro b w1 hp) | ((with_reducible refine pre_load _ _ rfl ?_); first | refine lO hp rfl (sTm rfl) ceXJ0 aa14 ?_ | refine lA hp rfl (sTm rfl) agg26 aa14 ?_) | ((with_reducible refine pre_store _ _ _ rfl ?_); (first | refine sO hp rfl (sTm rfl) ceXJ0 aa14 ?_ | refine sA hp rfl (sTm rfl) (sTm rfl) agg26 aa14 ?_ | refine sG hp rfl (sTm rfl) (sTm rfl) agg26 aa14 ?_); clear hp; intro w1 hp; simp only [spl, zSet, sSet] at hp)); simp only [put_some, put_none, sSet, zSet]))
      have HBO : RowKit.Hid (hrightB ⟨odO, oaO, osO, ocO, nxO, t0O, t1O, t2O, t3O, faO, fsO, fcO⟩ = true) := Lib.hid (by rw [← hright_sm HOM.out]; exact HBX.out)
      have HPO : RowKit.Hid (heapB ⟨odO, oaO, osO, ocO, nxO, t0O, t1O, t2O, t3O, faO, fsO, fcO⟩ = ss) := Lib.hid (by rw [← heapB_sm HOM.out]; exact HPX.out)
      have HSO : RowKit.Hid (Hv.Small ⟨odO, oaO, osO, ocO, nxO, t0O, t1O, t2O, t3O, faO, fsO, fcO⟩) := Lib.hid (HSX.out.sm HOM.out)
      have HNO : RowKit.Hid (nxO ≤ 9223372036854775807) := Lib.hid (by have h1 := HOM.out.nx; have h2 := HNX.out; simp only at h1; omega)
      go_wp2_with (first | (go_at_call 7; (with_reducible refine (puth_I odX oaX osX ocX nxX t0X t1X t2X t3X faX fsX fcX ss HPX.out mh HMS.out HBX.out _ (HIX.out.below hp.below)).mono ?_); rintro e w1 ⟨a1, k1, R1, rfl, hk, hr, hpn⟩; replace hp := hp.join hpn; have HK1 := Lib.hid hk; have HR1 := Lib.hid hr; have HT1 := Lib.hid (kept_nI2 hr); clear hpn hk hr; simp only [List.cons_append, List.nil_append, List.append_assoc] at hp) | (go_at_call 14; (with_reducible refine (puth06_Q odO oaO osO ocO nxO t0O t1O t2O t3O faO fsO fcO ss HPO.out mh HMS.out HBO.out _ (HOK.out.at hp (fun p hm => by simp [hm]))).mono ?_); rintro e w1 ⟨a2, k2, R2, rfl, hrp, hpn⟩; replace hp := hp.join hpn; have HR2 := Lib.hid hrp.keptS; clear hpn hrp; simp only [List.cons_append, List.nil_append, List.append_assoc] at hp) | ((with_reducible refine pre_convert _ _ _ rfl ?_); refine wpList_conv_row 31 9 5 _ rfl wy Try.underlying31 Try.underlying5 Try.underlying9 a1 mh k1 (sTm rfl) (nI ss) HNI.out (HT1.out.at hp (by intro p hp2; simp [hp2])) ?_; rw [HIX2.out]; simp only [put_some, put_none, sSet, zSet]) | ((with_reducible refine pre_convert _ _ _ rfl ?_); refine wpList_conv_row 31 9 5 _ rfl wy Try.underlying31 Try.underlying5 Try.underlying9 a2 mh k2 (sTm rfl) (nI ss) HNI.out (by rw [nI_cells]; exact HR2.out.at hp (by intro p hp2; simp [hp2])) ?_; rw [HIX2.out]; simp only [put_some, put_none, sSet, zSet]) | (go_at_call 15; (with_reducible refine (same15L odX oaX osX ocX nxX t0X t1X t2X t3X faX fsX fcX odO oaO osO ocO nxO t0O t1O t2O t3O faO fsO fcO HSX.out HOM.out _ (HIX.out.below hp.below) (HOK.out.at hp (fun p hm => by simp [hm]))).mono ?_); rintro e w1 ⟨rfl, hb⟩; replace hp := hp.call hb; clear hb) | (go_at_call 9; (with_reducible refine (heaps9 _).mono ?_); rintro e w1 ⟨rfl, hb⟩; replace hp := hp.call hb; clear hb) | (go_at_call 11; (with_reducible refine (geth_I ss _ HGE.out a1 mh k1 HMS.out HK1.out _ (HR1.out.at hp (fun p hm => by simp [hm]))).mono ?_); rintro e w1 ⟨odZ, oaZ, osZ, ocZ, nxZ, t0Z, t1Z, t2Z, t3Z, faZ, fsZ, fcZ, RZ, rfl, hyz, hkz, hpn⟩; replace hp := hp.join hpn; have HYZ := Lib.hid hyz; have HKZ := Lib.hid hkz; clear hpn hyz hkz; simp only [List.cons_append, List.nil_append, List.append_assoc] at hp) | (go_at_call 15; (with_reducible refine (same15L odZ oaZ osZ ocZ nxZ t0Z t1Z t2Z t3Z faZ fsZ fcZ odX oaX osX ocX nxX t0X t1X t2X t3X faX fsX fcX (HQZ.out _ HYZ.out).1 (HQZ.out _ HYZ.out).2 _ (HKZ.out.at hp (fun p hm => by simp [hm])) (HIX.out.below hp.below)).mono ?_); rintro e w1 ⟨rfl, hb⟩; replace hp := hp.call hb; clear hb) | go_skip | ((first | ((with_reducible refine pre_alloc _ rfl ?_); refine lZ hp rfl zero26 ?_; clear hp; intro b w1 hp) | ((with_reducible refine pre_box _ _ rfl ?_); refine lB hp rfl (sTm rfl) rfl ?_; clear hp; intro b w1 hp) | ((with_reducible refine pre_load _ _ rfl ?_); first | refine lO hp rfl (sTm rfl) ceXJ0 aa14 ?_ | refine lA hp rfl (sTm rfl) agg26 aa14 ?_) | ((with_reducible refine pre_store _ _ _ rfl ?_); (first | refine sO hp rfl (sTm rfl) ceXJ0 aa14 ?_ | refine sA hp rfl (sTm rfl) (sTm rfl) agg26 aa14 ?_ | refine sG hp rfl (sTm rfl) (sTm rfl) agg26 aa14 ?_); clear hp; intro w1 hp; simp only [spl, zSet, sSet] at hp)); simp only [put_some, put_none, sSet, zSet]))
      go_ret
      exact ⟨rfl, hp.below⟩
  · go_wp2_with (first | go_skip | ((first | ((with_reducible refine pre_alloc _ rfl ?_); refine lZ hp rfl zero26 ?_; clear hp; intro b w1 hp) | ((with_reducible refine pre_box _ _ rfl ?_); refine lB hp rfl (sTm rfl) rfl ?_; clear hp; intro b w1 hp) | ((with_reducible refine pre_load _ _ rfl ?_); first | refine lO hp rfl (sTm rfl) ceXJ0 aa14 ?_ | refine lA hp rfl (sTm rfl) agg26 aa14 ?_) | ((with_reducible refine pre_store _ _ _ rfl ?_); (first | refine sO hp rfl (sTm rfl) ceXJ0 aa14 ?_ | refine sA hp rfl (sTm rfl) (sTm rfl) agg26 aa14 ?_ | refine sG hp rfl (sTm rfl) (sTm rfl) agg26 aa14 ?_); clear hp; intro w1 hp; simp only [spl, zSet, sSet] at hp)); simp only [put_some, put_none, sSet, zSet]))
    go_ret
    exact ⟨rfl, hp.below⟩
theorem law4 (x : Hv) (w : World) (hx : (x.Is w ∧ x.W64) ∧ x.nx ≤ 9223372036854775807) :
    Calls Try.prog 4 #[.agg (hvL x).toArray] w fun e w' => e = .returned (.bool true) ∧ Below w.heap.size w w' := by
  obtain ⟨odX, oaX, osX, ocX, nxX, t0X, t1X, t2X, t3X, faX, fsX, fcX⟩ := x
  exact law_heaps odX oaX osX ocX nxX t0X t1X t2X t3X faX fsX fcX w hx.1.1 hx.1.2 hx.2
end Go.Proofs.Ytaafajaadfgaoaa

/- Parts of the proof. -/
import Derived.Test.YtaafajaadfgaoaaIl7
import Derived.Test.YtaafajaadfgaoaaIl3
import Derived.Test.YtaafajaadfgaoaaIl4
import Derived.Test.YtaafajaadfgaoaaIl5
import Derived.Test.YtaafajaadfgaoaaIl2
open List renaming set_cons_zero → zSet, set_cons_succ → sSet
/- The walk that lays a state as bytes. -/
set_option linter.unusedSimpArgs false
set_option linter.unusedVariables false
namespace Go.Proofs.Ytaafajaadfgaoaa
open Go.RowKit
theorem gaJX0 {ty : TypeId} {k : Nat} (h : aggB Try.prog ty k = true := by with_reducible first | exact agg29 | exact agg26 | exact agg48 | exact agg54) : aggB Try.prog ty k = true := h
theorem ceJX1 {ty : TypeId} (h : cellB Try.prog ty = true := by with_reducible first | exact cell3 | exact cell4 | exact cell31 | exact cell27 | exact cell32) : cellB Try.prog ty = true := h
theorem needN_gt {n : Int} (h0 : 0 ≤ n) (h : n < 64) : n + 1 ≤ pw (needN n) := by
  unfold needN
  have p0 : pw 0 = 1 := by decide
  have p1 : pw 1 = 2 := by decide
  have p2 : pw 2 = 4 := by decide
  have p3 : pw 3 = 8 := by decide
  have p4 : pw 4 = 16 := by decide
  have p5 : pw 5 = 32 := by decide
  have p6 : pw 6 = 64 := by decide
  repeat' split
  all_goals omega
theorem ob_words {l : List Ob} (h : ∀ o ∈ l, ObLay o ∧ needI o.ws.length o.ls.length = o.o ∧ 0 ≤ o.o) : ((l.flatMap obB).length : Int) ≤ 16 * sumB (l.map obBl) := by
  induction l with
  | nil => simp [sumB]
  | cons o l ih =>
    have h1 := ih (fun x hx => h x (by simp [hx]))
    obtain ⟨hl, hn, h0⟩ := h o (by simp)
    have hw := hl.wl
    have hk := hl.ll
    have hg : (o.ws.length : Int) + o.ls.length + 1 ≤ pw o.o := by
      have := needN_gt (n := (o.ws.length : Int) + o.ls.length) (by omega) (by omega)
      unfold needI at hn
      rw [if_pos (by omega)] at hn
      rw [← hn]; exact this
    have hb : ((obB o).length : Int) = 16 + 8 * o.ws.length + 4 * o.ls.length := by
      unfold obB
      rw [List.length_append, List.length_append, bn4_len, bi8_len, bn4_len, List.length_map]
      simp only [List.length_cons, List.length_nil]
      push_cast; omega
    rw [List.flatMap_cons, List.length_append, List.map_cons, sumB_cons]
    simp only [obBl]
    push_cast
    omega
theorem heapB_len {x : Hv} (hx : HRight x) : (heapB x).length ≤ 4124 := by
  have hl := hright_lay hx
  have h1 := ob_words (l := x.os) (fun o ho => ⟨hl o ho, (hx.need o ho).1, by have := (hx.need o ho).2.1; simpa [obBl] using this⟩)
  have h2 := hx.words
  have hf := hx.free
  unfold rightB regionB at hf
  rw [Bool.and_eq_true] at hf
  have hod : 3 ≤ x.od ∧ x.od ≤ 8 := by simpa using hf.1
  have h3 := pw_le hod.2
  have h4 : sumB (allBl x) = sumB x.fs + sumB (x.os.map obBl) := sumB_append _ _
  have h5 := sumB_nonneg x.fs
  unfold heapB
  rw [List.length_append, headB_len]
  omega
theorem bn4_bytes (l : List Nat) : Bytes (bn4 l) := by
  intro x hx
  obtain ⟨n, _, h⟩ := List.mem_flatMap.1 hx
  exact beS_bytes 4 n x h
theorem bi8_bytes (l : List Int) : Bytes (bi8 l) := by
  intro x hx
  obtain ⟨n, _, h⟩ := List.mem_flatMap.1 hx
  exact beS_bytes 8 _ x h
theorem heapB_bytes (x : Hv) : Bytes (heapB x) := by
  unfold heapB headB
  refine Bytes.app ((bn4_bytes _).app ((bn4_bytes _).app (bn4_bytes _))) fun y hy => ?_
  obtain ⟨o, _, h⟩ := List.mem_flatMap.1 hy
  unfold obB at h
  exact ((bn4_bytes _).app ((bi8_bytes _).app (bn4_bytes _))) y h
def rowB (r : Rw) : List Nat := bn4 [r.c.toNat, r.s.toNat, r.e.toNat] ++ bi8 [r.v]
def stateB (x : Sv) : List Nat := (beS 4 (heapB x.hv).length ++ heapB x.hv) ++ (bn4 [x.rs.length] ++ x.rs.flatMap rowB)
set_option maxRecDepth 100000 in
set_option maxHeartbeats 8000000 in
theorem puts6_no (x : Sv) (hb : stB x = false) (hs : x.Small) (w : World) (hx0 : x.Is w) : Calls Try.prog 6 #[.agg (svL x).toArray] w (PutPost w none) := by
  have HB := Lib.hid hb
  have HSS := Lib.hid hs
  have HIS := Lib.hid hx0
  have hp := Hp.start w
  obtain ⟨⟨od, oa, os, oc, nx, t0, t1, t2, t3, fa, fs, fc⟩, ra, rs, rc⟩ := x
  simp only [svL, hvL, List.cons_append, List.nil_append]
  clear hb hs hx0
  go_enter Try.func6, Try.ntmps6
  go_wp2_with (first | (go_at_call 16; (with_reducible refine (check16L od oa os oc nx t0 t1 t2 t3 fa fs fc ra rs rc _ HB.out HSS.out _ (HIS.out.below hp.below)).mono ?_); rintro e w1 ⟨rfl, hb⟩; replace hp := hp.call hb; clear hb; simp only [errS, if_true, Bool.false_eq_true, if_false]) | go_skip | ((first | ((with_reducible refine pre_alloc _ rfl ?_); refine lZ hp rfl zero54 ?_; clear hp; intro b w1 hp) | ((with_reducible refine pre_box _ _ rfl ?_); refine lB hp rfl (sTm rfl) rfl ?_; clear hp; intro b w1 hp) | ((with_reducible refine pre_load _ _ rfl ?_); first | refine lO hp rfl (sTm rfl) ceJX1 aa14 ?_ | refine lA hp rfl (sTm rfl) gaJX0 aa14 ?_) | ((with_reducible refine pre_store _ _ _ rfl ?_); (first | refine sO hp rfl (sTm rfl) ceJX1 aa14 ?_ | refine sA hp rfl (sTm rfl) (sTm rfl) gaJX0 aa14 ?_ | refine sG hp rfl (sTm rfl) (sTm rfl) gaJX0 aa14 ?_); clear hp; intro w1 hp; simp only [spl, zSet, sSet] at hp) | ((with_reducible refine pre_build _ _ _ rfl ?_); refine lS hp rfl (by intro w; go_simp; rfl) ?_; clear hp; intro b w1 hp; simp only [List.length_cons, List.length_nil, Nat.reduceAdd] at hp)); simp only [put_some, put_none, sSet, zSet]))
  go_ret2
  exact ⟨rfl, hp.below⟩
theorem puth_L (od : Int) (oa : Option Addr) (os : List Ob) (oc : Nat) (nx t0 t1 t2 t3 : Int) (fa : Option Addr) (fs : List Bl) (fc : Nat) (bs : List Nat) (hbs : heapB ⟨od, oa, os, oc, nx, t0, t1, t2, t3, fa, fs, fc⟩ = bs) (hb : hrightB ⟨od, oa, os, oc, nx, t0, t1, t2, t3, fa, fs, fc⟩ = true) (w : World) (hx0 : Hv.Is w ⟨od, oa, os, oc, nx, t0, t1, t2, t3, fa, fs, fc⟩) :
    Calls Try.prog 7 #[.agg #[.int .i64 od, .slice oa os.length oc, .int .i64 nx, .int .i64 t0, .int .i64 t1, .int .i64 t2, .int .i64 t3, .slice fa fs.length fc]] w fun e w' => ∃ a c m R, e = .returned (.tuple #[.slice a m c, .int .i64 0]) ∧ bs.length = m ∧ SubRow 5 1 (.slice a m c) m (bs.flatMap byV) R ∧ Hp w.heap.size w w' R := by
  subst hbs
  refine (puth7_yes _ hb w hx0).mono fun e w' h => ?_
  obtain ⟨a, c, R, h1, h2, h3⟩ := h
  exact ⟨a, c, _, R, h1, rfl, h2, h3⟩
theorem putt_L (s : ByteArray) (hs : s.size ≤ 65536) (w : World) : Calls Try.prog 17 #[.slice none 0 0, .string s] w fun e w' => ∃ ys m a c R, e = .returned (.tuple #[.slice a m c, .int .i64 0]) ∧ ys = beS 4 s.size ++ strB s ∧ ys.length = m ∧ SubRow 5 1 (.slice a m c) m (ys.flatMap byV) R ∧ Hp w.heap.size w w' R := by
  refine (putt17 [] (by simp) s hs none 0 w (RowIs.nil _ _)).mono fun e w' h => ?_
  obtain ⟨v, R, h1, h2, h3⟩ := h
  obtain ⟨a, c, rfl, _, _⟩ := h2.kept
  exact ⟨_, _, a, c, R, h1, rfl, rfl, h2, h3⟩
theorem putt_join {B : Nat} {w0 w : World} {o b : Blk} {RH R : List Blk} (hp : Hp B w0 w ((o :: b :: RH) ++ R)) : Hp B w0 w (b :: o :: R) := hp.kp
theorem rowsB_len : ∀ l : List Rw, (l.flatMap rowB).length = l.length * 20
  | [] => rfl
  | r :: l => by
    rw [List.flatMap_cons, List.length_append, rowsB_len l, List.length_cons]
    unfold rowB
    rw [List.length_append, bn4_len, bi8_len]
    simp only [List.length_cons, List.length_nil]; omega
set_option maxRecDepth 100000 in
set_option maxHeartbeats 16000000 in
theorem puts6_yes (x : Sv) (hb : stB x = true) (w : World) (hx0 : x.Is w) : Calls Try.prog 6 #[.agg (svL x).toArray] w (PutPost w (some (stateB x))) := by
  have hst := st_of hb
  have hbl := heapB_len hst.hv
  have hrows := hst.rows
  have hrl := rowsOk_len hrows (by decide)
  have HB := Lib.hid hb
  have HHB := Lib.hid (hright_yes hst.hv)
  have HSS := Lib.hid hst.small
  have HIS := Lib.hid hx0
  have HIH := Lib.hid hx0.1
  have HRI := Lib.hid hx0.2
  obtain ⟨bs, hbs⟩ : ∃ bs, heapB x.hv = bs := ⟨_, rfl⟩
  have HRES : RowKit.Hid (stateB x = (beS 4 bs.length ++ bs) ++ (bn4 [x.rs.length] ++ x.rs.flatMap rowB)) := Lib.hid (by unfold stateB; rw [hbs])
  have HBS := Lib.hid hbs
  rw [hbs] at hbl
  have HBL := Lib.hid hbl
  have hby : Bytes bs := by
    rw [← hbs]; exact heapB_bytes x.hv
  have HNI : RowKit.Hid (∀ m, bs.length = m → (nI bs).length = m) := Lib.hid (fun m h => by rw [nI_len]; exact h)
  have HSB : RowKit.Hid (strB (strOfNums (nI bs)) = bs ∧ (strOfNums (nI bs)).size = bs.length) := Lib.hid ⟨strB_of hby, by rw [← strB_len, strB_of hby]⟩
  have HSZ : RowKit.Hid ((strOfNums (nI bs)).size ≤ 65536) := Lib.hid (by rw [← strB_len, strB_of hby]; omega)
  have HLAY : RowKit.Hid (∀ r ∈ x.rs, 0 ≤ r.c ∧ r.c ≤ 4 ∧ 0 ≤ r.s ∧ r.s ≤ 1000000 ∧ 0 ≤ r.e ∧ r.e ≤ 65535) := Lib.hid (fun r hr => by
    have := rowOk_iff.1 (rowsOk_mem hrows r hr); omega)
  have hp := Hp.start w
  clear hb hx0 hbs hbl hst hby hrows
  obtain ⟨⟨od, oa, os, oc, nx, t0, t1, t2, t3, fa, fs, fc⟩, ra, rs, rc⟩ := x
  simp only [svL, hvL, List.cons_append, List.nil_append]
  simp only at hrl
  have hrl4 : rs.length ≤ 4 := by omega
  have HRL := Lib.hid hrl4
  have HLE : RowKit.Hid ([rs.length].length = 1) := Lib.hid rfl
  have HLF : RowKit.Hid (1 ≤ 1000) := Lib.hid (by decide)
  have HB3 : RowKit.Hid (∀ x ∈ [rs.length], x ≤ 2147483647) := Lib.hid (by intro x hx; simp at hx; omega)
  have HC3 : RowKit.Hid ([Value.int .i64 (rs.length : Int)] = [rs.length].flatMap natV) := Lib.hid rfl
  clear hrl hrl4
  go_enter Try.func6, Try.ntmps6
  go_wp2_with (first | (go_at_call 16; (with_reducible refine (check16L od oa os oc nx t0 t1 t2 t3 fa fs fc ra rs rc _ HB.out HSS.out _ (HIS.out.below hp.below)).mono ?_); rintro e w1 ⟨rfl, hb⟩; replace hp := hp.call hb; clear hb; simp only [errS, if_true, Bool.false_eq_true, if_false]) | (go_at_call 7; (with_reducible refine (puth_L od oa os oc nx t0 t1 t2 t3 fa fs fc bs HBS.out HHB.out _ (HIH.out.below hp.below)).mono ?_); rintro e w1 ⟨ah, ch, mh, RH, rfl, hmh, hrh, hp2⟩; replace hp := hp.join hp2; have HMH := Lib.hid hmh; have HRH := Lib.hid hrh; clear hp2 hmh hrh; simp only [List.cons_append, List.nil_append] at hp) | ((with_reducible refine pre_convert _ _ _ rfl ?_); refine wpList_conv_row 31 9 5 _ rfl wy Try.underlying31 Try.underlying5 Try.underlying9 ah mh ch (sTm rfl) (nI bs) (HNI.out _ HMH.out) (by rw [nI_cells]; exact HRH.out.keptS.at hp (by intro p hp2; simp [hp2])) ?_; simp only [put_some, put_none, sSet, zSet]) | (go_at_call 17; (with_reducible refine (putt_L (strOfNums (nI bs)) HSZ.out _).mono ?_); rintro e w1 ⟨y1, m1, a1, c1, R1, rfl, hy1, hm1, hr1, hp2⟩; replace hp := putt_join (hp.join hp2); have HY1 := Lib.hid hy1; have HM1 := Lib.hid hm1; have HR1 := Lib.hid hr1; clear hp2 hy1 hm1 hr1) | go_skip | ((first | ((with_reducible refine pre_alloc _ rfl ?_); refine lZ hp rfl zero54 ?_; clear hp; intro b w1 hp) | ((with_reducible refine pre_box _ _ rfl ?_); refine lB hp rfl (sTm rfl) rfl ?_; clear hp; intro b w1 hp) | ((with_reducible refine pre_load _ _ rfl ?_); first | refine lO hp rfl (sTm rfl) ceJX1 aa14 ?_ | refine lA hp rfl (sTm rfl) gaJX0 aa14 ?_) | ((with_reducible refine pre_store _ _ _ rfl ?_); (first | refine sO hp rfl (sTm rfl) ceJX1 aa14 ?_ | refine sA hp rfl (sTm rfl) (sTm rfl) gaJX0 aa14 ?_ | refine sG hp rfl (sTm rfl) (sTm rfl) gaJX0 aa14 ?_); clear hp; intro w1 hp; simp only [spl, zSet, sSet] at hp) | ((with_reducible refine pre_build _ _ _ rfl ?_); refine lS hp rfl (by intro w; go_simp; rfl) ?_; clear hp; intro b w1 hp; simp only [List.length_cons, List.length_nil, Nat.reduceAdd] at hp)); simp only [put_some, put_none, sSet, zSet]))
  obtain ⟨bx, hbx⟩ := hp.id1
  obtain ⟨bo, hbo⟩ := hp.id2
  subst hbx hbo
  have hz : y1 = beS 4 bs.length ++ bs := by rw [HY1.out, HSB.out.1, HSB.out.2]
  have hm1 : m1 = 4 + bs.length := by rw [← HM1.out, hz, List.length_append, beS_len]
  have HX1 : RowKit.Hid (m1 ≤ 900000) := Lib.hid (by have := HBL.out; omega)
  have HZ1 := Lib.hid hz
  have HV1 := Lib.hid hm1
  clear hz hm1
  go_wp2_with (first | (go_at_call 18; (with_reducible refine (on_built1 [rs.length] 1 HLE.out HLF.out HB3.out y1 m1 HM1.out HX1.out HR1.out HC3.out hp).mono ?_); clear hp; rintro e w1 ⟨rfl, y2, m2, a2, c2, R2, hy2, hm2, hr2, hp⟩; have HY2 := Lib.hid hy2; have HM2 := Lib.hid hm2; have HR2 := Lib.hid hr2; clear hy2 hm2 hr2) | go_skip | ((first | ((with_reducible refine pre_alloc _ rfl ?_); refine lZ hp rfl zero54 ?_; clear hp; intro b w1 hp) | ((with_reducible refine pre_box _ _ rfl ?_); refine lB hp rfl (sTm rfl) rfl ?_; clear hp; intro b w1 hp) | ((with_reducible refine pre_load _ _ rfl ?_); first | refine lO hp rfl (sTm rfl) ceJX1 aa14 ?_ | refine lA hp rfl (sTm rfl) gaJX0 aa14 ?_) | ((with_reducible refine pre_store _ _ _ rfl ?_); (first | refine sO hp rfl (sTm rfl) ceJX1 aa14 ?_ | refine sA hp rfl (sTm rfl) (sTm rfl) gaJX0 aa14 ?_ | refine sG hp rfl (sTm rfl) (sTm rfl) gaJX0 aa14 ?_); clear hp; intro w1 hp; simp only [spl, zSet, sSet] at hp) | ((with_reducible refine pre_build _ _ _ rfl ?_); refine lS hp rfl (by intro w; go_simp; rfl) ?_; clear hp; intro b w1 hp; simp only [List.length_cons, List.length_nil, Nat.reduceAdd] at hp)); simp only [put_some, put_none, sSet, zSet]))
  have HZ : RowKit.Hid (y2 = (beS 4 bs.length ++ bs) ++ bn4 [rs.length]) := Lib.hid (by rw [HY2.out, HZ1.out])
  have HV : RowKit.Hid (((beS 4 bs.length ++ bs) ++ bn4 [rs.length]).length ≤ 5000) := Lib.hid (by rw [← HZ1.out, List.length_append, HM1.out, HV1.out, bn4_len]; have := HBL.out; simp only [List.length_cons, List.length_nil]; omega)
  obtain ⟨hd, hhd⟩ : ∃ hd, hd = (beS 4 bs.length ++ bs) ++ bn4 [rs.length] := ⟨_, rfl⟩
  rw [← List.append_assoc, ← hhd] at HRES
  rw [← hhd] at HZ HV
  clear hhd
  go_loopg [41] rs.length (fun k i wr => ∃ (q : Nat) (ys : List Nat) (m : Nat) (a : Option Addr) (c : Nat) (R : List Blk), k + q = rs.length ∧ i = .int .i64 q ∧ RowKit.Hid (ys = hd ++ (rs.take q).flatMap rowB) ∧ RowKit.Hid (ys.length = m) ∧ RowKit.Hid (SubRow 5 1 (.slice a m c) m (ys.flatMap byV) R) ∧
    Hp w.heap.size w wr (⟨bx, [.int .i64 od, .slice oa os.length oc, .int .i64 nx, .int .i64 t0, .int .i64 t1, .int .i64 t2, .int .i64 t3, .slice fa fs.length fc, .slice ra rs.length rc], 29, 9⟩ :: ⟨bo, [.slice a m c], 48, 1⟩ :: R))
  case atStart => exact ⟨0, y2, m2, a2, c2, R2, by omega, rfl, Lib.hid (by rw [HZ.out]; simp), HM2, HR2, hp⟩
  case round =>
    clear hp HY1 HY2 HM1 HM2 HR1 HR2 HX1 HV1 HZ HZ1 HC3 HB3 HLE HRH HMH HNI HSZ HSB
    obtain ⟨q, ys, m, a, c, R, hkq, rfl, HYS, HM, HR, hp⟩ := hrel
    by_cases hlt : q < rs.length
    · obtain ⟨bq, off, rfl, hx⟩ := HRI.out.elems 4 rwV_len (by omega) (by omega)
      have hj := List.getElem?_eq_getElem hlt
      replace hx := hx q _ hj
      have hmem := List.getElem_mem hlt
      have hlay := HLAY.out _ hmem
      have htk : (rs.take (q + 1)).flatMap rowB = (rs.take q).flatMap rowB ++ rowB rs[q] := by rw [List.take_add_one, hj, List.flatMap_append]; simp
      have hlen := rowsB_len (rs.take q)
      rw [List.length_take, Nat.min_eq_left (by omega)] at hlen
      have hm : m ≤ 5000 + q * 20 := by have := HV.out; rw [← HM.out, HYS.out, List.length_append]; omega
      have hrl := HRL.out
      clear hmem hj hlen
      generalize rs[q] = x at hx hlay htk
      obtain ⟨rc', rq', re', rv'⟩ := x
      obtain ⟨g1, g2, g3, g4, g5, g6⟩ := hlay
      simp only at hx g1 g2 g3 g4 g5 g6
      obtain ⟨rc', rfl⟩ := Int.eq_ofNat_of_zero_le g1
      obtain ⟨rq', rfl⟩ := Int.eq_ofNat_of_zero_le g3
      obtain ⟨re', rfl⟩ := Int.eq_ofNat_of_zero_le g5
      simp only [rwV] at hx
      rw [show rowB ⟨(rc' : Nat), (rq' : Nat), (re' : Nat), rv'⟩ = bn4 [rc', rq', re'] ++ bi8 [rv'] by simp only [rowB, Int.toNat_natCast]] at htk
      have hq6 : q < 4 := by omega
      have HTK := Lib.hid htk
      have HX := Lib.hid hx
      have HLA : RowKit.Hid ([rc', rq', re'].length = 3) := Lib.hid rfl
      have HLB : RowKit.Hid (3 ≤ 1000) := Lib.hid (by decide)
      have HLG : RowKit.Hid ([rv'].length = 1) := Lib.hid rfl
      have HB4 : RowKit.Hid (∀ x ∈ [rc', rq', re'], x ≤ 2147483647) := Lib.hid (by intro x hx; simp at hx; omega)
      have HC4 : RowKit.Hid ([Value.int .i64 (rc' : Int), Value.int .i64 (rq' : Int), Value.int .i64 (re' : Int)] = [rc', rq', re'].flatMap natV) := Lib.hid rfl
      have HC5 : RowKit.Hid ([Value.int .i64 rv'] = [rv'].flatMap iV) := Lib.hid rfl
      have HX0 : RowKit.Hid (m ≤ 900000) := Lib.hid (by omega)
      have HMB : RowKit.Hid (m ≤ 100000) := Lib.hid (by omega)
      have e1 : (0 : Int) ≤ (q : Int) := by omega
      have e2 : (q : Int) < (rs.length : Int) := by omega
      clear hx g1 g2 g3 g4 g5 g6 htk hm hrl
      go_wp2_with (first | (go_at_call 18; (with_reducible refine (on_built2 [rc', rq', re'] 3 HLA.out HLB.out HB4.out ys m HM.out HX0.out HR.out HC4.out hp).mono ?_); clear hp; rintro e w1 ⟨rfl, y4, m4, a4, c4, R4, hy4, hm4, hr4, hp⟩; have HY4 := Lib.hid hy4; have HM4 := Lib.hid hm4; have HR4 := Lib.hid hr4; clear hy4 hm4 hr4) | go_skip | ((first | ((with_reducible refine pre_alloc _ rfl ?_); refine lZ hp rfl zero54 ?_; clear hp; intro b w1 hp) | ((with_reducible refine pre_box _ _ rfl ?_); refine lB hp rfl (sTm rfl) rfl ?_; clear hp; intro b w1 hp) | ((with_reducible refine pre_load _ _ rfl ?_); first | refine lO hp rfl (sTm rfl) ceJX1 aa14 ?_ | refine lA hp rfl (sTm rfl) gaJX0 aa14 ?_ | refine lR hp rfl (sTm rfl) gaJX0 HX.out ?_) | ((with_reducible refine pre_store _ _ _ rfl ?_); (first | refine sO hp rfl (sTm rfl) ceJX1 aa14 ?_ | refine sA hp rfl (sTm rfl) (sTm rfl) gaJX0 aa14 ?_ | refine sG hp rfl (sTm rfl) (sTm rfl) gaJX0 aa14 ?_); clear hp; intro w1 hp; simp only [spl, zSet, sSet] at hp) | ((with_reducible refine pre_build _ _ _ rfl ?_); refine lS hp rfl (by intro w; go_simp; rfl) ?_; clear hp; intro b w1 hp; simp only [List.length_cons, List.length_nil, Nat.reduceAdd] at hp)); simp only [put_some, put_none, sSet, zSet]))
      have hm4 : m4 = m + 12 := by rw [← HM4.out, HY4.out, List.length_append, HM.out, bn4_len]; rfl
      have HX4 : RowKit.Hid (m4 ≤ 900000) := Lib.hid (by have := HMB.out; omega)
      clear hm4
      go_wp2_with (first | (go_at_call 19; (with_reducible refine (oi_built2 [rv'] 1 HLG.out HLF.out y4 m4 HM4.out HX4.out HR4.out HC5.out hp).mono ?_); clear hp; rintro e w1 ⟨rfl, y5, m5, a5, c5, R5, hy5, hm5, hr5, hp⟩; have HY5 := Lib.hid hy5; have HM5 := Lib.hid hm5; have HR5 := Lib.hid hr5; clear hy5 hm5 hr5) | go_skip | ((first | ((with_reducible refine pre_alloc _ rfl ?_); refine lZ hp rfl zero54 ?_; clear hp; intro b w1 hp) | ((with_reducible refine pre_box _ _ rfl ?_); refine lB hp rfl (sTm rfl) rfl ?_; clear hp; intro b w1 hp) | ((with_reducible refine pre_load _ _ rfl ?_); first | refine lO hp rfl (sTm rfl) ceJX1 aa14 ?_ | refine lA hp rfl (sTm rfl) gaJX0 aa14 ?_) | ((with_reducible refine pre_store _ _ _ rfl ?_); (first | refine sO hp rfl (sTm rfl) ceJX1 aa14 ?_ | refine sA hp rfl (sTm rfl) (sTm rfl) gaJX0 aa14 ?_ | refine sG hp rfl (sTm rfl) (sTm rfl) gaJX0 aa14 ?_); clear hp; intro w1 hp; simp only [spl, zSet, sSet] at hp) | ((with_reducible refine pre_build _ _ _ rfl ?_); refine lS hp rfl (by intro w; go_simp; rfl) ?_; clear hp; intro b w1 hp; simp only [List.length_cons, List.length_nil, Nat.reduceAdd] at hp)); simp only [put_some, put_none, sSet, zSet]))
      go_roundg (gk - 1)
      case measure => omega
      case rel => exact ⟨q + 1, y5, m5, a5, c5, R5, by omega, by go_num, Lib.hid (by rw [HY5.out, HY4.out, HYS.out, HTK.out]; simp only [List.append_assoc]), HM5, HR5, hp.tail⟩
    · obtain rfl : q = rs.length := by omega
      have e2 : decide ((rs.length : Int) < (rs.length : Int)) = false := by simp
      have hys := HYS.out
      rw [List.take_length, ← HRES.out] at hys
      clear hkq hlt
      go_wp2_with (first | go_skip | ((first | ((with_reducible refine pre_alloc _ rfl ?_); refine lZ hp rfl zero54 ?_; clear hp; intro b w1 hp) | ((with_reducible refine pre_box _ _ rfl ?_); refine lB hp rfl (sTm rfl) rfl ?_; clear hp; intro b w1 hp) | ((with_reducible refine pre_load _ _ rfl ?_); first | refine lO hp rfl (sTm rfl) ceJX1 aa14 ?_ | refine lA hp rfl (sTm rfl) gaJX0 aa14 ?_) | ((with_reducible refine pre_store _ _ _ rfl ?_); (first | refine sO hp rfl (sTm rfl) ceJX1 aa14 ?_ | refine sA hp rfl (sTm rfl) (sTm rfl) gaJX0 aa14 ?_ | refine sG hp rfl (sTm rfl) (sTm rfl) gaJX0 aa14 ?_); clear hp; intro w1 hp; simp only [spl, zSet, sSet] at hp) | ((with_reducible refine pre_build _ _ _ rfl ?_); refine lS hp rfl (by intro w; go_simp; rfl) ?_; clear hp; intro b w1 hp; simp only [List.length_cons, List.length_nil, Nat.reduceAdd] at hp)); simp only [put_some, put_none, sSet, zSet]))
      go_ret2
      have hmm := HM.out
      rw [hys] at hmm
      subst hmm
      exact ⟨a, c, R, rfl, by rw [← hys]; have h := HR.out; rw [← hys] at h; exact h, hp.tail.tail⟩
end Go.Proofs.Ytaafajaadfgaoaa
/- The walk of slices.Insert of two blocks ahead of a row that begins anywhere in its block. -/
namespace Go.Proofs.Ytaafajaadfgaoaa
open Go.RowKit
def InsPost2 (B : Nat) (w0 : World) (n : Nat) (xs : List Value) (M : List Blk) (e : Ending) (w' : World) : Prop := ∃ v' R', e = .returned v' ∧ SubRow 58 2 v' n xs R' ∧ Hp B w0 w' (R' ++ M)
set_option maxRecDepth 100000 in
set_option maxHeartbeats 4000000 in
theorem ins288_end (v : Value) {B : Nat} {w0 w : World} {R M : List Blk} (news : List Value) (hnl : news.length = 4) (hn1 : news.all (·.oneCell') = true) (bv : Nat) (ev : TypeId) (mv : Nat) (hR : SubRow 58 2 v 0 [] R) (hp : Hp B w0 w (⟨bv, news, ev, mv⟩ :: (R ++ M))) :
    Calls Try.prog 88 #[v, .int .i64 0, .slice (some ⟨bv, 0, none⟩) 2 2] w (InsPost2 B w0 2 news M) := by
  obtain ⟨i0, hi0, hz0, hz1, hz2⟩ := info_parts info58
  have HNL : RowKit.Hid (news.length = 2 * 2) := Lib.hid (by rw [hnl])
  have HN1 := Lib.hid hn1
  have HR := Lib.hid hR
  rcases hR with ⟨_, ⟨_, ⟨a, rfl⟩, rfl⟩ | ⟨g, off, cap, pre, rfl, _, _, _, rfl⟩⟩
  · clear hnl hn1
    rcases a with _ | ⟨g, off, x⟩
    all_goals
      go_enter Try.func88, Try.ntmps88
      go_wp2_with (first | ((with_reducible refine pre_append2 _ _ 24 24 rfl ?_); refine wpList_appendSub (K := [_]) (M := M) hp _ _ _ _ rfl wy 58 i0 _ 2 16 Try.underlying24 hi0 hz0 hz1 hz2 rfl _ 0 [] (sTm rfl) HR.out _ (sTm rfl) 2 news (Src.ofRow Try.underlying24 (by decide) _ 2 2 news HNL.out (hp.rowIs at0) HN1.out) (by decide) (by decide) ?_; clear hp; intro v' R' w1 hR' hp; have HR' := Lib.hid hR'; clear hR'; simp only [put_some, put_none, sSet, zSet]) | go_skip)
      go_ret
      exact ⟨v', R', rfl, by simpa using HR'.out, hp.tail⟩
  · clear hnl hn1
    by_cases hc : cap = 0
    · subst hc
      go_enter Try.func88, Try.ntmps88
      go_wp2_with (first | ((with_reducible refine pre_append2 _ _ 24 24 rfl ?_); refine wpList_appendSub (K := [_]) (M := M) hp _ _ _ _ rfl wy 58 i0 _ 2 16 Try.underlying24 hi0 hz0 hz1 hz2 rfl _ 0 [] (sTm rfl) HR.out _ (sTm rfl) 2 news (Src.ofRow Try.underlying24 (by decide) _ 2 2 news HNL.out (hp.rowIs at0) HN1.out) (by decide) (by decide) ?_; clear hp; intro v' R' w1 hR' hp; have HR' := Lib.hid hR'; clear hR'; simp only [put_some, put_none, sSet, zSet]) | go_skip)
      go_ret
      exact ⟨v', R', rfl, by simpa using HR'.out, hp.tail⟩
    · go_enter Try.func88, Try.ntmps88
      go_wp2_with (first | ((with_reducible refine pre_append2 _ _ 24 24 rfl ?_); refine wpList_appendSub (K := [_]) (M := M) hp _ _ _ _ rfl wy 58 i0 _ 2 16 Try.underlying24 hi0 hz0 hz1 hz2 rfl _ 0 [] (sTm rfl) HR.out _ (sTm rfl) 2 news (Src.ofRow Try.underlying24 (by decide) _ 2 2 news HNL.out (hp.rowIs at0) HN1.out) (by decide) (by decide) ?_; clear hp; intro v' R' w1 hR' hp; have HR' := Lib.hid hR'; clear hR'; simp only [put_some, put_none, sSet, zSet]) | go_skip)
      go_ret
      exact ⟨v', R', rfl, by simpa using HR'.out, hp.tail⟩
theorem pre_get {pre xs : List Value} {off j : Nat} {u : Value} (h : pre.length = off) (hj : xs[j]? = some u) : (pre ++ xs)[off + j]? = some u := by
  rw [List.getElem?_append_right (by omega), show off + j - pre.length = j by omega]; exact hj
set_option maxRecDepth 100000 in
set_option maxHeartbeats 4000000 in
theorem ins288_grow (n : Nat) (h0 : 0 < n) (hn : n ≤ 1000) (xs : List Value) (hxl : xs.length = n * 2) (g off cap : Nat) (pre : List Value) (hpre : pre.length = off) (hnc : n ≤ cap) (hcap : cap < n + 2) {B : Nat} {w0 w : World} {M : List Blk} (news : List Value) (hnl : news.length = 4) (hn1 : news.all (·.oneCell') = true) (hx1 : xs.all (·.oneCell') = true) (bv : Nat) (ev : TypeId) (mv N : Nat) (hp : Hp B w0 w (⟨bv, news, ev, mv⟩ :: ⟨g, pre ++ xs, 58, N⟩ :: M)) :
    Calls Try.prog 88 #[.slice (some ⟨g, off, none⟩) n cap, .int .i64 0, .slice (some ⟨bv, 0, none⟩) 2 2] w (InsPost2 B w0 (n + 2) (news ++ xs) M) := by
  obtain ⟨i0, hi0, hz0, hz1, hz2⟩ := info_parts info58
  have HNL : RowKit.Hid (news.length = 2 * 2) := Lib.hid (by rw [hnl])
  have HN1 := Lib.hid hn1
  have HX1 := Lib.hid hx1
  have HXL := Lib.hid hxl
  have HDK : RowKit.Hid (∀ (j : Nat) u, xs[j]? = some u → (pre ++ xs)[off + j]? = some u) := Lib.hid (fun j u hj => pre_get hpre hj)
  have HKZ : RowKit.Hid ((n : Int) + 2 = ((n + 2 : Nat) : Int)) := Lib.hid (by omega)
  have HMIN : RowKit.Hid (Nat.min 2 (n + 2) = 2) := Lib.hid (Nat.min_eq_left (by omega))
  have HMIN2 : RowKit.Hid (Nat.min n n = n) := Lib.hid (Nat.min_self _)
  have k0 : 0 < n + 2 := by omega
  have kg : cap < n + 2 := by omega
  have k63 : n + 2 ≤ maxLen := by unfold maxLen; omega
  have kby : (n + 2) * 16 ≤ 100000000 := by omega
  have f1 : (0 : Int) ≤ (n : Int) := by omega
  have f2 : (0 : Int) ≤ (cap : Int) := by omega
  have f4 : ((0 : Int) == (n : Int)) = false := by simp; omega
  have f5 : (cap : Int) < (n : Int) + 2 := by omega
  have f6 : ¬ (cap = 0) := by omega
  clear hnl hn1 hx1 hxl
  go_enter Try.func88, Try.ntmps88
  go_wp2_with (first | (at_builtin; refine wpList_appendZeros0 hp _ _ 58 _ _ rfl wy Try.underlying24 .i64 Try.underlying3 i0 _ hi0 hz0 2 16 hz1 hz2 rfl (by decide) _ cap (sTm rfl) _ (n + 2) HKZ.out (sTm rfl) k0 kg k63 kby ?_; clear hp; intro g2 cap2 w1 hc2 hcm2 hp; generalize hzs : (Builtin.zeroCells _ (n + 2)).toList = zs at hp; have HZL := Lib.hid (show zs.length = (n + 2) * 2 by rw [← hzs, Array.length_toList, size_zeroCells]; rfl); clear hzs; have f7 : ¬ (cap2 = 0) := (by omega); have f8 : ¬ (cap2 = 2) := (by omega); have f9 : (2 : Int) ≤ (cap2 : Int) := (by omega); have HFIT : RowKit.Hid (0 + 2 * 2 ≤ zs.length) := Lib.hid (by rw [HZL.out]; omega); simp only [put_some, put_none, sSet, zSet]) | ((with_reducible refine pre_copy _ _ _ _ rfl ?_); refine wpList_copyAt hp _ _ 58 _ _ rfl wy Try.underlying24 2 size58 g2 0 (n + 2) cap2 (sTm rfl) bv 0 2 2 (sTm rfl) 0 _ _ at0 2 HMIN.out news HNL.out HFIT.out (fun j u hj => hp.cell at1 (by rw [Nat.zero_add]; exact hj)) HN1.out ?_; clear hp; intro v2 w1 hp; simp only [zSet] at hp; simp only [put_some, put_none, sSet, zSet]) | go_skip)
  have HL1 : RowKit.Hid (zs.take 0 ++ (news ++ zs.drop (0 + 2 * 2)) = news ++ zs.drop 4) := Lib.hid (by simp)
  rw [HL1.out] at hp
  have HFIT2 : RowKit.Hid (4 + n * 2 ≤ (news ++ zs.drop 4).length) := Lib.hid (by rw [List.length_append, List.length_drop, HNL.out, HZL.out]; omega)
  have f10 : (2 : Int) ≤ (n : Int) + 2 := by omega
  have HW1 : RowKit.Hid (wrap64 (2 : Int) = 2) := Lib.hid (by unfold wrap64; omega)
  refine wp_region_keeps _ (Keeps.all hp.drew) [8] [(0, true), (1, true), (2, true), (3, true), (4, true), (5, true), (6, true), (7, true), (8, false)] (by kernel_rfl) (by kernel_rfl) rfl (by kernel_rfl) (fun _ _ d _ _ h => by cases d <;> exact h) ?_
  replace hp := hp.drew
  repeat' (with_reducible refine plan_is ?_); first | (with_reducible refine plan_nil ?_) | ((with_reducible refine plan_t ?_); refine plan_tk rfl ?_; (first | ((with_reducible refine tk_mv _ rfl ?_); refine tM rfl ?_) | refine tG (fun w _ => (by go_simp; try rfl)) ?_); try simp only [put_some, put_none, eval_tmp, eval_const, sSet, zSet, List.getD_cons_succ, List.getD_cons_zero, wrap_eq, HW1.out]) | (refine plan_do rfl (fun K hK => ?_); go_wp2_with (((with_reducible refine pre_copy _ _ _ _ rfl ?_); refine wpList_copyAt hp _ _ 58 _ _ rfl wy Try.underlying24 2 size58 g2 4 n (cap2 - 2) (sTm rfl) g off n cap (sTm rfl) 0 _ _ at0 n HMIN2.out xs HXL.out HFIT2.out (fun j u hj => hp.cell at2 (HDK.out j u hj)) HX1.out ?_; clear hp; intro v2 w1 hp; simp only [zSet] at hp; simp only [put_some, put_none, sSet, zSet])); (first | refine hK.out _ _ (.inl rfl) ?_ | refine hK.out _ _ (.inr (kall hp)) ?_); clear hK K; try simp only [put_some, put_none, eval_tmp, eval_const, sSet, zSet, List.getD_cons_succ, List.getD_cons_zero, wrap_eq, HW1.out])
  go_wp2_with fail
  go_ret
  have hyl : (news ++ xs).length = (n + 2) * 2 := by rw [List.length_append, HNL.out, HXL.out]; omega
  refine ⟨_, [⟨g2, news ++ xs, 58, cap2 * 2⟩], rfl, ⟨hyl, .inr ⟨g2, 0, cap2, [], rfl, hc2, hcm2, rfl, by rw [Nat.zero_add, List.nil_append]⟩⟩, ?_⟩
  have e : (news ++ zs.drop 4).take 4 ++ (xs ++ (news ++ zs.drop 4).drop (4 + n * 2)) = news ++ xs := by
    rw [List.take_append_of_le_length (by rw [HNL.out]; omega), List.take_of_length_le (by rw [HNL.out]; omega), List.drop_eq_nil_of_le (by rw [List.length_append, List.length_drop, HNL.out, HZL.out]; omega), List.append_nil]
  rw [e] at hp
  exact hp.kp
theorem over2105 {B : Nat} {w0 w : World} {L : List Blk} {bv g ev mv nv : Nat} {news l : List Value} {eg : TypeId} (hp : Hp B w0 w (⟨bv, news, ev, mv⟩ :: ⟨g, l, eg, nv⟩ :: L)) (hnv : nv ≠ 0) (od lb cb : Nat) :
    (callFunc 105 #[.slice (some ⟨bv, 0, none⟩) 2 2, .slice (some ⟨g, od, none⟩) lb cb]).run Try.prog w = .ok (.value (.bool false)) w := by
  have hne : bv ≠ g := by
    have := hp.nodup
    simp only [List.map_cons, List.nodup_cons, List.mem_cons] at this
    exact fun h => this.1 (.inl h)
  rw [run_callFunc_extern Try.func105 (by kernel_rfl) (by kernel_rfl) (by kernel_rfl) (e := Extern.SlicesOverlaps.overlaps #[24, 24] #[4]) (by kernel_rfl),
    Lib.run_overlaps_apart w 24 4 58 Try.underlying24 2 (fun w => (run_isAgg_agg agg58 w).2) ⟨bv, 0, none⟩ ⟨g, od, none⟩ 2 2 lb cb hne ev eg mv nv (hp.shape at0) (hp.shape at1) hnv (hp.free at0 0) (hp.free at0 mv)]
  rfl
theorem ins2_c (n off : Nat) (pre xs l2 : List Value) (hp : pre.length = off) (hx : xs.length = n * 2) (h2 : l2.length = 4) :
    (pre ++ xs ++ l2).take (off + 4) ++ (xs ++ (pre ++ xs ++ l2).drop (off + 4 + n * 2)) = pre ++ ((xs ++ l2).take 4 ++ xs) := by
  rw [List.drop_eq_nil_of_le (by rw [List.length_append, List.length_append]; omega), List.append_nil, List.append_assoc pre xs l2, List.take_append, List.take_of_length_le (by omega), hp, show off + 4 - off = 4 by omega, List.append_assoc]
theorem ins2_d (off : Nat) (pre ys xs news : List Value) (hp : pre.length = off) (hy : ys.length = 4) :
    (pre ++ (ys ++ xs)).take off ++ (news ++ (pre ++ (ys ++ xs)).drop (off + 2 * 2)) = pre ++ (news ++ xs) := by
  rw [List.take_append_of_le_length (by omega), List.take_of_length_le (by omega), List.drop_append, List.drop_eq_nil_of_le (by omega), List.nil_append, hp, show off + 2 * 2 - off = 4 by omega, List.drop_append_of_le_length (by omega), List.drop_eq_nil_of_le (by omega), List.nil_append]
set_option maxRecDepth 100000 in
set_option maxHeartbeats 4000000 in
theorem ins288_room (n : Nat) (h0 : 0 < n) (hn : n ≤ 1000) (xs : List Value) (hxl : xs.length = n * 2) (g off cap : Nat) (pre : List Value) (hpre : pre.length = off) (hcm : cap ≤ maxLen) (hcap : n + 2 ≤ cap) {B : Nat} {w0 w : World} {M : List Blk} (news : List Value) (hnl : news.length = 4) (hn1 : news.all (·.oneCell') = true) (hx1 : xs.all (·.oneCell') = true) (bv : Nat) (ev : TypeId) (mv : Nat) (hp : Hp B w0 w (⟨bv, news, ev, mv⟩ :: ⟨g, pre ++ xs, 58, off + cap * 2⟩ :: M)) :
    Calls Try.prog 88 #[.slice (some ⟨g, off, none⟩) n cap, .int .i64 0, .slice (some ⟨bv, 0, none⟩) 2 2] w (InsPost2 B w0 (n + 2) (news ++ xs) M) := by
  obtain ⟨l2, hl2, hp2⟩ := (hp.reorder (List.Perm.swap _ _ _)).more 4 (by rw [List.length_append, hpre, hxl]; omega)
  replace hp := hp2.reorder (List.Perm.swap _ _ _)
  clear hp2
  have HNL : RowKit.Hid (news.length = 2 * 2) := Lib.hid (by rw [hnl])
  have HN1 := Lib.hid hn1
  have HX1 := Lib.hid hx1
  have HXL := Lib.hid hxl
  have HMIN : RowKit.Hid (Nat.min 2 (n + 2) = 2) := Lib.hid (Nat.min_eq_left (by omega))
  have HMIN3 : RowKit.Hid (Nat.min (n + 2) n = n) := Lib.hid (Nat.min_eq_right (by omega))
  have HDK : RowKit.Hid (∀ (j : Nat) u, xs[j]? = some u → (pre ++ xs ++ l2)[off + j]? = some u) := Lib.hid (fun j u hj => by
    rw [List.append_assoc]
    refine pre_get hpre ?_
    rw [List.getElem?_append_left (List.getElem?_eq_some_iff.1 hj).1]; exact hj)
  have HFIT3 : RowKit.Hid (off + 4 + n * 2 ≤ (pre ++ xs ++ l2).length) := Lib.hid (by rw [List.length_append, List.length_append, hpre, hxl, hl2]; omega)
  have hyl : ((xs ++ l2).take 4).length = 4 := by rw [List.length_take, List.length_append, hl2]; omega
  have HFIT4 : RowKit.Hid (off + 2 * 2 ≤ (pre ++ ((xs ++ l2).take 4 ++ xs)).length) := Lib.hid (by rw [List.length_append, List.length_append, hyl, hpre]; omega)
  have HC := Lib.hid (ins2_c n off pre xs l2 hpre hxl hl2)
  have HDD := Lib.hid (ins2_d off pre ((xs ++ l2).take 4) xs news hpre hyl)
  have HPRE := Lib.hid hpre
  have hov : ∀ od lb cb, (callFunc 105 #[.slice (some ⟨bv, 0, none⟩) 2 2, .slice (some ⟨g, od, none⟩) lb cb]).run Try.prog w = .ok (.value (.bool false)) w := fun od lb cb => over2105 hp (by omega) od lb cb
  have f1 : (0 : Int) ≤ (n : Int) := by omega
  have f2 : (0 : Int) ≤ (cap : Int) := by omega
  have f4 : ((0 : Int) == (n : Int)) = false := by simp; omega
  have f5 : decide ((cap : Int) < (n : Int) + 2) = false := by simp; omega
  have f6 : ¬ (cap = 0) := by omega
  have f7 : ¬ (cap = 2) := by omega
  have f13 : (n : Int) + 2 ≤ (cap : Int) := by omega
  have f14 : (0 : Int) ≤ (n : Int) + 2 := by omega
  have f15 : ((n : Int) + 2).toNat = n + 2 := by omega
  have f16 : (2 : Int) ≤ (n : Int) + 2 := by omega
  have HW1 : RowKit.Hid (wrap64 (2 : Int) = 2) := Lib.hid (by unfold wrap64; omega)
  have f17 : (2 : Int) ≤ (cap : Int) := by omega
  clear hnl hn1 hx1 hxl hl2 hyl
  go_enter Try.func88, Try.ntmps88
  go_wp2_with (first | (simp only [hov]; done) | go_skip)
  refine wp_region_keeps _ (Keeps.all hp.drew) [8] [(0, true), (1, true), (2, true), (3, true), (4, true), (5, true), (6, true), (7, true), (8, false)] (by kernel_rfl) (by kernel_rfl) rfl (by kernel_rfl) (fun _ _ d _ _ h => by cases d <;> exact h) ?_
  replace hp := hp.drew
  repeat' (with_reducible refine plan_is ?_); first | (with_reducible refine plan_nil ?_) | ((with_reducible refine plan_t ?_); refine plan_tk rfl ?_; (first | ((with_reducible refine tk_mv _ rfl ?_); refine tM rfl ?_) | refine tG (fun w _ => (by go_simp; try rfl)) ?_); try simp only [put_some, put_none, eval_tmp, eval_const, sSet, zSet, List.getD_cons_succ, List.getD_cons_zero, wrap_eq, HW1.out]) | (refine plan_do rfl (fun K hK => ?_); go_wp2_with (((with_reducible refine pre_copy _ _ _ _ rfl ?_); refine wpList_copyAt hp _ _ 58 _ _ rfl wy Try.underlying24 2 size58 g (off + 4) n (cap - 2) (sTm rfl) g off (n + 2) cap (sTm rfl) 1 _ _ at1 n HMIN3.out xs HXL.out HFIT3.out (fun j u hj => hp.cell at1 (HDK.out j u hj)) HX1.out ?_; clear hp; intro v2 w1 hp; simp only [sSet, zSet] at hp; simp only [put_some, put_none, sSet, zSet])); (first | refine hK.out _ _ (.inl rfl) ?_ | refine hK.out _ _ (.inr (kall hp)) ?_); clear hK K; try simp only [put_some, put_none, eval_tmp, eval_const, sSet, zSet, List.getD_cons_succ, List.getD_cons_zero, wrap_eq, HW1.out])
  rw [HC.out] at hp
  go_wp2_with (first | ((with_reducible refine pre_copy _ _ _ _ rfl ?_); refine wpList_copyAt hp _ _ 58 _ _ rfl wy Try.underlying24 2 size58 g off (n + 2) cap (sTm rfl) bv 0 2 2 (sTm rfl) 1 _ _ at1 2 HMIN.out news HNL.out HFIT4.out (fun j u hj => hp.cell at0 (by rw [Nat.zero_add]; exact hj)) HN1.out ?_; clear hp; intro v3 w1 hp; simp only [sSet, zSet] at hp; simp only [put_some, put_none, sSet, zSet]) | go_skip)
  rw [HDD.out] at hp
  go_ret
  refine ⟨_, [⟨g, pre ++ (news ++ xs), 58, off + cap * 2⟩], rfl, ⟨by rw [List.length_append, HNL.out, HXL.out]; omega, .inr ⟨g, off, cap, pre, rfl, hcap, hcm, HPRE.out, rfl⟩⟩, hp.tail⟩
theorem ins288 (n : Nat) (hn : n ≤ 1000) (xs : List Value) (v : Value) {B : Nat} {w0 w : World} {R M : List Blk} (news : List Value) (hnl : news.length = 4) (hn1 : news.all (·.oneCell') = true) (hx1 : xs.all (·.oneCell') = true) (bv : Nat) (ev : TypeId) (mv : Nat) (hR : SubRow 58 2 v n xs R) (hp : Hp B w0 w (⟨bv, news, ev, mv⟩ :: (R ++ M))) :
    Calls Try.prog 88 #[v, .int .i64 0, .slice (some ⟨bv, 0, none⟩) 2 2] w (InsPost2 B w0 (n + 2) (news ++ xs) M) := by
  rcases Nat.eq_zero_or_pos n with h0 | h0
  · subst h0
    have hx : xs = [] := List.eq_nil_of_length_eq_zero (by simpa using hR.1)
    subst hx
    rw [List.append_nil]
    exact ins288_end v news hnl hn1 bv ev mv hR hp
  · obtain ⟨hxl, ⟨h, _⟩ | ⟨g, off, cap, pre, hv, hnc, hcm, hpre, hr⟩⟩ := hR
    · omega
    · subst hv hr
      rcases Nat.lt_or_ge cap (n + 2) with h2 | h2
      · exact ins288_grow n h0 hn xs hxl g off cap pre hpre hnc h2 news hnl hn1 hx1 bv ev mv _ hp
      · exact ins288_room n h0 hn xs hxl g off cap pre hpre hcm h2 news hnl hn1 hx1 bv ev mv hp
end Go.Proofs.Ytaafajaadfgaoaa
/- What objects leave of a region: the plain law. No program in sight. -/
namespace Go.Proofs.Ytaafajaadfgaoaa
def metO (sz : Int) (b : Bl) (x : Ob) : Bool := decide (x.p ≤ sz) && (decide (b.p < x.p + pw x.o) && decide (x.p < b.p + pw b.o))
def metB (sz : Int) (os : List Ob) (b : Bl) : Bool := os.any (metO sz b)
def lfN (sz : Int) (os : List Ob) : Nat → Int → List Bl
  | 0, p => if metB sz os ⟨p, 0⟩ = true then [] else [⟨p, 0⟩]
  | k + 1, p => if metB sz os ⟨p, ((k + 1 : Nat) : Int)⟩ = true then lfN sz os k p ++ lfN sz os k (p + pw k) else [⟨p, ((k + 1 : Nat) : Int)⟩]
theorem metB_iff {sz : Int} {os : List Ob} {b : Bl} : metB sz os b = true ↔ ∃ x ∈ os, x.p ≤ sz ∧ b.p < x.p + pw x.o ∧ x.p < b.p + pw b.o := by
  unfold metB metO
  rw [List.any_eq_true]
  simp only [Bool.and_eq_true, decide_eq_true_eq]
def hasW (os : List Ob) (w : Int) : Prop := ∃ x ∈ os, InW (obBl x) w
theorem met_word {sz : Int} {os : List Ob} {b : Bl} (hb : b.p + pw b.o ≤ sz) : metB sz os b = true ↔ ∃ w, InW b w ∧ hasW os w := by
  rw [metB_iff]
  constructor
  · rintro ⟨x, hx, h1, h2, h3⟩
    have p1 := pw_pos x.o
    have p2 := pw_pos b.o
    by_cases h : x.p ≤ b.p
    · exact ⟨b.p, ⟨Int.le_refl _, by omega⟩, x, hx, by simp only [obBl]; exact h, by simp only [obBl]; omega⟩
    · exact ⟨x.p, ⟨by omega, by omega⟩, x, hx, by simp only [obBl]; omega, by simp only [obBl]; omega⟩
  · rintro ⟨w, ⟨h1, h2⟩, x, hx, h3, h4⟩
    simp only [obBl] at h3 h4
    exact ⟨x, hx, by omega, by omega, by omega⟩
structure AtK (od : Int) (k : Nat) (p : Int) : Prop where
  ko : (k : Int) ≤ od
  lo : 0 ≤ p
  hi : p + pw k ≤ pw od
  al : p % pw k = 0
theorem AtK.may {od : Int} {k : Nat} {p : Int} (h : AtK od k p) : MayP od ⟨p, k⟩ := ⟨by simp only; omega, h.ko, h.lo, by simp only; have := h.hi; omega, h.al⟩
theorem pwS (k : Nat) : pw ((k + 1 : Nat) : Int) = 2 * pw k := by
  have := pw_succ (o := (k : Int)) (by omega)
  rw [← this]; congr 1
theorem AtK.left {od : Int} {k : Nat} {p : Int} (h : AtK od (k + 1) p) : AtK od k p := by
  have h1 := pwS k
  have h2 := pw_pos (k : Int)
  have h3 := h.hi
  have h4 := h.al
  rw [h1] at h3 h4
  exact ⟨by have := h.ko; omega, h.lo, by omega, Int.emod_eq_zero_of_dvd (Int.dvd_trans ⟨2, by omega⟩ (Int.dvd_of_emod_eq_zero h4))⟩
theorem AtK.right {od : Int} {k : Nat} {p : Int} (h : AtK od (k + 1) p) : AtK od k (p + pw k) := by
  have h0 := h.left
  have h1 := pwS k
  have h2 := pw_pos (k : Int)
  have h3 := h.hi
  rw [h1] at h3
  exact ⟨h0.ko, by have := h.lo; omega, by omega, by rw [Int.add_emod_right]; exact h0.al⟩
theorem lf_facts {od : Int} {os : List Ob} : ∀ (k : Nat) (p : Int), AtK od k p →
    (∀ b ∈ lfN (pw od) os k p, MayP od b ∧ b.o ≤ k ∧ p ≤ b.p ∧ b.p + pw b.o ≤ p + pw k) ∧ Disj (lfN (pw od) os k p) ∧ (∀ w, cov (lfN (pw od) os k p) w ↔ InW ⟨p, k⟩ w ∧ ¬ hasW os w)
  | 0, p, h => by
    have hm := met_word (os := os) (b := ⟨p, 0⟩) (by have := h.hi; simpa using this)
    have p0 : pw 0 = 1 := by decide
    have hin : ∀ w, InW ⟨p, 0⟩ w ↔ w = p := fun w => by
      unfold InW
      simp only [p0]; omega
    unfold lfN
    split
    · rename_i hmt
      obtain ⟨w0, hw0, hh⟩ := hm.1 hmt
      refine ⟨fun b hb => (by cases hb), List.Pairwise.nil, fun w => ⟨fun ⟨x, hx, _⟩ => (by cases hx), fun ⟨h1, h2⟩ => ?_⟩⟩
      have e1 := (hin w0).1 hw0
      have e2 := (hin w).1 h1
      rw [e2, ← e1] at h2
      exact absurd hh h2
    · rename_i hmt
      refine ⟨fun b hb => ?_, List.pairwise_singleton _ _, fun w => ⟨fun ⟨x, hx, hw⟩ => ?_, fun ⟨h1, _⟩ => ⟨_, List.mem_singleton.2 rfl, h1⟩⟩⟩
      · obtain rfl := List.mem_singleton.1 hb
        exact ⟨h.may, by simp, Int.le_refl _, Int.le_refl _⟩
      · obtain rfl := List.mem_singleton.1 hx
        exact ⟨hw, fun hh => hmt (hm.2 ⟨w, hw, hh⟩)⟩
  | k + 1, p, h => by
    have hm := met_word (os := os) (b := ⟨p, ((k + 1 : Nat) : Int)⟩) h.hi
    have h1 := pwS k
    have h2 := pw_pos (k : Int)
    obtain ⟨l1, l2, l3⟩ := lf_facts k p h.left
    obtain ⟨r1, r2, r3⟩ := lf_facts k (p + pw k) h.right
    unfold lfN
    split
    · refine ⟨fun b hb => ?_, ?_, fun w => ?_⟩
      · rcases List.mem_append.1 hb with hb | hb
        · obtain ⟨a1, a2, a3, a4⟩ := l1 b hb
          exact ⟨a1, by omega, a3, by rw [h1]; omega⟩
        · obtain ⟨a1, a2, a3, a4⟩ := r1 b hb
          exact ⟨a1, by omega, by omega, by rw [h1]; omega⟩
      · refine List.pairwise_append.2 ⟨l2, r2, fun a ha b hb => ?_⟩
        have := (l1 a ha).2.2.2
        have := (r1 b hb).2.2.1
        omega
      · have hsplit : cov (lfN (pw od) os k p ++ lfN (pw od) os k (p + pw k)) w ↔ cov (lfN (pw od) os k p) w ∨ cov (lfN (pw od) os k (p + pw k)) w := by
          constructor
          · rintro ⟨x, hx, hw⟩
            rcases List.mem_append.1 hx with hx | hx
            · exact .inl ⟨x, hx, hw⟩
            · exact .inr ⟨x, hx, hw⟩
          · rintro (⟨x, hx, hw⟩ | ⟨x, hx, hw⟩)
            · exact ⟨x, List.mem_append_left _ hx, hw⟩
            · exact ⟨x, List.mem_append_right _ hx, hw⟩
        rw [hsplit, l3, r3]
        unfold InW
        simp only [h1]
        constructor
        · rintro (⟨⟨a, b⟩, c⟩ | ⟨⟨a, b⟩, c⟩)
          · exact ⟨⟨by omega, by omega⟩, c⟩
          · exact ⟨⟨by omega, by omega⟩, c⟩
        · rintro ⟨⟨a, b⟩, c⟩
          by_cases hw : w < p + pw k
          · exact .inl ⟨⟨a, hw⟩, c⟩
          · exact .inr ⟨⟨by omega, by omega⟩, c⟩
    · rename_i hmt
      refine ⟨fun b hb => ?_, List.pairwise_singleton _ _, fun w => ⟨fun ⟨x, hx, hw⟩ => ?_, fun ⟨h1, _⟩ => ⟨_, List.mem_singleton.2 rfl, h1⟩⟩⟩
      · obtain rfl := List.mem_singleton.1 hb
        exact ⟨h.may, Int.le_refl _, Int.le_refl _, Int.le_refl _⟩
      · obtain rfl := List.mem_singleton.1 hx
        exact ⟨hw, fun hh => hmt (hm.2 ⟨w, hw, hh⟩)⟩
theorem lf_cover {od : Int} {os : List Ob} (h8 : od ≤ 8) : ∀ (k : Nat) (p : Int), AtK od k p → ∀ b : Bl, MayP od b → b.o ≤ k → p ≤ b.p → b.p + pw b.o ≤ p + pw k → (∀ w, InW b w → ¬ hasW os w) →
    ∃ z ∈ lfN (pw od) os k p, b.o ≤ z.o ∧ z.p ≤ b.p ∧ b.p + pw b.o ≤ z.p + pw z.o
  | 0, p, h, b, hb, ho, h1, h2, hw => by
    have p0 : pw 0 = 1 := by decide
    have e0 : b.o = 0 := by have := hb.1; omega
    rw [e0] at h2
    simp only [Int.natCast_zero, p0] at h2
    have e1 : b.p = p := by simp at h2; omega
    have hm := met_word (os := os) (b := ⟨p, 0⟩) (by have := h.hi; simpa using this)
    unfold lfN
    rw [if_neg]
    · exact ⟨_, List.mem_singleton.2 rfl, by simp [e0], by simp only; omega, by simp only [e0]; omega⟩
    · intro hmt
      obtain ⟨w, hw1, hw2⟩ := hm.1 hmt
      refine hw w ?_ hw2
      unfold InW at hw1 ⊢
      rw [e0]; simp only at hw1; omega
  | k + 1, p, h, b, hb, ho, h1, h2, hw => by
    have hs := pwS k
    have hpk := pw_pos (k : Int)
    have hpb := pw_pos b.o
    have hm := met_word (os := os) (b := ⟨p, ((k + 1 : Nat) : Int)⟩) h.hi
    unfold lfN
    split
    · rename_i hmt
      by_cases hbo : b.o ≤ k
      · rw [hs] at h2
        by_cases hl : b.p < p + pw k
        · have hn := nested h8 hb h.left.may hbo ⟨hl, by simp only; omega⟩
          obtain ⟨z, hz, g⟩ := lf_cover h8 k p h.left b hb hbo h1 hn.2 hw
          exact ⟨z, List.mem_append_left _ hz, g⟩
        · obtain ⟨z, hz, g⟩ := lf_cover h8 k (p + pw k) h.right b hb hbo (by omega) (by omega) hw
          exact ⟨z, List.mem_append_right _ hz, g⟩
      · exfalso
        have e1 : b.o = ((k + 1 : Nat) : Int) := by omega
        obtain ⟨w, hw1, hw2⟩ := hm.1 hmt
        refine hw w ?_ hw2
        unfold InW at hw1 ⊢
        rw [e1] at h2 ⊢
        simp only at hw1; omega
    · exact ⟨_, List.mem_singleton.2 rfl, ho, by simp only; exact h1, by simp only; exact h2⟩
theorem lf_can {od : Int} {os : List Ob} (h3 : 0 ≤ od) (h8 : od ≤ 8) : Can od (lfN (pw od) os od.toNat 0) := by
  have hn : ((od.toNat : Nat) : Int) = od := by omega
  have h0 : AtK od od.toNat 0 := ⟨by omega, Int.le_refl _, by rw [hn]; omega, by simp⟩
  obtain ⟨f1, f2, f3⟩ := lf_facts (os := os) od.toNat 0 h0
  refine ⟨f2, fun x hx => (f1 x hx).1, fun x hx y hy ho ht => ?_⟩
  have hmy := (f1 y hy).1
  have hmx := (f1 x hx).1
  have hmm := merge_may hmy h8 ho
  have hpy := pw_pos y.o
  have hs := pw_succ (o := y.o) hmy.1
  have hc := twin_cases hmy h8 ho
  rw [ht] at hc
  have hxo : x.o = y.o := by rw [← ht, twin_o]
  have hpar : (mergeB y).p = min y.p x.p := by unfold mergeB; rw [ht]
  have hpo : (mergeB y).o = y.o + 1 := rfl
  have hfree : ∀ w, InW (mergeB y) w → ¬ hasW os w := fun w hw => by
    unfold InW at hw
    rw [hpar, hpo, hs] at hw
    have hcw : cov (lfN (pw od) os od.toNat 0) w := by
      rcases hc with ⟨e, _, _⟩ | ⟨e, _, _⟩
      · have e' : x.p = y.p + pw y.o := by rw [e]
        by_cases g : w < y.p + pw y.o
        · exact ⟨y, hy, by unfold InW; omega⟩
        · exact ⟨x, hx, by unfold InW; rw [hxo]; omega⟩
      · have e' : x.p = y.p - pw y.o := by rw [e]
        by_cases g : w < y.p
        · exact ⟨x, hx, by unfold InW; rw [hxo]; omega⟩
        · exact ⟨y, hy, by unfold InW; omega⟩
    exact ((f3 w).1 hcw).2
  have hpe := hmm.end_le
  obtain ⟨z, hz, g1, g2, g3⟩ := lf_cover h8 od.toNat 0 h0 (mergeB y) hmm (by rw [hn]; exact hmm.2.1) hmm.2.2.1 (by rw [hn]; omega) hfree
  have hzy : y = z := Classical.byContradiction fun hne => f2.apart hy hz hne (by
    rw [hpo, hs] at g3
    rw [hpar] at g2 g3
    refine ⟨?_, ?_⟩
    · rcases hc with ⟨e, _, _⟩ | ⟨e, _, _⟩
      · have e' : x.p = y.p + pw y.o := by rw [e]
        omega
      · have e' : x.p = y.p - pw y.o := by rw [e]
        omega
    · omega)
  rw [← hzy, hpo] at g1
  omega
theorem tl_cover {E : Int} : ∀ {l : List Bl} {a : Int}, Tl E a l → ∀ w, a ≤ w → w < E → cov l w
  | [], a, h, w, h1, h2 => by simp [Tl] at h; omega
  | b :: r, a, h, w, h1, h2 => by
    obtain ⟨rfl, h3⟩ := h
    by_cases g : w < b.p + pw b.o
    · exact ⟨b, by simp, h1, g⟩
    · obtain ⟨x, hx, hw⟩ := tl_cover h3 w (by omega) h2
      exact ⟨x, List.mem_cons_of_mem _ hx, hw⟩
theorem hright_cov {x : Hv} (hx : HRight x) (w : Int) : cov x.fs w ↔ (0 ≤ w ∧ w < pw x.od) ∧ ¬ hasW x.os w := by
  have hf := hx.free
  unfold rightB at hf
  rw [Bool.and_eq_true] at hf
  have hg : Good x.od x.fs := by simpa using hf.2
  obtain ⟨s, hs⟩ : ∃ s, s = (allBl x).mergeSort (fun a b => decide (a.p ≤ b.p)) := ⟨_, rfl⟩
  have hperm : s.Perm (allBl x) := by rw [hs]; exact List.mergeSort_perm _ _
  have hsort : s.Pairwise fun a b => a.p ≤ b.p := by
    rw [hs]
    have := List.pairwise_mergeSort (le := fun a b : Bl => decide (a.p ≤ b.p)) (by intro a b c h1 h2; simp at *; omega) (by intro a b; simp; omega) (allBl x)
    exact this.imp (by intro a b h; simpa using h)
  have ht := (tile_iff hg hperm hsort hx.need.weak).2 ⟨hx.need, hx.apart, hx.words⟩
  constructor
  · rintro ⟨b, hb, hw⟩
    obtain ⟨i, hi, rfl⟩ := List.getElem_of_mem hb
    have hm := (hg i _ (List.getElem?_eq_getElem hi)).1
    refine ⟨⟨by have := hm.2.2.1; have := hw.1; omega, by have := hm.end_le; have := hw.2; omega⟩, ?_⟩
    rintro ⟨o, ho, hwo⟩
    have ha := hx.apart
    unfold Apart allBl at ha
    exact (List.pairwise_append.1 ha).2.2 _ hb _ (List.mem_map_of_mem ho) (meet_of hw hwo)
  · rintro ⟨⟨h1, h2⟩, h3⟩
    obtain ⟨b, hb, hw⟩ := tl_cover ht w h1 h2
    rcases List.mem_append.1 (hperm.mem_iff.1 hb) with hb | hb
    · exact ⟨b, hb, hw⟩
    · obtain ⟨o, ho, rfl⟩ := List.mem_map.1 hb
      exact absurd ⟨o, ho, hw⟩ h3
theorem hright_od {x : Hv} (hx : HRight x) : 3 ≤ x.od ∧ x.od ≤ 8 := by
  have hf := hx.free
  unfold rightB regionB at hf
  rw [Bool.and_eq_true] at hf
  simpa using hf.1
theorem left_free {x : Hv} (hx : HRight x) : lfN (pw x.od) x.os x.od.toNat 0 = x.fs := by
  obtain ⟨h3, h8⟩ := hright_od hx
  have hf := hx.free
  unfold rightB at hf
  rw [Bool.and_eq_true] at hf
  have hg : Good x.od x.fs := by simpa using hf.2
  have hn : ((x.od.toNat : Nat) : Int) = x.od := by omega
  have h0 : AtK x.od x.od.toNat 0 := ⟨by omega, Int.le_refl _, by rw [hn]; omega, by simp⟩
  refine Can.uniq h8 (lf_can (by omega) h8) (hg.can h8) (fun w => ?_)
  rw [(lf_facts (os := x.os) x.od.toNat 0 h0).2.2 w, hright_cov hx w]
  unfold InW
  simp only [hn]
  constructor
  · rintro ⟨⟨a, b⟩, c⟩; exact ⟨⟨a, by omega⟩, c⟩
  · rintro ⟨⟨a, b⟩, c⟩; exact ⟨⟨a, by omega⟩, c⟩
theorem lf_len {od : Int} {os : List Ob} (h3 : 3 ≤ od) (h8 : od ≤ 8) : (lfN (pw od) os od.toNat 0).length ≤ 256 := by
  have := (lf_can (os := os) (by omega) h8).good.len h3
  have := pw_le h8
  omega
end Go.Proofs.Ytaafajaadfgaoaa
/- The walk of left: what objects leave of free blocks. -/
namespace Go.Proofs.Ytaafajaadfgaoaa
open Go.RowKit
theorem ceJF0 {ty : TypeId} (h : cellB Try.prog ty = true := by with_reducible first | exact cell3 | exact cell4 | exact cell24 | exact cell22) : cellB Try.prog ty = true := h
def CellAt (w : World) (b : Nat) (v : Value) : Prop := ∀ j u, [v][j]? = some u → w.cell? ⟨b, 0 + j, none⟩ = some u
theorem CellAt.of {w : World} {b : Nat} {v : Value} (h : w.cell? ⟨b, 0, none⟩ = some v) : CellAt w b v := fun j u hj => by
  match j, hj with
  | 0, hj => simp at hj; subst hj; exact h
theorem CellAt.below {w w' : World} {b : Nat} {v : Value} (h : CellAt w b v) (hb : Below w.heap.size w w') : CellAt w' b v := fun j u hj => by
  have := h j u hj
  exact (hb.cell (World.block_lt_of_cell? w _ this)).trans this
theorem met_ways (sz p en : Int) (x : Ob) : (decide (x.p ≤ sz) = false ∧ (decide (x.p ≤ sz) && (decide (p < x.p + pw x.o) && decide (x.p < en))) = false) ∨
    (decide (x.p ≤ sz) = true ∧ decide (p < x.p + pw x.o) = false ∧ (decide (x.p ≤ sz) && (decide (p < x.p + pw x.o) && decide (x.p < en))) = false) ∨
    (decide (x.p ≤ sz) = true ∧ decide (p < x.p + pw x.o) = true ∧ (decide (x.p ≤ sz) && (decide (p < x.p + pw x.o) && decide (x.p < en))) = decide (x.p < en)) := by
  cases decide (x.p ≤ sz) <;> cases decide (p < x.p + pw x.o) <;> simp
def ObFit (x : Ob) : Prop := 0 ≤ x.p ∧ x.p ≤ 2147483647 ∧ 0 ≤ x.o ∧ x.o ≤ 8
set_option maxRecDepth 100000 in
set_option maxHeartbeats 8000000 in
theorem leftc87 (sz p en : Int) (x : Ob) (hx : ObFit x) (bs bb be : Nat) (w : World) (hs : CellAt w bs (.int .i64 sz)) (hb : CellAt w bb (.int .i64 p)) (he : CellAt w be (.int .i64 en)) :
    Calls Try.prog 87 #[.agg (obV x).toArray, .pointer (some ⟨bs, 0, none⟩), .pointer (some ⟨bb, 0, none⟩), .pointer (some ⟨be, 0, none⟩)] w fun e w' => e = .returned (.bool (decide (x.p ≤ sz) && (decide (p < x.p + pw x.o) && decide (x.p < en)))) ∧ Below w.heap.size w w' := by
  have hp := Hp.start w
  have W9 := Lib.hid (met_ways sz p en x)
  obtain ⟨h1, h2, h3, h4⟩ := hx
  have HO0 := Lib.hid h3
  have HO8 := Lib.hid h4
  have HS := Lib.hid hs
  have HB := Lib.hid hb
  have HE := Lib.hid he
  have hpw := pw_le h4
  have hpw1 := pw_pos x.o
  have HW : RowKit.Hid (wrap64 (x.p + pw x.o) = x.p + pw x.o) := Lib.hid (by unfold wrap64; omega)
  obtain ⟨xh, xp, xo, xwa, xws, xwc, xla, xls, xlc⟩ := x
  simp only at W9 HW HO0 HO8
  simp only [obV]
  clear hs hb he h1 h2 h3 h4 hpw hpw1
  go_enter Try.func87, Try.ntmps87
  go_wp2_with (first | go_skip | ((first | ((with_reducible refine pre_box _ _ rfl ?_); refine lB hp rfl (sTm rfl) rfl ?_; clear hp; intro b w1 hp) | ((with_reducible refine pre_load _ _ rfl ?_); first | refine lO hp rfl (sTm rfl) ceJF0 aa5 ?_ | refine lA hp rfl (sTm rfl) (by with_reducible first | exact agg60 | exact agg58) aa5 ?_) | ((with_reducible refine pre_store _ _ _ rfl ?_); (first | refine sO hp rfl (sTm rfl) ceJF0 aa5 ?_ | refine sA hp rfl (sTm rfl) (sTm rfl) (by with_reducible first | exact agg60 | exact agg58) aa5 ?_ | refine sG hp rfl (sTm rfl) (sTm rfl) (by with_reducible first | exact agg60 | exact agg58) aa5 ?_); clear hp; intro w1 hp; simp only [spl, zSet, sSet] at hp) | ((with_reducible refine pre_build _ _ _ rfl ?_); refine lS hp rfl (by intro w; go_simp; rfl) ?_; clear hp; intro b w1 hp; simp only [List.length_cons, List.length_nil, Nat.reduceAdd] at hp)); simp only [put_some, put_none, sSet, zSet]))
  refine wp_region_keeps _ (Keeps.all hp.drew) [] [(0, true), (1, true), (2, true), (3, true), (4, true), (5, true), (6, true), (7, true), (8, true), (9, true), (10, true), (11, true), (12, true), (13, true), (14, false), (15, true), (16, true), (17, true), (18, true), (19, true), (20, true), (21, true), (22, true), (23, true), (24, true), (25, false)] (by kernel_rfl) (by kernel_rfl) rfl (by kernel_rfl) (fun _ _ d _ _ h => by cases d <;> exact h) ?_
  replace hp := hp.drew
  rcases W9.out with ⟨d1, r⟩ | ⟨d1, d2, r⟩ | ⟨d1, d2, r⟩
  all_goals have R := Lib.hid r
  all_goals clear r W9
  all_goals
    repeat' (with_reducible refine plan_is ?_); first | (with_reducible refine plan_nil ?_) | ((with_reducible refine plan_t ?_); refine plan_tk rfl ?_; (first | ((with_reducible refine tk_gd _ _ rfl ?_); refine tS (by first | exact wanted_no rfl rfl rfl rfl | exact wanted_nu rfl rfl rfl rfl) ?_) | ((with_reducible refine tk_mv _ rfl ?_); refine tM rfl ?_) | ((with_reducible refine tk_ld _ _ rfl ?_); first | refine tO rfl (sTm rfl) cell3 aa5 ?_ | refine tRO rfl (sTm rfl) cell3 (HS.out 0 _ rfl) ?_ | refine tRO rfl (sTm rfl) cell3 (HB.out 0 _ rfl) ?_ | refine tRO rfl (sTm rfl) cell3 (HE.out 0 _ rfl) ?_) | refine tG (fun w _ => (by go_simp; try rfl)) ?_); try simp only [put_some, put_none, eval_tmp, eval_const, sSet, zSet, List.getD_cons_succ, List.getD_cons_zero, wrap_eq, HW.out]) | (refine plan_do rfl (fun K hK => ?_); go_wp2_with (first | (go_at_call 44; (with_reducible refine (words44 _ (by first | exact HO0.out | omega) (by first | exact HO8.out | omega) _).mono ?_); rintro e w' ⟨rfl, rfl⟩) | go_skip); (refine hK.out _ _ (.inr (kall hp)) ?_); clear hK K; try simp only [put_some, put_none, eval_tmp, eval_const, sSet, zSet, List.getD_cons_succ, List.getD_cons_zero, wrap_eq, HW.out])
  all_goals (go_wp2_with fail; go_ret; exact ⟨ret_bool (by rw [R.out]; try rfl), hp.below⟩)
def metE (sz p en : Int) (x : Ob) : Bool := decide (x.p ≤ sz) && (decide (p < x.p + pw x.o) && decide (x.p < en))
theorem any_take {l : List Ob} {f : Ob → Bool} {j : Nat} {x : Ob} (h : l[j]? = some x) : (l.take (j + 1)).any f = ((l.take j).any f || f x) := by
  rw [List.take_add_one, h]; simp [List.any_append]
theorem any_yes {l : List Ob} {f : Ob → Bool} {j : Nat} {x : Ob} (h : l[j]? = some x) (hw : f x = true) : l.any f = true := List.any_eq_true.2 ⟨x, List.mem_of_getElem? h, hw⟩
def IdxPostO (w : World) (g : Bool) (e : Ending) (w' : World) : Prop := ∃ i : Int, e = .returned (.int .i64 i) ∧ decide (0 ≤ i) = g ∧ Below w.heap.size w w'
set_option maxRecDepth 100000 in
set_option maxHeartbeats 8000000 in
theorem index104 (sz p en : Int) (l : List Ob) (a : Option Addr) (c : Nat) (hl : l.length ≤ 600) (hob : ∀ x ∈ l, ObFit x) (bs bb be : Nat) (w : World) (ha : RowIs w a (l.flatMap obV)) (hs : CellAt w bs (.int .i64 sz)) (hb : CellAt w bb (.int .i64 p)) (he : CellAt w be (.int .i64 en)) :
    Calls Try.prog 104 #[.slice a l.length c, .func (.func 87) #[] #[.pointer (some ⟨bs, 0, none⟩), .pointer (some ⟨bb, 0, none⟩), .pointer (some ⟨be, 0, none⟩)]] w (IdxPostO w (l.any (metE sz p en))) := by
  have hp := Hp.start w
  have HA := Lib.hid ha
  have HS := Lib.hid hs
  have HB := Lib.hid hb
  have HE := Lib.hid he
  have HOB := Lib.hid hob
  clear ha hs hb he hob
  go_enter Try.func104, Try.ntmps104
  go_wp2_with (first | go_skip | ((first | ((with_reducible refine pre_box _ _ rfl ?_); refine lB hp rfl (sTm rfl) rfl ?_; clear hp; intro b w1 hp) | ((with_reducible refine pre_load _ _ rfl ?_); first | refine lO hp rfl (sTm rfl) ceJF0 aa5 ?_ | refine lA hp rfl (sTm rfl) (by with_reducible first | exact agg60 | exact agg58) aa5 ?_) | ((with_reducible refine pre_store _ _ _ rfl ?_); (first | refine sO hp rfl (sTm rfl) ceJF0 aa5 ?_ | refine sA hp rfl (sTm rfl) (sTm rfl) (by with_reducible first | exact agg60 | exact agg58) aa5 ?_ | refine sG hp rfl (sTm rfl) (sTm rfl) (by with_reducible first | exact agg60 | exact agg58) aa5 ?_); clear hp; intro w1 hp; simp only [spl, zSet, sSet] at hp) | ((with_reducible refine pre_build _ _ _ rfl ?_); refine lS hp rfl (by intro w; go_simp; rfl) ?_; clear hp; intro b w1 hp; simp only [List.length_cons, List.length_nil, Nat.reduceAdd] at hp)); simp only [put_some, put_none, sSet, zSet]))
  go_loopg [8] l.length (fun k i wr => ∃ j : Nat, k + j = l.length ∧ i = .int .i64 j ∧ RowKit.Hid ((l.take j).any (metE sz p en) = false) ∧ Hp w.heap.size w wr [])
  case atStart => exact ⟨0, by omega, rfl, Lib.hid (by simp), hp⟩
  case round =>
    clear hp
    obtain ⟨j, hkj, rfl, HG, hp⟩ := hrel
    by_cases hlt : j < l.length
    · obtain ⟨bq, off, rfl, hx⟩ := HA.out.elems 5 obV_len (by omega) (by omega)
      have hj := List.getElem?_eq_getElem hlt
      replace hx := hx j _ hj
      have hfit := HOB.out _ (List.getElem_mem hlt)
      generalize l[j] = x at hx hj hfit
      have HJ := Lib.hid hj
      have HFIT := Lib.hid hfit
      obtain ⟨r, hr⟩ : ∃ r, metE sz p en x = r := ⟨_, rfl⟩
      have HR := Lib.hid hr
      have HK : RowKit.Hid (∀ w1, Below w.heap.size w w1 → Calls Try.prog 87 #[.agg (obV x).toArray, .pointer (some ⟨bs, 0, none⟩), .pointer (some ⟨bb, 0, none⟩), .pointer (some ⟨be, 0, none⟩)] w1 fun e w' => e = .returned (.bool r) ∧ Below w1.heap.size w1 w') := Lib.hid (fun w1 hw => by
        have h := leftc87 sz p en x HFIT.out bs bb be w1 (HS.out.below hw) (HB.out.below hw) (HE.out.below hw)
        rw [show (decide (x.p ≤ sz) && (decide (p < x.p + pw x.o) && decide (x.p < en))) = r from HR.out] at h
        exact h)
      obtain ⟨xh, xp, xo, xwa, xws, xwc, xla, xls, xlc⟩ := x
      simp only [obV] at hx HK
      have HX := Lib.hid hx
      clear hx hj hfit hr
      have e1 : (0 : Int) ≤ (j : Int) := by omega
      have e2 : (j : Int) < (l.length : Int) := by omega
      cases r with
      | true =>
        go_wp2_with (first | (go_at_call 87; (with_reducible refine (HK.out _ hp.below).mono ?_); rintro e w1 ⟨rfl, hb⟩; replace hp := hp.call hb; clear hb) | go_skip | ((first | ((with_reducible refine pre_box _ _ rfl ?_); refine lB hp rfl (sTm rfl) rfl ?_; clear hp; intro b w1 hp) | ((with_reducible refine pre_load _ _ rfl ?_); first | refine lO hp rfl (sTm rfl) (by with_reducible first | exact cell3 | exact cell4) aa5 ?_ | refine lA hp rfl (sTm rfl) agg60 aa5 ?_ | refine lR hp rfl (sTm rfl) agg60 HX.out ?_) | ((with_reducible refine pre_store _ _ _ rfl ?_); (first | refine sO hp rfl (sTm rfl) (by with_reducible first | exact cell3 | exact cell4) aa5 ?_ | refine sA hp rfl (sTm rfl) (sTm rfl) agg60 aa5 ?_ | refine sG hp rfl (sTm rfl) (sTm rfl) agg60 aa5 ?_); clear hp; intro w1 hp; simp only [spl, zSet, sSet] at hp)); simp only [put_some, put_none, sSet, zSet]))
        go_ret
        exact ⟨j, rfl, by rw [any_yes HJ.out HR.out]; simp, hp.below⟩
      | false =>
        go_wp2_with (first | (go_at_call 87; (with_reducible refine (HK.out _ hp.below).mono ?_); rintro e w1 ⟨rfl, hb⟩; replace hp := hp.call hb; clear hb) | go_skip | ((first | ((with_reducible refine pre_box _ _ rfl ?_); refine lB hp rfl (sTm rfl) rfl ?_; clear hp; intro b w1 hp) | ((with_reducible refine pre_load _ _ rfl ?_); first | refine lO hp rfl (sTm rfl) (by with_reducible first | exact cell3 | exact cell4) aa5 ?_ | refine lA hp rfl (sTm rfl) agg60 aa5 ?_ | refine lR hp rfl (sTm rfl) agg60 HX.out ?_) | ((with_reducible refine pre_store _ _ _ rfl ?_); (first | refine sO hp rfl (sTm rfl) (by with_reducible first | exact cell3 | exact cell4) aa5 ?_ | refine sA hp rfl (sTm rfl) (sTm rfl) agg60 aa5 ?_ | refine sG hp rfl (sTm rfl) (sTm rfl) agg60 aa5 ?_); clear hp; intro w1 hp; simp only [spl, zSet, sSet] at hp)); simp only [put_some, put_none, sSet, zSet]))
        go_roundg (gk - 1)
        case measure => omega
        case rel => exact ⟨j + 1, by omega, by go_num, Lib.hid (by rw [any_take HJ.out, HG.out, HR.out]; rfl), hp⟩
    · have e2 : decide ((j : Int) < (l.length : Int)) = false := by simp; omega
      go_wp2_with fail
      go_ret
      exact ⟨-1, rfl, by have := HG.out; rw [List.take_of_length_le (by omega)] at this; rw [this]; decide, hp.below⟩
set_option maxRecDepth 100000 in
set_option maxHeartbeats 4000000 in
theorem contains86 (sz p en : Int) (l : List Ob) (a : Option Addr) (c : Nat) (hl : l.length ≤ 600) (hob : ∀ x ∈ l, ObFit x) (bs bb be : Nat) (w : World) (ha : RowIs w a (l.flatMap obV)) (hs : CellAt w bs (.int .i64 sz)) (hb : CellAt w bb (.int .i64 p)) (he : CellAt w be (.int .i64 en)) :
    Calls Try.prog 86 #[.slice a l.length c, .func (.func 87) #[] #[.pointer (some ⟨bs, 0, none⟩), .pointer (some ⟨bb, 0, none⟩), .pointer (some ⟨be, 0, none⟩)]] w fun e w' => e = .returned (.bool (l.any (metE sz p en))) ∧ Below w.heap.size w w' := by
  have hp := Hp.start w
  have K := Lib.hid (index104 sz p en l a c hl hob bs bb be w ha hs hb he)
  clear ha hs hb he
  go_enter Try.func86, Try.ntmps86
  go_wp2_with (go_at_call 104; refine K.out.mono ?_; rintro e w1 ⟨i, rfl, hi, hb⟩; replace hp := hp.call hb; have HI := Lib.hid hi; clear hi hb)
  go_ret
  exact ⟨ret_bool HI.out, hp.below⟩
def lfB (sz : Int) (os : List Ob) (b : Bl) : List Bl := lfN sz os b.o.toNat b.p
def wtB (b : Bl) : Nat := 2 * 2 ^ b.o.toNat - 1
def wtL (l : List Bl) : Nat := (l.map wtB).sum
theorem wtL_cons (b : Bl) (l : List Bl) : wtL (b :: l) = wtB b + wtL l := by simp [wtL]
theorem wtB_pos (b : Bl) : 1 ≤ wtB b := by unfold wtB; have := Nat.two_pow_pos b.o.toNat; omega
theorem wtL_len (l : List Bl) : l.length ≤ wtL l := by
  induction l with
  | nil => simp [wtL]
  | cons b l ih => rw [wtL_cons, List.length_cons]; have := wtB_pos b; omega
def BlFit (b : Bl) : Prop := 0 ≤ b.o ∧ b.o ≤ 8 ∧ 0 ≤ b.p ∧ b.p + pw b.o ≤ 256
theorem lf_no {sz : Int} {os : List Ob} {b : Bl} (h0 : 0 ≤ b.o) (h : metB sz os b = false) : lfB sz os b = [b] := by
  obtain ⟨p, o⟩ := b
  unfold lfB
  simp only at h0 ⊢
  cases hk : o.toNat with
  | zero =>
    have : o = 0 := by omega
    subst this
    unfold lfN; rw [if_neg (by rw [h]; decide)]
  | succ k =>
    have : o = ((k + 1 : Nat) : Int) := by omega
    subst this
    unfold lfN; rw [if_neg (by rw [h]; decide)]
theorem lf_zero {sz : Int} {os : List Ob} {b : Bl} (h0 : b.o = 0) (h : metB sz os b = true) : lfB sz os b = [] := by
  obtain ⟨p, o⟩ := b
  simp only at h0
  subst h0
  show lfN sz os 0 p = []
  unfold lfN; rw [if_pos h]
theorem lf_split {sz : Int} {os : List Ob} {b : Bl} (h0 : 0 < b.o) (h : metB sz os b = true) : lfB sz os b = lfB sz os ⟨b.p, b.o - 1⟩ ++ lfB sz os ⟨b.p + pw (b.o - 1), b.o - 1⟩ := by
  obtain ⟨p, o⟩ := b
  simp only at h0 h ⊢
  obtain ⟨k, rfl⟩ : ∃ k : Nat, o = ((k + 1 : Nat) : Int) := ⟨o.toNat - 1, by omega⟩
  unfold lfB
  simp only
  have e1 : ((k + 1 : Nat) : Int).toNat = k + 1 := by omega
  have e2 : (((k + 1 : Nat) : Int) - 1) = (k : Int) := by omega
  rw [e1, e2, Int.toNat_natCast]
  conv => lhs; unfold lfN
  rw [if_pos h]
theorem wt_split {b : Bl} (h0 : 0 < b.o) (q : Int) : wtB ⟨b.p, b.o - 1⟩ + wtB ⟨q, b.o - 1⟩ + 1 = wtB b := by
  obtain ⟨p, o⟩ := b
  unfold wtB
  simp only at h0 ⊢
  have e : o.toNat = (o - 1).toNat + 1 := by omega
  rw [e, Nat.pow_succ]
  have := Nat.two_pow_pos (o - 1).toNat
  omega
theorem SubRow.head {e : TypeId} {c n : Nat} {v : Value} {xs ys : List Value} {R : List Blk} (h : SubRow e c v (n + 1) (xs ++ ys) R) (hx : xs.length = c) (h0 : 0 < c) : ∃ g off cap pre, v = .slice (some ⟨g, off, none⟩) (n + 1) cap ∧ n + 1 ≤ cap ∧ cap ≤ maxLen ∧ R = [⟨g, pre ++ (xs ++ ys), e, off + cap * c⟩] ∧ pre.length = off ∧
    (cap ≠ 1 → SubRow e c (.slice (some ⟨g, off + c, none⟩) n (cap - 1)) n ys R) ∧ (cap = 1 → n = 0 ∧ ys = []) := by
  obtain ⟨hl, ⟨h0, _⟩ | ⟨g, off, cap, pre, hv, h1, h2, h3, hr⟩⟩ := h
  · omega
  · rw [List.length_append, hx, Nat.succ_mul] at hl
    refine ⟨g, off, cap, pre, hv, h1, h2, hr, h3, fun hc => ⟨by omega, .inr ⟨g, off + c, cap - 1, pre ++ xs, rfl, by omega, by omega, by rw [List.length_append, h3, hx], ?_⟩⟩, fun hc => ?_⟩
    · rw [hr, List.append_assoc]
      congr 2
      have : cap * c = (cap - 1) * c + c := by
        obtain ⟨m, rfl⟩ : ∃ m, cap = m + 1 := ⟨cap - 1, by omega⟩
        rw [Nat.succ_mul, Nat.add_sub_cancel]
      omega
    · have hn : n = 0 := by omega
      subst hn
      exact ⟨rfl, List.eq_nil_of_length_eq_zero (by simpa using hl)⟩
def LeftPost (B : Nat) (w0 : World) (l : List Bl) (L : List Blk) (e : Ending) (w' : World) : Prop := ∃ v R, e = .returned v ∧ OwnRow 58 2 v l.length (l.flatMap blV) R ∧ Hp B w0 w' (R ++ L)
end Go.Proofs.Ytaafajaadfgaoaa

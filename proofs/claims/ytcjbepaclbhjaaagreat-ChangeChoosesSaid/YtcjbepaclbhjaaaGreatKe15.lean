/- Parts of the proof. -/
import Derived.Test.YtcjbepaclbhjaaaGreatKe1
import Derived.Test.YtcjbepaclbhjaaaGreatKe13
import Derived.Test.YtcjbepaclbhjaaaGreatKe14
open List renaming set_cons_zero → zSet, set_cons_succ → sSet
/- The walk that lays a state as bytes. -/
set_option linter.unusedSimpArgs false
set_option linter.unusedVariables false
namespace Go.Proofs.YtcjbepaclbhjaaaGreat
open Go.RowKit
theorem needN_gt {n : Int} (h0 : 0 ≤ n) (h : n < 64) : n + 1 ≤ pw (needN n) := by
  unfold needN
  have p0 : pw 0 = 1 := by decide
  have p1 : pw 1 = 2 := by decide
  have p2 : pw 2 = 4 := by decide
  have p3 : pw 3 = 8 := by decide
  have p4 : pw 4 = 16 := by decide
  have p5 : pw 5 = 32 := by decide
  have p6 : pw 6 = 64 := by decide
  repeat' split
  all_goals omega
theorem ob_words {l : List Ob} (h : ∀ o ∈ l, ObLay o ∧ needI o.ws.length o.ls.length = o.o ∧ 0 ≤ o.o) : ((l.flatMap obB).length : Int) ≤ 16 * sumB (l.map obBl) := by
  induction l with
  | nil => simp [sumB]
  | cons o l ih =>
    have h1 := ih (fun x hx => h x (by simp [hx]))
    obtain ⟨hl, hn, h0⟩ := h o (by simp)
    have hw := hl.wl
    have hk := hl.ll
    have hg : (o.ws.length : Int) + o.ls.length + 1 ≤ pw o.o := by
      have := needN_gt (n := (o.ws.length : Int) + o.ls.length) (by omega) (by omega)
      unfold needI at hn
      rw [if_pos (by omega)] at hn
      rw [← hn]; exact this
    have hb : ((obB o).length : Int) = 16 + 8 * o.ws.length + 4 * o.ls.length := by
      unfold obB
      rw [List.length_append, List.length_append, bn4_len, bi8_len, bn4_len, List.length_map]
      simp only [List.length_cons, List.length_nil]
      push_cast; omega
    rw [List.flatMap_cons, List.length_append, List.map_cons, sumB_cons]
    simp only [obBl]
    push_cast
    omega
theorem heapB_len {x : Hv} (hx : HRight x) : (heapB x).length ≤ 4124 := by
  have hl := hright_lay hx
  have h1 := ob_words (l := x.os) (fun o ho => ⟨hl o ho, (hx.need o ho).1, by have := (hx.need o ho).2.1; simpa [obBl] using this⟩)
  have h2 := hx.words
  have hf := hx.free
  unfold rightB regionB at hf
  rw [Bool.and_eq_true] at hf
  have hod : 3 ≤ x.od ∧ x.od ≤ 8 := by simpa using hf.1
  have h3 := pw_le hod.2
  have h4 : sumB (allBl x) = sumB x.fs + sumB (x.os.map obBl) := sumB_append _ _
  have h5 := sumB_nonneg x.fs
  unfold heapB
  rw [List.length_append, headB_len]
  omega
theorem bn4_bytes (l : List Nat) : Bytes (bn4 l) := by
  intro x hx
  obtain ⟨n, _, h⟩ := List.mem_flatMap.1 hx
  exact beS_bytes 4 n x h
theorem bi8_bytes (l : List Int) : Bytes (bi8 l) := by
  intro x hx
  obtain ⟨n, _, h⟩ := List.mem_flatMap.1 hx
  exact beS_bytes 8 _ x h
theorem heapB_bytes (x : Hv) : Bytes (heapB x) := by
  unfold heapB headB
  refine Bytes.app ((bn4_bytes _).app ((bn4_bytes _).app (bn4_bytes _))) fun y hy => ?_
  obtain ⟨o, _, h⟩ := List.mem_flatMap.1 hy
  unfold obB at h
  exact ((bn4_bytes _).app ((bi8_bytes _).app (bn4_bytes _))) y h
def rowB (r : Rw) : List Nat := bn4 [r.c.toNat, r.s.toNat, r.e.toNat] ++ bi8 [r.v]
def stateB (x : Sv) : List Nat := (beS 4 (heapB x.hv).length ++ heapB x.hv) ++ (bn4 [x.rs.length] ++ x.rs.flatMap rowB)
theorem puth_L (od : Int) (oa : Option Addr) (os : List Ob) (oc : Nat) (nx t0 t1 t2 t3 : Int) (fa : Option Addr) (fs : List Bl) (fc : Nat) (bs : List Nat) (hbs : heapB ⟨od, oa, os, oc, nx, t0, t1, t2, t3, fa, fs, fc⟩ = bs) (hb : hrightB ⟨od, oa, os, oc, nx, t0, t1, t2, t3, fa, fs, fc⟩ = true) (w : World) (hx0 : Hv.Is w ⟨od, oa, os, oc, nx, t0, t1, t2, t3, fa, fs, fc⟩) :
    Calls Tryz.prog 120 #[.agg #[.int .i64 od, .slice oa os.length oc, .int .i64 nx, .int .i64 t0, .int .i64 t1, .int .i64 t2, .int .i64 t3, .slice fa fs.length fc]] w fun e w' => ∃ a c m R, e = .returned (.tuple #[.slice a m c, .int .i64 0]) ∧ bs.length = m ∧ SubRow 5 1 (.slice a m c) m (bs.flatMap byV) R ∧ Hp w.heap.size w w' R := by
  subst hbs
  refine (puth120_yes _ hb w hx0).mono fun e w' h => ?_
  obtain ⟨a, c, R, h1, h2, h3⟩ := h
  exact ⟨a, c, _, R, h1, rfl, h2, h3⟩
theorem putt_L (s : ByteArray) (hs : s.size ≤ 65536) (w : World) : Calls Tryz.prog 121 #[.slice none 0 0, .string s] w fun e w' => ∃ ys m a c R, e = .returned (.tuple #[.slice a m c, .int .i64 0]) ∧ ys = beS 4 s.size ++ strB s ∧ ys.length = m ∧ SubRow 5 1 (.slice a m c) m (ys.flatMap byV) R ∧ Hp w.heap.size w w' R := by
  refine (putt121 [] (by simp) s hs none 0 w (RowIs.nil _ _)).mono fun e w' h => ?_
  obtain ⟨v, R, h1, h2, h3⟩ := h
  obtain ⟨a, c, rfl, _, _⟩ := h2.kept
  exact ⟨_, _, a, c, R, h1, rfl, rfl, h2, h3⟩
theorem putt_join {B : Nat} {w0 w : World} {o b : Blk} {RH R : List Blk} (hp : Hp B w0 w ((o :: b :: RH) ++ R)) : Hp B w0 w (b :: o :: R) := hp.kp
theorem rowsB_len : ∀ l : List Rw, (l.flatMap rowB).length = l.length * 20
  | [] => rfl
  | r :: l => by
    rw [List.flatMap_cons, List.length_append, rowsB_len l, List.length_cons]
    unfold rowB
    rw [List.length_append, bn4_len, bi8_len]
    simp only [List.length_cons, List.length_nil]; omega
set_option maxRecDepth 100000 in
set_option maxHeartbeats 16000000 in
theorem puts98_yes (x : Sv) (hb : stB x = true) (w : World) (hx0 : x.Is w) : Calls Tryz.prog 98 #[.agg (svL x).toArray] w (PutPost w (some (stateB x))) := by
  have hst := st_of hb
  have hbl := heapB_len hst.hv
  have hrows := hst.rows
  have hrl := rowsOk_len hrows (by decide)
  have HB := Lib.hid hb
  have HHB := Lib.hid (hright_yes hst.hv)
  have HSS := Lib.hid hst.small
  have HIS := Lib.hid hx0
  have HIH := Lib.hid hx0.1
  have HRI := Lib.hid hx0.2
  obtain ⟨bs, hbs⟩ : ∃ bs, heapB x.hv = bs := ⟨_, rfl⟩
  have HRES : RowKit.Hid (stateB x = (beS 4 bs.length ++ bs) ++ (bn4 [x.rs.length] ++ x.rs.flatMap rowB)) := Lib.hid (by unfold stateB; rw [hbs])
  have HBS := Lib.hid hbs
  rw [hbs] at hbl
  have HBL := Lib.hid hbl
  have hby : Bytes bs := by
    rw [← hbs]; exact heapB_bytes x.hv
  have HNI : RowKit.Hid (∀ m, bs.length = m → (nI bs).length = m) := Lib.hid (fun m h => by rw [nI_len]; exact h)
  have HSB : RowKit.Hid (strB (strOfNums (nI bs)) = bs ∧ (strOfNums (nI bs)).size = bs.length) := Lib.hid ⟨strB_of hby, by rw [← strB_len, strB_of hby]⟩
  have HSZ : RowKit.Hid ((strOfNums (nI bs)).size ≤ 65536) := Lib.hid (by rw [← strB_len, strB_of hby]; omega)
  have HLAY : RowKit.Hid (∀ r ∈ x.rs, 0 ≤ r.c ∧ r.c ≤ 4 ∧ 0 ≤ r.s ∧ r.s ≤ 1000000 ∧ 0 ≤ r.e ∧ r.e ≤ 65535) := Lib.hid (fun r hr => by
    have := rowOk_iff.1 (rowsOk_mem hrows r hr); omega)
  have hp := Hp.start w
  clear hb hx0 hbs hbl hst hby hrows
  obtain ⟨⟨od, oa, os, oc, nx, t0, t1, t2, t3, fa, fs, fc⟩, ra, rs, rc⟩ := x
  simp only [svL, hvL, List.cons_append, List.nil_append]
  simp only at hrl
  have hrl4 : rs.length ≤ 4 := by omega
  have HRL := Lib.hid hrl4
  have HLE : RowKit.Hid ([rs.length].length = 1) := Lib.hid rfl
  have HLF : RowKit.Hid (1 ≤ 1000) := Lib.hid (by decide)
  have HB3 : RowKit.Hid (∀ x ∈ [rs.length], x ≤ 2147483647) := Lib.hid (by intro x hx; simp at hx; omega)
  have HC3 : RowKit.Hid ([Value.int .i64 (rs.length : Int)] = [rs.length].flatMap natV) := Lib.hid rfl
  clear hrl hrl4
  go_enter Tryz.func98, Tryz.ntmps98
  go_wp2_with (first | (go_at_call 90; (with_reducible refine (check90L od oa os oc nx t0 t1 t2 t3 fa fs fc ra rs rc _ HB.out HSS.out _ (HIS.out.below hp.below)).mono ?_); rintro e w1 ⟨rfl, hb⟩; replace hp := hp.call hb; clear hb; simp only [errS, if_true, Bool.false_eq_true, if_false]) | (go_at_call 120; (with_reducible refine (puth_L od oa os oc nx t0 t1 t2 t3 fa fs fc bs HBS.out HHB.out _ (HIH.out.below hp.below)).mono ?_); rintro e w1 ⟨ah, ch, mh, RH, rfl, hmh, hrh, hp2⟩; replace hp := hp.join hp2; have HMH := Lib.hid hmh; have HRH := Lib.hid hrh; clear hp2 hmh hrh; simp only [List.cons_append, List.nil_append] at hp) | ((with_reducible refine pre_convert _ _ _ rfl ?_); refine wpList_conv_row 89 9 5 _ rfl wy Tryz.underlying89 Tryz.underlying5 Tryz.underlying9 ah mh ch (sTm rfl) (nI bs) (HNI.out _ HMH.out) (by rw [nI_cells]; exact HRH.out.keptS.at hp (by intro p hp2; simp [hp2])) ?_; simp only [put_some, put_none, sSet, zSet]) | (go_at_call 121; (with_reducible refine (putt_L (strOfNums (nI bs)) HSZ.out _).mono ?_); rintro e w1 ⟨y1, m1, a1, c1, R1, rfl, hy1, hm1, hr1, hp2⟩; replace hp := putt_join (hp.join hp2); have HY1 := Lib.hid hy1; have HM1 := Lib.hid hm1; have HR1 := Lib.hid hr1; clear hp2 hy1 hm1 hr1) | go_skip | (first | (refine hA0 ?_; clear hp; intro b w1 hp) | refine hL2 ?_ | (refine hS1 ?_; clear hp; intro w1 hp)))
  obtain ⟨bx, hbx⟩ := hp.id1
  obtain ⟨bo, hbo⟩ := hp.id2
  subst hbx hbo
  have hz : y1 = beS 4 bs.length ++ bs := by rw [HY1.out, HSB.out.1, HSB.out.2]
  have hm1 : m1 = 4 + bs.length := by rw [← HM1.out, hz, List.length_append, beS_len]
  have HX1 : RowKit.Hid (m1 ≤ 900000) := Lib.hid (by have := HBL.out; omega)
  have HZ1 := Lib.hid hz
  have HV1 := Lib.hid hm1
  clear hz hm1
  go_wp2_with (first | (go_at_call 122; (with_reducible refine (on_built1 [rs.length] 1 HLE.out HLF.out HB3.out y1 m1 HM1.out HX1.out HR1.out HC3.out hp).mono ?_); clear hp; rintro e w1 ⟨rfl, y2, m2, a2, c2, R2, hy2, hm2, hr2, hp⟩; have HY2 := Lib.hid hy2; have HM2 := Lib.hid hm2; have HR2 := Lib.hid hr2; clear hy2 hm2 hr2) | go_skip | (first | (refine hA0 ?_; clear hp; intro b w1 hp) | refine hL2 ?_ | (refine hS1 ?_; clear hp; intro w1 hp)))
  have HZ : RowKit.Hid (y2 = (beS 4 bs.length ++ bs) ++ bn4 [rs.length]) := Lib.hid (by rw [HY2.out, HZ1.out])
  have HV : RowKit.Hid (((beS 4 bs.length ++ bs) ++ bn4 [rs.length]).length ≤ 5000) := Lib.hid (by rw [← HZ1.out, List.length_append, HM1.out, HV1.out, bn4_len]; have := HBL.out; simp only [List.length_cons, List.length_nil]; omega)
  obtain ⟨hd, hhd⟩ : ∃ hd, hd = (beS 4 bs.length ++ bs) ++ bn4 [rs.length] := ⟨_, rfl⟩
  rw [← List.append_assoc, ← hhd] at HRES
  rw [← hhd] at HZ HV
  clear hhd
  go_loopg [41] rs.length (fun k i wr => ∃ (q : Nat) (ys : List Nat) (m : Nat) (a : Option Addr) (c : Nat) (R : List Blk), k + q = rs.length ∧ i = .int .i64 q ∧ RowKit.Hid (ys = hd ++ (rs.take q).flatMap rowB) ∧ RowKit.Hid (ys.length = m) ∧ RowKit.Hid (SubRow 5 1 (.slice a m c) m (ys.flatMap byV) R) ∧
    Hp w.heap.size w wr (⟨bx, [.int .i64 od, .slice oa os.length oc, .int .i64 nx, .int .i64 t0, .int .i64 t1, .int .i64 t2, .int .i64 t3, .slice fa fs.length fc, .slice ra rs.length rc], 86, 9⟩ :: ⟨bo, [.slice a m c], 162, 1⟩ :: R))
  case atStart => exact ⟨0, y2, m2, a2, c2, R2, by omega, rfl, Lib.hid (by rw [HZ.out]; simp), HM2, HR2, hp⟩
  case round =>
    clear hp HY1 HY2 HM1 HM2 HR1 HR2 HX1 HV1 HZ HZ1 HC3 HB3 HLE HRH HMH HNI HSZ HSB
    obtain ⟨q, ys, m, a, c, R, hkq, rfl, HYS, HM, HR, hp⟩ := hrel
    by_cases hlt : q < rs.length
    · obtain ⟨bq, off, rfl, hx⟩ := HRI.out.elems 4 rwV_len (by omega) (by omega)
      have hj := List.getElem?_eq_getElem hlt
      replace hx := hx q _ hj
      have hmem := List.getElem_mem hlt
      have hlay := HLAY.out _ hmem
      have htk : (rs.take (q + 1)).flatMap rowB = (rs.take q).flatMap rowB ++ rowB rs[q] := by rw [List.take_add_one, hj, List.flatMap_append]; simp
      have hlen := rowsB_len (rs.take q)
      rw [List.length_take, Nat.min_eq_left (by omega)] at hlen
      have hm : m ≤ 5000 + q * 20 := by have := HV.out; rw [← HM.out, HYS.out, List.length_append]; omega
      have hrl := HRL.out
      clear hmem hj hlen
      generalize rs[q] = x at hx hlay htk
      obtain ⟨rc', rq', re', rv'⟩ := x
      obtain ⟨g1, g2, g3, g4, g5, g6⟩ := hlay
      simp only at hx g1 g2 g3 g4 g5 g6
      obtain ⟨rc', rfl⟩ := Int.eq_ofNat_of_zero_le g1
      obtain ⟨rq', rfl⟩ := Int.eq_ofNat_of_zero_le g3
      obtain ⟨re', rfl⟩ := Int.eq_ofNat_of_zero_le g5
      simp only [rwV] at hx
      rw [show rowB ⟨(rc' : Nat), (rq' : Nat), (re' : Nat), rv'⟩ = bn4 [rc', rq', re'] ++ bi8 [rv'] by simp only [rowB, Int.toNat_natCast]] at htk
      have hq6 : q < 4 := by omega
      have HTK := Lib.hid htk
      have HX := Lib.hid hx
      have HLA : RowKit.Hid ([rc', rq', re'].length = 3) := Lib.hid rfl
      have HLB : RowKit.Hid (3 ≤ 1000) := Lib.hid (by decide)
      have HLG : RowKit.Hid ([rv'].length = 1) := Lib.hid rfl
      have HB4 : RowKit.Hid (∀ x ∈ [rc', rq', re'], x ≤ 2147483647) := Lib.hid (by intro x hx; simp at hx; omega)
      have HC4 : RowKit.Hid ([Value.int .i64 (rc' : Int), Value.int .i64 (rq' : Int), Value.int .i64 (re' : Int)] = [rc', rq', re'].flatMap natV) := Lib.hid rfl
      have HC5 : RowKit.Hid ([Value.int .i64 rv'] = [rv'].flatMap iV) := Lib.hid rfl
      have HX0 : RowKit.Hid (m ≤ 900000) := Lib.hid (by omega)
      have HMB : RowKit.Hid (m ≤ 100000) := Lib.hid (by omega)
      have e1 : (0 : Int) ≤ (q : Int) := by omega
      have e2 : (q : Int) < (rs.length : Int) := by omega
      clear hx g1 g2 g3 g4 g5 g6 htk hm hrl
      go_wp2_with (first | (go_at_call 122; (with_reducible refine (on_built2 [rc', rq', re'] 3 HLA.out HLB.out HB4.out ys m HM.out HX0.out HR.out HC4.out hp).mono ?_); clear hp; rintro e w1 ⟨rfl, y4, m4, a4, c4, R4, hy4, hm4, hr4, hp⟩; have HY4 := Lib.hid hy4; have HM4 := Lib.hid hm4; have HR4 := Lib.hid hr4; clear hy4 hm4 hr4) | go_skip | (first | (refine hA0 ?_; clear hp; intro b w1 hp) | refine hL3 ?_ | (refine hS1 ?_; clear hp; intro w1 hp)))
      have hm4 : m4 = m + 12 := by rw [← HM4.out, HY4.out, List.length_append, HM.out, bn4_len]; rfl
      have HX4 : RowKit.Hid (m4 ≤ 900000) := Lib.hid (by have := HMB.out; omega)
      clear hm4
      go_wp2_with (first | (go_at_call 123; (with_reducible refine (oi_built2 [rv'] 1 HLG.out HLF.out y4 m4 HM4.out HX4.out HR4.out HC5.out hp).mono ?_); clear hp; rintro e w1 ⟨rfl, y5, m5, a5, c5, R5, hy5, hm5, hr5, hp⟩; have HY5 := Lib.hid hy5; have HM5 := Lib.hid hm5; have HR5 := Lib.hid hr5; clear hy5 hm5 hr5) | go_skip | (first | (refine hA0 ?_; clear hp; intro b w1 hp) | refine hL2 ?_ | (refine hS1 ?_; clear hp; intro w1 hp)))
      go_roundg (gk - 1)
      case measure => omega
      case rel => exact ⟨q + 1, y5, m5, a5, c5, R5, by omega, by go_num, Lib.hid (by rw [HY5.out, HY4.out, HYS.out, HTK.out]; simp only [List.append_assoc]), HM5, HR5, hp.tail⟩
    · obtain rfl : q = rs.length := by omega
      have e2 : decide ((rs.length : Int) < (rs.length : Int)) = false := by simp
      have hys := HYS.out
      rw [List.take_length, ← HRES.out] at hys
      clear hkq hlt
      go_wp2_with (first | go_skip | (first | (refine hA0 ?_; clear hp; intro b w1 hp) | refine hL2 ?_ | (refine hS1 ?_; clear hp; intro w1 hp)))
      go_ret2
      have hmm := HM.out
      rw [hys] at hmm
      subst hmm
      exact ⟨a, c, R, rfl, by rw [← hys]; have h := HR.out; rw [← hys] at h; exact h, hp.tail.tail⟩
end Go.Proofs.YtcjbepaclbhjaaaGreat

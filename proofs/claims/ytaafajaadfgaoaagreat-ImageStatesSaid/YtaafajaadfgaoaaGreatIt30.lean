/- Parts of the proof. -/
import Derived.Test.YtaafajaadfgaoaaGreatIt28
import Derived.Test.YtaafajaadfgaoaaGreatIt29
import Derived.Test.YtaafajaadfgaoaaGreatIt22
import Derived.Test.YtaafajaadfgaoaaGreatIt23
import Derived.WalkMore
import Derived.ScopeJumps
import Derived.Test.YtaafajaadfgaoaaGreatIt1
import Derived.Test.YtaafajaadfgaoaaGreatIt5
import Derived.Test.YtaafajaadfgaoaaGreatIt7
import Derived.Test.YtaafajaadfgaoaaGreatIt24
import Derived.Test.YtaafajaadfgaoaaGreatIt2
open List renaming set_cons_zero → zSet, set_cons_succ → sSet
/- The walk of the document's PutState. -/
set_option linter.unusedSimpArgs false
set_option linter.unusedVariables false
namespace Go.Proofs.YtaafajaadfgaoaaGreat
open Go.RowKit
theorem gaGU0 {ty : TypeId} {k : Nat} (h : aggB Tryz.prog ty k = true := by with_reducible first | exact agg50 | exact agg47 | exact agg120) : aggB Tryz.prog ty k = true := h
theorem ceGU1 {ty : TypeId} (h : cellB Tryz.prog ty = true := by with_reducible first | exact cell3 | exact cell4 | exact cell57 | exact cell5 | exact cell48 | exact cell37) : cellB Tryz.prog ty = true := h
theorem text_bs (bs : List Nat) (hby : Bytes bs) (hn : bs.length ≤ 65536) (w : World) : Calls Tryz.prog 85 #[.string (strOfNums (nI bs))] w fun e w' => ∃ a m c R, e = .returned (.tuple #[.slice a m c, .int .i64 0]) ∧ (beS 4 bs.length ++ bs).length = m ∧ SubRow 5 1 (.slice a m c) m ((beS 4 bs.length ++ bs).flatMap byV) R ∧ Hp w.heap.size w w' R := by
  have h1 : (strOfNums (nI bs)).size = bs.length := by rw [← strB_len, strB_of hby]
  have h := text85 (strOfNums (nI bs)) (by omega) w
  rw [h1, strB_of hby] at h
  exact h
theorem text_join {B : Nat} {w0 w : World} {x : Blk} {RH R : List Blk} (hp : Hp B w0 w ((x :: RH) ++ R)) : Hp B w0 w (x :: (R ++ RH)) := hp.kp
theorem puth06_P (od : Int) (oa : Option Addr) (os : List Ob) (oc : Nat) (nx t0 t1 t2 t3 : Int) (fa : Option Addr) (fs : List Bl) (fc : Nat) (bs : List Nat) (hbs : heapB ⟨od, oa, os, oc, nx, t0, t1, t2, t3, fa, fs, fc⟩ = bs) (m : Nat) (hm : bs.length = m) (hb : hrightB ⟨od, oa, os, oc, nx, t0, t1, t2, t3, fa, fs, fc⟩ = true) (w : World) (hx0 : Hv.Is w ⟨od, oa, os, oc, nx, t0, t1, t2, t3, fa, fs, fc⟩) :
    Calls Tryz.prog 84 #[.agg #[.int .i64 od, .slice oa os.length oc, .int .i64 nx, .int .i64 t0, .int .i64 t1, .int .i64 t2, .int .i64 t3, .slice fa fs.length fc]] w (PutO w bs m) := puth06_yes _ hb bs hbs m hm w hx0
set_option maxRecDepth 100000 in
set_option maxHeartbeats 8000000 in
theorem puts06_no (od : Int) (oa : Option Addr) (os : List Ob) (oc : Nat) (nx t0 t1 t2 t3 : Int) (fa : Option Addr) (fs : List Bl) (fc : Nat) (ra : Option Addr) (rs : List Rw) (rc : Nat) (hb : stB ⟨⟨od, oa, os, oc, nx, t0, t1, t2, t3, fa, fs, fc⟩, ra, rs, rc⟩ = false) (hs : Sv.Small ⟨⟨od, oa, os, oc, nx, t0, t1, t2, t3, fa, fs, fc⟩, ra, rs, rc⟩) (hnx : nx ≤ 9223372036854775807) (w : World) (hx0 : Sv.Is w ⟨⟨od, oa, os, oc, nx, t0, t1, t2, t3, fa, fs, fc⟩, ra, rs, rc⟩) : Calls Tryz.prog 29 #[.agg #[.int .i64 od, .slice oa os.length oc, .int .i64 nx, .int .i64 t0, .int .i64 t1, .int .i64 t2, .int .i64 t3, .slice fa fs.length fc, .slice ra rs.length rc]] w fun e w' => e = .returned (.tuple #[.slice none 0 0, .int .i64 60]) ∧ Below w.heap.size w w' := by
  have HB := Lib.hid hb
  have HSS := Lib.hid hs
  have HIS := Lib.hid hx0
  have HNX := Lib.hid hnx
  have hp := Hp.start w
  clear hb hs hx0 hnx
  go_enter Tryz.func29, Tryz.ntmps29
  go_wp2_with (first | (go_at_call 36; (with_reducible refine (right36L od oa os oc nx t0 t1 t2 t3 fa fs fc ra rs rc _ HB.out HSS.out HNX.out _ (HIS.out.below hp.below)).mono ?_); rintro e w1 ⟨rfl, hb⟩; replace hp := hp.call hb; clear hb) | go_skip | ((first | ((with_reducible refine pre_alloc _ rfl ?_); refine lZ hp rfl zero120 ?_; clear hp; intro b w1 hp) | ((with_reducible refine pre_box _ _ rfl ?_); refine lB hp rfl (sTm rfl) rfl ?_; clear hp; intro b w1 hp) | ((with_reducible refine pre_load _ _ rfl ?_); first | refine lO hp rfl (sTm rfl) ceGU1 aa5 ?_ | refine lA hp rfl (sTm rfl) gaGU0 aa5 ?_) | ((with_reducible refine pre_store _ _ _ rfl ?_); (first | refine sO hp rfl (sTm rfl) ceGU1 aa5 ?_ | refine sA hp rfl (sTm rfl) (sTm rfl) gaGU0 aa5 ?_ | refine sG hp rfl (sTm rfl) (sTm rfl) gaGU0 aa5 ?_); clear hp; intro w1 hp; simp only [spl, zSet, sSet] at hp) | ((with_reducible refine pre_build _ _ _ rfl ?_); refine lS hp rfl (by intro w; go_simp; rfl) ?_; clear hp; intro b w1 hp; simp only [List.length_cons, List.length_nil, Nat.reduceAdd] at hp)); simp only [put_some, put_none, sSet, zSet]))
  go_ret2
  exact ⟨rfl, hp.below⟩
set_option maxRecDepth 100000 in
set_option maxHeartbeats 16000000 in
theorem puts06_yes (od : Int) (oa : Option Addr) (os : List Ob) (oc : Nat) (nx t0 t1 t2 t3 : Int) (fa : Option Addr) (fs : List Bl) (fc : Nat) (ra : Option Addr) (rs : List Rw) (rc : Nat) (hb : stB ⟨⟨od, oa, os, oc, nx, t0, t1, t2, t3, fa, fs, fc⟩, ra, rs, rc⟩ = true) (ss : List Nat) (hss : stateB ⟨⟨od, oa, os, oc, nx, t0, t1, t2, t3, fa, fs, fc⟩, ra, rs, rc⟩ = ss) (ms : Nat) (hms : ss.length = ms) (w : World) (hx0 : Sv.Is w ⟨⟨od, oa, os, oc, nx, t0, t1, t2, t3, fa, fs, fc⟩, ra, rs, rc⟩) : Calls Tryz.prog 29 #[.agg #[.int .i64 od, .slice oa os.length oc, .int .i64 nx, .int .i64 t0, .int .i64 t1, .int .i64 t2, .int .i64 t3, .slice fa fs.length fc, .slice ra rs.length rc]] w (PutO w ss ms) := by
  obtain ⟨i0, hi0, hz0, hz1, hz2⟩ := info_parts info5
  subst hss hms
  have hst := st_of hb
  have hbl := heapB_len hst.hv
  have hrows := hst.rows
  have hrl := rowsOk_len hrows (by decide)
  have HB := Lib.hid hb
  have HHB := Lib.hid (hright_yes hst.hv)
  have HSS := Lib.hid hst.small
  have HIS := Lib.hid hx0
  have HIH := Lib.hid hx0.1
  have HRI := Lib.hid hx0.2
  have hnx := hst.hv.hi
  have HNX : RowKit.Hid (nx ≤ 9223372036854775807) := Lib.hid (by simp only at hnx; omega)
  have hby : Bytes (heapB ⟨od, oa, os, oc, nx, t0, t1, t2, t3, fa, fs, fc⟩) := heapB_bytes _
  obtain ⟨bs, hbs⟩ : ∃ bs, heapB ⟨od, oa, os, oc, nx, t0, t1, t2, t3, fa, fs, fc⟩ = bs := ⟨_, rfl⟩
  have HRES : RowKit.Hid (stateB ⟨⟨od, oa, os, oc, nx, t0, t1, t2, t3, fa, fs, fc⟩, ra, rs, rc⟩ = ((beS 4 bs.length ++ bs) ++ beS 4 rs.length) ++ rs.flatMap rowB) := Lib.hid (by unfold stateB; simp only [hbs]; rw [List.append_assoc, List.append_assoc]; simp [bn4])
  have HBS := Lib.hid hbs
  simp only at hbl hrl hrows
  rw [hbs] at hbl hby
  have HBY := Lib.hid hby
  obtain ⟨mh, hmh⟩ : ∃ mh, bs.length = mh := ⟨_, rfl⟩
  have HMH := Lib.hid hmh
  have HNI : RowKit.Hid ((nI bs).length = mh) := Lib.hid (by rw [nI_len]; exact hmh)
  have HSZ : RowKit.Hid (bs.length ≤ 65536) := Lib.hid (by omega)
  have HLAY : RowKit.Hid (∀ r ∈ rs, 0 ≤ r.c ∧ r.c ≤ 4 ∧ 0 ≤ r.s ∧ r.s ≤ 1000000 ∧ 0 ≤ r.e ∧ r.e ≤ 65535) := Lib.hid (fun r hr => by
    have := rowOk_iff.1 (rowsOk_mem hrows r hr); omega)
  have hp := Hp.start w
  have hrl4 : rs.length ≤ 4 := by omega
  have HRL := Lib.hid hrl4
  have HL4 : RowKit.Hid (rs.length ≤ 2147483647) := Lib.hid (by omega)
  have HBL : RowKit.Hid ((beS 4 bs.length ++ bs).length ≤ 4200 ∧ (beS 4 rs.length).length = 4) := Lib.hid ⟨by rw [List.length_append, beS_len]; omega, beS_len 4 _⟩
  clear hb hx0 hbs hbl hst hby hrows hrl hrl4 hmh hnx
  go_enter Tryz.func29, Tryz.ntmps29
  go_wp2_with (first | (go_at_call 36; (with_reducible refine (right36L od oa os oc nx t0 t1 t2 t3 fa fs fc ra rs rc _ HB.out HSS.out HNX.out _ (HIS.out.below hp.below)).mono ?_); rintro e w1 ⟨rfl, hb⟩; replace hp := hp.call hb; clear hb) | (go_at_call 84; (with_reducible refine (puth06_P od oa os oc nx t0 t1 t2 t3 fa fs fc bs HBS.out mh HMH.out HHB.out _ (HIH.out.below hp.below)).mono ?_); rintro e w1 ⟨ah, ch, RH, rfl, hrh, hp2⟩; replace hp := hp.join hp2; have HRH := Lib.hid hrh; clear hp2 hrh; simp only [List.cons_append, List.nil_append] at hp) | ((with_reducible refine pre_convert _ _ _ rfl ?_); refine wpList_conv_row 57 9 5 _ rfl wy Tryz.underlying57 Tryz.underlying5 Tryz.underlying9 ah mh ch (sTm rfl) (nI bs) HNI.out (by rw [nI_cells]; exact HRH.out.keptS.at hp (by intro p hp2; simp [hp2])) ?_; simp only [put_some, put_none, sSet, zSet]) | (go_at_call 85; (with_reducible refine (text_bs bs HBY.out HSZ.out _).mono ?_); rintro e w1 ⟨a, m, c, R, rfl, hm, hr, hp2⟩; replace hp := text_join (hp.join hp2); have HM := Lib.hid hm; have HR := Lib.hid hr; clear hp2 hm hr) | (go_at_call 86; (with_reducible refine (four86 rs.length HL4.out _).mono ?_); rintro e w1 ⟨a2, m2, c2, R2, rfl, hm2, hr2, hp2⟩; replace hp := hp.join hp2; have HM2 := Lib.hid hm2; have HR2 := Lib.hid hr2; clear hm2 hr2 hp2; simp only [List.cons_append, List.nil_append, List.append_assoc] at hp) | ((with_reducible refine pre_append2 _ _ 57 57 rfl ?_); refine wpList_appendSub (K := [_]) (R := R) hp _ _ _ _ rfl wy 5 i0 _ 1 1 Tryz.underlying57 hi0 hz0 hz1 hz2 rfl _ _ _ (sTm rfl) HR.out _ (sTm rfl) m2 _ (Src.ofRow Tryz.underlying57 (by decide) a2 m2 c2 _ (by rw [flat_len byV 1 byV_len, HM2.out]) (HR2.out.keptS.at hp (fun p hm => by simp [hm])) (by_one _)) (by have := HM2.out; have := HM.out; have := HBL.out; unfold maxLen; omega) (by have := HM2.out; have := HM.out; have := HBL.out; omega) ?_; clear hp; intro v' R' w1 hR' hp; obtain ⟨a', c', rfl, _⟩ := hR'.kept; have HR' := Lib.hid hR'; clear hR'; simp only [List.cons_append, List.nil_append] at hp; simp only [put_some, put_none, sSet, zSet]) | go_skip | ((first | ((with_reducible refine pre_alloc _ rfl ?_); refine lZ hp rfl zero120 ?_; clear hp; intro b w1 hp) | ((with_reducible refine pre_box _ _ rfl ?_); refine lB hp rfl (sTm rfl) rfl ?_; clear hp; intro b w1 hp) | ((with_reducible refine pre_load _ _ rfl ?_); first | refine lO hp rfl (sTm rfl) ceGU1 aa5 ?_ | refine lA hp rfl (sTm rfl) gaGU0 aa5 ?_) | ((with_reducible refine pre_store _ _ _ rfl ?_); (first | refine sO hp rfl (sTm rfl) ceGU1 aa5 ?_ | refine sA hp rfl (sTm rfl) (sTm rfl) gaGU0 aa5 ?_ | refine sG hp rfl (sTm rfl) (sTm rfl) gaGU0 aa5 ?_); clear hp; intro w1 hp; simp only [spl, zSet, sSet] at hp) | ((with_reducible refine pre_build _ _ _ rfl ?_); refine lS hp rfl (by intro w; go_simp; rfl) ?_; clear hp; intro b w1 hp; simp only [List.length_cons, List.length_nil, Nat.reduceAdd] at hp)); simp only [put_some, put_none, sSet, zSet]))
  obtain ⟨bx, rfl⟩ := hp.id0
  have HMB : RowKit.Hid (m ≤ 4200) := Lib.hid (by have := HM.out; have := HBL.out; omega)
  have HMC : RowKit.Hid (m2 = 4) := Lib.hid (by rw [← HM2.out]; exact HBL.out.2)
  have hz : RowKit.Hid (SubRow 5 1 (.slice a' (m + m2) c') (m + m2) (((beS 4 bs.length ++ bs) ++ beS 4 rs.length).flatMap byV) R') := Lib.hid (by rw [List.flatMap_append]; exact HR'.out)
  have hy : RowKit.Hid (((beS 4 bs.length ++ bs) ++ beS 4 rs.length).length = m + m2) := Lib.hid (by rw [List.length_append, HM.out, HM2.out])
  have hv : RowKit.Hid (((beS 4 bs.length ++ bs) ++ beS 4 rs.length).length ≤ 5000) := Lib.hid (by rw [hy.out]; have := HMB.out; have := HMC.out; omega)
  generalize hhd : (beS 4 bs.length ++ bs) ++ beS 4 rs.length = hd at HRES hz hy hv
  clear HR HR' HM HM2 HR2 HMB HMC HRH HNI HSZ HBL hhd
  go_loopg [6, 9] rs.length (fun k v i wr => ∃ (q m : Nat) (a : Option Addr) (c : Nat) (R M : List Blk), k + q = rs.length ∧ i = .int .i64 q ∧ v = .slice a m c ∧ RowKit.Hid ((hd ++ (rs.take q).flatMap rowB).length = m) ∧ RowKit.Hid (SubRow 5 1 (.slice a m c) m ((hd ++ (rs.take q).flatMap rowB).flatMap byV) R) ∧ Hp w.heap.size w wr (⟨bx, [.int .i64 od, .slice oa os.length oc, .int .i64 nx, .int .i64 t0, .int .i64 t1, .int .i64 t2, .int .i64 t3, .slice fa fs.length fc, .slice ra rs.length rc], 50, 9⟩ :: (R ++ M)))
  case atStart => exact ⟨0, m + m2, a', c', R', _, by omega, rfl, rfl, Lib.hid (by simpa using hy.out), Lib.hid (by simpa using hz.out), hp⟩
  case round =>
    clear hp hz hy
    obtain ⟨q, m, a, c, R, M, hkq, rfl, rfl, HM, HR, hp⟩ := hrel
    by_cases hlt : q < rs.length
    · obtain ⟨bq, off, rfl, hx⟩ := HRI.out.elems 4 rwV_len (by omega) (by omega)
      have hj := List.getElem?_eq_getElem hlt
      replace hx := hx q _ hj
      have hmem := List.getElem_mem hlt
      have hlay := HLAY.out _ hmem
      have htk : (rs.take (q + 1)).flatMap rowB = (rs.take q).flatMap rowB ++ rowB rs[q] := by rw [List.take_add_one, hj, List.flatMap_append]; simp
      have hlen := rowsB_len (rs.take q)
      rw [List.length_take, Nat.min_eq_left (by omega)] at hlen
      have hm : m ≤ 5000 + q * 20 := by have := hv.out; rw [← HM.out, List.length_append]; omega
      have hrl := HRL.out
      clear hmem hj hlen
      generalize rs[q] = x at hx hlay htk
      obtain ⟨rc', rq', re', rv'⟩ := x
      obtain ⟨g1, g2, g3, g4, g5, g6⟩ := hlay
      simp only at hx g1 g2 g3 g4 g5 g6
      obtain ⟨rc', rfl⟩ := Int.eq_ofNat_of_zero_le g1
      obtain ⟨rq', rfl⟩ := Int.eq_ofNat_of_zero_le g3
      obtain ⟨re', rfl⟩ := Int.eq_ofNat_of_zero_le g5
      simp only [rwV] at hx
      rw [show rowB ⟨(rc' : Nat), (rq' : Nat), (re' : Nat), rv'⟩ = bn4 [rc', rq', re'] ++ beS 8 (uN rv') by simp [rowB, bi8]] at htk
      have hq6 : q < 4 := by omega
      generalize hbase : hd ++ (rs.take q).flatMap rowB = base at HM HR
      have HTK : RowKit.Hid (hd ++ (rs.take (q + 1)).flatMap rowB = (base ++ bn4 [rc', rq', re']) ++ beS 8 (uN rv')) := Lib.hid (by rw [htk, ← hbase]; simp only [List.append_assoc])
      have HX := Lib.hid hx
      have HLA : RowKit.Hid ([rc', rq', re'].length = 3) := Lib.hid rfl
      have HLB : RowKit.Hid (3 ≤ 1000) := Lib.hid (by decide)
      have HB4 : RowKit.Hid (∀ x ∈ [rc', rq', re'], x ≤ 2147483647) := Lib.hid (by intro x hx; simp at hx; omega)
      have HC4 : RowKit.Hid ([Value.int .i64 (rc' : Int), Value.int .i64 (rq' : Int), Value.int .i64 (re' : Int)] = [rc', rq', re'].flatMap natV) := Lib.hid rfl
      have HMB : RowKit.Hid (m ≤ 100000 ∧ (bn4 [rc', rq', re']).length = 12) := Lib.hid ⟨by omega, by rw [bn4_len]; rfl⟩
      have e1 : (0 : Int) ≤ (q : Int) := by omega
      have e2 : (q : Int) < (rs.length : Int) := by omega
      clear hx g1 g2 g3 g4 g5 g6 htk hm hrl hbase
      go_wp2_with (first | (go_at_call 87; (with_reducible refine (nums_b2 [rc', rq', re'] 3 HLA.out HLB.out HB4.out HC4.out hp).mono ?_); clear hp; rintro e w1 ⟨a2, m2, c2, R2, rfl, hm2, hr2, hp⟩; have HM2 := Lib.hid hm2; have HR2 := Lib.hid hr2; clear hm2 hr2) | ((with_reducible refine pre_append2 _ _ 57 57 rfl ?_); refine wpList_appendSub (K := [_, _]) (R := R) hp _ _ _ _ rfl wy 5 i0 _ 1 1 Tryz.underlying57 hi0 hz0 hz1 hz2 rfl _ _ _ (sTm rfl) HR.out _ (sTm rfl) m2 _ (Src.ofRow Tryz.underlying57 (by decide) a2 m2 c2 _ (by rw [flat_len byV 1 byV_len, HM2.out]) (HR2.out.keptS.at hp (fun p hm => by simp [hm])) (by_one _)) (by have := HM2.out; have := HMB.out; unfold maxLen; omega) (by have := HM2.out; have := HMB.out; omega) ?_; clear hp; intro v' R' w1 hR' hp; obtain ⟨a', c', rfl, _⟩ := hR'.kept; have HR' := Lib.hid hR'; clear hR'; simp only [List.cons_append, List.nil_append] at hp; simp only [put_some, put_none, sSet, zSet]) | go_skip | ((first | ((with_reducible refine pre_alloc _ rfl ?_); refine lZ hp rfl zero120 ?_; clear hp; intro b w1 hp) | ((with_reducible refine pre_box _ _ rfl ?_); refine lB hp rfl (sTm rfl) rfl ?_; clear hp; intro b w1 hp) | ((with_reducible refine pre_load _ _ rfl ?_); first | refine lO hp rfl (sTm rfl) ceGU1 aa5 ?_ | refine lA hp rfl (sTm rfl) gaGU0 aa5 ?_ | refine lR hp rfl (sTm rfl) gaGU0 HX.out ?_) | ((with_reducible refine pre_store _ _ _ rfl ?_); (first | refine sO hp rfl (sTm rfl) ceGU1 aa5 ?_ | refine sA hp rfl (sTm rfl) (sTm rfl) gaGU0 aa5 ?_ | refine sG hp rfl (sTm rfl) (sTm rfl) gaGU0 aa5 ?_); clear hp; intro w1 hp; simp only [spl, zSet, sSet] at hp) | ((with_reducible refine pre_build _ _ _ rfl ?_); refine lS hp rfl (by intro w; go_simp; rfl) ?_; clear hp; intro b w1 hp; simp only [List.length_cons, List.length_nil, Nat.reduceAdd] at hp)); simp only [put_some, put_none, sSet, zSet]))
      have hm2 : m2 = 12 := by rw [← HM2.out, HMB.out.2]
      subst hm2
      have HRB : RowKit.Hid (SubRow 5 1 (.slice a' (m + 12) c') (m + 12) ((base ++ bn4 [rc', rq', re']).flatMap byV) R') := Lib.hid (by rw [List.flatMap_append]; exact HR'.out)
      have HMD : RowKit.Hid ((base ++ bn4 [rc', rq', re']).length = m + 12) := Lib.hid (by rw [List.length_append, HM.out, HMB.out.2])
      have HME : RowKit.Hid (m ≤ 100000 ∧ (beS 8 (uN rv')).length = 8) := Lib.hid ⟨HMB.out.1, beS_len 8 _⟩
      clear HR HR2 HM2 HR' HMB HM
      have HR := HRB
      have HMB := HME
      clear HRB HME
      obtain ⟨RZ, hrz⟩ : ∃ RZ, R' = RZ := ⟨_, rfl⟩
      rw [hrz] at HR hp
      clear hrz
      go_wp2_with (first | (go_at_call 88; (with_reducible refine (eight_r rv' hp).mono ?_); clear hp; rintro e w1 ⟨a2, m2, c2, R2, rfl, hm2, hr2, hp⟩; have HM2 := Lib.hid hm2; have HR2 := Lib.hid hr2; clear hm2 hr2) | ((with_reducible refine pre_append2 _ _ 57 57 rfl ?_); refine wpList_appendSub (K := [_, _]) (R := RZ) hp _ _ _ _ rfl wy 5 i0 _ 1 1 Tryz.underlying57 hi0 hz0 hz1 hz2 rfl _ _ _ (sTm rfl) HR.out _ (sTm rfl) m2 _ (Src.ofRow Tryz.underlying57 (by decide) a2 m2 c2 _ (by rw [flat_len byV 1 byV_len, HM2.out]) (HR2.out.keptS.at hp (fun p hm => by simp [hm])) (by_one _)) (by have := HM2.out; have := HMB.out; unfold maxLen; omega) (by have := HM2.out; have := HMB.out; omega) ?_; clear hp; intro v' R'' w1 hR' hp; obtain ⟨a'', c'', rfl, _⟩ := hR'.kept; have HR' := Lib.hid hR'; clear hR'; simp only [List.cons_append, List.nil_append] at hp; simp only [put_some, put_none, sSet, zSet]) | go_skip | ((first | ((with_reducible refine pre_alloc _ rfl ?_); refine lZ hp rfl zero120 ?_; clear hp; intro b w1 hp) | ((with_reducible refine pre_box _ _ rfl ?_); refine lB hp rfl (sTm rfl) rfl ?_; clear hp; intro b w1 hp) | ((with_reducible refine pre_load _ _ rfl ?_); first | refine lO hp rfl (sTm rfl) ceGU1 aa5 ?_ | refine lA hp rfl (sTm rfl) gaGU0 aa5 ?_) | ((with_reducible refine pre_store _ _ _ rfl ?_); (first | refine sO hp rfl (sTm rfl) ceGU1 aa5 ?_ | refine sA hp rfl (sTm rfl) (sTm rfl) gaGU0 aa5 ?_ | refine sG hp rfl (sTm rfl) (sTm rfl) gaGU0 aa5 ?_); clear hp; intro w1 hp; simp only [spl, zSet, sSet] at hp) | ((with_reducible refine pre_build _ _ _ rfl ?_); refine lS hp rfl (by intro w; go_simp; rfl) ?_; clear hp; intro b w1 hp; simp only [List.length_cons, List.length_nil, Nat.reduceAdd] at hp)); simp only [put_some, put_none, sSet, zSet]))
      go_roundg (gk - 1)
      case measure => omega
      case rel => exact ⟨q + 1, m + 12 + m2, a'', c'', R'', _, by omega, by go_num, rfl, Lib.hid (by rw [HTK.out, List.length_append, HMD.out, HM2.out]), Lib.hid (by rw [HTK.out, List.flatMap_append]; exact HR'.out), hp.tail⟩
    · obtain rfl : q = rs.length := by omega
      have e2 : decide ((rs.length : Int) < (rs.length : Int)) = false := by simp
      have hys := HM.out
      have hrr := HR.out
      rw [List.take_length, ← HRES.out] at hys hrr
      have HYS := Lib.hid hys
      have HRR := Lib.hid hrr
      clear hkq hlt HM HR hys hrr
      go_wp2_with (first | go_skip | ((first | ((with_reducible refine pre_alloc _ rfl ?_); refine lZ hp rfl zero120 ?_; clear hp; intro b w1 hp) | ((with_reducible refine pre_box _ _ rfl ?_); refine lB hp rfl (sTm rfl) rfl ?_; clear hp; intro b w1 hp) | ((with_reducible refine pre_load _ _ rfl ?_); first | refine lO hp rfl (sTm rfl) ceGU1 aa5 ?_ | refine lA hp rfl (sTm rfl) gaGU0 aa5 ?_) | ((with_reducible refine pre_store _ _ _ rfl ?_); (first | refine sO hp rfl (sTm rfl) ceGU1 aa5 ?_ | refine sA hp rfl (sTm rfl) (sTm rfl) gaGU0 aa5 ?_ | refine sG hp rfl (sTm rfl) (sTm rfl) gaGU0 aa5 ?_); clear hp; intro w1 hp; simp only [spl, zSet, sSet] at hp) | ((with_reducible refine pre_build _ _ _ rfl ?_); refine lS hp rfl (by intro w; go_simp; rfl) ?_; clear hp; intro b w1 hp; simp only [List.length_cons, List.length_nil, Nat.reduceAdd] at hp)); simp only [put_some, put_none, sSet, zSet]))
      go_ret2
      have hmm := HYS.out
      subst hmm
      exact ⟨a, c, R, rfl, HRR.out, hp.tail.sub (List.sublist_append_left _ _)⟩
end Go.Proofs.YtaafajaadfgaoaaGreat
/- What is kept, by its cells; the walks of within, follows and last. -/
namespace Go.Proofs.YtaafajaadfgaoaaGreat
open Go.RowKit
structure Kv where
  vw : Int
  nm : Int
  bs : Int
  im : ByteArray
  ea : Option Addr
  es : List Env
  ec : Nat
def Kv.Is (w : World) (x : Kv) : Prop := RowIs w x.ea (x.es.flatMap envL)
structure Kv.Sm (x y : Kv) : Prop where
  vw : x.vw = y.vw
  nm : x.nm = y.nm
  bs : x.bs = y.bs
  im : x.im = y.im
  es : x.es = y.es
end Go.Proofs.YtaafajaadfgaoaaGreat
/- The walk of Check of what is kept. -/
namespace Go.Proofs.YtaafajaadfgaoaaGreat
open Go.RowKit
def Kv.Small (x : Kv) : Prop := x.es.length ≤ 100000 ∧ x.im.size ≤ 1000000
end Go.Proofs.YtaafajaadfgaoaaGreat
/- Own rows cut short; the walks of Last and Above. -/
namespace Go.Proofs.YtaafajaadfgaoaaGreat
open Go.RowKit
theorem SubRow.drop {e : TypeId} {c n cap off g k : Nat} {xs : List Value} {R : List Blk} (h : SubRow e c (.slice (some ⟨g, off, none⟩) n cap) n xs R) (hk : k ≤ n) (hn : 0 < n) :
    SubRow e c (.slice (some ⟨g, off + k * c, none⟩) (n - k) (cap - k)) (n - k) (xs.drop (k * c)) R := by
  obtain ⟨hl, ⟨h0, _, _⟩ | ⟨g', off', cap', pre, hv, h1, h2, h3, h4⟩⟩ := h
  · omega
  · injection hv with hv _ hc
    injection hv with hv
    injection hv with hg ho _
    subst hg ho hc
    have hm := Nat.mul_le_mul_right c hk
    refine ⟨by rw [List.length_drop, hl, Nat.sub_mul], .inr ⟨g, off + k * c, cap - k, pre ++ xs.take (k * c), rfl, by omega, by omega, by rw [List.length_append, List.length_take, h3, hl]; omega, ?_⟩⟩
    rw [h4, List.append_assoc, List.take_append_drop]
    have hm2 := Nat.mul_le_mul_right c (show k ≤ cap by omega)
    rw [Nat.sub_mul, show off + k * c + (cap * c - k * c) = off + cap * c by omega]
theorem SubRow.take {e : TypeId} {c n cap off g k : Nat} {xs : List Value} {R : List Blk} (h : SubRow e c (.slice (some ⟨g, off, none⟩) n cap) n xs R) (hk : k ≤ n) (hn : 0 < n) :
    ∃ R', SubRow e c (.slice (some ⟨g, off, none⟩) k cap) k (xs.take (k * c)) R' ∧ ∀ {B : Nat} {w0 w : World} {M : List Blk}, Hp B w0 w (R ++ M) → Hp B w0 w (R' ++ M) := by
  obtain ⟨hl, ⟨h0, _, _⟩ | ⟨g', off', cap', pre, hv, h1, h2, h3, h4⟩⟩ := h
  · omega
  · injection hv with hv _ hc
    injection hv with hv
    injection hv with hg ho _
    subst hg ho hc
    have hm := Nat.mul_le_mul_right c hk
    refine ⟨[⟨g, pre ++ xs.take (k * c), e, off + cap * c⟩], ⟨by rw [List.length_take, hl]; omega, .inr ⟨g, off, cap, pre, rfl, by omega, h2, h3, rfl⟩⟩, fun {B w0 w M} hp => ?_⟩
    subst h4
    refine Hp.less (l2 := xs.drop (k * c)) ?_
    rw [List.append_assoc, List.take_append_drop]; exact hp
theorem OwnRow.cap {e : TypeId} {c n m : Nat} {a : Option Addr} {k : Nat} {xs : List Value} {R : List Blk} (h : OwnRow e c (.slice a n k) m xs R) : m ≤ k := by
  obtain ⟨_, ⟨h0, hv, _, _⟩ | ⟨g, cap, hv, h1, h2, _⟩⟩ := h
  · omega
  · injection hv with _ _ hk
    omega
end Go.Proofs.YtaafajaadfgaoaaGreat
/- The walk of fold: another log is taken. -/
namespace Go.Proofs.YtaafajaadfgaoaaGreat
open Go.RowKit
theorem SubRow.cut {e : TypeId} {c n cap k : Nat} {a : Option Addr} {xs : List Value} {R : List Blk} (h : SubRow e c (.slice a n cap) n xs R) (hk : k ≤ n) :
    ∃ R', SubRow e c (.slice a k cap) k (xs.take (k * c)) R' ∧ ∀ (B : Nat) (w0 w : World) (M : List Blk), Hp B w0 w (R ++ M) → Hp B w0 w (R' ++ M) := by
  obtain ⟨hl, ⟨h0, ⟨a', hv⟩, hr⟩ | ⟨g', off', cap', pre, hv, h1, h2, h3, h4⟩⟩ := h
  · injection hv with _ _ hc
    subst h0 hc hr
    obtain rfl : k = 0 := by omega
    have hx : xs = [] := List.eq_nil_of_length_eq_zero (by simpa using hl)
    subst hx
    exact ⟨[], by simpa using SubRow.nil e c a, fun _ _ _ _ hp => hp⟩
  · injection hv with hv _ hc
    subst hv hc
    have hm := Nat.mul_le_mul_right c hk
    refine ⟨[⟨g', pre ++ xs.take (k * c), e, off' + cap * c⟩], ⟨by rw [List.length_take, hl]; omega, .inr ⟨g', off', cap, pre, rfl, by omega, h2, h3, rfl⟩⟩, fun B w0 w M hp => ?_⟩
    subst h4
    refine Hp.less (l2 := xs.drop (k * c)) ?_
    rw [List.append_assoc, List.take_append_drop]; exact hp
end Go.Proofs.YtaafajaadfgaoaaGreat
/- Heaps that are laid and read, by their parts; the chapter's examples of heaps. -/
namespace Go.Proofs.YtaafajaadfgaoaaGreat
open Go.RowKit
theorem RowIs.fixC {w : World} {b off : Nat} {xs : List Value} (h : RowIs w (some ⟨b, off, none⟩) xs) : ∀ j v, xs[j]? = some v → w.cell? ⟨b, off + j, none⟩ = some v := fun j v hj => by
  obtain ⟨b', off', he, hc⟩ := h j v hj
  injection he with he; injection he with e1 e2; subst e1; subst e2; exact hc
theorem obsB_sm {l k : List Ob} (h : ObsSm l k) : l.flatMap obB = k.flatMap obB := by
  have : l.map obB = k.map obB := by
    apply List.ext_getElem?
    intro i
    rw [List.getElem?_map, List.getElem?_map]
    rcases Nat.lt_or_ge i l.length with hi | hi
    · have ha := List.getElem?_eq_getElem hi
      have hb := List.getElem?_eq_getElem (l := k) (i := i) (by have := h.1; omega)
      obtain ⟨h1, h2, h3, h4, h5⟩ := h.2 i _ _ ha hb
      rw [ha, hb]
      simp only [Option.map_some, obB, h1, h2, h4, h5]
    · rw [List.getElem?_eq_none hi, List.getElem?_eq_none (by have := h.1; omega)]
  rw [List.flatMap_def, List.flatMap_def, this]
theorem heapB_sm {x y : Hv} (h : x.Sm y) : heapB x = heapB y := by
  unfold heapB headB
  rw [h.od, h.nx, h.t0, h.t1, h.t2, h.t3, obsB_sm h.os, h.os.1]
theorem stateB_sm {x y : Sv} (h : x.Sm y) : stateB x = stateB y := by
  unfold stateB; rw [heapB_sm h.1, h.2]
theorem HvO.kept {y : Hv} {R : List Blk} (h : HvO y R) : Kept R fun w => y.Is w := by
  obtain ⟨RO, RF, M, rfl, h⟩ := h
  exact h.kept
theorem SubRow.cap {e : TypeId} {c n m : Nat} {a : Option Addr} {k : Nat} {xs : List Value} {R : List Blk} (h : SubRow e c (.slice a n k) m xs R) (hn : n = m) : m ≤ k := by
  obtain ⟨a', k', hv, hk, _⟩ := h.kept
  injection hv with _ _ hk'
  omega
theorem right_one3 : hrightB (oneHv 3) = true := hright_one (by decide) (by decide)
def GotK (w : World) (x : Hv) (e : Ending) (w' : World) : Prop := ∃ od oa os oc nx t0 t1 t2 t3 fa fs fc R, e = .returned (.tuple #[.agg #[.int .i64 od, .slice oa (List.length os) oc, .int .i64 nx, .int .i64 t0, .int .i64 t1, .int .i64 t2, .int .i64 t3, .slice fa (List.length fs) fc], .int .i64 0]) ∧ Hv.Sm ⟨od, oa, os, oc, nx, t0, t1, t2, t3, fa, fs, fc⟩ x ∧ Kept R (fun w => Hv.Is w ⟨od, oa, os, oc, nx, t0, t1, t2, t3, fa, fs, fc⟩) ∧ Hp w.heap.size w w' R
theorem newh_3 (w : World) : Calls Tryz.prog 81 #[.int .i64 3] w (GotK w (oneHv 3)) := by
  refine (newh81_yes 3 rfl w).mono fun e w' h => ?_
  obtain ⟨y, R, h1, h2, h3, h4⟩ := h
  obtain ⟨od, oa, os, oc, nx, t0, t1, t2, t3, fa, fs, fc⟩ := y
  exact ⟨od, oa, os, oc, nx, t0, t1, t2, t3, fa, fs, fc, R, h1, h2, h3, h4⟩
end Go.Proofs.YtaafajaadfgaoaaGreat
/- What comes of an entry that comes again, of a client's next one, and of many: the plain laws. No program in sight. -/
namespace Go.Proofs.YtaafajaadfgaoaaGreat
theorem zeroSv_small : zeroSv.Small := ⟨zero_small, by simp [zeroSv]⟩
end Go.Proofs.YtaafajaadfgaoaaGreat
/- Runs of entries over a state: the plain laws. No program in sight. -/
namespace Go.Proofs.YtaafajaadfgaoaaGreat
theorem stB_zero : stB zeroSv = false := by unfold stB; rw [show zeroSv.hv = zeroHv from rfl, hright_zero]; rfl
end Go.Proofs.YtaafajaadfgaoaaGreat
/- Words stay in range: the plain law. No program in sight. -/
namespace Go.Proofs.YtaafajaadfgaoaaGreat
open Go.RowKit
theorem w64_sm {x y : Hv} (h : x.Sm y) (hw : x.W64) : y.W64 := by
  intro o ho v hv
  obtain ⟨i, hi, rfl⟩ := List.getElem_of_mem ho
  have hb := List.getElem?_eq_getElem hi
  have ha := List.getElem?_eq_getElem (l := x.os) (i := i) (by have := h.os.1; omega)
  have hs := h.os.2 i _ _ ha hb
  exact hw _ (List.getElem_mem _) v (by rw [hs.2.2.2.1]; exact hv)
end Go.Proofs.YtaafajaadfgaoaaGreat
/- table.Apply of any state and entry. -/
namespace Go.Proofs.YtaafajaadfgaoaaGreat
open Go.RowKit
theorem same26L (odx : Int) (oax : Option Addr) (osx : List Ob) (ocx : Nat) (nxx t0x t1x t2x t3x : Int) (fax : Option Addr) (fsx : List Bl) (fcx : Nat) (rax : Option Addr) (rsx : List Rw) (rcx : Nat) (ody : Int) (oay : Option Addr) (osy : List Ob) (ocy : Nat) (nxy t0y t1y t2y t3y : Int) (fay : Option Addr) (fsy : List Bl) (fcy : Nat) (ray : Option Addr) (rsy : List Rw) (rcy : Nat) (hs : Sv.Small ⟨⟨odx, oax, osx, ocx, nxx, t0x, t1x, t2x, t3x, fax, fsx, fcx⟩, rax, rsx, rcx⟩) (hxy : Sv.Sm ⟨⟨odx, oax, osx, ocx, nxx, t0x, t1x, t2x, t3x, fax, fsx, fcx⟩, rax, rsx, rcx⟩ ⟨⟨ody, oay, osy, ocy, nxy, t0y, t1y, t2y, t3y, fay, fsy, fcy⟩, ray, rsy, rcy⟩) (w : World) (hx0 : Sv.Is w ⟨⟨odx, oax, osx, ocx, nxx, t0x, t1x, t2x, t3x, fax, fsx, fcx⟩, rax, rsx, rcx⟩) (hy0 : Sv.Is w ⟨⟨ody, oay, osy, ocy, nxy, t0y, t1y, t2y, t3y, fay, fsy, fcy⟩, ray, rsy, rcy⟩) :
    Calls Tryz.prog 26 #[.agg #[.int .i64 odx, .slice oax osx.length ocx, .int .i64 nxx, .int .i64 t0x, .int .i64 t1x, .int .i64 t2x, .int .i64 t3x, .slice fax fsx.length fcx, .slice rax rsx.length rcx], .agg #[.int .i64 ody, .slice oay osy.length ocy, .int .i64 nxy, .int .i64 t0y, .int .i64 t1y, .int .i64 t2y, .int .i64 t3y, .slice fay fsy.length fcy, .slice ray rsy.length rcy]] w fun e w' => e = .returned (.bool true) ∧ Below w.heap.size w w' := same26 _ _ hs hxy w hx0 hy0
theorem big19L (od : Int) (oa : Option Addr) (os : List Ob) (oc : Nat) (nx t0 t1 t2 t3 : Int) (fa : Option Addr) (fs : List Bl) (fc : Nat) (ra : Option Addr) (rs : List Rw) (rc : Nat) (w : World) (hx0 : Sv.Is w ⟨⟨od, oa, os, oc, nx, t0, t1, t2, t3, fa, fs, fc⟩, ra, rs, rc⟩) : Calls Tryz.prog 19 #[.agg #[.int .i64 od, .slice oa os.length oc, .int .i64 nx, .int .i64 t0, .int .i64 t1, .int .i64 t2, .int .i64 t3, .slice fa fs.length fc, .slice ra rs.length rc]] w (BigPost6 w ⟨⟨od, oa, os, oc, nx, t0, t1, t2, t3, fa, fs, fc⟩, ra, rs, rc⟩) := big19 _ w hx0
end Go.Proofs.YtaafajaadfgaoaaGreat

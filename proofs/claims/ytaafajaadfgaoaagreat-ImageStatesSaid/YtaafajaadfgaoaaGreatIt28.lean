/- Parts of the proof. -/
import Derived.Test.YtaafajaadfgaoaaGreatIt25
import Derived.Test.YtaafajaadfgaoaaGreatIt16
import Derived.Test.YtaafajaadfgaoaaGreatIt17
import Derived.Test.YtaafajaadfgaoaaGreatIt22
import Derived.Test.YtaafajaadfgaoaaGreatIt27
import Derived.Test.YtaafajaadfgaoaaGreatIt15
open List renaming set_cons_zero → zSet, set_cons_succ → sSet
/- The walk of the document's GetHeap. -/
set_option linter.unusedSimpArgs false
set_option linter.unusedVariables false
namespace Go.Proofs.YtaafajaadfgaoaaGreat
open Go.RowKit
theorem obsSm_snoc {l k : List Ob} {x y : Ob} (h : ObsSm l k) (hx : x.Sm y) : ObsSm (l ++ [x]) (k ++ [y]) := obs_snoc2 h hx
def OsRel (q : Nat) (st : Option (List Nat)) (l : List Ob) (st' : Option (List Nat)) : Prop := match st.bind (repR objR q) with
  | some (l0, b1) => ObsSm l l0 ∧ st' = some b1
  | none => st' = none
theorem OsRel.step {q : Nat} {st st1 st2 : Option (List Nat)} {l : List Ob} {x : Ob} (h1 : OsRel q st l st1) (h2 : ORel st1 x st2) : OsRel (q + 1) st (l ++ [x]) st2 := by
  have hn : ∀ {s : Option (List Nat)}, ORel none x s → s = none := fun h => h
  cases st with
  | none =>
    obtain rfl : st1 = none := h1
    obtain rfl := hn h2
    rfl
  | some b =>
    unfold OsRel at h1 ⊢
    replace h1 : (match repR objR q b with | some (l0, b1) => ObsSm l l0 ∧ st1 = some b1 | none => st1 = none) := h1
    show (match repR objR (q + 1) b with | some (l0, b1) => ObsSm (l ++ [x]) l0 ∧ st2 = some b1 | none => st2 = none)
    cases e1 : repR objR q b with
    | none =>
      rw [e1] at h1
      obtain rfl : st1 = none := h1
      obtain rfl := hn h2
      have e2 : repR objR (q + 1) b = none := by unfold repR; rw [e1]
      rw [e2]
    | some p =>
      obtain ⟨l0, b1⟩ := p
      rw [e1] at h1
      obtain ⟨hl, rfl⟩ := h1
      unfold ORel at h2
      replace h2 : (match objR b1 with | some (o, b1) => x.Sm o ∧ st2 = some b1 | none => st2 = none) := h2
      cases e2 : objR b1 with
      | none =>
        rw [e2] at h2
        rw [repR_fail e1 e2 (q + 1) (Nat.lt_succ_self q)]
        exact h2
      | some p2 =>
        obtain ⟨x0, b2⟩ := p2
        rw [e2] at h2
        obtain ⟨hx, rfl⟩ := h2
        rw [repR_step e1 e2]
        exact ⟨obsSm_snoc hl hx, rfl⟩
theorem right05_L (od : Int) (oa : Option Addr) (os : List Ob) (oc : Nat) (nx t0 t1 t2 t3 : Int) (fa : Option Addr) (fs : List Bl) (fc : Nat) (b : Bool) (hb : hrightB ⟨od, oa, os, oc, nx, t0, t1, t2, t3, fa, fs, fc⟩ = b) (hs : Hv.Small ⟨od, oa, os, oc, nx, t0, t1, t2, t3, fa, fs, fc⟩) (hnx : nx ≤ 9223372036854775807) (w : World) (h : Hv.Is w ⟨od, oa, os, oc, nx, t0, t1, t2, t3, fa, fs, fc⟩) :
    Calls Tryz.prog 96 #[.agg #[.int .i64 od, .slice oa os.length oc, .int .i64 nx, .int .i64 t0, .int .i64 t1, .int .i64 t2, .int .i64 t3, .slice fa fs.length fc]] w fun e w' => e = .returned (.bool b) ∧ Below w.heap.size w w' := hb ▸ right96 ⟨od, oa, os, oc, nx, t0, t1, t2, t3, fa, fs, fc⟩ hs hnx w h
end Go.Proofs.YtaafajaadfgaoaaGreat
/- The walk of the document's PutHeap. -/
namespace Go.Proofs.YtaafajaadfgaoaaGreat
open Go.RowKit
theorem ceGQ0 {ty : TypeId} (h : cellB Tryz.prog ty = true := by with_reducible first | exact cell3 | exact cell4 | exact cell57 | exact cell5 | exact cell43 | exact cell122 | exact cell37) : cellB Tryz.prog ty = true := h
theorem bn4_app (l m : List Nat) : bn4 (l ++ m) = bn4 l ++ bn4 m := List.flatMap_append
def RowQ (B : Nat) (w0 : World) (bs : List Nat) (H : List Blk → List Blk) (e : Ending) (w' : World) : Prop := ∃ a m c R, e = .returned (.slice a m c) ∧ bs.length = m ∧ SubRow 5 1 (.slice a m c) m (bs.flatMap byV) R ∧ Hp B w0 w' (H R)
theorem nums_b1 (l : List Nat) (n : Nat) (hn : l.length = n) (hl : n ≤ 1000) (hb : ∀ x ∈ l, x ≤ 2147483647) {B : Nat} {w0 w : World} {bl t nn cl : Nat} {cs : List Value} {p : Blk} (hcs : cs = l.flatMap natV) (hp : Hp B w0 w (⟨bl, cs, t, nn⟩ :: p :: [])) :
    Calls Tryz.prog 87 #[.slice (some ⟨bl, 0, none⟩) n cl] w (RowQ B w0 (bn4 l) fun R => p :: (R ++ [])) := by
  subst hn hcs
  refine (numbers87 l hl hb _ cl w (hp.rowIs (i := 0) rfl)).mono fun e w' h => ?_
  obtain ⟨a, m, c, R, h1, h2, h3, h4⟩ := h
  have h5 := hp.join h4
  simp only [List.cons_append, List.nil_append] at h5
  exact ⟨a, m, c, R, h1, h2, h3, h5.kp⟩
theorem nums_b2 (l : List Nat) (n : Nat) (hn : l.length = n) (hl : n ≤ 1000) (hb : ∀ x ∈ l, x ≤ 2147483647) {B : Nat} {w0 w : World} {bl t nn cl : Nat} {cs : List Value} {p q : Blk} {R M : List Blk} (hcs : cs = l.flatMap natV) (hp : Hp B w0 w (⟨bl, cs, t, nn⟩ :: p :: q :: (R ++ M))) :
    Calls Tryz.prog 87 #[.slice (some ⟨bl, 0, none⟩) n cl] w (RowQ B w0 (bn4 l) fun R2 => p :: q :: (R ++ (M ++ R2))) := by
  subst hn hcs
  refine (numbers87 l hl hb _ cl w (hp.rowIs (i := 0) rfl)).mono fun e w' h => ?_
  obtain ⟨a, m, c, R2, h1, h2, h3, h4⟩ := h
  have h5 := hp.join h4
  simp only [List.cons_append, List.append_assoc] at h5
  exact ⟨a, m, c, R2, h1, h2, h3, h5.kp⟩
theorem nums_r (l : List Nat) (n : Nat) (hn : l.length = n) (hl : n ≤ 1000) (hb : ∀ x ∈ l, x ≤ 2147483647) (al : Option Addr) (cl : Nat) {B : Nat} {w0 w : World} {p q : Blk} {R M : List Blk} (hr : RowIs w al (l.flatMap natV)) (hp : Hp B w0 w (p :: q :: (R ++ M))) :
    Calls Tryz.prog 87 #[.slice al n cl] w (RowQ B w0 (bn4 l) fun R2 => p :: q :: (R ++ (M ++ R2))) := by
  subst hn
  refine (numbers87 l hl hb _ cl w hr).mono fun e w' h => ?_
  obtain ⟨a, m, c, R2, h1, h2, h3, h4⟩ := h
  have h5 := hp.join h4
  simp only [List.cons_append, List.append_assoc] at h5
  exact ⟨a, m, c, R2, h1, h2, h3, h5⟩
theorem eight_r (n : Int) {B : Nat} {w0 w : World} {p q : Blk} {R M : List Blk} (hp : Hp B w0 w (p :: q :: (R ++ M))) :
    Calls Tryz.prog 88 #[.int .i64 n] w (RowQ B w0 (beS 8 (uN n)) fun R2 => p :: q :: (R ++ (M ++ R2))) := by
  refine (eights88 n w).mono fun e w' h => ?_
  obtain ⟨a, m, c, R2, h1, h2, h3, h4⟩ := h
  have h5 := hp.join h4
  simp only [List.cons_append, List.append_assoc] at h5
  exact ⟨a, m, c, R2, h1, h2, h3, h5⟩
def PutO (w : World) (bs : List Nat) (m : Nat) (e : Ending) (w' : World) : Prop := ∃ a c R, e = .returned (.tuple #[.slice a m c, .int .i64 0]) ∧ SubRow 5 1 (.slice a m c) m (bs.flatMap byV) R ∧ Hp w.heap.size w w' R
set_option maxRecDepth 100000 in
set_option maxHeartbeats 16000000 in
theorem puth06_yes (x : Hv) (hb : hrightB x = true) (bs : List Nat) (hbs : heapB x = bs) (m : Nat) (hm : bs.length = m) (w : World) (hx0 : x.Is w) : Calls Tryz.prog 84 #[.agg (hvL x).toArray] w (PutO w bs m) := by
  obtain ⟨i0, hi0, hz0, hz1, hz2⟩ := info_parts info5
  subst hbs hm
  have hxr := hright_of hb
  have HB := Lib.hid hb
  have HSS := Lib.hid hxr.small
  have HIS := Lib.hid hx0
  have HLAY := Lib.hid (hright_lay hxr)
  have hp := Hp.start w
  have hfr := hxr.free
  unfold rightB regionB at hfr
  rw [Bool.and_eq_true] at hfr
  have hod : 3 ≤ x.od ∧ x.od ≤ 8 := by simpa using hfr.1
  have hnx := hxr.lo
  have hnx2 := hxr.hi
  have hol := hxr.len
  have l0 := leads_lay hxr (hxr.tops x.t0 (by simp [tops]))
  have l1 := leads_lay hxr (hxr.tops x.t1 (by simp [tops]))
  have l2 := leads_lay hxr (hxr.tops x.t2 (by simp [tops]))
  have l3 := leads_lay hxr (hxr.tops x.t3 (by simp [tops]))
  have HHL := Lib.hid (headB_len x)
  obtain ⟨hd, hhd⟩ : ∃ hd, hd = headB x := ⟨_, rfl⟩
  have HHD := Lib.hid hhd
  have HRES : RowKit.Hid (heapB x = hd ++ x.os.flatMap obB) := Lib.hid (by rw [hhd]; rfl)
  rw [← hhd] at HHL
  obtain ⟨od, oa, os, oc, nx, t0, t1, t2, t3, fa, fs, fc⟩ := x
  simp only at hod hnx hnx2 hol l0 l1 l2 l3 HRES HLAY
  unfold headB at HHD
  simp only at HHD
  obtain ⟨od, rfl⟩ := Int.eq_ofNat_of_zero_le (show 0 ≤ od by omega)
  obtain ⟨nx, rfl⟩ := Int.eq_ofNat_of_zero_le (show 0 ≤ nx by omega)
  obtain ⟨t0, rfl⟩ := Int.eq_ofNat_of_zero_le l0.1
  obtain ⟨t1, rfl⟩ := Int.eq_ofNat_of_zero_le l1.1
  obtain ⟨t2, rfl⟩ := Int.eq_ofNat_of_zero_le l2.1
  obtain ⟨t3, rfl⟩ := Int.eq_ofNat_of_zero_le l3.1
  simp only [Int.toNat_natCast] at HHD
  have HNX : RowKit.Hid ((nx : Int) ≤ 9223372036854775807) := Lib.hid (by omega)
  have HB1 : RowKit.Hid (∀ x ∈ [od, nx, t0, t1, t2, t3, os.length], x ≤ 2147483647) := Lib.hid (by intro x hx; simp at hx; omega)
  have HO : RowKit.Hid (RowIs w oa (os.flatMap obV)) := Lib.hid hx0.1
  have HOO : RowKit.Hid (∀ o ∈ os, o.Is w) := Lib.hid hx0.2.1
  have HOL : RowKit.Hid (os.length ≤ 256) := Lib.hid hol
  have HLA : RowKit.Hid ([od, nx, t0, t1, t2, t3, os.length].length = 7) := Lib.hid rfl
  have HLB : RowKit.Hid (7 ≤ 1000) := Lib.hid (by decide)
  have HC1 : RowKit.Hid ([Value.int .i64 (od : Int), Value.int .i64 (nx : Int), Value.int .i64 (t0 : Int), Value.int .i64 (t1 : Int), Value.int .i64 (t2 : Int), Value.int .i64 (t3 : Int), Value.int .i64 (os.length : Int)] = [od, nx, t0, t1, t2, t3, os.length].flatMap natV) := Lib.hid rfl
  have HZ : RowKit.Hid (bn4 [od, nx, t0, t1, t2, t3, os.length] = hd) := Lib.hid (by rw [HHD.out, ← bn4_app, ← bn4_app]; rfl)
  clear hfr hod hnx hnx2 hol l0 l1 l2 l3 hxr hb hx0 hhd
  simp only [hvL]
  go_enter Tryz.func84, Tryz.ntmps84
  go_wp2_with (first | (go_at_call 96; (with_reducible refine (right05_L od oa os oc nx t0 t1 t2 t3 fa fs fc _ HB.out HSS.out HNX.out _ (HIS.out.below hp.below)).mono ?_); rintro e w1 ⟨rfl, hb⟩; replace hp := hp.call hb; clear hb) | (go_at_call 87; (with_reducible refine (nums_b1 [od, nx, t0, t1, t2, t3, os.length] 7 HLA.out HLB.out HB1.out HC1.out hp).mono ?_); clear hp; rintro e w1 ⟨a1, m1, c1, R1, rfl, hm1, hr1, hp⟩; have HM1 := Lib.hid hm1; have HR1 := Lib.hid hr1; clear hm1 hr1) | go_skip | ((first | ((with_reducible refine pre_alloc _ rfl ?_); refine lZ hp rfl zero126 ?_; clear hp; intro b w1 hp) | ((with_reducible refine pre_box _ _ rfl ?_); refine lB hp rfl (sTm rfl) rfl ?_; clear hp; intro b w1 hp) | ((with_reducible refine pre_load _ _ rfl ?_); first | refine lO hp rfl (sTm rfl) ceGQ0 aa5 ?_ | refine lA hp rfl (sTm rfl) (by with_reducible first | exact agg47 | exact agg126) aa5 ?_) | ((with_reducible refine pre_store _ _ _ rfl ?_); (first | refine sO hp rfl (sTm rfl) ceGQ0 aa5 ?_ | refine sA hp rfl (sTm rfl) (sTm rfl) (by with_reducible first | exact agg47 | exact agg126) aa5 ?_ | refine sG hp rfl (sTm rfl) (sTm rfl) (by with_reducible first | exact agg47 | exact agg126) aa5 ?_); clear hp; intro w1 hp; simp only [spl, zSet, sSet] at hp) | ((with_reducible refine pre_build _ _ _ rfl ?_); refine lS hp rfl (by intro w; go_simp; rfl) ?_; clear hp; intro b w1 hp; simp only [List.length_cons, List.length_nil, Nat.reduceAdd] at hp)); simp only [put_some, put_none, sSet, zSet]))
  obtain ⟨bh, rfl⟩ := hp.id0
  go_loopg [4, 5] os.length (fun k v i wr => ∃ (q m : Nat) (a : Option Addr) (c : Nat) (R M : List Blk), k + q = os.length ∧ i = .int .i64 q ∧ v = .slice a m c ∧ RowKit.Hid ((hd ++ (os.take q).flatMap obB).length = m) ∧ RowKit.Hid (SubRow 5 1 (.slice a m c) m ((hd ++ (os.take q).flatMap obB).flatMap byV) R) ∧ Hp w.heap.size w wr (⟨bh, [.int .i64 od, .slice oa os.length oc, .int .i64 nx, .int .i64 t0, .int .i64 t1, .int .i64 t2, .int .i64 t3, .slice fa fs.length fc], 47, 8⟩ :: (R ++ M)))
  case atStart => exact ⟨0, m1, a1, c1, R1, [], by omega, rfl, rfl, Lib.hid (by rw [← HZ.out]; simpa using HM1.out), Lib.hid (by rw [← HZ.out]; simpa using HR1.out), hp⟩
  case round =>
    clear hp HM1 HR1 HZ HLA HLB HC1 HB1
    obtain ⟨q, m, a, c, R, M, hkq, rfl, rfl, HM, HR, hp⟩ := hrel
    by_cases hlt : q < os.length
    · obtain ⟨bq, off, rfl, hx⟩ := HO.out.elems 5 obV_len (by omega) (by omega)
      have hj := List.getElem?_eq_getElem hlt
      replace hx := hx q _ hj
      have hmem := List.getElem_mem hlt
      obtain ⟨hw1, hw2⟩ := HOO.out _ hmem
      have hlay := HLAY.out _ hmem
      have htk : (os.take (q + 1)).flatMap obB = (os.take q).flatMap obB ++ obB os[q] := by rw [List.take_add_one, hj, List.flatMap_append]; simp
      have hlen := obsB_len (l := os.take q) (fun o ho => HLAY.out o (List.mem_of_mem_take ho))
      rw [List.length_take, Nat.min_eq_left (by omega)] at hlen
      have hm : m ≤ 28 + q * 336 := by rw [← HM.out, List.length_append, HHL.out]; omega
      have hol := HOL.out
      clear hmem hj hlen
      generalize os[q] = x at hx hw1 hw2 hlay htk
      obtain ⟨xh, xp, xo, wa, ws, wc, la, ls, lc⟩ := x
      obtain ⟨g1, g2, g3, g4, g5, g6, g7⟩ := hlay
      simp only at hx hw1 hw2 g1 g2 g3 g4 g5 g6 g7
      obtain ⟨xh, rfl⟩ := Int.eq_ofNat_of_zero_le g1
      obtain ⟨xp, rfl⟩ := Int.eq_ofNat_of_zero_le g3
      simp only [obV] at hx
      rw [show obB ⟨xh, xp, xo, wa, ws, wc, la, ls, lc⟩ = bn4 [xh, xp, ws.length, ls.length] ++ (bi8 ws ++ bn4 (ls.map Int.toNat)) by simp only [obB, Int.toNat_natCast]] at htk
      have hq6 : q < 256 := by omega
      generalize hbase : hd ++ (os.take q).flatMap obB = base at HM HR
      have HTK : RowKit.Hid (hd ++ (os.take (q + 1)).flatMap obB = base ++ (bn4 [xh, xp, ws.length, ls.length] ++ (bi8 ws ++ bn4 (ls.map Int.toNat)))) := Lib.hid (by rw [htk, ← hbase, List.append_assoc])
      have HX := Lib.hid hx
      have HSW : RowKit.Hid (RowIs w wa (ws.flatMap iV)) := Lib.hid hw1
      have HSL : RowKit.Hid (RowIs w la ((ls.map Int.toNat).flatMap natV)) := Lib.hid (by rw [nat_row (fun t ht => (g7 t ht).1)]; exact hw2)
      have HLA : RowKit.Hid ([xh, xp, ws.length, ls.length].length = 4) := Lib.hid rfl
      have HLB : RowKit.Hid (4 ≤ 1000) := Lib.hid (by decide)
      have HB4 : RowKit.Hid (∀ x ∈ [xh, xp, ws.length, ls.length], x ≤ 2147483647) := Lib.hid (by intro x hx; simp at hx; omega)
      have HC4 : RowKit.Hid ([Value.int .i64 (xh : Int), Value.int .i64 (xp : Int), Value.int .i64 (ws.length : Int), Value.int .i64 (ls.length : Int)] = [xh, xp, ws.length, ls.length].flatMap natV) := Lib.hid rfl
      have HL6 : RowKit.Hid (ls.length ≤ 1000) := Lib.hid (by omega)
      have HLN : RowKit.Hid ((ls.map Int.toNat).length = ls.length) := Lib.hid (List.length_map ..)
      have HB6 : RowKit.Hid (∀ x ∈ ls.map Int.toNat, x ≤ 2147483647) := Lib.hid (by intro x hx; obtain ⟨t, ht, rfl⟩ := List.mem_map.1 hx; have := g7 t ht; omega)
      have HLW : RowKit.Hid (ws.length ≤ 32 ∧ ls.length ≤ 16 ∧ m ≤ 90000) := Lib.hid ⟨g5, g6, by omega⟩
      have HMB : RowKit.Hid (m ≤ 100000 ∧ (bn4 [xh, xp, ws.length, ls.length]).length = 16) := Lib.hid ⟨by omega, by rw [bn4_len]; rfl⟩
      have e1 : (0 : Int) ≤ (q : Int) := by omega
      have e2 : (q : Int) < (os.length : Int) := by omega
      clear hx hw1 hw2 g1 g2 g3 g4 g6 g7 htk hm hol hbase
      go_wp2_with (first | (go_at_call 87; (with_reducible refine (nums_b2 [xh, xp, ws.length, ls.length] 4 HLA.out HLB.out HB4.out HC4.out hp).mono ?_); clear hp; rintro e w1 ⟨a2, m2, c2, R2, rfl, hm2, hr2, hp⟩; have HM2 := Lib.hid hm2; have HR2 := Lib.hid hr2; clear hm2 hr2) | ((with_reducible refine pre_append2 _ _ 57 57 rfl ?_); refine wpList_appendSub (K := [_, _]) (R := R) hp _ _ _ _ rfl wy 5 i0 _ 1 1 Tryz.underlying57 hi0 hz0 hz1 hz2 rfl _ _ _ (sTm rfl) HR.out _ (sTm rfl) m2 _ (Src.ofRow Tryz.underlying57 (by decide) a2 m2 c2 _ (by rw [flat_len byV 1 byV_len, HM2.out]) (HR2.out.keptS.at hp (fun p hm => by simp [hm])) (by_one _)) (by have := HM2.out; have := HMB.out; unfold maxLen; omega) (by have := HM2.out; have := HMB.out; omega) ?_; clear hp; intro v' R' w1 hR' hp; obtain ⟨a', c', rfl, _⟩ := hR'.kept; have HR' := Lib.hid hR'; clear hR'; simp only [List.cons_append, List.nil_append] at hp; simp only [put_some, put_none, sSet, zSet]) | go_skip | ((first | ((with_reducible refine pre_alloc _ rfl ?_); refine lZ hp rfl zero126 ?_; clear hp; intro b w1 hp) | ((with_reducible refine pre_box _ _ rfl ?_); refine lB hp rfl (sTm rfl) rfl ?_; clear hp; intro b w1 hp) | ((with_reducible refine pre_load _ _ rfl ?_); first | refine lO hp rfl (sTm rfl) ceGQ0 aa5 ?_ | refine lA hp rfl (sTm rfl) (by with_reducible first | exact agg47 | exact agg126) aa5 ?_ | refine lR hp rfl (sTm rfl) (by with_reducible first | exact agg47 | exact agg126) HX.out ?_) | ((with_reducible refine pre_store _ _ _ rfl ?_); (first | refine sO hp rfl (sTm rfl) ceGQ0 aa5 ?_ | refine sA hp rfl (sTm rfl) (sTm rfl) (by with_reducible first | exact agg47 | exact agg126) aa5 ?_ | refine sG hp rfl (sTm rfl) (sTm rfl) (by with_reducible first | exact agg47 | exact agg126) aa5 ?_); clear hp; intro w1 hp; simp only [spl, zSet, sSet] at hp) | ((with_reducible refine pre_build _ _ _ rfl ?_); refine lS hp rfl (by intro w; go_simp; rfl) ?_; clear hp; intro b w1 hp; simp only [List.length_cons, List.length_nil, Nat.reduceAdd] at hp)); simp only [put_some, put_none, sSet, zSet]))
      obtain ⟨bo, rfl⟩ := hp.id0
      have hm2 : m2 = 16 := by rw [← HM2.out, HMB.out.2]
      subst hm2
      have HRA := HR'
      clear HR HR2 HM2 HR' HMB e1 e2
      go_loopg [4, 8] ws.length (fun k v i wr => ∃ (j n : Nat) (a : Option Addr) (c : Nat) (R M : List Blk), k + j = ws.length ∧ i = .int .i64 j ∧ v = .slice a n c ∧ RowKit.Hid (n = m + 16 + 8 * j) ∧ RowKit.Hid (SubRow 5 1 (.slice a n c) n ((base ++ (bn4 [xh, xp, ws.length, ls.length] ++ bi8 (ws.take j))).flatMap byV) R) ∧ Hp w.heap.size w wr (⟨bo, [.int .i64 xh, .int .i64 xp, .int .i64 xo, .slice wa ws.length wc, .slice la ls.length lc], 126, 5⟩ :: ⟨bh, [.int .i64 od, .slice (some ⟨bq, off, none⟩) os.length oc, .int .i64 nx, .int .i64 t0, .int .i64 t1, .int .i64 t2, .int .i64 t3, .slice fa fs.length fc], 47, 8⟩ :: (R ++ M)))
      case atStart => exact ⟨0, m + 16, a', c', R', _, by omega, rfl, rfl, Lib.hid (by omega), Lib.hid (by simp only [List.take_zero, bi8, List.flatMap_nil, List.append_nil]; rw [List.flatMap_append]; exact HRA.out), hp⟩
      case round =>
        clear hp HRA
        obtain ⟨j, n, a, c, R, M, hkj, rfl, rfl, HN, HR, hp⟩ := hrel
        by_cases hlj : j < ws.length
        · have hj := List.getElem?_eq_getElem hlj
          generalize ws[j] = x at hj
          have hiv : (ws.flatMap iV)[j]? = some (.int .i64 x) := by rw [ints_map, List.getElem?_map, hj]; rfl
          obtain ⟨bw, ofw, rfl, hcx⟩ := row_cell HSW.out hiv
          have HXJ := Lib.hid hcx
          have HT : RowKit.Hid (bi8 (ws.take (j + 1)) = bi8 (ws.take j) ++ beS 8 (uN x)) := Lib.hid (by unfold bi8; rw [List.take_add_one, hj, List.flatMap_append]; simp)
          have HMB : RowKit.Hid (n ≤ 100000 ∧ (beS 8 (uN x)).length = 8) := Lib.hid ⟨by have := HLW.out; have := HN.out; omega, beS_len 8 _⟩
          clear hj hiv hcx
          have e1 : (0 : Int) ≤ (j : Int) := by omega
          have e2 : (j : Int) < (ws.length : Int) := by omega
          go_wp2_with (first | (go_at_call 88; (with_reducible refine (eight_r x hp).mono ?_); clear hp; rintro e w1 ⟨a2, m2, c2, R2, rfl, hm2, hr2, hp⟩; have HM2 := Lib.hid hm2; have HR2 := Lib.hid hr2; clear hm2 hr2) | ((with_reducible refine pre_load 3 _ rfl ?_); refine lRO (Hp.start _) rfl (sTm rfl) cell3 ((HXJ.out.below hp.below).now) ?_; simp only [put_some, put_none, sSet, zSet]) | ((with_reducible refine pre_append2 _ _ 57 57 rfl ?_); refine wpList_appendSub (K := [_, _]) (R := R) hp _ _ _ _ rfl wy 5 i0 _ 1 1 Tryz.underlying57 hi0 hz0 hz1 hz2 rfl _ _ _ (sTm rfl) HR.out _ (sTm rfl) m2 _ (Src.ofRow Tryz.underlying57 (by decide) a2 m2 c2 _ (by rw [flat_len byV 1 byV_len, HM2.out]) (HR2.out.keptS.at hp (fun p hm => by simp [hm])) (by_one _)) (by have := HM2.out; have := HMB.out; unfold maxLen; omega) (by have := HM2.out; have := HMB.out; omega) ?_; clear hp; intro v' R' w1 hR' hp; obtain ⟨a', c', rfl, _⟩ := hR'.kept; have HR' := Lib.hid hR'; clear hR'; simp only [List.cons_append, List.nil_append] at hp; simp only [put_some, put_none, sSet, zSet]) | go_skip | ((first | ((with_reducible refine pre_alloc _ rfl ?_); refine lZ hp rfl zero126 ?_; clear hp; intro b w1 hp) | ((with_reducible refine pre_box _ _ rfl ?_); refine lB hp rfl (sTm rfl) rfl ?_; clear hp; intro b w1 hp) | ((with_reducible refine pre_load _ _ rfl ?_); first | refine lO hp rfl (sTm rfl) ceGQ0 aa5 ?_ | refine lA hp rfl (sTm rfl) (by with_reducible first | exact agg47 | exact agg126) aa5 ?_) | ((with_reducible refine pre_store _ _ _ rfl ?_); (first | refine sO hp rfl (sTm rfl) ceGQ0 aa5 ?_ | refine sA hp rfl (sTm rfl) (sTm rfl) (by with_reducible first | exact agg47 | exact agg126) aa5 ?_ | refine sG hp rfl (sTm rfl) (sTm rfl) (by with_reducible first | exact agg47 | exact agg126) aa5 ?_); clear hp; intro w1 hp; simp only [spl, zSet, sSet] at hp) | ((with_reducible refine pre_build _ _ _ rfl ?_); refine lS hp rfl (by intro w; go_simp; rfl) ?_; clear hp; intro b w1 hp; simp only [List.length_cons, List.length_nil, Nat.reduceAdd] at hp)); simp only [put_some, put_none, sSet, zSet]))
          go_roundg (gk - 1)
          case measure => omega
          case rel => exact ⟨j + 1, n + m2, a', c', R', _, by omega, by go_num, rfl, Lib.hid (by have := HM2.out; have := HMB.out; have := HN.out; omega), Lib.hid (by rw [HT.out, ← List.append_assoc, ← List.append_assoc, List.flatMap_append, List.append_assoc base]; exact HR'.out), hp⟩
        · obtain rfl : j = ws.length := by omega
          have e2 : decide ((ws.length : Int) < (ws.length : Int)) = false := by simp
          have hr := HR.out
          rw [List.take_length] at hr
          have HRT := Lib.hid hr
          clear HR hr hkj hlj
          have HR := HRT
          have HMB : RowKit.Hid (n ≤ 90272 ∧ (bn4 (ls.map Int.toNat)).length ≤ 64) := Lib.hid ⟨by have := HLW.out; have := HN.out; omega, by rw [bn4_len, List.length_map]; have := HLW.out; omega⟩
          go_wp2_with (first | (go_at_call 87; (with_reducible refine (nums_r (ls.map Int.toNat) ls.length HLN.out HL6.out HB6.out la lc (HSL.out.below hp.below) hp).mono ?_); clear hp; rintro e w1 ⟨a2, m2, c2, R2, rfl, hm2, hr2, hp⟩; have HM2 := Lib.hid hm2; have HR2 := Lib.hid hr2; clear hm2 hr2) | ((with_reducible refine pre_append2 _ _ 57 57 rfl ?_); refine wpList_appendSub (K := [_, _]) (R := R) hp _ _ _ _ rfl wy 5 i0 _ 1 1 Tryz.underlying57 hi0 hz0 hz1 hz2 rfl _ _ _ (sTm rfl) HR.out _ (sTm rfl) m2 _ (Src.ofRow Tryz.underlying57 (by decide) a2 m2 c2 _ (by rw [flat_len byV 1 byV_len, HM2.out]) (HR2.out.keptS.at hp (fun p hm => by simp [hm])) (by_one _)) (by have := HM2.out; have := HMB.out; unfold maxLen; omega) (by have := HM2.out; have := HMB.out; omega) ?_; clear hp; intro v' R' w1 hR' hp; obtain ⟨a', c', rfl, _⟩ := hR'.kept; have HR' := Lib.hid hR'; clear hR'; simp only [List.cons_append, List.nil_append] at hp; simp only [put_some, put_none, sSet, zSet]) | go_skip | ((first | ((with_reducible refine pre_alloc _ rfl ?_); refine lZ hp rfl zero126 ?_; clear hp; intro b w1 hp) | ((with_reducible refine pre_box _ _ rfl ?_); refine lB hp rfl (sTm rfl) rfl ?_; clear hp; intro b w1 hp) | ((with_reducible refine pre_load _ _ rfl ?_); first | refine lO hp rfl (sTm rfl) ceGQ0 aa5 ?_ | refine lA hp rfl (sTm rfl) (by with_reducible first | exact agg47 | exact agg126) aa5 ?_) | ((with_reducible refine pre_store _ _ _ rfl ?_); (first | refine sO hp rfl (sTm rfl) ceGQ0 aa5 ?_ | refine sA hp rfl (sTm rfl) (sTm rfl) (by with_reducible first | exact agg47 | exact agg126) aa5 ?_ | refine sG hp rfl (sTm rfl) (sTm rfl) (by with_reducible first | exact agg47 | exact agg126) aa5 ?_); clear hp; intro w1 hp; simp only [spl, zSet, sSet] at hp) | ((with_reducible refine pre_build _ _ _ rfl ?_); refine lS hp rfl (by intro w; go_simp; rfl) ?_; clear hp; intro b w1 hp; simp only [List.length_cons, List.length_nil, Nat.reduceAdd] at hp)); simp only [put_some, put_none, sSet, zSet]))
          go_roundg (os.length - (q + 1))
          case measure => omega
          case rel => exact ⟨q + 1, n + m2, a', c', R', _, by omega, by go_num, rfl, Lib.hid (by rw [HTK.out, List.length_append, List.length_append, List.length_append, HM.out, bi8_len, HM2.out, bn4_len, HN.out]; simp only [List.length_cons, List.length_nil]; omega), Lib.hid (by rw [HTK.out]; have h := HR'.out; rw [← List.flatMap_append] at h; simpa only [List.append_assoc] using h), hp.tail⟩
    · obtain rfl : q = os.length := by omega
      have e2 : decide ((os.length : Int) < (os.length : Int)) = false := by simp
      have hys := HM.out
      have hrr := HR.out
      rw [List.take_length, ← HRES.out] at hys hrr
      have HYS := Lib.hid hys
      have HRR := Lib.hid hrr
      clear hkq hlt HM HR hys hrr
      go_wp2_with (first | go_skip | ((first | ((with_reducible refine pre_alloc _ rfl ?_); refine lZ hp rfl zero126 ?_; clear hp; intro b w1 hp) | ((with_reducible refine pre_box _ _ rfl ?_); refine lB hp rfl (sTm rfl) rfl ?_; clear hp; intro b w1 hp) | ((with_reducible refine pre_load _ _ rfl ?_); first | refine lO hp rfl (sTm rfl) ceGQ0 aa5 ?_ | refine lA hp rfl (sTm rfl) (by with_reducible first | exact agg47 | exact agg126) aa5 ?_) | ((with_reducible refine pre_store _ _ _ rfl ?_); (first | refine sO hp rfl (sTm rfl) ceGQ0 aa5 ?_ | refine sA hp rfl (sTm rfl) (sTm rfl) (by with_reducible first | exact agg47 | exact agg126) aa5 ?_ | refine sG hp rfl (sTm rfl) (sTm rfl) (by with_reducible first | exact agg47 | exact agg126) aa5 ?_); clear hp; intro w1 hp; simp only [spl, zSet, sSet] at hp) | ((with_reducible refine pre_build _ _ _ rfl ?_); refine lS hp rfl (by intro w; go_simp; rfl) ?_; clear hp; intro b w1 hp; simp only [List.length_cons, List.length_nil, Nat.reduceAdd] at hp)); simp only [put_some, put_none, sSet, zSet]))
      go_ret2
      have hmm := HYS.out
      subst hmm
      exact ⟨a, c, R, rfl, HRR.out, hp.tail.sub (List.sublist_append_left _ _)⟩
end Go.Proofs.YtaafajaadfgaoaaGreat

/- Parts of the proof. -/
import Derived.Test.YtcjbepaclbhjaaaGreatKe1
import Derived.Test.YtcjbepaclbhjaaaGreatKe7
import Derived.Test.YtcjbepaclbhjaaaGreatKe12
open List renaming set_cons_zero → zSet, set_cons_succ → sSet
/- The walks that lay a heap and a state as bytes. -/
set_option linter.unusedSimpArgs false
set_option linter.unusedVariables false
namespace Go.Proofs.YtcjbepaclbhjaaaGreat
open Go.RowKit
def OutP (B : Nat) (w0 : World) (bo : Nat) (zs : List Nat) (H : Blk → List Blk → List Blk) (e : Ending) (w' : World) : Prop :=
  e = .returned (.tuple #[]) ∧ ∃ ys m a c R, ys = zs ∧ ys.length = m ∧ SubRow 5 1 (.slice a m c) m (ys.flatMap byV) R ∧ Hp B w0 w' (H ⟨bo, [.slice a m c], 162, 1⟩ R)
theorem row_stay {B : Nat} {w0 : World} {bl t n : Nat} {cs : List Value} {K : List Blk} : Stay B w0 (⟨bl, cs, t, n⟩ :: K) fun w => RowIs w (some ⟨bl, 0, none⟩) cs :=
  fun w1 L1 hp hm => (Kept.row bl cs t n).at hp (fun p hp2 => by rw [List.mem_singleton.1 hp2]; exact hm _ (by simp))
theorem on_any1 (l : List Nat) (n : Nat) (hn : l.length = n) (hl : n ≤ 1000) (hb : ∀ x ∈ l, x ≤ 2147483647) (xs : List Nat) (m : Nat) (hm : xs.length = m) (hx : m ≤ 900000) {B : Nat} {w0 w : World} {bo c : Nat} {a : Option Addr} {p : Blk} {R : List Blk} (hr : SubRow 5 1 (.slice a m c) m (xs.flatMap byV) R) (al : Option Addr) (cl : Nat) (hk : Stay B w0 [p] fun w => RowIs w al (l.flatMap natV))
    (hp : Hp B w0 w (p :: ⟨bo, [.slice a m c], 162, 1⟩ :: R)) :
    Calls Tryz.prog 122 #[.pointer (some ⟨bo, 0, none⟩), .slice al n cl] w (OutP B w0 bo (xs ++ bn4 l) fun b R => p :: b :: R) := by
  subst hn hm
  refine (outg122 l hl hb xs hx bo al cl ⟨a, c, R, hr, hp.kp⟩ hk).mono fun e w' h => ?_
  obtain ⟨he, a', c', R', h1, h2⟩ := h
  exact ⟨he, _, _, a', c', R', rfl, rfl, h1, h2.kp⟩
theorem on_built1 (l : List Nat) (n : Nat) (hn : l.length = n) (hl : n ≤ 1000) (hb : ∀ x ∈ l, x ≤ 2147483647) (xs : List Nat) (m : Nat) (hm : xs.length = m) (hx : m ≤ 900000) {B : Nat} {w0 w : World} {bl bo t nn c cl : Nat} {a : Option Addr} {cs : List Value} {p : Blk} {R : List Blk} (hr : SubRow 5 1 (.slice a m c) m (xs.flatMap byV) R)
    (hcs : cs = l.flatMap natV) (hp : Hp B w0 w (⟨bl, cs, t, nn⟩ :: p :: ⟨bo, [.slice a m c], 162, 1⟩ :: R)) :
    Calls Tryz.prog 122 #[.pointer (some ⟨bo, 0, none⟩), .slice (some ⟨bl, 0, none⟩) n cl] w (OutP B w0 bo (xs ++ bn4 l) fun b R => p :: b :: R) := by
  subst hn hm hcs
  refine (outg122 l hl hb xs hx bo (some ⟨bl, 0, none⟩) cl (L := ⟨bl, l.flatMap natV, t, nn⟩ :: [p]) ⟨a, c, R, hr, hp.kp⟩ row_stay).mono fun e w' h => ?_
  obtain ⟨he, a', c', R', h1, h2⟩ := h
  exact ⟨he, _, _, a', c', R', rfl, rfl, h1, h2.kp⟩
theorem on_any2 (l : List Nat) (n : Nat) (hn : l.length = n) (hl : n ≤ 1000) (hb : ∀ x ∈ l, x ≤ 2147483647) (xs : List Nat) (m : Nat) (hm : xs.length = m) (hx : m ≤ 900000) {B : Nat} {w0 w : World} {bo c : Nat} {a : Option Addr} {p q : Blk} {R : List Blk} (hr : SubRow 5 1 (.slice a m c) m (xs.flatMap byV) R) (al : Option Addr) (cl : Nat) (hk : Stay B w0 [p, q] fun w => RowIs w al (l.flatMap natV))
    (hp : Hp B w0 w (p :: q :: ⟨bo, [.slice a m c], 162, 1⟩ :: R)) :
    Calls Tryz.prog 122 #[.pointer (some ⟨bo, 0, none⟩), .slice al n cl] w (OutP B w0 bo (xs ++ bn4 l) fun b R => p :: q :: b :: R) := by
  subst hn hm
  refine (outg122 l hl hb xs hx bo al cl ⟨a, c, R, hr, hp.kp⟩ hk).mono fun e w' h => ?_
  obtain ⟨he, a', c', R', h1, h2⟩ := h
  exact ⟨he, _, _, a', c', R', rfl, rfl, h1, h2.kp⟩
theorem on_built2 (l : List Nat) (n : Nat) (hn : l.length = n) (hl : n ≤ 1000) (hb : ∀ x ∈ l, x ≤ 2147483647) (xs : List Nat) (m : Nat) (hm : xs.length = m) (hx : m ≤ 900000) {B : Nat} {w0 w : World} {bl bo t nn c cl : Nat} {a : Option Addr} {cs : List Value} {p q : Blk} {R : List Blk} (hr : SubRow 5 1 (.slice a m c) m (xs.flatMap byV) R)
    (hcs : cs = l.flatMap natV) (hp : Hp B w0 w (⟨bl, cs, t, nn⟩ :: p :: q :: ⟨bo, [.slice a m c], 162, 1⟩ :: R)) :
    Calls Tryz.prog 122 #[.pointer (some ⟨bo, 0, none⟩), .slice (some ⟨bl, 0, none⟩) n cl] w (OutP B w0 bo (xs ++ bn4 l) fun b R => p :: q :: b :: R) := by
  subst hn hm hcs
  refine (outg122 l hl hb xs hx bo (some ⟨bl, 0, none⟩) cl (L := ⟨bl, l.flatMap natV, t, nn⟩ :: [p, q]) ⟨a, c, R, hr, hp.kp⟩ row_stay).mono fun e w' h => ?_
  obtain ⟨he, a', c', R', h1, h2⟩ := h
  exact ⟨he, _, _, a', c', R', rfl, rfl, h1, h2.kp⟩
theorem oi_any2 (l : List Int) (n : Nat) (hn : l.length = n) (hl : n ≤ 1000) (xs : List Nat) (m : Nat) (hm : xs.length = m) (hx : m ≤ 900000) {B : Nat} {w0 w : World} {bo c : Nat} {a : Option Addr} {p q : Blk} {R : List Blk} (hr : SubRow 5 1 (.slice a m c) m (xs.flatMap byV) R) (al : Option Addr) (cl : Nat) (hk : Stay B w0 [p, q] fun w => RowIs w al (l.flatMap iV))
    (hp : Hp B w0 w (p :: q :: ⟨bo, [.slice a m c], 162, 1⟩ :: R)) :
    Calls Tryz.prog 123 #[.pointer (some ⟨bo, 0, none⟩), .slice al n cl] w (OutP B w0 bo (xs ++ bi8 l) fun b R => p :: q :: b :: R) := by
  subst hn hm
  refine (outg123 l hl xs hx bo al cl ⟨a, c, R, hr, hp.kp⟩ hk).mono fun e w' h => ?_
  obtain ⟨he, a', c', R', h1, h2⟩ := h
  exact ⟨he, _, _, a', c', R', rfl, rfl, h1, h2.kp⟩
theorem oi_built2 (l : List Int) (n : Nat) (hn : l.length = n) (hl : n ≤ 1000) (xs : List Nat) (m : Nat) (hm : xs.length = m) (hx : m ≤ 900000) {B : Nat} {w0 w : World} {bl bo t nn c cl : Nat} {a : Option Addr} {cs : List Value} {p q : Blk} {R : List Blk} (hr : SubRow 5 1 (.slice a m c) m (xs.flatMap byV) R)
    (hcs : cs = l.flatMap iV) (hp : Hp B w0 w (⟨bl, cs, t, nn⟩ :: p :: q :: ⟨bo, [.slice a m c], 162, 1⟩ :: R)) :
    Calls Tryz.prog 123 #[.pointer (some ⟨bo, 0, none⟩), .slice (some ⟨bl, 0, none⟩) n cl] w (OutP B w0 bo (xs ++ bi8 l) fun b R => p :: q :: b :: R) := by
  subst hn hm hcs
  refine (outg123 l hl xs hx bo (some ⟨bl, 0, none⟩) cl (L := ⟨bl, l.flatMap iV, t, nn⟩ :: [p, q]) ⟨a, c, R, hr, hp.kp⟩ row_stay).mono fun e w' h => ?_
  obtain ⟨he, a', c', R', h1, h2⟩ := h
  exact ⟨he, _, _, a', c', R', rfl, rfl, h1, h2.kp⟩
def obB (o : Ob) : List Nat := bn4 [o.h.toNat, o.p.toNat, o.ws.length, o.ls.length] ++ (bi8 o.ws ++ bn4 (o.ls.map Int.toNat))
def headB (x : Hv) : List Nat := bn4 [x.od.toNat, x.nx.toNat] ++ (bn4 [x.t0.toNat, x.t1.toNat, x.t2.toNat, x.t3.toNat] ++ bn4 [x.os.length])
def heapB (x : Hv) : List Nat := headB x ++ x.os.flatMap obB
theorem nat_row {l : List Int} (h : ∀ x ∈ l, 0 ≤ x) : (l.map Int.toNat).flatMap natV = l.flatMap iV := by
  induction l with
  | nil => rfl
  | cons x l ih =>
    rw [List.map_cons, List.flatMap_cons, List.flatMap_cons, ih (fun y hy => h y (by simp [hy]))]
    have := h x (by simp)
    simp only [natV, iV, Int.toNat_of_nonneg this]
structure ObLay (o : Ob) : Prop where
  h0 : 0 ≤ o.h
  h1 : o.h ≤ 2147483647
  p0 : 0 ≤ o.p
  p1 : o.p ≤ 2147483647
  wl : o.ws.length ≤ 32
  ll : o.ls.length ≤ 16
  ls : ∀ t ∈ o.ls, 0 ≤ t ∧ t ≤ 2147483647
theorem leads_lay {x : Hv} (hx : HRight x) {t : Int} (h : leadsP x.os t) : 0 ≤ t ∧ t ≤ 1000001 := by
  rcases h with rfl | ⟨o, ho, rfl⟩
  · exact ⟨by omega, by omega⟩
  · obtain ⟨i, hi, rfl⟩ := List.getElem_of_mem ho
    have h := hx.rise i _ (List.getElem?_eq_getElem hi)
    have := hx.hi
    omega
theorem hright_lay {x : Hv} (hx : HRight x) : ∀ o ∈ x.os, ObLay o := by
  intro o ho
  have hn := hx.need o ho
  have hlead : leadsP x.os o.h := .inr ⟨o, ho, rfl⟩
  have h1 := leads_lay hx hlead
  have hf := hx.free
  unfold rightB regionB at hf
  rw [Bool.and_eq_true] at hf
  have hod : 3 ≤ x.od ∧ x.od ≤ 8 := by simpa using hf.1
  have hm := hn.2
  have hp2 := hm.2.2.2.1
  have hp1 := hm.2.2.1
  have hpw := pw_le hod.2
  have hpp := pw_pos o.o
  simp only [obBl] at hp1 hp2
  have hnd := hn.1
  have h0 := hm.1
  simp only [obBl] at h0
  have hok := needI_ok (a := o.ws.length) (b := o.ls.length) (by omega)
  exact ⟨h1.1, by omega, hp1, by omega, by omega, by omega, fun t ht => by have := leads_lay hx (hx.links o ho t ht); omega⟩
theorem obB_len {o : Ob} (h : ObLay o) : (obB o).length ≤ 336 := by
  have := h.wl
  have := h.ll
  unfold obB
  rw [List.length_append, List.length_append, bn4_len, bi8_len, bn4_len, List.length_map]
  simp only [List.length_cons, List.length_nil]
  omega
theorem obsB_len {l : List Ob} (h : ∀ o ∈ l, ObLay o) : (l.flatMap obB).length ≤ l.length * 336 := by
  induction l with
  | nil => simp
  | cons o l ih =>
    have h1 := ih (fun x hx => h x (by simp [hx]))
    have h2 := obB_len (h o (by simp))
    rw [List.flatMap_cons, List.length_append, List.length_cons]; omega
theorem headB_len (x : Hv) : (headB x).length = 28 := by unfold headB; rw [List.length_append, List.length_append, bn4_len, bn4_len, bn4_len]; rfl
def PutPost (w : World) (r : Option (List Nat)) (e : Ending) (w' : World) : Prop := match r with
  | some bs => ∃ a c R, e = .returned (.tuple #[.slice a bs.length c, .int .i64 0]) ∧ SubRow 5 1 (.slice a bs.length c) bs.length (bs.flatMap byV) R ∧ Hp w.heap.size w w' R
  | none => e = .returned (.tuple #[.slice none 0 0, .int .i64 60]) ∧ Below w.heap.size w w'
theorem swap1 {B : Nat} {w0 w : World} {b o h : Blk} {R : List Blk} (hp : Hp B w0 w (b :: o :: h :: R)) : Hp B w0 w (b :: h :: o :: R) := hp.kp
theorem bl_mem {B : Nat} {w0 w : World} {L : List Blk} {p : Blk} (hp : Hp B w0 w L) (hm : p ∈ L) {j : Nat} {v : Value} (hj : p.l[j]? = some v) : w.cell? ⟨p.id, j, none⟩ = some v := by
  obtain ⟨k, hk, hkl⟩ := List.getElem_of_mem hm
  obtain ⟨b, l, t, n⟩ := p
  exact hp.cell (i := k) (by rw [List.getElem?_eq_getElem hk, hkl]) hj
theorem tops_stay {B : Nat} {w0 : World} {bh : Nat} {v0 v1 v2 v7 : Value} {t0 t1 t2 t3 : Nat} : Stay B w0 [⟨bh, [v0, v1, v2, .int .i64 t0, .int .i64 t1, .int .i64 t2, .int .i64 t3, v7], 83, 8⟩] fun w => RowIs w (some ⟨bh, 3, none⟩) ([t0, t1, t2, t3].flatMap natV) := fun w1 L1 hp hm j v hj => by
  refine ⟨bh, 3, rfl, bl_mem hp (hm _ (List.mem_singleton.2 rfl)) (j := 3 + j) ?_⟩
  match j, hj with
  | 0, hj => exact hj
  | 1, hj => exact hj
  | 2, hj => exact hj
  | 3, hj => exact hj
set_option maxRecDepth 100000 in
set_option maxHeartbeats 16000000 in
theorem puth120_yes (x : Hv) (hb : hrightB x = true) (w : World) (hx0 : x.Is w) : Calls Tryz.prog 120 #[.agg (hvL x).toArray] w (PutPost w (some (heapB x))) := by
  have hxr := hright_of hb
  have HB := Lib.hid hb
  have HSS := Lib.hid hxr.small
  have HIS := Lib.hid hx0
  have HLAY := Lib.hid (hright_lay hxr)
  have hp := Hp.start w
  have hfr := hxr.free
  unfold rightB regionB at hfr
  rw [Bool.and_eq_true] at hfr
  have hod : 3 ≤ x.od ∧ x.od ≤ 8 := by simpa using hfr.1
  have hnx := hxr.lo
  have hnx2 := hxr.hi
  have hol := hxr.len
  have l0 := leads_lay hxr (hxr.tops x.t0 (by simp [tops]))
  have l1 := leads_lay hxr (hxr.tops x.t1 (by simp [tops]))
  have l2 := leads_lay hxr (hxr.tops x.t2 (by simp [tops]))
  have l3 := leads_lay hxr (hxr.tops x.t3 (by simp [tops]))
  have HHL := Lib.hid (headB_len x)
  obtain ⟨hd, hhd⟩ : ∃ hd, hd = headB x := ⟨_, rfl⟩
  have HHD := Lib.hid hhd
  have HRES : RowKit.Hid (heapB x = hd ++ x.os.flatMap obB) := Lib.hid (by rw [hhd]; rfl)
  rw [← hhd] at HHL
  obtain ⟨od, oa, os, oc, nx, t0, t1, t2, t3, fa, fs, fc⟩ := x
  simp only at hod hnx hnx2 hol l0 l1 l2 l3 HRES HLAY
  unfold headB at HHD
  simp only at HHD
  obtain ⟨od, rfl⟩ := Int.eq_ofNat_of_zero_le (show 0 ≤ od by omega)
  obtain ⟨nx, rfl⟩ := Int.eq_ofNat_of_zero_le (show 0 ≤ nx by omega)
  obtain ⟨t0, rfl⟩ := Int.eq_ofNat_of_zero_le l0.1
  obtain ⟨t1, rfl⟩ := Int.eq_ofNat_of_zero_le l1.1
  obtain ⟨t2, rfl⟩ := Int.eq_ofNat_of_zero_le l2.1
  obtain ⟨t3, rfl⟩ := Int.eq_ofNat_of_zero_le l3.1
  simp only [Int.toNat_natCast] at HHD
  have HB1 : RowKit.Hid (∀ x ∈ [od, nx], x ≤ 2147483647) := Lib.hid (by intro x hx; simp at hx; omega)
  have HB2 : RowKit.Hid (∀ x ∈ [t0, t1, t2, t3], x ≤ 2147483647) := Lib.hid (by intro x hx; simp at hx; omega)
  have HB3 : RowKit.Hid (∀ x ∈ [os.length], x ≤ 2147483647) := Lib.hid (by intro x hx; simp at hx; omega)
  have HO : RowKit.Hid (RowIs w oa (os.flatMap obV)) := Lib.hid hx0.1
  have HOO : RowKit.Hid (∀ o ∈ os, o.Is w) := Lib.hid hx0.2.1
  have HOL : RowKit.Hid (os.length ≤ 256) := Lib.hid hol
  have HLA : RowKit.Hid ([od, nx].length = 2) := Lib.hid rfl
  have HLB : RowKit.Hid (2 ≤ 1000) := Lib.hid (by decide)
  have HLC : RowKit.Hid ([t0, t1, t2, t3].length = 4) := Lib.hid rfl
  have HLD : RowKit.Hid (4 ≤ 1000) := Lib.hid (by decide)
  have HLE : RowKit.Hid ([os.length].length = 1) := Lib.hid rfl
  have HLF : RowKit.Hid (1 ≤ 1000) := Lib.hid (by decide)
  have HNIL : RowKit.Hid (([] : List Nat).length = 0) := Lib.hid rfl
  have HNIL2 : RowKit.Hid (0 ≤ 900000) := Lib.hid (by decide)
  have HC1 : RowKit.Hid ([Value.int .i64 (od : Int), Value.int .i64 (nx : Int)] = [od, nx].flatMap natV) := Lib.hid rfl
  have HC3 : RowKit.Hid ([Value.int .i64 (os.length : Int)] = [os.length].flatMap natV) := Lib.hid rfl
  clear hfr hod hnx hnx2 hol l0 l1 l2 l3 hxr hb hx0 hhd
  simp only [hvL]
  go_enter Tryz.func120, Tryz.ntmps120
  go_wp2_with (first | (go_at_call 110; (with_reducible refine (check110L od oa os oc nx t0 t1 t2 t3 fa fs fc _ HB.out HSS.out _ (HIS.out.below hp.below)).mono ?_); rintro e w1 ⟨rfl, hb⟩; replace hp := hp.call hb; clear hb; simp only [errI, if_true, Bool.false_eq_true, if_false]) | (go_at_call 122; replace hp := swap1 hp; (with_reducible refine (on_built1 [od, nx] 2 HLA.out HLB.out HB1.out [] 0 HNIL.out HNIL2.out (SubRow.nil 5 1 none) HC1.out hp).mono ?_); clear hp; rintro e w1 ⟨rfl, y1, m1, a1, c1, R1, hy1, hm1, hr1, hp⟩; have HY1 := Lib.hid hy1; have HM1 := Lib.hid hm1; have HR1 := Lib.hid hr1; clear hy1 hm1 hr1) | go_skip | (first | (refine hA0 ?_; clear hp; intro b w1 hp) | refine hL2 ?_ | (refine hS1 ?_; clear hp; intro w1 hp)))
  obtain ⟨bh, rfl⟩ := hp.id0
  obtain ⟨bo, rfl⟩ := hp.id1
  have hm1 : m1 = 8 := by rw [← HM1.out, HY1.out, List.nil_append, bn4_len]; rfl
  have HX1 : RowKit.Hid (m1 ≤ 900000) := Lib.hid (by omega)
  have HV1 := Lib.hid hm1
  clear hm1
  go_wp2_with (first | (go_at_call 122; (with_reducible refine (on_any1 [t0, t1, t2, t3] 4 HLC.out HLD.out HB2.out y1 m1 HM1.out HX1.out HR1.out (some ⟨bh, 3, none⟩) 4 tops_stay hp).mono ?_); clear hp; rintro e w1 ⟨rfl, y2, m2, a2, c2, R2, hy2, hm2, hr2, hp⟩; have HY2 := Lib.hid hy2; have HM2 := Lib.hid hm2; have HR2 := Lib.hid hr2; clear hy2 hm2 hr2) | go_skip | (first | (refine hA0 ?_; clear hp; intro b w1 hp) | refine hL2 ?_ | (refine hS1 ?_; clear hp; intro w1 hp)))
  have hm2 : m2 = 24 := by rw [← HM2.out, HY2.out, List.length_append, HM1.out, HV1.out, bn4_len]; rfl
  have HX2 : RowKit.Hid (m2 ≤ 900000) := Lib.hid (by omega)
  clear hm2
  go_wp2_with (first | (go_at_call 122; (with_reducible refine (on_built1 [os.length] 1 HLE.out HLF.out HB3.out y2 m2 HM2.out HX2.out HR2.out HC3.out hp).mono ?_); clear hp; rintro e w1 ⟨rfl, y3, m3, a3, c3, R3, hy3, hm3, hr3, hp⟩; have HY3 := Lib.hid hy3; have HM3 := Lib.hid hm3; have HR3 := Lib.hid hr3; clear hy3 hm3 hr3) | go_skip | (first | (refine hA0 ?_; clear hp; intro b w1 hp) | refine hL2 ?_ | (refine hS1 ?_; clear hp; intro w1 hp)))
  have HZ : RowKit.Hid (y3 = hd) := Lib.hid (by rw [HY3.out, HY2.out, HY1.out, HHD.out, List.nil_append, List.append_assoc])
  go_loopg [32] os.length (fun k i wr => ∃ (q : Nat) (ys : List Nat) (m : Nat) (a : Option Addr) (c : Nat) (R : List Blk), k + q = os.length ∧ i = .int .i64 q ∧ RowKit.Hid (ys = hd ++ (os.take q).flatMap obB) ∧ RowKit.Hid (ys.length = m) ∧ RowKit.Hid (SubRow 5 1 (.slice a m c) m (ys.flatMap byV) R) ∧
    Hp w.heap.size w wr (⟨bh, [.int .i64 od, .slice oa os.length oc, .int .i64 nx, .int .i64 t0, .int .i64 t1, .int .i64 t2, .int .i64 t3, .slice fa fs.length fc], 83, 8⟩ :: ⟨bo, [.slice a m c], 162, 1⟩ :: R))
  case atStart => exact ⟨0, y3, m3, a3, c3, R3, by omega, rfl, Lib.hid (by rw [HZ.out]; simp), HM3, HR3, hp⟩
  case round =>
    clear hp HY1 HY2 HY3 HM1 HM2 HM3 HR1 HR2 HR3 HX1 HX2 HV1 HZ HLA HLB HC1 HB1
    obtain ⟨q, ys, m, a, c, R, hkq, rfl, HYS, HM, HR, hp⟩ := hrel
    by_cases hlt : q < os.length
    · obtain ⟨bq, off, rfl, hx⟩ := HO.out.elems 5 obV_len (by omega) (by omega)
      have hj := List.getElem?_eq_getElem hlt
      replace hx := hx q _ hj
      have hmem := List.getElem_mem hlt
      obtain ⟨hw1, hw2⟩ := HOO.out _ hmem
      have hlay := HLAY.out _ hmem
      have htk : (os.take (q + 1)).flatMap obB = (os.take q).flatMap obB ++ obB os[q] := by rw [List.take_add_one, hj, List.flatMap_append]; simp
      have hlen := obsB_len (l := os.take q) (fun o ho => HLAY.out o (List.mem_of_mem_take ho))
      rw [List.length_take, Nat.min_eq_left (by omega)] at hlen
      have hm : m ≤ 28 + q * 336 := by rw [← HM.out, HYS.out, List.length_append, HHL.out]; omega
      have hol := HOL.out
      clear hmem hj hlen
      generalize os[q] = x at hx hw1 hw2 hlay htk
      obtain ⟨xh, xp, xo, wa, ws, wc, la, ls, lc⟩ := x
      obtain ⟨g1, g2, g3, g4, g5, g6, g7⟩ := hlay
      simp only at hx hw1 hw2 g1 g2 g3 g4 g5 g6 g7
      obtain ⟨xh, rfl⟩ := Int.eq_ofNat_of_zero_le g1
      obtain ⟨xp, rfl⟩ := Int.eq_ofNat_of_zero_le g3
      simp only [obV] at hx
      rw [show obB ⟨xh, xp, xo, wa, ws, wc, la, ls, lc⟩ = bn4 [xh, xp, ws.length, ls.length] ++ (bi8 ws ++ bn4 (ls.map Int.toNat)) by simp only [obB, Int.toNat_natCast]] at htk
      have hq6 : q < 256 := by omega
      have HTK := Lib.hid htk
      have HX := Lib.hid hx
      have HSW : RowKit.Hid (∀ {p r : Blk}, Stay w.heap.size w [p, r] fun w => RowIs w wa (ws.flatMap iV)) := Lib.hid (Stay.of_row hw1)
      have HSL : RowKit.Hid (∀ {p r : Blk}, Stay w.heap.size w [p, r] fun w => RowIs w la ((ls.map Int.toNat).flatMap natV)) := Lib.hid (by rw [nat_row (fun t ht => (g7 t ht).1)]; exact Stay.of_row hw2)
      have HLA : RowKit.Hid ([xh, xp, ws.length, ls.length].length = 4) := Lib.hid rfl
      have HLB : RowKit.Hid (4 ≤ 1000) := Lib.hid (by decide)
      have HB4 : RowKit.Hid (∀ x ∈ [xh, xp, ws.length, ls.length], x ≤ 2147483647) := Lib.hid (by intro x hx; simp at hx; omega)
      have HC4 : RowKit.Hid ([Value.int .i64 (xh : Int), Value.int .i64 (xp : Int), Value.int .i64 (ws.length : Int), Value.int .i64 (ls.length : Int)] = [xh, xp, ws.length, ls.length].flatMap natV) := Lib.hid rfl
      have HL5 : RowKit.Hid (ws.length ≤ 1000) := Lib.hid (by omega)
      have HL6 : RowKit.Hid (ls.length ≤ 1000) := Lib.hid (by omega)
      have HLN : RowKit.Hid ((ls.map Int.toNat).length = ls.length) := Lib.hid (List.length_map ..)
      have HB6 : RowKit.Hid (∀ x ∈ ls.map Int.toNat, x ≤ 2147483647) := Lib.hid (by intro x hx; obtain ⟨t, ht, rfl⟩ := List.mem_map.1 hx; have := g7 t ht; omega)
      have HX0 : RowKit.Hid (m ≤ 900000) := Lib.hid (by omega)
      have HMB : RowKit.Hid (m ≤ 100000 ∧ ws.length ≤ 32 ∧ ls.length ≤ 16) := Lib.hid ⟨by omega, g5, g6⟩
      have e1 : (0 : Int) ≤ (q : Int) := by omega
      have e2 : (q : Int) < (os.length : Int) := by omega
      clear hx hw1 hw2 g1 g2 g3 g4 g5 g6 g7 htk hm hol
      go_wp2_with (first | (go_at_call 122; (with_reducible refine (on_built2 [xh, xp, ws.length, ls.length] 4 HLA.out HLB.out HB4.out ys m HM.out HX0.out HR.out HC4.out hp).mono ?_); clear hp; rintro e w1 ⟨rfl, y4, m4, a4, c4, R4, hy4, hm4, hr4, hp⟩; have HY4 := Lib.hid hy4; have HM4 := Lib.hid hm4; have HR4 := Lib.hid hr4; clear hy4 hm4 hr4) | go_skip | (first | (refine hA0 ?_; clear hp; intro b w1 hp) | refine hL3 ?_ | (refine hS1 ?_; clear hp; intro w1 hp)))
      have hm4 : m4 = m + 16 := by rw [← HM4.out, HY4.out, List.length_append, HM.out, bn4_len]; rfl
      have HX4 : RowKit.Hid (m4 ≤ 900000) := Lib.hid (by have := HMB.out; omega)
      have HV4 := Lib.hid hm4
      clear hm4
      go_wp2_with (first | (go_at_call 123; (with_reducible refine (oi_any2 ws ws.length rfl HL5.out y4 m4 HM4.out HX4.out HR4.out wa wc HSW.out hp).mono ?_); clear hp; rintro e w1 ⟨rfl, y5, m5, a5, c5, R5, hy5, hm5, hr5, hp⟩; have HY5 := Lib.hid hy5; have HM5 := Lib.hid hm5; have HR5 := Lib.hid hr5; clear hy5 hm5 hr5) | go_skip | (first | (refine hA0 ?_; clear hp; intro b w1 hp) | refine hL2 ?_ | (refine hS1 ?_; clear hp; intro w1 hp)))
      have hm5 : m5 = m4 + ws.length * 8 := by rw [← HM5.out, HY5.out, List.length_append, HM4.out, bi8_len]
      have HX5 : RowKit.Hid (m5 ≤ 900000) := Lib.hid (by have := HMB.out; have := HV4.out; omega)
      clear hm5
      go_wp2_with (first | (go_at_call 122; (with_reducible refine (on_any2 (ls.map Int.toNat) ls.length HLN.out HL6.out HB6.out y5 m5 HM5.out HX5.out HR5.out la lc HSL.out hp).mono ?_); clear hp; rintro e w1 ⟨rfl, y6, m6, a6, c6, R6, hy6, hm6, hr6, hp⟩; have HY6 := Lib.hid hy6; have HM6 := Lib.hid hm6; have HR6 := Lib.hid hr6; clear hy6 hm6 hr6) | go_skip | (first | (refine hA0 ?_; clear hp; intro b w1 hp) | refine hL2 ?_ | (refine hS1 ?_; clear hp; intro w1 hp)))
      go_roundg (gk - 1)
      case measure => omega
      case rel => exact ⟨q + 1, y6, m6, a6, c6, R6, by omega, by go_num, Lib.hid (by rw [HY6.out, HY5.out, HY4.out, HYS.out, HTK.out]; simp only [List.append_assoc]), HM6, HR6, hp.tail⟩
    · obtain rfl : q = os.length := by omega
      have e2 : decide ((os.length : Int) < (os.length : Int)) = false := by simp
      have hys := HYS.out
      rw [List.take_length, ← HRES.out] at hys
      clear hkq hlt
      go_wp2_with (first | go_skip | (first | (refine hA0 ?_; clear hp; intro b w1 hp) | refine hL2 ?_ | (refine hS1 ?_; clear hp; intro w1 hp)))
      go_ret2
      have hmm := HM.out
      rw [hys] at hmm
      subst hmm
      exact ⟨a, c, R, rfl, by rw [← hys]; have h := HR.out; rw [← hys] at h; exact h, hp.tail.tail⟩
end Go.Proofs.YtcjbepaclbhjaaaGreat

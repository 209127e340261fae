/- Parts of the proof. -/
import Derived.Test.YtaafajaadfgaoaaIl11
import Derived.Test.YtaafajaadfgaoaaIl2
import Derived.Test.YtaafajaadfgaoaaIl10
import Derived.Test.YtaafajaadfgaoaaIl6
open List renaming set_cons_zero → zSet, set_cons_succ → sSet
/- Heaps that are laid and read, by their parts; the chapter's examples of heaps. -/
set_option linter.unusedSimpArgs false
set_option linter.unusedVariables false
namespace Go.Proofs.Ytaafajaadfgaoaa
open Go.RowKit
theorem ceXH0 {ty : TypeId} (h : cellB Try.prog ty = true := by with_reducible first | exact cell3 | exact cell4 | exact cell32 | exact cell31 | exact cell24) : cellB Try.prog ty = true := h
theorem RowIs.fixC {w : World} {b off : Nat} {xs : List Value} (h : RowIs w (some ⟨b, off, none⟩) xs) : ∀ j v, xs[j]? = some v → w.cell? ⟨b, off + j, none⟩ = some v := fun j v hj => by
  obtain ⟨b', off', he, hc⟩ := h j v hj
  injection he with he; injection he with e1 e2; subst e1; subst e2; exact hc
theorem obsB_sm {l k : List Ob} (h : ObsSm l k) : l.flatMap obB = k.flatMap obB := by
  have : l.map obB = k.map obB := by
    apply List.ext_getElem?
    intro i
    rw [List.getElem?_map, List.getElem?_map]
    rcases Nat.lt_or_ge i l.length with hi | hi
    · have ha := List.getElem?_eq_getElem hi
      have hb := List.getElem?_eq_getElem (l := k) (i := i) (by have := h.1; omega)
      obtain ⟨h1, h2, h3, h4, h5⟩ := h.2 i _ _ ha hb
      rw [ha, hb]
      simp only [Option.map_some, obB, h1, h2, h4, h5]
    · rw [List.getElem?_eq_none hi, List.getElem?_eq_none (by have := h.1; omega)]
  rw [List.flatMap_def, List.flatMap_def, this]
theorem heapB_sm {x y : Hv} (h : x.Sm y) : heapB x = heapB y := by
  unfold heapB headB
  rw [h.od, h.nx, h.t0, h.t1, h.t2, h.t3, obsB_sm h.os, h.os.1]
def GotH (w : World) (x : Hv) (e : Ending) (w' : World) : Prop := ∃ od oa os oc nx t0 t1 t2 t3 fa fs fc R, e = .returned (.tuple #[.agg #[.int .i64 od, .slice oa (List.length os) oc, .int .i64 nx, .int .i64 t0, .int .i64 t1, .int .i64 t2, .int .i64 t3, .slice fa (List.length fs) fc], .int .i64 0]) ∧ Hv.Sm ⟨od, oa, os, oc, nx, t0, t1, t2, t3, fa, fs, fc⟩ x ∧ HvO ⟨od, oa, os, oc, nx, t0, t1, t2, t3, fa, fs, fc⟩ R ∧ Hp w.heap.size w w' R
theorem HvO.kept {y : Hv} {R : List Blk} (h : HvO y R) : Kept R fun w => y.Is w := by
  obtain ⟨RO, RF, M, rfl, h⟩ := h
  exact h.kept
theorem geth_yes (bs : List Nat) (x : Hv) (hr : heapR bs = some x) (a : Option Addr) (n c : Nat) (hn : bs.length = n) (hnc : n ≤ c) (w : World) (ha : RdAt w a bs) : Calls Try.prog 11 #[.slice a n c] w (GotH w x) := by
  subst hn
  refine (geth11 bs a c hnc w ha).mono fun e w' h => ?_
  rw [hr] at h
  obtain ⟨y, R, h1, h2, h3, h4⟩ := h
  obtain ⟨od, oa, os, oc, nx, t0, t1, t2, t3, fa, fs, fc⟩ := y
  exact ⟨od, oa, os, oc, nx, t0, t1, t2, t3, fa, fs, fc, R, h1, h2, h3, h4⟩
theorem geth_no (bs : List Nat) (hr : heapR bs = none) (a : Option Addr) (n c : Nat) (hn : bs.length = n) (hnc : n ≤ c) (w : World) (ha : RdAt w a bs) : Calls Try.prog 11 #[.slice a n c] w fun e w' => e = .returned (.tuple #[.agg #[.int .i64 0, .slice none 0 0, .int .i64 0, .int .i64 0, .int .i64 0, .int .i64 0, .int .i64 0, .slice none 0 0], .int .i64 60]) ∧ Below w.heap.size w w' := by
  subst hn
  refine (geth11 bs a c hnc w ha).mono fun e w' h => ?_
  rw [hr] at h
  exact h
theorem heapR_nil : heapR [] = none := rfl
theorem rd_nil (w : World) : RdAt w none [] := ⟨RowIs.nil _ _, Bytes.nil⟩
theorem geth_nil (w : World) : Calls Try.prog 11 #[.slice none 0 0] w fun e w' => e = .returned (.tuple #[.agg #[.int .i64 0, .slice none 0 0, .int .i64 0, .int .i64 0, .int .i64 0, .int .i64 0, .int .i64 0, .slice none 0 0], .int .i64 60]) ∧ Below w.heap.size w w' := geth_no [] heapR_nil none 0 0 rfl (Nat.le_refl _) w (rd_nil w)
theorem SubRow.cap {e : TypeId} {c n m : Nat} {a : Option Addr} {k : Nat} {xs : List Value} {R : List Blk} (h : SubRow e c (.slice a n k) m xs R) (hn : n = m) : m ≤ k := by
  obtain ⟨a', k', hv, hk, _⟩ := h.kept
  injection hv with _ _ hk'
  omega
theorem puth_yes (od : Int) (oa : Option Addr) (os : List Ob) (oc : Nat) (nx t0 t1 t2 t3 : Int) (fa : Option Addr) (fs : List Bl) (fc : Nat) (bs : List Nat) (hbs : heapB ⟨od, oa, os, oc, nx, t0, t1, t2, t3, fa, fs, fc⟩ = bs) (hb : hrightB ⟨od, oa, os, oc, nx, t0, t1, t2, t3, fa, fs, fc⟩ = true) (w : World) (hx0 : Hv.Is w ⟨od, oa, os, oc, nx, t0, t1, t2, t3, fa, fs, fc⟩) :
    Calls Try.prog 7 #[.agg #[.int .i64 od, .slice oa os.length oc, .int .i64 nx, .int .i64 t0, .int .i64 t1, .int .i64 t2, .int .i64 t3, .slice fa fs.length fc]] w fun e w' => ∃ a c m R, e = .returned (.tuple #[.slice a m c, .int .i64 0]) ∧ bs.length = m ∧ m ≤ c ∧ SubRow 5 1 (.slice a m c) m (bs.flatMap byV) R ∧ Kept R (fun w => RdAt w a bs) ∧ Hp w.heap.size w w' R := by
  refine (puth_L od oa os oc nx t0 t1 t2 t3 fa fs fc bs hbs hb w hx0).mono fun e w' h => ?_
  obtain ⟨a, c, m, R, h1, h2, h3, h4⟩ := h
  refine ⟨a, c, m, R, h1, h2, h3.cap rfl, h3, ?_, h4⟩
  have hby : Bytes bs := by rw [← hbs]; exact heapB_bytes _
  exact h3.keptS.mono (fun _ hp => hp) fun w hw => ⟨hw, hby⟩
theorem puth_no (od : Int) (oa : Option Addr) (os : List Ob) (oc : Nat) (nx t0 t1 t2 t3 : Int) (fa : Option Addr) (fs : List Bl) (fc : Nat) (hb : hrightB ⟨od, oa, os, oc, nx, t0, t1, t2, t3, fa, fs, fc⟩ = false) (hs : Hv.Small ⟨od, oa, os, oc, nx, t0, t1, t2, t3, fa, fs, fc⟩) (w : World) (hx0 : Hv.Is w ⟨od, oa, os, oc, nx, t0, t1, t2, t3, fa, fs, fc⟩) :
    Calls Try.prog 7 #[.agg #[.int .i64 od, .slice oa os.length oc, .int .i64 nx, .int .i64 t0, .int .i64 t1, .int .i64 t2, .int .i64 t3, .slice fa fs.length fc]] w fun e w' => e = .returned (.tuple #[.slice none 0 0, .int .i64 60]) ∧ Below w.heap.size w w' := puth7_no _ hb hs w hx0
theorem puth_zero (w : World) : Calls Try.prog 7 #[.agg #[.int .i64 0, .slice none 0 0, .int .i64 0, .int .i64 0, .int .i64 0, .int .i64 0, .int .i64 0, .slice none 0 0]] w fun e w' => e = .returned (.tuple #[.slice none 0 0, .int .i64 60]) ∧ Below w.heap.size w w' :=
  puth_no 0 none [] 0 0 0 0 0 0 none [] 0 hright_zero ⟨⟨by simp, by simp⟩, by simp⟩ w ⟨RowIs.nil _ _, (fun o ho => by cases ho), RowIs.nil _ _⟩
def b28 : List Nat := [0, 0, 0, 3, 0, 0, 0, 1, 0, 0, 0, 0, 0, 0, 0, 0, 0, 0, 0, 0, 0, 0, 0, 0, 0, 0, 0, 0]
theorem heapB_one : heapB (oneHv 3) = b28 := rfl
theorem right_one3 : hrightB (oneHv 3) = true := hright_one (by decide) (by decide)
theorem heapR_one : heapR b28 = some (clearH (oneHv 3)) := by
  rw [← heapB_one]; exact heapR_put (hright_of right_one3) (fun o ho => by cases ho)
def GotK (w : World) (x : Hv) (e : Ending) (w' : World) : Prop := ∃ od oa os oc nx t0 t1 t2 t3 fa fs fc R, e = .returned (.tuple #[.agg #[.int .i64 od, .slice oa (List.length os) oc, .int .i64 nx, .int .i64 t0, .int .i64 t1, .int .i64 t2, .int .i64 t3, .slice fa (List.length fs) fc], .int .i64 0]) ∧ Hv.Sm ⟨od, oa, os, oc, nx, t0, t1, t2, t3, fa, fs, fc⟩ x ∧ Kept R (fun w => Hv.Is w ⟨od, oa, os, oc, nx, t0, t1, t2, t3, fa, fs, fc⟩) ∧ Hp w.heap.size w w' R
theorem newh_3 (w : World) : Calls Try.prog 21 #[.int .i64 3] w (GotK w (oneHv 3)) := by
  refine (newh21_yes 3 rfl w).mono fun e w' h => ?_
  obtain ⟨y, R, h1, h2, h3, h4⟩ := h
  obtain ⟨od, oa, os, oc, nx, t0, t1, t2, t3, fa, fs, fc⟩ := y
  exact ⟨od, oa, os, oc, nx, t0, t1, t2, t3, fa, fs, fc, R, h1, h2, h3, h4⟩
theorem puth_one (od : Int) (oa : Option Addr) (os : List Ob) (oc : Nat) (nx t0 t1 t2 t3 : Int) (fa : Option Addr) (fs : List Bl) (fc : Nat) (hsm : Hv.Sm ⟨od, oa, os, oc, nx, t0, t1, t2, t3, fa, fs, fc⟩ (oneHv 3)) (w : World) (hx0 : Hv.Is w ⟨od, oa, os, oc, nx, t0, t1, t2, t3, fa, fs, fc⟩) :
    Calls Try.prog 7 #[.agg #[.int .i64 od, .slice oa os.length oc, .int .i64 nx, .int .i64 t0, .int .i64 t1, .int .i64 t2, .int .i64 t3, .slice fa fs.length fc]] w fun e w' => ∃ b off c R, e = .returned (.tuple #[.slice (some ⟨b, off, none⟩) 28 c, .int .i64 0]) ∧ 28 ≤ c ∧ Kept R (fun w => RdAt w (some ⟨b, off, none⟩) b28) ∧ Hp w.heap.size w w' R := by
  refine (puth_yes od oa os oc nx t0 t1 t2 t3 fa fs fc b28 ((heapB_sm hsm).trans heapB_one) ((hright_sm hsm).trans right_one3) w hx0).mono fun e w' h => ?_
  obtain ⟨a, c, m, R, h1, h2, h3, h4, h5, h6⟩ := h
  have hm : m = 28 := h2.symm
  subst hm
  obtain ⟨b, off, rfl, _⟩ := (h5.at h6 (fun p hm => hm)).1.elems 1 byV_len (by decide) (by decide)
  exact ⟨b, off, c, R, h1, h3, h5, h6⟩
theorem geth_one (a : Option Addr) (c : Nat) (hnc : 28 ≤ c) (w : World) (ha : RdAt w a b28) : Calls Try.prog 11 #[.slice a 28 c] w fun e w' => ∃ od oa on oc t0 t1 t2 t3 fa fc R, e = .returned (.tuple #[.agg #[.int .i64 od, .slice oa on oc, .int .i64 1, .int .i64 t0, .int .i64 t1, .int .i64 t2, .int .i64 t3, .slice fa 1 fc], .int .i64 0]) ∧ Hp w.heap.size w w' R := by
  refine (geth_yes b28 _ heapR_one a 28 c rfl hnc w ha).mono fun e w' h => ?_
  obtain ⟨od, oa, os, oc, nx, t0, t1, t2, t3, fa, fs, fc, R, h1, h2, h3, h4⟩ := h
  have hnx : nx = 1 := h2.nx
  have hfs : fs = [⟨0, 3⟩] := h2.fs
  subst hnx hfs
  exact ⟨od, oa, os.length, oc, t0, t1, t2, t3, fa, fc, R, h1, h4⟩
theorem get28 {w : World} {b off : Nat} (h : RdAt w (some ⟨b, off, none⟩) b28) : w.cell? ⟨b, off + 3, none⟩ = some (.int .u8 3) ∧ w.cell? ⟨b, off + 7, none⟩ = some (.int .u8 1) := ⟨RowIs.fixC h.1 3 _ rfl, RowIs.fixC h.1 7 _ rfl⟩
set_option maxRecDepth 100000 in
set_option maxHeartbeats 8000000 in
theorem heaps9 (w : World) : Calls Try.prog 9 #[] w fun e w' => e = .returned (.bool true) ∧ Below w.heap.size w w' := by
  have hp := Hp.start w
  go_enter Try.func9, Try.ntmps9
  go_wp2_with (first | (go_at_call 21; (with_reducible refine (newh_3 _).mono ?_); rintro e w1 ⟨od, oa, os, oc, nx, t0, t1, t2, t3, fa, fs, fc, RN, rfl, hsm, hk, hpn⟩; replace hp := hp.join hpn; have HSM := Lib.hid hsm; have HK := Lib.hid hk; clear hpn hsm hk; simp only [List.cons_append, List.nil_append] at hp) | (go_at_call 7; (with_reducible refine (puth_one od oa os oc nx t0 t1 t2 t3 fa fs fc HSM.out _ (HK.out.at hp (fun p hm => by simp [hm]))).mono ?_); rintro e w1 ⟨ab, ob, cb, RB, rfl, hcb, hkb, hpn⟩; replace hp := hp.join hpn; have HCB := Lib.hid hcb; have HKB := Lib.hid hkb; clear hpn hcb hkb; simp only [List.cons_append, List.nil_append] at hp) | (go_at_call 11; (with_reducible refine (geth_one _ cb HCB.out _ (HKB.out.at hp (fun p hm => by simp [hm]))).mono ?_); rintro e w1 ⟨odX, oaX, onX, ocX, t0X, t1X, t2X, t3X, faX, fcX, RX, rfl, hpn⟩; replace hp := hp.join hpn; clear hpn; simp only [List.cons_append, List.nil_append] at hp) | (go_at_call 11; (with_reducible refine (geth_nil _).mono ?_); rintro e w1 ⟨rfl, hb⟩; replace hp := hp.call hb; clear hb) | (go_at_call 7; (with_reducible refine (puth_zero _).mono ?_); rintro e w1 ⟨rfl, hb⟩; replace hp := hp.call hb; clear hb) | ((with_reducible refine pre_load 5 _ rfl ?_); first | refine lRO (Hp.start _) rfl (sTm rfl) cell5 (get28 (HKB.out.at hp (fun p hm => by simp [hm]))).1 ?_ | refine lRO (Hp.start _) rfl (sTm rfl) cell5 (get28 (HKB.out.at hp (fun p hm => by simp [hm]))).2 ?_; simp only [put_some, put_none, sSet, zSet]) | go_skip | ((first | ((with_reducible refine pre_alloc _ rfl ?_); refine lZ hp rfl zero26 ?_; clear hp; intro b w1 hp) | ((with_reducible refine pre_box _ _ rfl ?_); refine lB hp rfl (sTm rfl) rfl ?_; clear hp; intro b w1 hp) | ((with_reducible refine pre_load _ _ rfl ?_); first | refine lO hp rfl (sTm rfl) ceXH0 aa5 ?_ | refine lA hp rfl (sTm rfl) agg26 aa5 ?_) | ((with_reducible refine pre_store _ _ _ rfl ?_); (first | refine sO hp rfl (sTm rfl) ceXH0 aa5 ?_ | refine sA hp rfl (sTm rfl) (sTm rfl) agg26 aa5 ?_ | refine sG hp rfl (sTm rfl) (sTm rfl) agg26 aa5 ?_); clear hp; intro w1 hp; simp only [spl, zSet, sSet] at hp)); simp only [put_some, put_none, sSet, zSet]))
  go_ret
  exact ⟨rfl, hp.below⟩
end Go.Proofs.Ytaafajaadfgaoaa
/- What comes of an entry that comes again, of a client's next one, and of many: the plain laws. No program in sight. -/
namespace Go.Proofs.Ytaafajaadfgaoaa
theorem zeroSv_small : zeroSv.Small := ⟨zero_small, by simp [zeroSv]⟩
end Go.Proofs.Ytaafajaadfgaoaa
/- Runs of entries over a state: the plain laws. No program in sight. -/
namespace Go.Proofs.Ytaafajaadfgaoaa
theorem stB_zero : stB zeroSv = false := by unfold stB; rw [show zeroSv.hv = zeroHv from rfl, hright_zero]; rfl
end Go.Proofs.Ytaafajaadfgaoaa
/- Words stay in range: the plain law. No program in sight. -/
namespace Go.Proofs.Ytaafajaadfgaoaa
open Go.RowKit
theorem w64_sm {x y : Hv} (h : x.Sm y) (hw : x.W64) : y.W64 := by
  intro o ho v hv
  obtain ⟨i, hi, rfl⟩ := List.getElem_of_mem ho
  have hb := List.getElem?_eq_getElem hi
  have ha := List.getElem?_eq_getElem (l := x.os) (i := i) (by have := h.os.1; omega)
  have hs := h.os.2 i _ _ ha hb
  exact hw _ (List.getElem_mem _) v (by rw [hs.2.2.2.1]; exact hv)
end Go.Proofs.Ytaafajaadfgaoaa
/- table.Apply of any state and entry. -/
namespace Go.Proofs.Ytaafajaadfgaoaa
open Go.RowKit
theorem big5L (od : Int) (oa : Option Addr) (os : List Ob) (oc : Nat) (nx t0 t1 t2 t3 : Int) (fa : Option Addr) (fs : List Bl) (fc : Nat) (ra : Option Addr) (rs : List Rw) (rc : Nat) (w : World) (hx0 : Sv.Is w ⟨⟨od, oa, os, oc, nx, t0, t1, t2, t3, fa, fs, fc⟩, ra, rs, rc⟩) : Calls Try.prog 5 #[.agg #[.int .i64 od, .slice oa os.length oc, .int .i64 nx, .int .i64 t0, .int .i64 t1, .int .i64 t2, .int .i64 t3, .slice fa fs.length fc, .slice ra rs.length rc]] w (BigPost6 w ⟨⟨od, oa, os, oc, nx, t0, t1, t2, t3, fa, fs, fc⟩, ra, rs, rc⟩) := big5 _ w hx0
end Go.Proofs.Ytaafajaadfgaoaa
/- The walk of State. -/
namespace Go.Proofs.Ytaafajaadfgaoaa
open Go.RowKit
theorem SvO.kept2 {y : Sv} {R : List Blk} (h : SvO y R) : Kept R fun w => y.Is w := by
  obtain ⟨RR, RH, rfl, h1, h2⟩ := h
  obtain ⟨a, c, hv, hk⟩ := h1.kept
  injection hv with e1 e2 e3
  rw [← e1] at hk
  intro B w0 w L hp hm
  exact ⟨h2.kept.at hp (fun p hp2 => hm p (List.mem_append_right _ hp2)), hk.at hp (fun p hp2 => hm p (List.mem_append_left _ hp2))⟩
end Go.Proofs.Ytaafajaadfgaoaa
/- The chapter's examples of states; the walk of the law ImageApart. -/
namespace Go.Proofs.Ytaafajaadfgaoaa
open Go.RowKit
theorem ceXA0 {ty : TypeId} (h : cellB Try.prog ty = true := by with_reducible first | exact cell3 | exact cell4 | exact cell32 | exact cell31 | exact cell27) : cellB Try.prog ty = true := h
theorem rowB_bytes (r : Rw) : Bytes (rowB r) := by unfold rowB; exact (bn4_bytes _).app (bi8_bytes _)
theorem stateB_bytes (x : Sv) : Bytes (stateB x) := by
  unfold stateB
  refine Bytes.app (Bytes.app (beS_bytes 4 _) (heapB_bytes _)) (Bytes.app (bn4_bytes _) fun y hy => ?_)
  obtain ⟨r, _, h⟩ := List.mem_flatMap.1 hy
  exact rowB_bytes r y h
theorem puts_no (od : Int) (oa : Option Addr) (os : List Ob) (oc : Nat) (nx t0 t1 t2 t3 : Int) (fa : Option Addr) (fs : List Bl) (fc : Nat) (ra : Option Addr) (rs : List Rw) (rc : Nat) (hb : stB ⟨⟨od, oa, os, oc, nx, t0, t1, t2, t3, fa, fs, fc⟩, ra, rs, rc⟩ = false) (hs : Sv.Small ⟨⟨od, oa, os, oc, nx, t0, t1, t2, t3, fa, fs, fc⟩, ra, rs, rc⟩) (w : World) (hx0 : Sv.Is w ⟨⟨od, oa, os, oc, nx, t0, t1, t2, t3, fa, fs, fc⟩, ra, rs, rc⟩) :
    Calls Try.prog 6 #[.agg #[.int .i64 od, .slice oa os.length oc, .int .i64 nx, .int .i64 t0, .int .i64 t1, .int .i64 t2, .int .i64 t3, .slice fa fs.length fc, .slice ra rs.length rc]] w fun e w' => e = .returned (.tuple #[.slice none 0 0, .int .i64 60]) ∧ Below w.heap.size w w' := puts6_no _ hb hs w hx0
theorem puts_yes (od : Int) (oa : Option Addr) (os : List Ob) (oc : Nat) (nx t0 t1 t2 t3 : Int) (fa : Option Addr) (fs : List Bl) (fc : Nat) (ra : Option Addr) (rs : List Rw) (rc : Nat) (bs : List Nat) (hbs : stateB ⟨⟨od, oa, os, oc, nx, t0, t1, t2, t3, fa, fs, fc⟩, ra, rs, rc⟩ = bs) (hb : stB ⟨⟨od, oa, os, oc, nx, t0, t1, t2, t3, fa, fs, fc⟩, ra, rs, rc⟩ = true) (w : World) (hx0 : Sv.Is w ⟨⟨od, oa, os, oc, nx, t0, t1, t2, t3, fa, fs, fc⟩, ra, rs, rc⟩) :
    Calls Try.prog 6 #[.agg #[.int .i64 od, .slice oa os.length oc, .int .i64 nx, .int .i64 t0, .int .i64 t1, .int .i64 t2, .int .i64 t3, .slice fa fs.length fc, .slice ra rs.length rc]] w fun e w' => ∃ a c m R, e = .returned (.tuple #[.slice a m c, .int .i64 0]) ∧ bs.length = m ∧ m ≤ c ∧ SubRow 5 1 (.slice a m c) m (bs.flatMap byV) R ∧ Kept R (fun w => RdAt w a bs) ∧ Hp w.heap.size w w' R := by
  subst hbs
  refine (puts6_yes _ hb w hx0).mono fun e w' h => ?_
  obtain ⟨a, c, R, h1, h2, h3⟩ := h
  have hby : Bytes (stateB ⟨⟨od, oa, os, oc, nx, t0, t1, t2, t3, fa, fs, fc⟩, ra, rs, rc⟩) := stateB_bytes _
  exact ⟨a, c, _, R, h1, rfl, h2.cap rfl, h2, h2.keptS.mono (fun _ hp => hp) fun w hw => ⟨hw, hby⟩, h3⟩
def sx3 (ra : Option Addr) (y : Hv) : Sv := ⟨y, ra, [⟨1, 2, 0, -3⟩], 1⟩
theorem sx3_right {y : Hv} (h : y.Sm (oneHv 3)) (ra : Option Addr) : stB (sx3 ra y) = true := by
  unfold stB sx3
  rw [hright_sm h, right_one3]
  kernel_rfl
theorem sx3_W64 {y : Hv} (h : y.Sm (oneHv 3)) (ra : Option Addr) : (sx3 ra y).W64 := by
  refine ⟨w64_sm h.symm (fun o ho => by cases ho), fun r hr => ?_⟩
  have : r = ⟨1, 2, 0, -3⟩ := by simpa [sx3] using hr
  subst this
  exact ⟨by decide, by decide⟩
theorem puts_sx (od : Int) (oa : Option Addr) (os : List Ob) (oc : Nat) (nx t0 t1 t2 t3 : Int) (fa : Option Addr) (fs : List Bl) (fc : Nat) (ra : Option Addr) (h : Hv.Sm ⟨od, oa, os, oc, nx, t0, t1, t2, t3, fa, fs, fc⟩ (oneHv 3)) (w : World) (hx : Hv.Is w ⟨od, oa, os, oc, nx, t0, t1, t2, t3, fa, fs, fc⟩) (hr : RowIs w ra [.int .i64 1, .int .i64 2, .int .i64 0, .int .i64 (-3)]) :
    Calls Try.prog 6 #[.agg #[.int .i64 od, .slice oa os.length oc, .int .i64 nx, .int .i64 t0, .int .i64 t1, .int .i64 t2, .int .i64 t3, .slice fa fs.length fc, .slice ra 1 1]] w fun e w' => ∃ a c m R, e = .returned (.tuple #[.slice a m c, .int .i64 0]) ∧ (stateB (sx3 ra ⟨od, oa, os, oc, nx, t0, t1, t2, t3, fa, fs, fc⟩)).length = m ∧ m ≤ c ∧ Kept R (fun w => RdAt w a (stateB (sx3 ra ⟨od, oa, os, oc, nx, t0, t1, t2, t3, fa, fs, fc⟩))) ∧ Hp w.heap.size w w' R :=
  (puts_yes od oa os oc nx t0 t1 t2 t3 fa fs fc ra [⟨1, 2, 0, -3⟩] 1 _ rfl (sx3_right h ra) w ⟨hx, hr⟩).mono fun e w' ⟨a, c, m, R, h1, h2, h3, _, h5, h6⟩ => ⟨a, c, m, R, h1, h2, h3, h5, h6⟩
theorem gets_sx {y : Hv} (ra : Option Addr) (h : y.Sm (oneHv 3)) (a : Option Addr) (m c : Nat) (hm : (stateB (sx3 ra y)).length = m) (hmc : m ≤ c) (w : World) (ha : RdAt w a (stateB (sx3 ra y))) :
    Calls Try.prog 10 #[.slice a m c] w fun e w' => ∃ od oa on oc nx t0 t1 t2 t3 fa fn fc b off rc R, e = .returned (.tuple #[.agg #[.int .i64 od, .slice oa on oc, .int .i64 nx, .int .i64 t0, .int .i64 t1, .int .i64 t2, .int .i64 t3, .slice fa fn fc, .slice (some ⟨b, off, none⟩) 1 rc], .int .i64 0]) ∧ Kept R (fun w => w.cell? ⟨b, off + 3, none⟩ = some (.int .i64 (-3))) ∧ Hp w.heap.size w w' R := by
  subst hm
  have hst := st_of (sx3_right h ra)
  have hlen : (stateB (sx3 ra y)).length ≤ 1000000000 := by
    have h1 := heapB_len hst.hv
    unfold stateB
    rw [List.length_append, List.length_append, List.length_append, beS_len, bn4_len, rowsB_len]
    have : (sx3 ra y).rs.length = 1 := rfl
    rw [this]
    simp only [List.length_cons, List.length_nil]; omega
  refine (gets10 _ a c hmc hlen w ha).mono fun e w' h2 => ?_
  rw [stateR_put hst (sx3_W64 h ra)] at h2
  obtain ⟨z, R, h3, h4, h5, h6⟩ := h2
  have hk := h5.kept2
  obtain ⟨⟨od, oa, os, oc, nx, t0, t1, t2, t3, fa, fs, fc⟩, ra2, rs2, rc2⟩ := z
  have hrs : rs2 = [⟨1, 2, 0, -3⟩] := h4.2
  subst hrs
  have hr := (hk.now h6).2
  obtain ⟨b, off, hra, _⟩ := hr.elems 4 rwV_len Nat.zero_lt_one (by decide)
  simp only at hra
  subst hra
  exact ⟨od, oa, _, oc, nx, t0, t1, t2, t3, fa, _, fc, b, off, rc2, R, h3, hk.mono (fun p hp => hp) (fun w hw => RowIs.fixC hw.2 3 _ rfl), h6⟩
theorem check_sx (od : Int) (oa : Option Addr) (os : List Ob) (oc : Nat) (nx t0 t1 t2 t3 : Int) (fa : Option Addr) (fs : List Bl) (fc : Nat) (ra : Option Addr) (h : Hv.Sm ⟨od, oa, os, oc, nx, t0, t1, t2, t3, fa, fs, fc⟩ (oneHv 3)) (w : World) (hx : Hv.Is w ⟨od, oa, os, oc, nx, t0, t1, t2, t3, fa, fs, fc⟩) (hr : RowIs w ra [.int .i64 1, .int .i64 2, .int .i64 0, .int .i64 (-3)]) :
    Calls Try.prog 16 #[.agg #[.int .i64 od, .slice oa os.length oc, .int .i64 nx, .int .i64 t0, .int .i64 t1, .int .i64 t2, .int .i64 t3, .slice fa fs.length fc, .slice ra 1 1]] w fun e w' => e = .returned (.int .i64 0) ∧ Below w.heap.size w w' :=
  check16L od oa os oc nx t0 t1 t2 t3 fa fs fc ra [⟨1, 2, 0, -3⟩] 1 true (sx3_right h ra) (st_of (sx3_right h ra)).small w ⟨hx, hr⟩
theorem check_zero (w : World) : Calls Try.prog 16 #[.agg #[.int .i64 0, .slice none 0 0, .int .i64 0, .int .i64 0, .int .i64 0, .int .i64 0, .int .i64 0, .slice none 0 0, .slice none 0 0]] w fun e w' => e = .returned (.int .i64 60) ∧ Below w.heap.size w w' :=
  check16L 0 none [] 0 0 0 0 0 0 none [] 0 none [] 0 false stB_zero zeroSv_small w (is_none.at (Hp.start w) (fun p h => by cases h) |> fun h => ⟨h, RowIs.nil _ _⟩)
set_option maxRecDepth 100000 in
set_option maxHeartbeats 8000000 in
theorem states8 (w : World) : Calls Try.prog 8 #[] w fun e w' => e = .returned (.bool true) ∧ Below w.heap.size w w' := by
  have hp := Hp.start w
  go_enter Try.func8, Try.ntmps8
  go_wp2_with (first | (go_at_call 21; (with_reducible refine (newh_3 _).mono ?_); rintro e w1 ⟨od, oa, os, oc, nx, t0, t1, t2, t3, fa, fs, fc, RN, rfl, hsm, hk, hpn⟩; replace hp := hp.join hpn; have HSM := Lib.hid hsm; have HK := Lib.hid hk; clear hpn hsm hk; simp only [List.cons_append, List.nil_append] at hp) | (go_at_call 6; (with_reducible refine (puts_sx od oa os oc nx t0 t1 t2 t3 fa fs fc _ HSM.out _ (HK.out.at hp (fun p hm => by simp [hm])) (hp.rowIs at1)).mono ?_); rintro e w1 ⟨ab, cb, mb, RB, rfl, hmb, hcb, hkb, hpn⟩; replace hp := hp.join hpn; have HMB := Lib.hid hmb; have HCB := Lib.hid hcb; have HKB := Lib.hid hkb; clear hpn hcb hkb hmb; simp only [List.cons_append, List.nil_append] at hp) | (go_at_call 10; (with_reducible refine (gets_sx _ HSM.out ab mb cb HMB.out HCB.out _ (HKB.out.at hp (fun p hm => by simp [hm]))).mono ?_); rintro e w1 ⟨odX, oaX, onX, ocX, nxX, t0X, t1X, t2X, t3X, faX, fnX, fcX, bX, offX, rcX, RX, rfl, hkx, hpn⟩; replace hp := hp.join hpn; have HKX := Lib.hid hkx; clear hpn hkx; simp only [List.cons_append, List.nil_append] at hp) | (go_at_call 16; (with_reducible refine (check_sx od oa os oc nx t0 t1 t2 t3 fa fs fc _ HSM.out _ (HK.out.at hp (fun p hm => by simp [hm])) (hp.rowIs at2)).mono ?_); rintro e w1 ⟨rfl, hb⟩; replace hp := hp.call hb; clear hb) | (go_at_call 16; (with_reducible refine (check_zero _).mono ?_); rintro e w1 ⟨rfl, hb⟩; replace hp := hp.call hb; clear hb) | ((with_reducible refine pre_load 3 _ rfl ?_); refine lRO (Hp.start _) rfl (sTm rfl) cell3 (HKX.out.at hp (fun p hm => by simp [hm])) ?_; simp only [put_some, put_none, sSet, zSet]) | go_skip | ((first | ((with_reducible refine pre_alloc _ rfl ?_); refine lZ hp rfl (by with_reducible first | exact zero26 | exact zero29) ?_; clear hp; intro b w1 hp) | ((with_reducible refine pre_box _ _ rfl ?_); refine lB hp rfl (sTm rfl) rfl ?_; clear hp; intro b w1 hp) | ((with_reducible refine pre_load _ _ rfl ?_); first | refine lO hp rfl (sTm rfl) ceXA0 aa14 ?_ | refine lA hp rfl (sTm rfl) (by with_reducible first | exact agg26 | exact agg29) aa14 ?_) | ((with_reducible refine pre_store _ _ _ rfl ?_); (first | refine sO hp rfl (sTm rfl) ceXA0 aa14 ?_ | refine sA hp rfl (sTm rfl) (sTm rfl) (by with_reducible first | exact agg26 | exact agg29) aa14 ?_ | refine sG hp rfl (sTm rfl) (sTm rfl) (by with_reducible first | exact agg26 | exact agg29) aa14 ?_); clear hp; intro w1 hp; simp only [spl, zSet, sSet] at hp) | ((with_reducible refine pre_build _ _ _ rfl ?_); refine lS hp rfl (by intro w; go_simp; rfl) ?_; clear hp; intro b w1 hp; simp only [List.length_cons, List.length_nil, Nat.reduceAdd] at hp)); simp only [put_some, put_none, sSet, zSet]))
  go_ret
  exact ⟨rfl, hp.below⟩
end Go.Proofs.Ytaafajaadfgaoaa
/- What is read of bytes is read of them with more behind: the plain law of ImageMore. No program in sight. -/
namespace Go.Proofs.Ytaafajaadfgaoaa
open Go.RowKit
def Fr {α : Type} (one : List Nat → Option (α × List Nat)) : Prop := ∀ bs x r t, one bs = some (x, r) → one (bs ++ t) = some (x, r ++ t)
theorem numR_fr {bs : List Nat} {n : Nat} (t : List Nat) (h : numR bs = some n) : numR (bs ++ t) = some n ∧ 4 ≤ bs.length := by
  unfold numR at h ⊢
  split at h
  · rename_i h1
    injection h with h
    rw [List.take_append_of_le_length h1.1, if_pos ⟨by rw [List.length_append]; omega, h1.2⟩, h]
    exact ⟨rfl, h1.1⟩
  · cases h
theorem nR_fr : Fr nR := by
  intro bs x r t h
  unfold nR at h ⊢
  cases h1 : numR bs with
  | none => rw [h1] at h; cases h
  | some n =>
    rw [h1] at h
    simp at h
    obtain ⟨h2, h3⟩ := numR_fr t h1
    rw [h2]
    simp [h.1, ← h.2, List.drop_append_of_le_length h3]
theorem iR_fr : Fr iR := by
  intro bs x r t h
  unfold iR intR at h ⊢
  split at h
  · rename_i h1
    simp at h
    rw [if_pos (by rw [List.length_append]; omega), List.take_append_of_le_length h1]
    simp [h.1, ← h.2, List.drop_append_of_le_length h1]
  · cases h
theorem repR_fr {α : Type} {one : List Nat → Option (α × List Nat)} (h1 : Fr one) : ∀ n, Fr (repR one n)
  | 0 => by
    intro bs x r t h
    unfold repR at h ⊢
    injection h with h; injection h with h2 h3
    subst h2 h3; rfl
  | n + 1 => by
    intro bs x r t h
    unfold repR at h ⊢
    cases e1 : repR one n bs with
    | none => rw [e1] at h; cases h
    | some p =>
      obtain ⟨l, b1⟩ := p
      rw [e1] at h
      simp only at h
      rw [repR_fr h1 n _ _ _ t e1]
      simp only
      cases e2 : one b1 with
      | none => rw [e2] at h; cases h
      | some q =>
        obtain ⟨y, b2⟩ := q
        rw [e2] at h
        simp only at h
        rw [h1 _ _ _ t e2]
        injection h with h; injection h with h2 h3
        subst h2 h3; rfl
theorem objR_fr : Fr objR := by
  intro bs x r t h
  unfold objR at h ⊢
  cases e1 : nR bs with
  | none => rw [e1] at h; cases h
  | some p1 =>
    obtain ⟨a1, b1⟩ := p1
    rw [e1] at h; simp only at h
    rw [nR_fr _ _ _ t e1]; simp only
    cases e2 : nR b1 with
    | none => rw [e2] at h; cases h
    | some p2 =>
      obtain ⟨a2, b2⟩ := p2
      rw [e2] at h; simp only at h
      rw [nR_fr _ _ _ t e2]; simp only
      cases e3 : nR b2 with
      | none => rw [e3] at h; cases h
      | some p3 =>
        obtain ⟨a3, b3⟩ := p3
        rw [e3] at h; simp only at h
        rw [nR_fr _ _ _ t e3]; simp only
        cases e4 : nR b3 with
        | none => rw [e4] at h; cases h
        | some p4 =>
          obtain ⟨a4, b4⟩ := p4
          rw [e4] at h; simp only at h
          rw [nR_fr _ _ _ t e4]; simp only
          split at h
          · cases h
          · rename_i hn
            rw [if_neg hn]
            cases e5 : repR iR a3.toNat b4 with
            | none => rw [e5] at h; cases h
            | some p5 =>
              obtain ⟨a5, b5⟩ := p5
              rw [e5] at h; simp only at h
              rw [repR_fr iR_fr _ _ _ _ t e5]; simp only
              cases e6 : repR nR a4.toNat b5 with
              | none => rw [e6] at h; cases h
              | some p6 =>
                obtain ⟨a6, b6⟩ := p6
                rw [e6] at h; simp only at h
                rw [repR_fr nR_fr _ _ _ _ t e6]; simp only
                injection h with h; injection h with h2 h3
                subst h2 h3; rfl
theorem heapR0_fr : Fr heapR0 := by
  intro bs x r t h
  unfold heapR0 at h ⊢
  cases e1 : nR bs with
  | none => rw [e1] at h; cases h
  | some p1 =>
    obtain ⟨a1, b1⟩ := p1
    rw [e1] at h; simp only at h
    rw [nR_fr _ _ _ t e1]; simp only
    cases e2 : nR b1 with
    | none => rw [e2] at h; cases h
    | some p2 =>
      obtain ⟨a2, b2⟩ := p2
      rw [e2] at h; simp only at h
      rw [nR_fr _ _ _ t e2]; simp only
      unfold heapR1 at h ⊢
      cases e3 : repR nR 4 b2 with
      | none => rw [e3] at h; cases h
      | some p3 =>
        obtain ⟨a3, b3⟩ := p3
        rw [e3] at h; simp only at h
        rw [repR_fr nR_fr _ _ _ _ t e3]; simp only
        unfold heapR2 at h ⊢
        cases e4 : nR b3 with
        | none => rw [e4] at h; cases h
        | some p4 =>
          obtain ⟨a4, b4⟩ := p4
          rw [e4] at h; simp only at h
          rw [nR_fr _ _ _ t e4]; simp only
          split at h
          · cases h
          · rename_i hn
            rw [if_neg hn]
            cases e5 : repR objR a4.toNat b4 with
            | none => rw [e5] at h; cases h
            | some p5 =>
              obtain ⟨a5, b5⟩ := p5
              rw [e5] at h; simp only at h
              rw [repR_fr objR_fr _ _ _ _ t e5]; simp only
              unfold heapR3 at h ⊢
              split at h
              · rename_i h1
                rw [if_pos h1]
                split at h
                · rename_i h2
                  rw [if_pos h2]
                  injection h with h; injection h with h3 h4
                  subst h3 h4; rfl
                · cases h
              · cases h
theorem textR_fr : Fr textR := by
  intro bs x r t h
  unfold textR at h ⊢
  cases e1 : numR bs with
  | none => rw [e1] at h; cases h
  | some n =>
    rw [e1] at h; simp only at h
    obtain ⟨h2, h3⟩ := numR_fr t e1
    rw [h2]; simp only
    split at h
    · rename_i h4
      injection h with h; injection h with h5 h6
      have e2 : (bs ++ t).drop 4 = bs.drop 4 ++ t := List.drop_append_of_le_length h3
      have e3 : n ≤ (bs.drop 4).length := by rw [List.length_drop]; omega
      rw [if_pos ⟨h4.1, by rw [List.length_append]; omega⟩, e2, List.take_append_of_le_length e3, List.drop_append_of_le_length e3, h5, h6]
    · cases h
theorem rowR_fr : Fr rowR := by
  intro bs x r t h
  unfold rowR at h ⊢
  cases e1 : nR bs with
  | none => rw [e1] at h; cases h
  | some p1 =>
    obtain ⟨a1, b1⟩ := p1
    rw [e1] at h; simp only at h
    rw [nR_fr _ _ _ t e1]; simp only
    cases e2 : nR b1 with
    | none => rw [e2] at h; cases h
    | some p2 =>
      obtain ⟨a2, b2⟩ := p2
      rw [e2] at h; simp only at h
      rw [nR_fr _ _ _ t e2]; simp only
      cases e3 : nR b2 with
      | none => rw [e3] at h; cases h
      | some p3 =>
        obtain ⟨a3, b3⟩ := p3
        rw [e3] at h; simp only at h
        rw [nR_fr _ _ _ t e3]; simp only
        cases e4 : iR b3 with
        | none => rw [e4] at h; cases h
        | some p4 =>
          obtain ⟨a4, b4⟩ := p4
          rw [e4] at h; simp only at h
          rw [iR_fr _ _ _ t e4]; simp only
          injection h with h; injection h with h5 h6
          subst h5 h6; rfl
theorem stateR0_fr : Fr stateR0 := by
  intro bs x r t h
  unfold stateR0 at h ⊢
  cases e1 : textR bs with
  | none => rw [e1] at h; cases h
  | some p1 =>
    obtain ⟨a1, b1⟩ := p1
    rw [e1] at h; simp only at h
    rw [textR_fr _ _ _ t e1]; simp only
    cases e2 : heapR a1 with
    | none => rw [e2] at h; cases h
    | some y =>
      rw [e2] at h; simp only at h ⊢
      unfold stateR1 at h ⊢
      cases e3 : nR b1 with
      | none => rw [e3] at h; cases h
      | some p3 =>
        obtain ⟨a3, b3⟩ := p3
        rw [e3] at h; simp only at h
        rw [nR_fr _ _ _ t e3]; simp only
        split at h
        · cases h
        · rename_i hn
          rw [if_neg hn]
          cases e5 : repR rowR a3.toNat b3 with
          | none => rw [e5] at h; cases h
          | some p5 =>
            obtain ⟨a5, b5⟩ := p5
            rw [e5] at h; simp only at h
            rw [repR_fr rowR_fr _ _ _ _ t e5]; simp only
            split at h
            · rename_i h1
              rw [if_pos h1]
              injection h with h; injection h with h5 h6
              subst h5 h6; rfl
            · cases h
theorem whole_more {α : Type} {one : List Nat → Option (α × List Nat)} (hf : Fr one) {bs : List Nat} {x : α} (m : Nat) (h : wholeR one bs = some x) : wholeR one (bs ++ [m]) = none := by
  unfold wholeR at h ⊢
  split at h
  · rename_i y r hy
    split at h
    · rename_i hr
      rw [hf _ _ _ [m] hy]
      simp
    · cases h
  · cases h
theorem whole_less {α : Type} {one : List Nat → Option (α × List Nat)} (hf : Fr one) {bs : List Nat} {x : α} {m : Nat} (h : wholeR one (bs ++ [m]) = some x) : wholeR one bs = none := by
  cases h1 : wholeR one bs with
  | none => rfl
  | some y => rw [whole_more hf m h1] at h; cases h
theorem heap_more {bs : List Nat} {x : Hv} (m : Nat) (h : heapR bs = some x) : heapR (bs ++ [m]) = none := whole_more heapR0_fr m h
theorem state_more {bs : List Nat} {x : Sv} (m : Nat) (h : stateR bs = some x) : stateR (bs ++ [m]) = none := whole_more stateR0_fr m h
theorem heap_less {bs : List Nat} {x : Hv} (hn : bs ≠ []) (h : heapR bs = some x) : heapR bs.dropLast = none := by
  rw [← List.dropLast_concat_getLast hn] at h
  exact whole_less heapR0_fr h
theorem state_less {bs : List Nat} {x : Sv} (hn : bs ≠ []) (h : stateR bs = some x) : stateR bs.dropLast = none := by
  rw [← List.dropLast_concat_getLast hn] at h
  exact whole_less stateR0_fr h
end Go.Proofs.Ytaafajaadfgaoaa
/- The walk of the law ImageMore. -/
namespace Go.Proofs.Ytaafajaadfgaoaa
open Go.RowKit
theorem ceXM0 {ty : TypeId} (h : cellB Try.prog ty = true := by with_reducible first | exact cell3 | exact cell4 | exact cell32 | exact cell31) : cellB Try.prog ty = true := h
theorem puts_M (odX : Int) (oaX : Option Addr) (osX : List Ob) (ocX : Nat) (nxX t0X t1X t2X t3X : Int) (faX : Option Addr) (fsX : List Bl) (fcX : Nat) (raX : Option Addr) (rsX : List Rw) (rcX : Nat) (bs : List Nat) (hbs : stateB ⟨⟨odX, oaX, osX, ocX, nxX, t0X, t1X, t2X, t3X, faX, fsX, fcX⟩, raX, rsX, rcX⟩ = bs) (m : Nat) (hm : bs.length = m) (hb : stB ⟨⟨odX, oaX, osX, ocX, nxX, t0X, t1X, t2X, t3X, faX, fsX, fcX⟩, raX, rsX, rcX⟩ = true) (w : World) (hx0 : Sv.Is w ⟨⟨odX, oaX, osX, ocX, nxX, t0X, t1X, t2X, t3X, faX, fsX, fcX⟩, raX, rsX, rcX⟩) : Calls Try.prog 6 #[.agg #[.int .i64 odX, .slice oaX (List.length osX) ocX, .int .i64 nxX, .int .i64 t0X, .int .i64 t1X, .int .i64 t2X, .int .i64 t3X, .slice faX (List.length fsX) fcX, .slice raX (List.length rsX) rcX]] w fun e w' => ∃ a c R, e = .returned (.tuple #[.slice a m c, .int .i64 0]) ∧ m ≤ c ∧ SubRow 5 1 (.slice a m c) m (bs.flatMap byV) R ∧ Kept R (fun w => RdAt w a bs) ∧ Hp w.heap.size w w' R := by
  subst hm
  refine (puts_yes odX oaX osX ocX nxX t0X t1X t2X t3X faX fsX fcX raX rsX rcX bs hbs hb w hx0).mono fun e w' h => ?_
  obtain ⟨a, c, m, R, h1, h2, h3, h4, h5, h6⟩ := h
  subst h2
  exact ⟨a, c, R, h1, h3, h4, h5, h6⟩
theorem puth_M (odX : Int) (oaX : Option Addr) (osX : List Ob) (ocX : Nat) (nxX t0X t1X t2X t3X : Int) (faX : Option Addr) (fsX : List Bl) (fcX : Nat) (bs : List Nat) (hbs : heapB ⟨odX, oaX, osX, ocX, nxX, t0X, t1X, t2X, t3X, faX, fsX, fcX⟩ = bs) (m : Nat) (hm : bs.length = m) (hb : hrightB ⟨odX, oaX, osX, ocX, nxX, t0X, t1X, t2X, t3X, faX, fsX, fcX⟩ = true) (w : World) (hx0 : Hv.Is w ⟨odX, oaX, osX, ocX, nxX, t0X, t1X, t2X, t3X, faX, fsX, fcX⟩) : Calls Try.prog 7 #[.agg #[.int .i64 odX, .slice oaX (List.length osX) ocX, .int .i64 nxX, .int .i64 t0X, .int .i64 t1X, .int .i64 t2X, .int .i64 t3X, .slice faX (List.length fsX) fcX]] w fun e w' => ∃ a c R, e = .returned (.tuple #[.slice a m c, .int .i64 0]) ∧ m ≤ c ∧ SubRow 5 1 (.slice a m c) m (bs.flatMap byV) R ∧ Kept R (fun w => RdAt w a bs) ∧ Hp w.heap.size w w' R := by
  subst hm
  refine (puth_yes odX oaX osX ocX nxX t0X t1X t2X t3X faX fsX fcX bs hbs hb w hx0).mono fun e w' h => ?_
  obtain ⟨a, c, m, R, h1, h2, h3, h4, h5, h6⟩ := h
  subst h2
  exact ⟨a, c, R, h1, h3, h4, h5, h6⟩
theorem gets_N (bs : List Nat) (hr : stateR bs = none) (a : Option Addr) (m c : Nat) (hm : bs.length = m) (hc : m ≤ c) (hb : m ≤ 1000000000) (w : World) (ha : RdAt w a bs) : Calls Try.prog 10 #[.slice a m c] w fun e w' => e = .returned (.tuple #[.agg #[.int .i64 0, .slice none 0 0, .int .i64 0, .int .i64 0, .int .i64 0, .int .i64 0, .int .i64 0, .slice none 0 0, .slice none 0 0], .int .i64 60]) ∧ Below w.heap.size w w' := by
  subst hm
  refine (gets10 bs a c hc hb w ha).mono fun e w' h => ?_
  rw [hr] at h
  exact h
theorem RdAt.init {w : World} {a : Option Addr} {d : List Nat} {x : Nat} (h : RdAt w a (d ++ [x])) : RdAt w a d := by
  refine ⟨fun j v hj => h.1 j v ?_, fun y hy => h.2 y (List.mem_append_left _ hy)⟩
  have hl := (List.getElem?_eq_some_iff.1 hj).1
  rw [List.flatMap_append, List.getElem?_append_left hl]; exact hj
theorem more_rd {R : List Blk} {a : Option Addr} {ss : List Nat} {mo : Nat} (hs : Bytes ss) (hm : mo < 256) (h : Kept R fun w => RowIs w a (ss.flatMap byV ++ [.int .u8 mo])) : Kept R fun w => RdAt w a (ss ++ [mo]) :=
  h.mono (fun _ h => h) fun w hw => ⟨by rw [List.flatMap_append]; exact hw, hs.app (fun x hx => by rw [List.mem_singleton.1 hx]; exact hm)⟩
theorem pull4 {B : Nat} {w0 w : World} {p1 p2 p3 p4 : Blk} {R M : List Blk} (hp : Hp B w0 w (p1 :: p2 :: p3 :: p4 :: (R ++ M))) : Hp B w0 w ([] ++ (R ++ (p1 :: p2 :: p3 :: p4 :: M))) := hp.kp
theorem push4 {B : Nat} {w0 w : World} {p1 p2 p3 p4 : Blk} {R M : List Blk} (hp : Hp B w0 w ([] ++ (R ++ (p1 :: p2 :: p3 :: p4 :: M)))) : Hp B w0 w (p1 :: p2 :: p3 :: p4 :: (M ++ R)) := hp.kp
theorem pull5 {B : Nat} {w0 w : World} {p1 p2 p3 p4 p5 : Blk} {R M : List Blk} (hp : Hp B w0 w (p1 :: p2 :: p3 :: p4 :: p5 :: (R ++ M))) : Hp B w0 w ([] ++ (R ++ (p1 :: p2 :: p3 :: p4 :: p5 :: M))) := hp.kp
theorem push5 {B : Nat} {w0 w : World} {p1 p2 p3 p4 p5 : Blk} {R M : List Blk} (hp : Hp B w0 w ([] ++ (R ++ (p1 :: p2 :: p3 :: p4 :: p5 :: M)))) : Hp B w0 w (p1 :: p2 :: p3 :: p4 :: p5 :: (M ++ R)) := hp.kp
set_option maxRecDepth 100000 in
set_option maxHeartbeats 16000000 in
theorem law_more (odX : Int) (oaX : Option Addr) (osX : List Ob) (ocX : Nat) (nxX t0X t1X t2X t3X : Int) (faX : Option Addr) (fsX : List Bl) (fcX : Nat) (raX : Option Addr) (rsX : List Rw) (rcX : Nat) (mo : Nat) (hmo : mo < 256) (w : World) (hx : Sv.Is w ⟨⟨odX, oaX, osX, ocX, nxX, t0X, t1X, t2X, t3X, faX, fsX, fcX⟩, raX, rsX, rcX⟩) (hw : Sv.W64 ⟨⟨odX, oaX, osX, ocX, nxX, t0X, t1X, t2X, t3X, faX, fsX, fcX⟩, raX, rsX, rcX⟩) :
    Calls Try.prog 3 #[.agg #[.int .i64 odX, .slice oaX (List.length osX) ocX, .int .i64 nxX, .int .i64 t0X, .int .i64 t1X, .int .i64 t2X, .int .i64 t3X, .slice faX (List.length fsX) fcX, .slice raX (List.length rsX) rcX], .int .u8 mo] w fun e w' => e = .returned (.bool true) ∧ Below w.heap.size w w' := by
  obtain ⟨i0, hi0, hz0, hz1, hz2⟩ := info_parts info5
  have hp := Hp.start w
  have HIX := Lib.hid hx
  have HWX := Lib.hid hw
  have HMO := Lib.hid hmo
  clear hx hw hmo
  go_enter Try.func3, Try.ntmps3
  go_wp2_with (first | (go_at_call 5; (with_reducible refine (big5L odX oaX osX ocX nxX t0X t1X t2X t3X faX fsX fcX raX rsX rcX _ (HIX.out.below hp.below)).mono ?_); rintro e w1 ⟨bb, rfl, hbb, hb⟩; replace hp := hp.call hb; clear hb; cases bb) | go_skip | ((first | ((with_reducible refine pre_alloc _ rfl ?_); refine lZ hp rfl (by with_reducible first | exact zero29 | exact zero26) ?_; clear hp; intro b w1 hp) | ((with_reducible refine pre_box _ _ rfl ?_); refine lB hp rfl (sTm rfl) rfl ?_; clear hp; intro b w1 hp) | ((with_reducible refine pre_load _ _ rfl ?_); first | refine lO hp rfl (sTm rfl) ceXM0 aa14 ?_ | refine lA hp rfl (sTm rfl) (by with_reducible first | exact agg29 | exact agg26) aa14 ?_) | ((with_reducible refine pre_store _ _ _ rfl ?_); (first | refine sO hp rfl (sTm rfl) ceXM0 aa14 ?_ | refine sA hp rfl (sTm rfl) (sTm rfl) (by with_reducible first | exact agg29 | exact agg26) aa14 ?_ | refine sG hp rfl (sTm rfl) (sTm rfl) (by with_reducible first | exact agg29 | exact agg26) aa14 ?_); clear hp; intro w1 hp; simp only [spl, zSet, sSet] at hp) | ((with_reducible refine pre_build _ _ _ rfl ?_); refine lS hp rfl (by intro w; go_simp; rfl) ?_; clear hp; intro b w1 hp; simp only [List.length_cons, List.length_nil, Nat.reduceAdd] at hp)); simp only [put_some, put_none, sSet, zSet]))
  · have HSX := Lib.hid (hbb (by first | rfl | trivial))
    have HSH : RowKit.Hid (Hv.Small ⟨odX, oaX, osX, ocX, nxX, t0X, t1X, t2X, t3X, faX, fsX, fcX⟩) := Lib.hid HSX.out.1
    have HIH : RowKit.Hid (Hv.Is w ⟨odX, oaX, osX, ocX, nxX, t0X, t1X, t2X, t3X, faX, fsX, fcX⟩) := Lib.hid HIX.out.1
    clear hbb
    cases hbX : stB ⟨⟨odX, oaX, osX, ocX, nxX, t0X, t1X, t2X, t3X, faX, fsX, fcX⟩, raX, rsX, rcX⟩ with
    | false =>
      have HBX := Lib.hid hbX
      clear hbX
      cases hbH : hrightB ⟨odX, oaX, osX, ocX, nxX, t0X, t1X, t2X, t3X, faX, fsX, fcX⟩ with
      | false =>
        have HBH := Lib.hid hbH
        clear hbH
        go_wp2_with (first | (go_at_call 6; (with_reducible refine (puts_no odX oaX osX ocX nxX t0X t1X t2X t3X faX fsX fcX raX rsX rcX HBX.out HSX.out _ (HIX.out.below hp.below)).mono ?_); rintro e w1 ⟨rfl, hb⟩; replace hp := hp.call hb; clear hb) | (go_at_call 7; (with_reducible refine (puth_no odX oaX osX ocX nxX t0X t1X t2X t3X faX fsX fcX HBH.out HSH.out _ (HIH.out.below hp.below)).mono ?_); rintro e w1 ⟨rfl, hb⟩; replace hp := hp.call hb; clear hb) | (go_at_call 8; (with_reducible refine (states8 _).mono ?_); rintro e w1 ⟨rfl, hb⟩; replace hp := hp.call hb; clear hb) | (go_at_call 9; (with_reducible refine (heaps9 _).mono ?_); rintro e w1 ⟨rfl, hb⟩; replace hp := hp.call hb; clear hb) | go_skip | ((first | ((with_reducible refine pre_alloc _ rfl ?_); refine lZ hp rfl (by with_reducible first | exact zero29 | exact zero26) ?_; clear hp; intro b w1 hp) | ((with_reducible refine pre_box _ _ rfl ?_); refine lB hp rfl (sTm rfl) rfl ?_; clear hp; intro b w1 hp) | ((with_reducible refine pre_load _ _ rfl ?_); first | refine lO hp rfl (sTm rfl) ceXM0 aa14 ?_ | refine lA hp rfl (sTm rfl) (by with_reducible first | exact agg29 | exact agg26) aa14 ?_) | ((with_reducible refine pre_store _ _ _ rfl ?_); (first | refine sO hp rfl (sTm rfl) ceXM0 aa14 ?_ | refine sA hp rfl (sTm rfl) (sTm rfl) (by with_reducible first | exact agg29 | exact agg26) aa14 ?_ | refine sG hp rfl (sTm rfl) (sTm rfl) (by with_reducible first | exact agg29 | exact agg26) aa14 ?_); clear hp; intro w1 hp; simp only [spl, zSet, sSet] at hp) | ((with_reducible refine pre_build _ _ _ rfl ?_); refine lS hp rfl (by intro w; go_simp; rfl) ?_; clear hp; intro b w1 hp; simp only [List.length_cons, List.length_nil, Nat.reduceAdd] at hp)); simp only [put_some, put_none, sSet, zSet]))
        go_ret
        exact ⟨rfl, hp.below⟩
      | true =>
        have HBH := Lib.hid hbH
        clear hbH
        go_wp2_with (first | (go_at_call 6; (with_reducible refine (puts_no odX oaX osX ocX nxX t0X t1X t2X t3X faX fsX fcX raX rsX rcX HBX.out HSX.out _ (HIX.out.below hp.below)).mono ?_); rintro e w1 ⟨rfl, hb⟩; replace hp := hp.call hb; clear hb) | (go_at_call 7; (with_reducible refine (puth_M odX oaX osX ocX nxX t0X t1X t2X t3X faX fsX fcX _ rfl _ rfl HBH.out _ (HIH.out.below hp.below)).mono ?_); rintro e w1 ⟨a1, k1, R1, rfl, _, _, _, hpn⟩; replace hp := hp.join hpn; clear hpn; simp only [List.cons_append, List.nil_append, List.append_assoc] at hp) | (go_at_call 8; (with_reducible refine (states8 _).mono ?_); rintro e w1 ⟨rfl, hb⟩; replace hp := hp.call hb; clear hb) | (go_at_call 9; (with_reducible refine (heaps9 _).mono ?_); rintro e w1 ⟨rfl, hb⟩; replace hp := hp.call hb; clear hb) | go_skip | ((first | ((with_reducible refine pre_alloc _ rfl ?_); refine lZ hp rfl (by with_reducible first | exact zero29 | exact zero26) ?_; clear hp; intro b w1 hp) | ((with_reducible refine pre_box _ _ rfl ?_); refine lB hp rfl (sTm rfl) rfl ?_; clear hp; intro b w1 hp) | ((with_reducible refine pre_load _ _ rfl ?_); first | refine lO hp rfl (sTm rfl) ceXM0 aa14 ?_ | refine lA hp rfl (sTm rfl) (by with_reducible first | exact agg29 | exact agg26) aa14 ?_) | ((with_reducible refine pre_store _ _ _ rfl ?_); (first | refine sO hp rfl (sTm rfl) ceXM0 aa14 ?_ | refine sA hp rfl (sTm rfl) (sTm rfl) (by with_reducible first | exact agg29 | exact agg26) aa14 ?_ | refine sG hp rfl (sTm rfl) (sTm rfl) (by with_reducible first | exact agg29 | exact agg26) aa14 ?_); clear hp; intro w1 hp; simp only [spl, zSet, sSet] at hp) | ((with_reducible refine pre_build _ _ _ rfl ?_); refine lS hp rfl (by intro w; go_simp; rfl) ?_; clear hp; intro b w1 hp; simp only [List.length_cons, List.length_nil, Nat.reduceAdd] at hp)); simp only [put_some, put_none, sSet, zSet]))
        go_ret
        exact ⟨rfl, hp.below⟩
    | true =>
      have HBX := Lib.hid hbX
      have hst := st_of hbX
      have HBH : RowKit.Hid (hrightB ⟨odX, oaX, osX, ocX, nxX, t0X, t1X, t2X, t3X, faX, fsX, fcX⟩ = true) := Lib.hid (hright_yes hst.hv)
      have hg1 := stateR_put hst HWX.out
      have hg2 := heapR_put hst.hv HWX.out.hv
      have hl2 := heapB_len hst.hv
      have hl1 : (stateB ⟨⟨odX, oaX, osX, ocX, nxX, t0X, t1X, t2X, t3X, faX, fsX, fcX⟩, raX, rsX, rcX⟩).length ≤ 5000000 := by
        have h2 := rowsOk_len hst.rows (by decide)
        unfold stateB
        rw [List.length_append, List.length_append, List.length_append, beS_len, bn4_len, rowsB_len]
        simp only [List.length_cons, List.length_nil] at h2 ⊢
        simp only at hl2
        omega
      have hb1 := stateB_bytes ⟨⟨odX, oaX, osX, ocX, nxX, t0X, t1X, t2X, t3X, faX, fsX, fcX⟩, raX, rsX, rcX⟩
      have hb2 := heapB_bytes ⟨odX, oaX, osX, ocX, nxX, t0X, t1X, t2X, t3X, faX, fsX, fcX⟩
      obtain ⟨ss, hss⟩ : ∃ ss, stateB ⟨⟨odX, oaX, osX, ocX, nxX, t0X, t1X, t2X, t3X, faX, fsX, fcX⟩, raX, rsX, rcX⟩ = ss := ⟨_, rfl⟩
      obtain ⟨sh, hsh⟩ : ∃ sh, heapB ⟨odX, oaX, osX, ocX, nxX, t0X, t1X, t2X, t3X, faX, fsX, fcX⟩ = sh := ⟨_, rfl⟩
      simp only at hg2 hl2
      rw [hss] at hg1 hl1 hb1
      rw [hsh] at hg2 hl2 hb2
      have HPX := Lib.hid hss
      have HPH := Lib.hid hsh
      have HBS := Lib.hid hb1
      have HBH2 := Lib.hid hb2
      have hn1 : ss ≠ [] := by rintro rfl; rw [show stateR [] = none from rfl] at hg1; cases hg1
      have hn2 : sh ≠ [] := by rintro rfl; rw [show heapR [] = none from rfl] at hg2; cases hg2
      have HE1 := Lib.hid (state_less hn1 hg1)
      have HE2 := Lib.hid (heap_less hn2 hg2)
      have HE3 := Lib.hid (state_more mo hg1)
      have HE4 := Lib.hid (heap_more mo hg2)
      have hi1 : ∀ (w : World) (a : Option Addr), RdAt w a ss → RdAt w a ss.dropLast := fun w a h => by rw [← List.dropLast_concat_getLast hn1] at h; exact h.init
      have hi2 : ∀ (w : World) (a : Option Addr), RdAt w a sh → RdAt w a sh.dropLast := fun w a h => by rw [← List.dropLast_concat_getLast hn2] at h; exact h.init
      have HI1 : RowKit.Hid (∀ ⦃w : World⦄ ⦃a : Option Addr⦄, RdAt w a ss → RdAt w a ss.dropLast) := Lib.hid hi1
      have HI2 : RowKit.Hid (∀ ⦃w : World⦄ ⦃a : Option Addr⦄, RdAt w a sh → RdAt w a sh.dropLast) := Lib.hid hi2
      obtain ⟨n1, hd1⟩ : ∃ n, ss.length = n + 1 := ⟨ss.length - 1, by have := List.length_pos_iff.2 hn1; omega⟩
      obtain ⟨n2, hd2⟩ : ∃ n, sh.length = n + 1 := ⟨sh.length - 1, by have := List.length_pos_iff.2 hn2; omega⟩
      obtain ⟨m1, hm1⟩ : ∃ m, ss.length = m := ⟨_, rfl⟩
      obtain ⟨m2, hm2⟩ : ∃ m, sh.length = m := ⟨_, rfl⟩
      have HD1 : RowKit.Hid (ss.dropLast.length = n1) := Lib.hid (by rw [List.length_dropLast]; omega)
      have HD2 : RowKit.Hid (sh.dropLast.length = n2) := Lib.hid (by rw [List.length_dropLast]; omega)
      have HD3 : RowKit.Hid ((ss ++ [mo]).length = m1 + 1) := Lib.hid (by rw [List.length_append, hm1]; rfl)
      have HD4 : RowKit.Hid ((sh ++ [mo]).length = m2 + 1) := Lib.hid (by rw [List.length_append, hm2]; rfl)
      generalize ss.dropLast = d1 at HE1 HD1 HI1
      generalize sh.dropLast = d2 at HE2 HD2 HI2
      have hq1 : m1 = n1 + 1 := by omega
      have hq2 : m2 = n2 + 1 := by omega
      have e1 : wrap64 ((m1 : Int) - 1) = (n1 : Int) := by unfold wrap64; omega
      have e2 : wrap64 ((m2 : Int) - 1) = (n2 : Int) := by unfold wrap64; omega
      have e3 : ((m1 : Int) == 0) = false := by simp; omega
      have e4 : ((m2 : Int) == 0) = false := by simp; omega
      have f1 : (0 : Int) ≤ (n1 : Int) := by omega
      have f2 : (0 : Int) ≤ (n2 : Int) := by omega
      have HM1 := Lib.hid hm1
      have HM2 := Lib.hid hm2
      have HB1 : RowKit.Hid (n1 ≤ 1000000000) := Lib.hid (by omega)
      have HB3 : RowKit.Hid (m1 + 1 ≤ 1000000000) := Lib.hid (by omega)
      have HL1 : RowKit.Hid (m1 + 1 ≤ maxLen) := Lib.hid (by unfold maxLen; omega)
      have HL2 : RowKit.Hid ((m1 + 1) * 1 ≤ 140737488355328) := Lib.hid (by omega)
      have HL3 : RowKit.Hid (m2 + 1 ≤ maxLen) := Lib.hid (by unfold maxLen; omega)
      have HL4 : RowKit.Hid ((m2 + 1) * 1 ≤ 140737488355328) := Lib.hid (by omega)
      have HNK1 : RowKit.Hid (∀ ⦃k : Nat⦄, m1 ≤ k → n1 ≤ k) := Lib.hid (fun k h => by omega)
      have HNK2 : RowKit.Hid (∀ ⦃k : Nat⦄, m2 ≤ k → n2 ≤ k) := Lib.hid (fun k h => by omega)
      clear hbX hst hg1 hg2 hl1 hl2 hb1 hb2 hss hsh hn1 hn2 hi1 hi2 hd1 hd2 hm1 hm2 hq1 hq2
      go_wp2_with (first | (go_at_call 6; (with_reducible refine (puts_M odX oaX osX ocX nxX t0X t1X t2X t3X faX fsX fcX raX rsX rcX ss HPX.out m1 HM1.out HBX.out _ (HIX.out.below hp.below)).mono ?_); rintro e w1 ⟨a1, k1, R1, rfl, hk, hs, hr, hpn⟩; replace hp := hp.join hpn; have HK1 := Lib.hid hk; have HS1 := Lib.hid hs; have HR1 := Lib.hid hr; have c1 : (n1 : Int) ≤ (k1 : Int) := Int.ofNat_le.2 (HNK1.out hk); clear hpn hk hr hs; simp only [List.cons_append, List.nil_append, List.append_assoc] at hp) | (go_at_call 7; (with_reducible refine (puth_M odX oaX osX ocX nxX t0X t1X t2X t3X faX fsX fcX sh HPH.out m2 HM2.out HBH.out _ (HIH.out.below hp.below)).mono ?_); rintro e w1 ⟨a2, k2, R2, rfl, hk, hs, hr, hpn⟩; replace hp := hp.join hpn; have HK2 := Lib.hid hk; have HS2 := Lib.hid hs; have HR2 := Lib.hid hr; have c2 : (n2 : Int) ≤ (k2 : Int) := Int.ofNat_le.2 (HNK2.out hk); clear hpn hk hr hs; simp only [List.cons_append, List.nil_append, List.append_assoc] at hp) | (go_at_call 10; (with_reducible refine (gets_N d1 HE1.out a1 n1 k1 HD1.out (HNK1.out HK1.out) HB1.out _ (HI1.out (HR1.out.at hp (fun p hm => by simp [hm])))).mono ?_); rintro e w1 ⟨rfl, hb⟩; replace hp := hp.call hb; clear hb) | (go_at_call 11; (with_reducible refine (geth_no d2 HE2.out a2 n2 k2 HD2.out (HNK2.out HK2.out) _ (HI2.out (HR2.out.at hp (fun p hm => by simp [hm])))).mono ?_); rintro e w1 ⟨rfl, hb⟩; replace hp := hp.call hb; clear hb) | ((with_reducible refine pre_append2 _ _ 31 31 rfl ?_); refine wpList_appendSub (R := R1) (pull4 hp) _ _ _ _ rfl wy 5 i0 _ 1 1 Try.underlying31 hi0 hz0 hz1 hz2 rfl _ m1 (ss.flatMap byV) (sTm rfl) HS1.out _ (sTm rfl) 1 [.int .u8 mo] (Src.ofRow Try.underlying31 (by decide) _ 1 1 [.int .u8 mo] rfl (hp.rowIs at0) rfl) HL1.out HL2.out ?_; clear hp HS1; intro v' R' w1 hR' hp; obtain ⟨a3, k3, rfl, hk3, hr3⟩ := hR'.kept; have HK3 := Lib.hid hk3; have HR3 := Lib.hid (more_rd HBS.out HMO.out hr3); clear hR' hk3 hr3; replace hp := push4 hp; simp only [put_some, put_none, sSet, zSet]) | ((with_reducible refine pre_append2 _ _ 31 31 rfl ?_); refine wpList_appendSub (R := R2) (pull5 hp) _ _ _ _ rfl wy 5 i0 _ 1 1 Try.underlying31 hi0 hz0 hz1 hz2 rfl _ m2 (sh.flatMap byV) (sTm rfl) HS2.out _ (sTm rfl) 1 [.int .u8 mo] (Src.ofRow Try.underlying31 (by decide) _ 1 1 [.int .u8 mo] rfl (hp.rowIs at0) rfl) HL3.out HL4.out ?_; clear hp HS2; intro v' R'' w1 hR' hp; obtain ⟨a4, k4, rfl, hk4, hr4⟩ := hR'.kept; have HK4 := Lib.hid hk4; have HR4 := Lib.hid (more_rd HBH2.out HMO.out hr4); clear hR' hk4 hr4; replace hp := push5 hp; simp only [put_some, put_none, sSet, zSet]) | (go_at_call 10; (with_reducible refine (gets_N (ss ++ [mo]) HE3.out a3 (m1 + 1) k3 HD3.out HK3.out HB3.out _ (HR3.out.at hp (fun p hm => by simp [hm]))).mono ?_); rintro e w1 ⟨rfl, hb⟩; replace hp := hp.call hb; clear hb) | (go_at_call 11; (with_reducible refine (geth_no (sh ++ [mo]) HE4.out a4 (m2 + 1) k4 HD4.out HK4.out _ (HR4.out.at hp (fun p hm => by simp [hm]))).mono ?_); rintro e w1 ⟨rfl, hb⟩; replace hp := hp.call hb; clear hb) | (go_at_call 8; (with_reducible refine (states8 _).mono ?_); rintro e w1 ⟨rfl, hb⟩; replace hp := hp.call hb; clear hb) | (go_at_call 9; (with_reducible refine (heaps9 _).mono ?_); rintro e w1 ⟨rfl, hb⟩; replace hp := hp.call hb; clear hb) | go_skip | ((first | ((with_reducible refine pre_alloc _ rfl ?_); refine lZ hp rfl (by with_reducible first | exact zero29 | exact zero26) ?_; clear hp; intro b w1 hp) | ((with_reducible refine pre_box _ _ rfl ?_); refine lB hp rfl (sTm rfl) rfl ?_; clear hp; intro b w1 hp) | ((with_reducible refine pre_load _ _ rfl ?_); first | refine lO hp rfl (sTm rfl) ceXM0 aa14 ?_ | refine lA hp rfl (sTm rfl) (by with_reducible first | exact agg29 | exact agg26) aa14 ?_) | ((with_reducible refine pre_store _ _ _ rfl ?_); (first | refine sO hp rfl (sTm rfl) ceXM0 aa14 ?_ | refine sA hp rfl (sTm rfl) (sTm rfl) (by with_reducible first | exact agg29 | exact agg26) aa14 ?_ | refine sG hp rfl (sTm rfl) (sTm rfl) (by with_reducible first | exact agg29 | exact agg26) aa14 ?_); clear hp; intro w1 hp; simp only [spl, zSet, sSet] at hp) | ((with_reducible refine pre_build _ _ _ rfl ?_); refine lS hp rfl (by intro w; go_simp; rfl) ?_; clear hp; intro b w1 hp; simp only [List.length_cons, List.length_nil, Nat.reduceAdd] at hp)); simp only [put_some, put_none, sSet, zSet]))
      go_ret
      exact ⟨rfl, hp.below⟩
  · go_wp2_with (first | go_skip | ((first | ((with_reducible refine pre_alloc _ rfl ?_); refine lZ hp rfl (by with_reducible first | exact zero29 | exact zero26) ?_; clear hp; intro b w1 hp) | ((with_reducible refine pre_box _ _ rfl ?_); refine lB hp rfl (sTm rfl) rfl ?_; clear hp; intro b w1 hp) | ((with_reducible refine pre_load _ _ rfl ?_); first | refine lO hp rfl (sTm rfl) ceXM0 aa14 ?_ | refine lA hp rfl (sTm rfl) (by with_reducible first | exact agg29 | exact agg26) aa14 ?_) | ((with_reducible refine pre_store _ _ _ rfl ?_); (first | refine sO hp rfl (sTm rfl) ceXM0 aa14 ?_ | refine sA hp rfl (sTm rfl) (sTm rfl) (by with_reducible first | exact agg29 | exact agg26) aa14 ?_ | refine sG hp rfl (sTm rfl) (sTm rfl) (by with_reducible first | exact agg29 | exact agg26) aa14 ?_); clear hp; intro w1 hp; simp only [spl, zSet, sSet] at hp) | ((with_reducible refine pre_build _ _ _ rfl ?_); refine lS hp rfl (by intro w; go_simp; rfl) ?_; clear hp; intro b w1 hp; simp only [List.length_cons, List.length_nil, Nat.reduceAdd] at hp)); simp only [put_some, put_none, sSet, zSet]))
    go_ret
    exact ⟨rfl, hp.below⟩
theorem has_U8 {n : Int} (h : IntKind.u8.has n) : 0 ≤ n ∧ n < 256 := by
  have h5 : IntKind.u8.max = 255 := by decide
  have h6 : IntKind.u8.min = 0 := by decide
  have h7 := h.1
  have h8 := h.2
  rw [h6] at h7
  rw [h5] at h8
  exact ⟨h7, by omega⟩
theorem law3 (x : Sv) (mo : Int) (h0 : 0 ≤ mo) (h1 : mo < 256) (w : World) (hx : x.Is w ∧ x.W64) :
    Calls Try.prog 3 #[.agg (svL x).toArray, .int .u8 mo] w fun e w' => e = .returned (.bool true) ∧ Below w.heap.size w w' := by
  obtain ⟨⟨odX, oaX, osX, ocX, nxX, t0X, t1X, t2X, t3X, faX, fsX, fcX⟩, raX, rsX, rcX⟩ := x
  obtain ⟨m, rfl⟩ := Int.eq_ofNat_of_zero_le h0
  exact law_more odX oaX osX ocX nxX t0X t1X t2X t3X faX fsX fcX raX rsX rcX m (by omega) w hx.1 hx.2
end Go.Proofs.Ytaafajaadfgaoaa

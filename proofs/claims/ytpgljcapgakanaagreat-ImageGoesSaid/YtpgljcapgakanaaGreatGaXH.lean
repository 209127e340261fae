import Derived.Test.YtpgljcapgakanaaGreatGaPL
import Derived.Test.YtpgljcapgakanaaGreatGaQC
/- Heaps that are laid and read, by their parts; the chapter's examples of heaps. -/
set_option linter.unusedSimpArgs false
set_option linter.unusedVariables false
namespace Go.Proofs.YtpgljcapgakanaaGreat
open Go.RowKit
theorem ceXH0 {ty : TypeId} (h : cellB Tryz.prog ty = true := by with_reducible first | exact cell3 | exact cell4 | exact cell32 | exact cell34 | exact cell24) : cellB Tryz.prog ty = true := h
theorem RowIs.fixC {w : World} {b off : Nat} {xs : List Value} (h : RowIs w (some ⟨b, off, none⟩) xs) : ∀ j v, xs[j]? = some v → w.cell? ⟨b, off + j, none⟩ = some v := fun j v hj => by
  obtain ⟨b', off', he, hc⟩ := h j v hj
  injection he with he; injection he with e1 e2; subst e1; subst e2; exact hc
theorem obsB_sm {l k : List Ob} (h : ObsSm l k) : l.flatMap obB = k.flatMap obB := by
  have : l.map obB = k.map obB := by
    apply List.ext_getElem?
    intro i
    rw [List.getElem?_map, List.getElem?_map]
    rcases Nat.lt_or_ge i l.length with hi | hi
    · have ha := List.getElem?_eq_getElem hi
      have hb := List.getElem?_eq_getElem (l := k) (i := i) (by have := h.1; omega)
      obtain ⟨h1, h2, h3, h4, h5⟩ := h.2 i _ _ ha hb
      rw [ha, hb]
      simp only [Option.map_some, obB, h1, h2, h4, h5]
    · rw [List.getElem?_eq_none hi, List.getElem?_eq_none (by have := h.1; omega)]
  rw [List.flatMap_def, List.flatMap_def, this]
theorem heapB_sm {x y : Hv} (h : x.Sm y) : heapB x = heapB y := by
  unfold heapB headB
  rw [h.od, h.nx, h.t0, h.t1, h.t2, h.t3, obsB_sm h.os, h.os.1]
def GotH (w : World) (x : Hv) (e : Ending) (w' : World) : Prop := ∃ od oa os oc nx t0 t1 t2 t3 fa fs fc R, e = .returned (.tuple #[.agg #[.int .i64 od, .slice oa (List.length os) oc, .int .i64 nx, .int .i64 t0, .int .i64 t1, .int .i64 t2, .int .i64 t3, .slice fa (List.length fs) fc], .int .i64 0]) ∧ Hv.Sm ⟨od, oa, os, oc, nx, t0, t1, t2, t3, fa, fs, fc⟩ x ∧ HvO ⟨od, oa, os, oc, nx, t0, t1, t2, t3, fa, fs, fc⟩ R ∧ Hp w.heap.size w w' R
theorem HvO.kept {y : Hv} {R : List Blk} (h : HvO y R) : Kept R fun w => y.Is w := by
  obtain ⟨RO, RF, M, rfl, h⟩ := h
  exact h.kept
theorem geth_yes (bs : List Nat) (x : Hv) (hr : heapR bs = some x) (a : Option Addr) (n c : Nat) (hn : bs.length = n) (hnc : n ≤ c) (w : World) (ha : RdAt w a bs) : Calls Tryz.prog 28 #[.slice a n c] w (GotH w x) := by
  subst hn
  refine (geth28 bs a c hnc w ha).mono fun e w' h => ?_
  rw [hr] at h
  obtain ⟨y, R, h1, h2, h3, h4⟩ := h
  obtain ⟨od, oa, os, oc, nx, t0, t1, t2, t3, fa, fs, fc⟩ := y
  exact ⟨od, oa, os, oc, nx, t0, t1, t2, t3, fa, fs, fc, R, h1, h2, h3, h4⟩
theorem geth_no (bs : List Nat) (hr : heapR bs = none) (a : Option Addr) (n c : Nat) (hn : bs.length = n) (hnc : n ≤ c) (w : World) (ha : RdAt w a bs) : Calls Tryz.prog 28 #[.slice a n c] w fun e w' => e = .returned (.tuple #[.agg #[.int .i64 0, .slice none 0 0, .int .i64 0, .int .i64 0, .int .i64 0, .int .i64 0, .int .i64 0, .slice none 0 0], .int .i64 60]) ∧ Below w.heap.size w w' := by
  subst hn
  refine (geth28 bs a c hnc w ha).mono fun e w' h => ?_
  rw [hr] at h
  exact h
theorem heapR_nil : heapR [] = none := rfl
theorem rd_nil (w : World) : RdAt w none [] := ⟨RowIs.nil _ _, Bytes.nil⟩
theorem geth_nil (w : World) : Calls Tryz.prog 28 #[.slice none 0 0] w fun e w' => e = .returned (.tuple #[.agg #[.int .i64 0, .slice none 0 0, .int .i64 0, .int .i64 0, .int .i64 0, .int .i64 0, .int .i64 0, .slice none 0 0], .int .i64 60]) ∧ Below w.heap.size w w' := geth_no [] heapR_nil none 0 0 rfl (Nat.le_refl _) w (rd_nil w)
theorem SubRow.cap {e : TypeId} {c n m : Nat} {a : Option Addr} {k : Nat} {xs : List Value} {R : List Blk} (h : SubRow e c (.slice a n k) m xs R) (hn : n = m) : m ≤ k := by
  obtain ⟨a', k', hv, hk, _⟩ := h.kept
  injection hv with _ _ hk'
  omega
theorem puth_yes (od : Int) (oa : Option Addr) (os : List Ob) (oc : Nat) (nx t0 t1 t2 t3 : Int) (fa : Option Addr) (fs : List Bl) (fc : Nat) (bs : List Nat) (hbs : heapB ⟨od, oa, os, oc, nx, t0, t1, t2, t3, fa, fs, fc⟩ = bs) (hb : hrightB ⟨od, oa, os, oc, nx, t0, t1, t2, t3, fa, fs, fc⟩ = true) (w : World) (hx0 : Hv.Is w ⟨od, oa, os, oc, nx, t0, t1, t2, t3, fa, fs, fc⟩) :
    Calls Tryz.prog 30 #[.agg #[.int .i64 od, .slice oa os.length oc, .int .i64 nx, .int .i64 t0, .int .i64 t1, .int .i64 t2, .int .i64 t3, .slice fa fs.length fc]] w fun e w' => ∃ a c m R, e = .returned (.tuple #[.slice a m c, .int .i64 0]) ∧ bs.length = m ∧ m ≤ c ∧ SubRow 5 1 (.slice a m c) m (bs.flatMap byV) R ∧ Kept R (fun w => RdAt w a bs) ∧ Hp w.heap.size w w' R := by
  refine (puth_L od oa os oc nx t0 t1 t2 t3 fa fs fc bs hbs hb w hx0).mono fun e w' h => ?_
  obtain ⟨a, c, m, R, h1, h2, h3, h4⟩ := h
  refine ⟨a, c, m, R, h1, h2, h3.cap rfl, h3, ?_, h4⟩
  have hby : Bytes bs := by rw [← hbs]; exact heapB_bytes _
  exact h3.keptS.mono (fun _ hp => hp) fun w hw => ⟨hw, hby⟩
theorem puth_no (od : Int) (oa : Option Addr) (os : List Ob) (oc : Nat) (nx t0 t1 t2 t3 : Int) (fa : Option Addr) (fs : List Bl) (fc : Nat) (hb : hrightB ⟨od, oa, os, oc, nx, t0, t1, t2, t3, fa, fs, fc⟩ = false) (hs : Hv.Small ⟨od, oa, os, oc, nx, t0, t1, t2, t3, fa, fs, fc⟩) (w : World) (hx0 : Hv.Is w ⟨od, oa, os, oc, nx, t0, t1, t2, t3, fa, fs, fc⟩) :
    Calls Tryz.prog 30 #[.agg #[.int .i64 od, .slice oa os.length oc, .int .i64 nx, .int .i64 t0, .int .i64 t1, .int .i64 t2, .int .i64 t3, .slice fa fs.length fc]] w fun e w' => e = .returned (.tuple #[.slice none 0 0, .int .i64 60]) ∧ Below w.heap.size w w' := puth30_no _ hb hs w hx0
theorem puth_zero (w : World) : Calls Tryz.prog 30 #[.agg #[.int .i64 0, .slice none 0 0, .int .i64 0, .int .i64 0, .int .i64 0, .int .i64 0, .int .i64 0, .slice none 0 0]] w fun e w' => e = .returned (.tuple #[.slice none 0 0, .int .i64 60]) ∧ Below w.heap.size w w' :=
  puth_no 0 none [] 0 0 0 0 0 0 none [] 0 hright_zero ⟨⟨by simp, by simp⟩, by simp⟩ w ⟨RowIs.nil _ _, (fun o ho => by cases ho), RowIs.nil _ _⟩
def b28 : List Nat := [0, 0, 0, 3, 0, 0, 0, 1, 0, 0, 0, 0, 0, 0, 0, 0, 0, 0, 0, 0, 0, 0, 0, 0, 0, 0, 0, 0]
theorem heapB_one : heapB (oneHv 3) = b28 := rfl
theorem right_one3 : hrightB (oneHv 3) = true := hright_one (by decide) (by decide)
theorem heapR_one : heapR b28 = some (clearH (oneHv 3)) := by
  rw [← heapB_one]; exact heapR_put (hright_of right_one3) (fun o ho => by cases ho)
def GotK (w : World) (x : Hv) (e : Ending) (w' : World) : Prop := ∃ od oa os oc nx t0 t1 t2 t3 fa fs fc R, e = .returned (.tuple #[.agg #[.int .i64 od, .slice oa (List.length os) oc, .int .i64 nx, .int .i64 t0, .int .i64 t1, .int .i64 t2, .int .i64 t3, .slice fa (List.length fs) fc], .int .i64 0]) ∧ Hv.Sm ⟨od, oa, os, oc, nx, t0, t1, t2, t3, fa, fs, fc⟩ x ∧ Kept R (fun w => Hv.Is w ⟨od, oa, os, oc, nx, t0, t1, t2, t3, fa, fs, fc⟩) ∧ Hp w.heap.size w w' R
theorem newh_3 (w : World) : Calls Tryz.prog 75 #[.int .i64 3] w (GotK w (oneHv 3)) := by
  refine (newh75_yes 3 rfl w).mono fun e w' h => ?_
  obtain ⟨y, R, h1, h2, h3, h4⟩ := h
  obtain ⟨od, oa, os, oc, nx, t0, t1, t2, t3, fa, fs, fc⟩ := y
  exact ⟨od, oa, os, oc, nx, t0, t1, t2, t3, fa, fs, fc, R, h1, h2, h3, h4⟩
theorem puth_one (od : Int) (oa : Option Addr) (os : List Ob) (oc : Nat) (nx t0 t1 t2 t3 : Int) (fa : Option Addr) (fs : List Bl) (fc : Nat) (hsm : Hv.Sm ⟨od, oa, os, oc, nx, t0, t1, t2, t3, fa, fs, fc⟩ (oneHv 3)) (w : World) (hx0 : Hv.Is w ⟨od, oa, os, oc, nx, t0, t1, t2, t3, fa, fs, fc⟩) :
    Calls Tryz.prog 30 #[.agg #[.int .i64 od, .slice oa os.length oc, .int .i64 nx, .int .i64 t0, .int .i64 t1, .int .i64 t2, .int .i64 t3, .slice fa fs.length fc]] w fun e w' => ∃ b off c R, e = .returned (.tuple #[.slice (some ⟨b, off, none⟩) 28 c, .int .i64 0]) ∧ 28 ≤ c ∧ Kept R (fun w => RdAt w (some ⟨b, off, none⟩) b28) ∧ Hp w.heap.size w w' R := by
  refine (puth_yes od oa os oc nx t0 t1 t2 t3 fa fs fc b28 ((heapB_sm hsm).trans heapB_one) ((hright_sm hsm).trans right_one3) w hx0).mono fun e w' h => ?_
  obtain ⟨a, c, m, R, h1, h2, h3, h4, h5, h6⟩ := h
  have hm : m = 28 := h2.symm
  subst hm
  obtain ⟨b, off, rfl, _⟩ := (h5.at h6 (fun p hm => hm)).1.elems 1 byV_len (by decide) (by decide)
  exact ⟨b, off, c, R, h1, h3, h5, h6⟩
theorem geth_one (a : Option Addr) (c : Nat) (hnc : 28 ≤ c) (w : World) (ha : RdAt w a b28) : Calls Tryz.prog 28 #[.slice a 28 c] w fun e w' => ∃ od oa on oc t0 t1 t2 t3 fa fc R, e = .returned (.tuple #[.agg #[.int .i64 od, .slice oa on oc, .int .i64 1, .int .i64 t0, .int .i64 t1, .int .i64 t2, .int .i64 t3, .slice fa 1 fc], .int .i64 0]) ∧ Hp w.heap.size w w' R := by
  refine (geth_yes b28 _ heapR_one a 28 c rfl hnc w ha).mono fun e w' h => ?_
  obtain ⟨od, oa, os, oc, nx, t0, t1, t2, t3, fa, fs, fc, R, h1, h2, h3, h4⟩ := h
  have hnx : nx = 1 := h2.nx
  have hfs : fs = [⟨0, 3⟩] := h2.fs
  subst hnx hfs
  exact ⟨od, oa, os.length, oc, t0, t1, t2, t3, fa, fc, R, h1, h4⟩
theorem get28 {w : World} {b off : Nat} (h : RdAt w (some ⟨b, off, none⟩) b28) : w.cell? ⟨b, off + 3, none⟩ = some (.int .u8 3) ∧ w.cell? ⟨b, off + 7, none⟩ = some (.int .u8 1) := ⟨RowIs.fixC h.1 3 _ rfl, RowIs.fixC h.1 7 _ rfl⟩
set_option maxRecDepth 100000 in
set_option maxHeartbeats 8000000 in
theorem heaps34 (w : World) : Calls Tryz.prog 34 #[] w fun e w' => e = .returned (.bool true) ∧ Below w.heap.size w w' := by
  have hp := Hp.start w
  go_enter Tryz.func34, Tryz.ntmps34
  go_wp2_with (first | (go_at_call 75; (with_reducible refine (newh_3 _).mono ?_); rintro e w1 ⟨od, oa, os, oc, nx, t0, t1, t2, t3, fa, fs, fc, RN, rfl, hsm, hk, hpn⟩; replace hp := hp.join hpn; have HSM := Lib.hid hsm; have HK := Lib.hid hk; clear hpn hsm hk; simp only [List.cons_append, List.nil_append] at hp) | (go_at_call 30; (with_reducible refine (puth_one od oa os oc nx t0 t1 t2 t3 fa fs fc HSM.out _ (HK.out.at hp (fun p hm => by simp [hm]))).mono ?_); rintro e w1 ⟨ab, ob, cb, RB, rfl, hcb, hkb, hpn⟩; replace hp := hp.join hpn; have HCB := Lib.hid hcb; have HKB := Lib.hid hkb; clear hpn hcb hkb; simp only [List.cons_append, List.nil_append] at hp) | (go_at_call 28; (with_reducible refine (geth_one _ cb HCB.out _ (HKB.out.at hp (fun p hm => by simp [hm]))).mono ?_); rintro e w1 ⟨odX, oaX, onX, ocX, t0X, t1X, t2X, t3X, faX, fcX, RX, rfl, hpn⟩; replace hp := hp.join hpn; clear hpn; simp only [List.cons_append, List.nil_append] at hp) | (go_at_call 28; (with_reducible refine (geth_nil _).mono ?_); rintro e w1 ⟨rfl, hb⟩; replace hp := hp.call hb; clear hb) | (go_at_call 30; (with_reducible refine (puth_zero _).mono ?_); rintro e w1 ⟨rfl, hb⟩; replace hp := hp.call hb; clear hb) | ((with_reducible refine pre_load 5 _ rfl ?_); first | refine lRO (Hp.start _) rfl (slot_tmp rfl) cell5 (get28 (HKB.out.at hp (fun p hm => by simp [hm]))).1 ?_ | refine lRO (Hp.start _) rfl (slot_tmp rfl) cell5 (get28 (HKB.out.at hp (fun p hm => by simp [hm]))).2 ?_; simp only [put_some, put_none, List.set_cons_succ, List.set_cons_zero]) | go_skip | ((first | ((with_reducible refine pre_alloc _ rfl ?_); refine lZ hp rfl zero26 ?_; clear hp; intro b w1 hp) | ((with_reducible refine pre_box _ _ rfl ?_); refine lB hp rfl (slot_tmp rfl) rfl ?_; clear hp; intro b w1 hp) | ((with_reducible refine pre_load _ _ rfl ?_); first | refine lO hp rfl (slot_tmp rfl) ceXH0 aa5 ?_ | refine lA hp rfl (slot_tmp rfl) agg26 aa5 ?_) | ((with_reducible refine pre_store _ _ _ rfl ?_); (first | refine sO hp rfl (slot_tmp rfl) ceXH0 aa5 ?_ | refine sA hp rfl (slot_tmp rfl) (slot_tmp rfl) agg26 aa5 ?_ | refine sG hp rfl (slot_tmp rfl) (slot_tmp rfl) agg26 aa5 ?_); clear hp; intro w1 hp; simp only [spl, List.set_cons_zero, List.set_cons_succ] at hp)); simp only [put_some, put_none, List.set_cons_succ, List.set_cons_zero]))
  go_ret
  exact ⟨rfl, hp.below⟩
end Go.Proofs.YtpgljcapgakanaaGreat

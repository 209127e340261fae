/- Parts of the proof. -/
import Derived.Test.YtaafajaadfgaoaaGreatAz37
import Derived.Test.YtaafajaadfgaoaaGreatAz2
import Derived.Test.YtaafajaadfgaoaaGreatAz35
import Derived.Test.YtaafajaadfgaoaaGreatAz24
open List renaming set_cons_zero → zSet, set_cons_succ → sSet
/- Heaps that are laid and read, by their parts; the chapter's examples of heaps. -/
set_option linter.unusedSimpArgs false
set_option linter.unusedVariables false
namespace Go.Proofs.YtaafajaadfgaoaaGreat
open Go.RowKit
theorem ceXH0 {ty : TypeId} (h : cellB Tryz.prog ty = true := by with_reducible first | exact cell3 | exact cell4 | exact cell37 | exact cell57 | exact cell45) : cellB Tryz.prog ty = true := h
theorem RowIs.fixC {w : World} {b off : Nat} {xs : List Value} (h : RowIs w (some ⟨b, off, none⟩) xs) : ∀ j v, xs[j]? = some v → w.cell? ⟨b, off + j, none⟩ = some v := fun j v hj => by
  obtain ⟨b', off', he, hc⟩ := h j v hj
  injection he with he; injection he with e1 e2; subst e1; subst e2; exact hc
theorem obsB_sm {l k : List Ob} (h : ObsSm l k) : l.flatMap obB = k.flatMap obB := by
  have : l.map obB = k.map obB := by
    apply List.ext_getElem?
    intro i
    rw [List.getElem?_map, List.getElem?_map]
    rcases Nat.lt_or_ge i l.length with hi | hi
    · have ha := List.getElem?_eq_getElem hi
      have hb := List.getElem?_eq_getElem (l := k) (i := i) (by have := h.1; omega)
      obtain ⟨h1, h2, h3, h4, h5⟩ := h.2 i _ _ ha hb
      rw [ha, hb]
      simp only [Option.map_some, obB, h1, h2, h4, h5]
    · rw [List.getElem?_eq_none hi, List.getElem?_eq_none (by have := h.1; omega)]
  rw [List.flatMap_def, List.flatMap_def, this]
theorem heapB_sm {x y : Hv} (h : x.Sm y) : heapB x = heapB y := by
  unfold heapB headB
  rw [h.od, h.nx, h.t0, h.t1, h.t2, h.t3, obsB_sm h.os, h.os.1]
theorem stateB_sm {x y : Sv} (h : x.Sm y) : stateB x = stateB y := by
  unfold stateB; rw [heapB_sm h.1, h.2]
def GotH (w : World) (x : Hv) (e : Ending) (w' : World) : Prop := ∃ od oa os oc nx t0 t1 t2 t3 fa fs fc R, e = .returned (.tuple #[.agg #[.int .i64 od, .slice oa (List.length os) oc, .int .i64 nx, .int .i64 t0, .int .i64 t1, .int .i64 t2, .int .i64 t3, .slice fa (List.length fs) fc], .int .i64 0]) ∧ Hv.Sm ⟨od, oa, os, oc, nx, t0, t1, t2, t3, fa, fs, fc⟩ x ∧ HvO ⟨od, oa, os, oc, nx, t0, t1, t2, t3, fa, fs, fc⟩ R ∧ Hp w.heap.size w w' R
theorem HvO.kept {y : Hv} {R : List Blk} (h : HvO y R) : Kept R fun w => y.Is w := by
  obtain ⟨RO, RF, M, rfl, h⟩ := h
  exact h.kept
theorem geth_yes (bs : List Nat) (x : Hv) (hr : heapR bs = some x) (a : Option Addr) (n c : Nat) (hn : bs.length = n) (hnc : n ≤ c) (w : World) (ha : RdAt w a bs) : Calls Tryz.prog 42 #[.slice a n c] w (GotH w x) := by
  subst hn
  refine (geth42 bs a c hnc w ha).mono fun e w' h => ?_
  rw [hr] at h
  obtain ⟨y, R, h1, h2, h3, h4⟩ := h
  obtain ⟨od, oa, os, oc, nx, t0, t1, t2, t3, fa, fs, fc⟩ := y
  exact ⟨od, oa, os, oc, nx, t0, t1, t2, t3, fa, fs, fc, R, h1, h2, h3, h4⟩
theorem geth_no (bs : List Nat) (hr : heapR bs = none) (a : Option Addr) (n c : Nat) (hn : bs.length = n) (hnc : n ≤ c) (w : World) (ha : RdAt w a bs) : Calls Tryz.prog 42 #[.slice a n c] w fun e w' => e = .returned (.tuple #[.agg #[.int .i64 0, .slice none 0 0, .int .i64 0, .int .i64 0, .int .i64 0, .int .i64 0, .int .i64 0, .slice none 0 0], .int .i64 60]) ∧ Below w.heap.size w w' := by
  subst hn
  refine (geth42 bs a c hnc w ha).mono fun e w' h => ?_
  rw [hr] at h
  exact h
theorem heapR_nil : heapR [] = none := rfl
theorem rd_nil (w : World) : RdAt w none [] := ⟨RowIs.nil _ _, Bytes.nil⟩
theorem geth_nil (w : World) : Calls Tryz.prog 42 #[.slice none 0 0] w fun e w' => e = .returned (.tuple #[.agg #[.int .i64 0, .slice none 0 0, .int .i64 0, .int .i64 0, .int .i64 0, .int .i64 0, .int .i64 0, .slice none 0 0], .int .i64 60]) ∧ Below w.heap.size w w' := geth_no [] heapR_nil none 0 0 rfl (Nat.le_refl _) w (rd_nil w)
theorem SubRow.cap {e : TypeId} {c n m : Nat} {a : Option Addr} {k : Nat} {xs : List Value} {R : List Blk} (h : SubRow e c (.slice a n k) m xs R) (hn : n = m) : m ≤ k := by
  obtain ⟨a', k', hv, hk, _⟩ := h.kept
  injection hv with _ _ hk'
  omega
theorem puth_yes (od : Int) (oa : Option Addr) (os : List Ob) (oc : Nat) (nx t0 t1 t2 t3 : Int) (fa : Option Addr) (fs : List Bl) (fc : Nat) (bs : List Nat) (hbs : heapB ⟨od, oa, os, oc, nx, t0, t1, t2, t3, fa, fs, fc⟩ = bs) (hb : hrightB ⟨od, oa, os, oc, nx, t0, t1, t2, t3, fa, fs, fc⟩ = true) (w : World) (hx0 : Hv.Is w ⟨od, oa, os, oc, nx, t0, t1, t2, t3, fa, fs, fc⟩) :
    Calls Tryz.prog 25 #[.agg #[.int .i64 od, .slice oa os.length oc, .int .i64 nx, .int .i64 t0, .int .i64 t1, .int .i64 t2, .int .i64 t3, .slice fa fs.length fc]] w fun e w' => ∃ a c m R, e = .returned (.tuple #[.slice a m c, .int .i64 0]) ∧ bs.length = m ∧ m ≤ c ∧ SubRow 5 1 (.slice a m c) m (bs.flatMap byV) R ∧ Kept R (fun w => RdAt w a bs) ∧ Hp w.heap.size w w' R := by
  refine (puth_L od oa os oc nx t0 t1 t2 t3 fa fs fc bs hbs hb w hx0).mono fun e w' h => ?_
  obtain ⟨a, c, m, R, h1, h2, h3, h4⟩ := h
  refine ⟨a, c, m, R, h1, h2, h3.cap rfl, h3, ?_, h4⟩
  have hby : Bytes bs := by rw [← hbs]; exact heapB_bytes _
  exact h3.keptS.mono (fun _ hp => hp) fun w hw => ⟨hw, hby⟩
theorem puth_no (od : Int) (oa : Option Addr) (os : List Ob) (oc : Nat) (nx t0 t1 t2 t3 : Int) (fa : Option Addr) (fs : List Bl) (fc : Nat) (hb : hrightB ⟨od, oa, os, oc, nx, t0, t1, t2, t3, fa, fs, fc⟩ = false) (hs : Hv.Small ⟨od, oa, os, oc, nx, t0, t1, t2, t3, fa, fs, fc⟩) (w : World) (hx0 : Hv.Is w ⟨od, oa, os, oc, nx, t0, t1, t2, t3, fa, fs, fc⟩) :
    Calls Tryz.prog 25 #[.agg #[.int .i64 od, .slice oa os.length oc, .int .i64 nx, .int .i64 t0, .int .i64 t1, .int .i64 t2, .int .i64 t3, .slice fa fs.length fc]] w fun e w' => e = .returned (.tuple #[.slice none 0 0, .int .i64 60]) ∧ Below w.heap.size w w' := puth25_no _ hb hs w hx0
theorem puth_zero (w : World) : Calls Tryz.prog 25 #[.agg #[.int .i64 0, .slice none 0 0, .int .i64 0, .int .i64 0, .int .i64 0, .int .i64 0, .int .i64 0, .slice none 0 0]] w fun e w' => e = .returned (.tuple #[.slice none 0 0, .int .i64 60]) ∧ Below w.heap.size w w' :=
  puth_no 0 none [] 0 0 0 0 0 0 none [] 0 hright_zero ⟨⟨by simp, by simp⟩, by simp⟩ w ⟨RowIs.nil _ _, (fun o ho => by cases ho), RowIs.nil _ _⟩
def b28 : List Nat := [0, 0, 0, 3, 0, 0, 0, 1, 0, 0, 0, 0, 0, 0, 0, 0, 0, 0, 0, 0, 0, 0, 0, 0, 0, 0, 0, 0]
theorem heapB_one : heapB (oneHv 3) = b28 := rfl
theorem right_one3 : hrightB (oneHv 3) = true := hright_one (by decide) (by decide)
theorem heapR_one : heapR b28 = some (clearH (oneHv 3)) := by
  rw [← heapB_one]; exact heapR_put (hright_of right_one3) (fun o ho => by cases ho)
def GotK (w : World) (x : Hv) (e : Ending) (w' : World) : Prop := ∃ od oa os oc nx t0 t1 t2 t3 fa fs fc R, e = .returned (.tuple #[.agg #[.int .i64 od, .slice oa (List.length os) oc, .int .i64 nx, .int .i64 t0, .int .i64 t1, .int .i64 t2, .int .i64 t3, .slice fa (List.length fs) fc], .int .i64 0]) ∧ Hv.Sm ⟨od, oa, os, oc, nx, t0, t1, t2, t3, fa, fs, fc⟩ x ∧ Kept R (fun w => Hv.Is w ⟨od, oa, os, oc, nx, t0, t1, t2, t3, fa, fs, fc⟩) ∧ Hp w.heap.size w w' R
theorem newh_3 (w : World) : Calls Tryz.prog 81 #[.int .i64 3] w (GotK w (oneHv 3)) := by
  refine (newh81_yes 3 rfl w).mono fun e w' h => ?_
  obtain ⟨y, R, h1, h2, h3, h4⟩ := h
  obtain ⟨od, oa, os, oc, nx, t0, t1, t2, t3, fa, fs, fc⟩ := y
  exact ⟨od, oa, os, oc, nx, t0, t1, t2, t3, fa, fs, fc, R, h1, h2, h3, h4⟩
theorem puth_one (od : Int) (oa : Option Addr) (os : List Ob) (oc : Nat) (nx t0 t1 t2 t3 : Int) (fa : Option Addr) (fs : List Bl) (fc : Nat) (hsm : Hv.Sm ⟨od, oa, os, oc, nx, t0, t1, t2, t3, fa, fs, fc⟩ (oneHv 3)) (w : World) (hx0 : Hv.Is w ⟨od, oa, os, oc, nx, t0, t1, t2, t3, fa, fs, fc⟩) :
    Calls Tryz.prog 25 #[.agg #[.int .i64 od, .slice oa os.length oc, .int .i64 nx, .int .i64 t0, .int .i64 t1, .int .i64 t2, .int .i64 t3, .slice fa fs.length fc]] w fun e w' => ∃ b off c R, e = .returned (.tuple #[.slice (some ⟨b, off, none⟩) 28 c, .int .i64 0]) ∧ 28 ≤ c ∧ Kept R (fun w => RdAt w (some ⟨b, off, none⟩) b28) ∧ Hp w.heap.size w w' R := by
  refine (puth_yes od oa os oc nx t0 t1 t2 t3 fa fs fc b28 ((heapB_sm hsm).trans heapB_one) ((hright_sm hsm).trans right_one3) w hx0).mono fun e w' h => ?_
  obtain ⟨a, c, m, R, h1, h2, h3, h4, h5, h6⟩ := h
  have hm : m = 28 := h2.symm
  subst hm
  obtain ⟨b, off, rfl, _⟩ := (h5.at h6 (fun p hm => hm)).1.elems 1 byV_len (by decide) (by decide)
  exact ⟨b, off, c, R, h1, h3, h5, h6⟩
theorem geth_one (a : Option Addr) (c : Nat) (hnc : 28 ≤ c) (w : World) (ha : RdAt w a b28) : Calls Tryz.prog 42 #[.slice a 28 c] w fun e w' => ∃ od oa on oc t0 t1 t2 t3 fa fc R, e = .returned (.tuple #[.agg #[.int .i64 od, .slice oa on oc, .int .i64 1, .int .i64 t0, .int .i64 t1, .int .i64 t2, .int .i64 t3, .slice fa 1 fc], .int .i64 0]) ∧ Hp w.heap.size w w' R := by
  refine (geth_yes b28 _ heapR_one a 28 c rfl hnc w ha).mono fun e w' h => ?_
  obtain ⟨od, oa, os, oc, nx, t0, t1, t2, t3, fa, fs, fc, R, h1, h2, h3, h4⟩ := h
  have hnx : nx = 1 := h2.nx
  have hfs : fs = [⟨0, 3⟩] := h2.fs
  subst hnx hfs
  exact ⟨od, oa, os.length, oc, t0, t1, t2, t3, fa, fc, R, h1, h4⟩
theorem get28 {w : World} {b off : Nat} (h : RdAt w (some ⟨b, off, none⟩) b28) : w.cell? ⟨b, off + 3, none⟩ = some (.int .u8 3) ∧ w.cell? ⟨b, off + 7, none⟩ = some (.int .u8 1) := ⟨RowIs.fixC h.1 3 _ rfl, RowIs.fixC h.1 7 _ rfl⟩
set_option maxRecDepth 100000 in
set_option maxHeartbeats 8000000 in
theorem heaps24 (w : World) : Calls Tryz.prog 24 #[] w fun e w' => e = .returned (.bool true) ∧ Below w.heap.size w w' := by
  have hp := Hp.start w
  go_enter Tryz.func24, Tryz.ntmps24
  go_wp2_with (first | (go_at_call 81; (with_reducible refine (newh_3 _).mono ?_); rintro e w1 ⟨od, oa, os, oc, nx, t0, t1, t2, t3, fa, fs, fc, RN, rfl, hsm, hk, hpn⟩; replace hp := hp.join hpn; have HSM := Lib.hid hsm; have HK := Lib.hid hk; clear hpn hsm hk; simp only [List.cons_append, List.nil_append] at hp) | (go_at_call 25; (with_reducible refine (puth_one od oa os oc nx t0 t1 t2 t3 fa fs fc HSM.out _ (HK.out.at hp (fun p hm => by simp [hm]))).mono ?_); rintro e w1 ⟨ab, ob, cb, RB, rfl, hcb, hkb, hpn⟩; replace hp := hp.join hpn; have HCB := Lib.hid hcb; have HKB := Lib.hid hkb; clear hpn hcb hkb; simp only [List.cons_append, List.nil_append] at hp) | (go_at_call 42; (with_reducible refine (geth_one _ cb HCB.out _ (HKB.out.at hp (fun p hm => by simp [hm]))).mono ?_); rintro e w1 ⟨odX, oaX, onX, ocX, t0X, t1X, t2X, t3X, faX, fcX, RX, rfl, hpn⟩; replace hp := hp.join hpn; clear hpn; simp only [List.cons_append, List.nil_append] at hp) | (go_at_call 42; (with_reducible refine (geth_nil _).mono ?_); rintro e w1 ⟨rfl, hb⟩; replace hp := hp.call hb; clear hb) | (go_at_call 25; (with_reducible refine (puth_zero _).mono ?_); rintro e w1 ⟨rfl, hb⟩; replace hp := hp.call hb; clear hb) | ((with_reducible refine pre_load 5 _ rfl ?_); first | refine lRO (Hp.start _) rfl (sTm rfl) cell5 (get28 (HKB.out.at hp (fun p hm => by simp [hm]))).1 ?_ | refine lRO (Hp.start _) rfl (sTm rfl) cell5 (get28 (HKB.out.at hp (fun p hm => by simp [hm]))).2 ?_; simp only [put_some, put_none, sSet, zSet]) | go_skip | ((first | ((with_reducible refine pre_alloc _ rfl ?_); refine lZ hp rfl zero47 ?_; clear hp; intro b w1 hp) | ((with_reducible refine pre_box _ _ rfl ?_); refine lB hp rfl (sTm rfl) rfl ?_; clear hp; intro b w1 hp) | ((with_reducible refine pre_load _ _ rfl ?_); first | refine lO hp rfl (sTm rfl) ceXH0 aa5 ?_ | refine lA hp rfl (sTm rfl) agg47 aa5 ?_) | ((with_reducible refine pre_store _ _ _ rfl ?_); (first | refine sO hp rfl (sTm rfl) ceXH0 aa5 ?_ | refine sA hp rfl (sTm rfl) (sTm rfl) agg47 aa5 ?_ | refine sG hp rfl (sTm rfl) (sTm rfl) agg47 aa5 ?_); clear hp; intro w1 hp; simp only [spl, zSet, sSet] at hp)); simp only [put_some, put_none, sSet, zSet]))
  go_ret
  exact ⟨rfl, hp.below⟩
end Go.Proofs.YtaafajaadfgaoaaGreat
/- What comes of an entry that comes again, of a client's next one, and of many: the plain laws. No program in sight. -/
namespace Go.Proofs.YtaafajaadfgaoaaGreat
theorem zeroSv_small : zeroSv.Small := ⟨zero_small, by simp [zeroSv]⟩
end Go.Proofs.YtaafajaadfgaoaaGreat
/- Runs of entries over a state: the plain laws. No program in sight. -/
namespace Go.Proofs.YtaafajaadfgaoaaGreat
theorem stB_zero : stB zeroSv = false := by unfold stB; rw [show zeroSv.hv = zeroHv from rfl, hright_zero]; rfl
end Go.Proofs.YtaafajaadfgaoaaGreat
/- Words stay in range: the plain law. No program in sight. -/
namespace Go.Proofs.YtaafajaadfgaoaaGreat
open Go.RowKit
theorem i64_zero : I64 0 := ⟨by decide, by decide⟩
theorem i64_small {v : Int} (h0 : 0 ≤ v) (h1 : v ≤ 2147483647) : I64 v := ⟨by omega, by omega⟩
theorem w64_mem {l : List Ob} (h : ∀ o ∈ l, ∀ v ∈ o.ws, I64 v) {i : Nat} {o : Ob} (hi : l[i]? = some o) : ∀ v ∈ o.ws, I64 v := h o (List.mem_of_getElem? hi)
theorem w64_born {x : Hv} (hw : x.W64) (b : Bl) (n k : Int) (ls : List Int) : (bornH x b n (zerosI k) ls).W64 := by
  intro o ho v hv
  unfold bornH at ho
  rcases List.mem_append.1 ho with ho | ho
  · exact hw o ho v hv
  · simp only [List.mem_singleton] at ho
    subst ho
    unfold mkOb zerosI at hv
    rw [(List.mem_replicate.1 hv).2]; exact i64_zero
theorem w64_free {x : Hv} (hw : x.W64) (i : Nat) (g : Ob) : (freeH x i g).W64 := by
  intro o ho v hv
  unfold freeH at ho
  obtain ⟨q, hq, rfl⟩ := List.mem_map.1 ho
  exact hw q (List.mem_of_mem_eraseIdx hq) v hv
theorem w64_write {x : Hv} (hw : x.W64) {i : Nat} {b : Ob} (hb : x.os[i]? = some b) (k : Nat) {u : Int} (hu : I64 u) : (writeH x i b k u).W64 := by
  intro o ho v hv
  unfold writeH at ho
  rcases List.mem_or_eq_of_mem_set ho with ho | ho
  · exact hw o ho v hv
  · subst ho
    rcases List.mem_or_eq_of_mem_set hv with hv | hv
    · exact w64_mem hw hb v hv
    · rw [hv]; exact hu
theorem w64_link {x : Hv} (hw : x.W64) {i : Nat} {b : Ob} (hb : x.os[i]? = some b) (k : Nat) (u : Int) : (linkH x i b k u).W64 := by
  intro o ho v hv
  unfold linkH at ho
  rcases List.mem_or_eq_of_mem_set ho with ho | ho
  · exact hw o ho v hv
  · subst ho
    exact w64_mem hw hb v hv
theorem w64_top {x : Hv} (hw : x.W64) (k : Nat) (u : Int) : (topH x k u).W64 := by
  intro o ho v hv
  unfold topH at ho
  split at ho <;> exact hw o ho v hv
theorem getD_I64 {l : List Int} (h : ∀ v ∈ l, I64 v) (i : Nat) : I64 (l.getD i 0) := by
  rw [List.getD_eq_getElem?_getD]
  cases hi : l[i]? with
  | none => exact i64_zero
  | some v => exact h v (List.mem_of_getElem? hi)
theorem do_W64 {x : Hv} (hx : HRight x) (hw : x.W64) {o : Opd} (ho : I64 o.v) : (doC x o).1.W64 ∧ I64 (doC x o).2.2 := by
  have hz := i64_zero
  have hnx := hx.lo
  have hnh := hx.hi
  have htop : ∀ t ∈ tops x, I64 t := fun t ht => by
    have := leads_lay hx (hx.tops t ht)
    exact i64_small this.1 (by omega)
  unfold doC
  split
  · unfold allocC
    split
    · exact ⟨hw, hz⟩
    · split
      · exact ⟨hw, hz⟩
      · split
        · exact ⟨hw, hz⟩
        · exact ⟨w64_born hw _ _ _ _, i64_small (by simp only; omega) (by simp only; omega)⟩
  · split
    · unfold atC
      split
      · exact ⟨hw, hz⟩
      · split
        · exact ⟨hw, hz⟩
        · rename_i b hb
          split
          · exact ⟨w64_free hw _ _, hz⟩
          · split
            · exact ⟨hw, hz⟩
            · split
              · exact ⟨w64_write hw hb _ ho, hz⟩
              · split
                · split
                  · exact ⟨w64_link hw hb _ _, hz⟩
                  · exact ⟨hw, hz⟩
                · refine ⟨hw, ?_⟩
                  simp only
                  unfold rowC
                  split
                  · refine getD_I64 (fun v hv => ?_) _
                    have := (hright_lay hx b (List.mem_of_getElem? hb)).ls v hv
                    exact i64_small this.1 (by omega)
                  · exact getD_I64 (w64_mem hw hb) _
    · split
      · unfold topC
        split
        · exact ⟨hw, hz⟩
        · split
          · exact ⟨hw, getD_I64 htop _⟩
          · split
            · exact ⟨w64_top hw _ _, hz⟩
            · exact ⟨hw, hz⟩
      · exact ⟨hw, hz⟩
theorem w64_sm {x y : Hv} (h : x.Sm y) (hw : x.W64) : y.W64 := by
  intro o ho v hv
  obtain ⟨i, hi, rfl⟩ := List.getElem_of_mem ho
  have hb := List.getElem?_eq_getElem hi
  have ha := List.getElem?_eq_getElem (l := x.os) (i := i) (by have := h.os.1; omega)
  have hs := h.os.2 i _ _ ha hb
  exact hw _ (List.getElem_mem _) v (by rw [hs.2.2.2.1]; exact hv)
theorem heapB_iff {x y : Hv} (hx : HRight x) (hwx : x.W64) (hy : HRight y) (hwy : y.W64) : heapB x = heapB y ↔ x.Sm y := by
  refine ⟨fun h => ?_, heapB_sm⟩
  have h1 := heapR_put hx hwx
  rw [h, heapR_put hy hwy] at h1
  injection h1 with h1
  have h2 := clearH_sm y
  rw [h1] at h2
  exact (clearH_sm x).symm.trans h2
theorem stateB_iff {x y : Sv} (hx : StR x) (hwx : x.W64) (hy : StR y) (hwy : y.W64) : stateB x = stateB y ↔ x.Sm y := by
  refine ⟨fun h => ?_, stateB_sm⟩
  have h1 := stateR_put hx hwx
  rw [h, stateR_put hy hwy] at h1
  injection h1 with h1
  have h2 := clearS_sm y
  rw [h1] at h2
  exact (clearS_sm x).symm.trans h2
end Go.Proofs.YtaafajaadfgaoaaGreat
/- The walks of Same of heaps and states of other orders. -/
namespace Go.Proofs.YtaafajaadfgaoaaGreat
open Go.RowKit
theorem zeHSameO0 {ty : TypeId} {l : List Value} {n : Nat} (h : zeroL Tryz.prog ty = some (l, n) := by with_reducible first | exact zero50 | exact zero47 | exact zero126) : zeroL Tryz.prog ty = some (l, n) := h
theorem gaHSameO1 {ty : TypeId} {k : Nat} (h : aggB Tryz.prog ty k = true := by with_reducible first | exact agg50 | exact agg47 | exact agg126 | exact agg44 | exact agg124) : aggB Tryz.prog ty k = true := h
theorem ceHSameO2 {ty : TypeId} (h : cellB Tryz.prog ty = true := by with_reducible first | exact cell3 | exact cell4 | exact cell122 | exact cell43 | exact cell45 | exact cell48) : cellB Tryz.prog ty = true := h
set_option maxRecDepth 100000 in
set_option maxHeartbeats 8000000 in
theorem same27_od (od : Int) (oa : Option Addr) (on oc : Nat) (nx t0 t1 t2 t3 : Int) (fa : Option Addr) (fn fc : Nat) (od' : Int) (oa' : Option Addr) (on' oc' : Nat) (nx' t0' t1' t2' t3' : Int) (fa' : Option Addr) (fn' fc' : Nat) (hn : od ≠ od') (w : World) :
    Calls Tryz.prog 27 #[.agg #[.int .i64 od, .slice oa on oc, .int .i64 nx, .int .i64 t0, .int .i64 t1, .int .i64 t2, .int .i64 t3, .slice fa fn fc], .agg #[.int .i64 od', .slice oa' on' oc', .int .i64 nx', .int .i64 t0', .int .i64 t1', .int .i64 t2', .int .i64 t3', .slice fa' fn' fc']] w fun e w' => e = .returned (.bool false) ∧ Below w.heap.size w w' := by
  have hp := Hp.start w
  have e1 : (od == od') = false := by simpa using hn
  go_enter Tryz.func27, Tryz.ntmps27
  go_wp2_with (first | go_skip | ((first | ((with_reducible refine pre_alloc _ rfl ?_); refine lZ hp rfl zeHSameO0 ?_; clear hp; intro b w1 hp) | ((with_reducible refine pre_box _ _ rfl ?_); refine lB hp rfl (sTm rfl) rfl ?_; clear hp; intro b w1 hp) | ((with_reducible refine pre_load _ _ rfl ?_); first | refine lO hp rfl (sTm rfl) ceHSameO2 aa5 ?_ | refine lA hp rfl (sTm rfl) gaHSameO1 aa5 ?_ | refine lR hp rfl (sTm rfl) gaHSameO1 HX.out ?_ | refine lR hp rfl (sTm rfl) gaHSameO1 HY.out ?_) | ((with_reducible refine pre_store _ _ _ rfl ?_); (first | refine sO hp rfl (sTm rfl) ceHSameO2 aa5 ?_ | refine sA hp rfl (sTm rfl) (sTm rfl) gaHSameO1 aa5 ?_ | refine sG hp rfl (sTm rfl) (sTm rfl) gaHSameO1 aa5 ?_); clear hp; intro w1 hp; simp only [spl, zSet, sSet] at hp)); simp only [put_some, put_none, sSet, zSet]))
  go_ret
  exact ⟨rfl, hp.below⟩
end Go.Proofs.YtaafajaadfgaoaaGreat

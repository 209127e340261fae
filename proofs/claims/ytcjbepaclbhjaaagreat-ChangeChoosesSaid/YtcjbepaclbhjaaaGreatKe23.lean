/- Parts of the proof. -/
import Derived.Test.YtcjbepaclbhjaaaGreatKe1
import Derived.Test.YtcjbepaclbhjaaaGreatKe22
import Derived.Test.YtcjbepaclbhjaaaGreatKe12
open List renaming set_cons_zero → zSet, set_cons_succ → sSet
/- The walks of GetState: a state that is all there is (the second half is written by mkjs.py out of JK). -/
set_option linter.unusedSimpArgs false
set_option linter.unusedVariables false
namespace Go.Proofs.YtcjbepaclbhjaaaGreat
open Go.RowKit
noncomputable def stateR1 (x : Hv) (b1 : List Nat) : Option (Sv × List Nat) := match nR b1 with
  | none => none
  | some (n, b2) => if 4 < n then none else match repR rowR n.toNat b2 with
    | none => none
    | some (rs, b3) => if stB ⟨x, none, rs, 0⟩ = true then some (⟨x, none, rs, 0⟩, b3) else none
noncomputable def stateR0 (bs : List Nat) : Option (Sv × List Nat) := match textR bs with
  | none => none
  | some (t, b1) => match heapR t with
    | none => none
    | some x => stateR1 x b1
noncomputable def stateR (bs : List Nat) : Option Sv := wholeR stateR0 bs
def GetPostS (w : World) (r : Option Sv) (e : Ending) (w' : World) : Prop :=
  match r with
  | some x => ∃ y R, e = .returned (.tuple #[.agg (svL y).toArray, .int .i64 0]) ∧ y.Sm x ∧ SvO y R ∧ Hp w.heap.size w w' R
  | none => e = .returned (.tuple #[.agg (svL zeroSv).toArray, .int .i64 60]) ∧ Below w.heap.size w w'
def StatePost (w0 : World) (br bi : Nat) (r : Option (Sv × List Nat)) (L : List Blk) (e : Ending) (w' : World) : Prop :=
  match r with
  | some (x, bs') => ∃ y RR RO RF M, e = .returned (.agg (svL y).toArray) ∧ y.Sm x ∧ OwnRow 121 4 (.slice y.ra y.rs.length y.rc) y.rs.length (y.rs.flatMap rwV) RR ∧ HvR y.hv RO RF M ∧ RdSt w0 br bi bs' [] (RR ++ (RO ++ (RF ++ (M ++ L)))) w'
  | none => e = .panicked badP ∧ Hp w0.heap.size w0 w' L
theorem heapR_right {bs : List Nat} {x : Hv} (h : heapR bs = some x) : HRight x := by
  unfold heapR wholeR at h
  split at h
  · rename_i y r hy
    split at h
    · injection h with h
      subst h
      unfold heapR0 at hy
      split at hy
      · cases hy
      · split at hy
        · cases hy
        · unfold heapR1 at hy
          split at hy
          · cases hy
          · unfold heapR2 at hy
            split at hy
            · cases hy
            · split at hy
              · cases hy
              · split at hy
                · cases hy
                · unfold heapR3 at hy
                  split at hy
                  · split at hy
                    · rename_i hb
                      injection hy with hy
                      injection hy with hy _
                      rw [← hy]
                      exact hright_of hb
                    · cases hy
                  · cases hy
    · cases h
  · cases h
theorem text_call (br c : Nat) (t r : List Nat) (a : Option Addr) (bs : List Nat) (hv : textR bs = some (t, r)) (hnc : bs.length ≤ c) (hbl : bs.length ≤ 1000000000) {w0 w : World} {x y i : Blk} {L : List Blk} (hp : Hp w0.heap.size w0 w (x :: y :: ⟨br, [.slice a bs.length c], 144, 1⟩ :: i :: L)) (ha : RdAt w0 a bs) :
    Calls Tryz.prog 85 #[.pointer (some ⟨br, 0, none⟩)] w fun e w' => e = .returned (.tuple #[.string (strOfNums (nI t)), .int .i64 0]) ∧ ∃ a' c', r.length ≤ c' ∧ RdAt w0 a' r ∧ Hp w0.heap.size w0 w' (x :: y :: ⟨br, [.slice a' r.length c'], 144, 1⟩ :: i :: L) := by
  refine (textg85 br c t r a bs hv hnc hbl (L := x :: y :: i :: L) (show Hp w0.heap.size w0 w (x :: y :: Rb br a bs.length c :: i :: L) from hp).kp ha).mono fun e w' h => ?_
  obtain ⟨h1, c', h2, a', h3, h4⟩ := h
  exact ⟨h1, a', c', h2, h3, (show Hp w0.heap.size w0 w' (x :: y :: Rb br a' r.length c' :: i :: L) from h4.kp)⟩
theorem text_call_no (br c : Nat) (a : Option Addr) (bs : List Nat) (hv : textR bs = none) (hnc : bs.length ≤ c) (hbl : bs.length ≤ 1000000000) {w0 w : World} {x y i : Blk} {L : List Blk} (hp : Hp w0.heap.size w0 w (x :: y :: ⟨br, [.slice a bs.length c], 144, 1⟩ :: i :: L)) (ha : RdAt w0 a bs) :
    Calls Tryz.prog 85 #[.pointer (some ⟨br, 0, none⟩)] w fun e w' => (∃ q : Int, (q = 10 ∨ q = 11) ∧ e = .returned (.tuple #[.string ⟨#[]⟩, .int .i64 q])) ∧ w = w' :=
  textg85_no br c a bs hv hnc hbl (L := x :: y :: i :: L) (show Hp w0.heap.size w0 w (x :: y :: Rb br a bs.length c :: i :: L) from hp).kp ha
theorem got82L (od : Int) (oa : Option Addr) (os : List Ob) (oc : Nat) (nx t0 t1 t2 t3 : Int) (fa : Option Addr) (fs : List Bl) (fc : Nat) (w : World) : Calls Tryz.prog 82 #[.agg #[.int .i64 od, .slice oa os.length oc, .int .i64 nx, .int .i64 t0, .int .i64 t1, .int .i64 t2, .int .i64 t3, .slice fa fs.length fc], .int .i64 0] w fun e w' => e = .returned (.agg #[.int .i64 od, .slice oa os.length oc, .int .i64 nx, .int .i64 t0, .int .i64 t1, .int .i64 t2, .int .i64 t3, .slice fa fs.length fc]) ∧ Below w.heap.size w w' := got82 ⟨od, oa, os, oc, nx, t0, t1, t2, t3, fa, fs, fc⟩ w
theorem got82Z (w : World) : Calls Tryz.prog 82 #[.agg #[.int .i64 0, .slice none 0 0, .int .i64 0, .int .i64 0, .int .i64 0, .int .i64 0, .int .i64 0, .slice none 0 0], .int .i64 60] w fun e w' => e = .panicked badP ∧ Below w.heap.size w w' := got82_no zeroHv w
theorem RdSt.mk7 {w0 w : World} {br bi c : Nat} {a : Option Addr} {bs : List Nat} {x y : Blk} {RR RO RF M L : List Blk} (h1 : bs.length ≤ c) (h2 : RdAt w0 a bs)
    (hp : Hp w0.heap.size w0 w (x :: y :: ⟨br, [.slice a bs.length c], 144, 1⟩ :: ⟨bi, [.pointer (some ⟨br, 0, none⟩)], 115, 1⟩ :: (RR ++ (L ++ (RO ++ (RF ++ M)))))) : RdSt w0 br bi bs [] (RR ++ (RO ++ (RF ++ (M ++ L)))) w :=
  ⟨a, c, h1, h2, (show Hp w0.heap.size w0 w (x :: y :: Rb br a bs.length c :: Ib bi br :: (RR ++ (L ++ (RO ++ (RF ++ M))))) from hp).kp⟩
theorem front2r {B : Nat} {w0 w : World} {x y r i : Blk} {RR L : List Blk} (hp : Hp B w0 w (r :: i :: (RR ++ (x :: y :: L)))) : Hp B w0 w (x :: y :: r :: i :: (RR ++ L)) := hp.kp
theorem join5 {B : Nat} {w0 w : World} {x y r i : Blk} {L R : List Blk} (hp : Hp B w0 w ((x :: y :: r :: i :: L) ++ R)) : Hp B w0 w (x :: y :: r :: i :: (L ++ R)) := hp.kp
set_option maxRecDepth 100000 in
set_option maxHeartbeats 16000000 in
theorem inst81 (br bi : Nat) (bs : List Nat) (hbl : bs.length ≤ 1000000000) {w0 w : World} {L : List Blk} (hs : RdSt w0 br bi bs [] L w) :
    Calls Tryz.prog 81 #[.pointer (some ⟨bi, 0, none⟩)] w (StatePost w0 br bi (stateR0 bs) L) := by
  obtain ⟨a, c, hl, ha, hp⟩ := hs
  have HL := Lib.hid hl
  have HBY := Lib.hid ha.2
  have HA := Lib.hid ha
  have HBL := Lib.hid hbl
  clear hl ha hbl
  simp only [List.nil_append, Rb, Ib] at hp
  cases ht : textR bs with
  | none =>
    have HT := Lib.hid ht
    have HR : RowKit.Hid (stateR0 bs = none) := Lib.hid (by unfold stateR0; rw [ht])
    clear ht
    go_enter Tryz.func81, Tryz.ntmps81
    go_wp2_with (first | (go_at_call 85; first | ((with_reducible refine (text_call br _ t b1 _ bs HT.out HL.out HBL.out hp HA.out).mono ?_); clear hp HL HA; rintro e w1 ⟨rfl, a, c, hl, ha, hp⟩; have HL := Lib.hid hl; have HA := Lib.hid ha; clear hl ha) | ((with_reducible refine (text_call_no br _ _ bs HT.out HL.out HBL.out hp HA.out).mono ?_); rintro e w1 ⟨⟨q, hq, rfl⟩, rfl⟩)) | (go_at_call 84; first | ((with_reducible refine (got84 _ _).mono ?_); rintro e w' ⟨rfl, rfl⟩) | ((with_reducible refine (got84_no _ _ hq _).mono ?_); rintro e w' ⟨rfl, rfl⟩)) | go_skip | (first | (refine hA0 ?_; clear hp; intro b w1 hp) | refine hL0 ?_ | (refine hS0 ?_; clear hp; intro w1 hp)))
    refine ⟨rfl, ?_⟩; show StatePost w0 br bi (stateR0 bs) L _ _; rw [HR.out]
    exact ⟨rfl, hp.kp⟩
  | some q =>
    obtain ⟨t, b1⟩ := q
    have HT := Lib.hid ht
    obtain ⟨tn, _, _, _, htt, _⟩ := text_some ht
    have hby : Bytes t := by rw [htt]; exact (HBY.out.drop 4).take tn
    have HTB : RowKit.Hid (strB (strOfNums (nI t)) = t) := Lib.hid (strB_of hby)
    have HSZ : RowKit.Hid ((strOfNums (nI t)).size = t.length) := Lib.hid (by rw [← strB_len, strB_of hby])
    clear htt hby
    cases hh : heapR t with
    | none =>
      have HH := Lib.hid hh
      have HR : RowKit.Hid (stateR0 bs = none) := Lib.hid (by unfold stateR0; rw [ht]; simp only; rw [hh])
      clear ht hh
      go_enter Tryz.func81, Tryz.ntmps81
      go_wp2_with (first | (go_at_call 85; first | ((with_reducible refine (text_call br _ t b1 _ bs HT.out HL.out HBL.out hp HA.out).mono ?_); clear hp HL HA; rintro e w1 ⟨rfl, a, c, hl, ha, hp⟩; have HL := Lib.hid hl; have HA := Lib.hid ha; clear hl ha) | ((with_reducible refine (text_call_no br _ _ bs HT.out HL.out HBL.out hp HA.out).mono ?_); rintro e w1 ⟨⟨q, hq, rfl⟩, rfl⟩)) | (go_at_call 84; first | ((with_reducible refine (got84 _ _).mono ?_); rintro e w' ⟨rfl, rfl⟩) | ((with_reducible refine (got84_no _ _ hq _).mono ?_); rintro e w' ⟨rfl, rfl⟩)) | ((with_reducible refine pre_convert _ _ _ rfl ?_); refine wpList_convB hp 9 89 5 _ rfl wy Tryz.underlying9 Tryz.underlying89 Tryz.underlying5 _ (sTm rfl) ?_; clear hp; intro ad cb w1 hcb had hp; rw [HTB.out] at had; rw [HSZ.out] at hcb ⊢; have HCB := Lib.hid hcb; have HAD := Lib.hid had; clear hcb had; simp only [put_some, put_none, sSet, zSet]) | (go_at_call 83; (with_reducible refine (geth83 t ad cb HCB.out _ HAD.out).mono ?_); rintro e w1 hq; rw [HH.out] at hq; first | (obtain ⟨y, R, rfl, hy, ⟨RO, RF, M, rfl, hown⟩, hp2⟩ := hq; replace hp := join5 (hp.join hp2); have HY := Lib.hid hy; have HW := Lib.hid hown; clear hy hown hp2; obtain ⟨od, oa, os, oc, nx, t0, t1, t2, t3, fa, fs, fc⟩ := y; simp only [hvL]) | (obtain ⟨rfl, hb⟩ := hq; replace hp := hp.call hb; clear hb; simp only [hvL, zeroHv])) | (go_at_call 82; first | ((with_reducible refine (got82L od oa os oc nx t0 t1 t2 t3 fa fs fc _).mono ?_); rintro e w1 ⟨rfl, hb⟩; replace hp := hp.call hb; clear hb) | ((with_reducible refine (got82Z _).mono ?_); rintro e w1 ⟨rfl, hb⟩; replace hp := hp.call hb; clear hb)) | go_skip | (first | (refine hA0 ?_; clear hp; intro b w1 hp) | refine hL0 ?_ | (refine hS0 ?_; clear hp; intro w1 hp)))
      refine ⟨rfl, ?_⟩; show StatePost w0 br bi (stateR0 bs) L _ _; rw [HR.out]
      exact ⟨rfl, hp.kp⟩
    | some x =>
      have HH := Lib.hid hh
      have HE0 : RowKit.Hid (stateR0 bs = stateR1 x b1) := Lib.hid (by unfold stateR0; rw [ht]; simp only; rw [hh])
      have HXR := Lib.hid (heapR_right hh)
      clear ht hh
      cases h4 : nR b1 with
      | none =>
        have H4 := Lib.hid h4
        have HR : RowKit.Hid (stateR0 bs = none) := Lib.hid (by rw [HE0.out]; unfold stateR1; rw [h4])
        clear h4
        go_enter Tryz.func81, Tryz.ntmps81
        go_wp2_with (first | (go_at_call 85; first | ((with_reducible refine (text_call br _ t b1 _ bs HT.out HL.out HBL.out hp HA.out).mono ?_); clear hp HL HA; rintro e w1 ⟨rfl, a, c, hl, ha, hp⟩; have HL := Lib.hid hl; have HA := Lib.hid ha; clear hl ha) | ((with_reducible refine (text_call_no br _ _ bs HT.out HL.out HBL.out hp HA.out).mono ?_); rintro e w1 ⟨⟨q, hq, rfl⟩, rfl⟩)) | (go_at_call 84; first | ((with_reducible refine (got84 _ _).mono ?_); rintro e w' ⟨rfl, rfl⟩) | ((with_reducible refine (got84_no _ _ hq _).mono ?_); rintro e w' ⟨rfl, rfl⟩)) | ((with_reducible refine pre_convert _ _ _ rfl ?_); refine wpList_convB hp 9 89 5 _ rfl wy Tryz.underlying9 Tryz.underlying89 Tryz.underlying5 _ (sTm rfl) ?_; clear hp; intro ad cb w1 hcb had hp; rw [HTB.out] at had; rw [HSZ.out] at hcb ⊢; have HCB := Lib.hid hcb; have HAD := Lib.hid had; clear hcb had; simp only [put_some, put_none, sSet, zSet]) | (go_at_call 83; (with_reducible refine (geth83 t ad cb HCB.out _ HAD.out).mono ?_); rintro e w1 hq; rw [HH.out] at hq; first | (obtain ⟨y, R, rfl, hy, ⟨RO, RF, M, rfl, hown⟩, hp2⟩ := hq; replace hp := join5 (hp.join hp2); have HY := Lib.hid hy; have HW := Lib.hid hown; clear hy hown hp2; obtain ⟨od, oa, os, oc, nx, t0, t1, t2, t3, fa, fs, fc⟩ := y; simp only [hvL]) | (obtain ⟨rfl, hb⟩ := hq; replace hp := hp.call hb; clear hb; simp only [hvL, zeroHv])) | (go_at_call 82; first | ((with_reducible refine (got82L od oa os oc nx t0 t1 t2 t3 fa fs fc _).mono ?_); rintro e w1 ⟨rfl, hb⟩; replace hp := hp.call hb; clear hb) | ((with_reducible refine (got82Z _).mono ?_); rintro e w1 ⟨rfl, hb⟩; replace hp := hp.call hb; clear hb)) | (go_at_call 87; refine (inn87 br bi _ (K := [_, _]) (L := _) ⟨_, _, HL.out, HA.out, hp⟩).mono ?_; clear hp HL HA; rintro e w1 hq; rw [H4.out] at hq; (first | (obtain ⟨rfl, a, c, hl, ha, hp⟩ := hq; have HL := Lib.hid hl; have HA := Lib.hid ha; clear hl ha; simp only [List.cons_append, List.nil_append, Rb, Ib] at hp) | (obtain ⟨rfl, hp⟩ := hq; simp only [List.cons_append, List.nil_append] at hp))) | go_skip | (first | (refine hA0 ?_; clear hp; intro b w1 hp) | refine hL0 ?_ | (refine hS0 ?_; clear hp; intro w1 hp)))
        refine ⟨rfl, ?_⟩; show StatePost w0 br bi (stateR0 bs) L _ _; rw [HR.out]
        exact ⟨rfl, hp.kp⟩
      | some q4 =>
        obtain ⟨k, b2⟩ := q4
        have H4 := Lib.hid h4
        clear h4
        obtain ⟨k, rfl, hk⟩ := nR_nat H4.out
        by_cases hk2 : (4 : Int) < (k : Int)
        · have HK := Lib.hid hk2
          have HR : RowKit.Hid (stateR0 bs = none) := Lib.hid (by rw [HE0.out]; unfold stateR1; rw [H4.out]; simp only; rw [if_pos hk2])
          clear hk2 hk
          go_enter Tryz.func81, Tryz.ntmps81
          go_wp2_with (first | (go_at_call 85; first | ((with_reducible refine (text_call br _ t b1 _ bs HT.out HL.out HBL.out hp HA.out).mono ?_); clear hp HL HA; rintro e w1 ⟨rfl, a, c, hl, ha, hp⟩; have HL := Lib.hid hl; have HA := Lib.hid ha; clear hl ha) | ((with_reducible refine (text_call_no br _ _ bs HT.out HL.out HBL.out hp HA.out).mono ?_); rintro e w1 ⟨⟨q, hq, rfl⟩, rfl⟩)) | (go_at_call 84; first | ((with_reducible refine (got84 _ _).mono ?_); rintro e w' ⟨rfl, rfl⟩) | ((with_reducible refine (got84_no _ _ hq _).mono ?_); rintro e w' ⟨rfl, rfl⟩)) | ((with_reducible refine pre_convert _ _ _ rfl ?_); refine wpList_convB hp 9 89 5 _ rfl wy Tryz.underlying9 Tryz.underlying89 Tryz.underlying5 _ (sTm rfl) ?_; clear hp; intro ad cb w1 hcb had hp; rw [HTB.out] at had; rw [HSZ.out] at hcb ⊢; have HCB := Lib.hid hcb; have HAD := Lib.hid had; clear hcb had; simp only [put_some, put_none, sSet, zSet]) | (go_at_call 83; (with_reducible refine (geth83 t ad cb HCB.out _ HAD.out).mono ?_); rintro e w1 hq; rw [HH.out] at hq; first | (obtain ⟨y, R, rfl, hy, ⟨RO, RF, M, rfl, hown⟩, hp2⟩ := hq; replace hp := join5 (hp.join hp2); have HY := Lib.hid hy; have HW := Lib.hid hown; clear hy hown hp2; obtain ⟨od, oa, os, oc, nx, t0, t1, t2, t3, fa, fs, fc⟩ := y; simp only [hvL]) | (obtain ⟨rfl, hb⟩ := hq; replace hp := hp.call hb; clear hb; simp only [hvL, zeroHv])) | (go_at_call 82; first | ((with_reducible refine (got82L od oa os oc nx t0 t1 t2 t3 fa fs fc _).mono ?_); rintro e w1 ⟨rfl, hb⟩; replace hp := hp.call hb; clear hb) | ((with_reducible refine (got82Z _).mono ?_); rintro e w1 ⟨rfl, hb⟩; replace hp := hp.call hb; clear hb)) | (go_at_call 87; refine (inn87 br bi _ (K := [_, _]) (L := _) ⟨_, _, HL.out, HA.out, hp⟩).mono ?_; clear hp HL HA; rintro e w1 hq; rw [H4.out] at hq; (first | (obtain ⟨rfl, a, c, hl, ha, hp⟩ := hq; have HL := Lib.hid hl; have HA := Lib.hid ha; clear hl ha; simp only [List.cons_append, List.nil_append, Rb, Ib] at hp) | (obtain ⟨rfl, hp⟩ := hq; simp only [List.cons_append, List.nil_append] at hp))) | (go_at_call 86; (with_reducible refine (many86_no bi k 4 HK.out _).mono ?_); rintro e w' ⟨rfl, rfl⟩) | go_skip | (first | (refine hA0 ?_; clear hp; intro b w1 hp) | refine hL0 ?_ | (refine hS0 ?_; clear hp; intro w1 hp)))
          refine ⟨rfl, ?_⟩; show StatePost w0 br bi (stateR0 bs) L _ _; rw [HR.out]
          exact ⟨rfl, hp.kp⟩
        · have HE2 : RowKit.Hid (stateR1 x b1 = match repR rowR k b2 with | none => none | some (rs, b3) => if stB ⟨x, none, rs, 0⟩ = true then some (⟨x, none, rs, 0⟩, b3) else none) := Lib.hid (by unfold stateR1; rw [H4.out]; simp only; rw [if_neg hk2, Int.toNat_natCast])
          have HK1 : RowKit.Hid ((k : Int) ≤ 4) := Lib.hid (by omega)
          have HK2 : RowKit.Hid (k ≤ 1000) := Lib.hid (by omega)
          clear hk hk2
          cases h5 : repR rowR k b2 with
          | none =>
            have H5 := Lib.hid h5
            have HR : RowKit.Hid (stateR0 bs = none) := Lib.hid (by rw [HE0.out, HE2.out, h5])
            clear h5
            go_enter Tryz.func81, Tryz.ntmps81
            go_wp2_with (first | (go_at_call 85; first | ((with_reducible refine (text_call br _ t b1 _ bs HT.out HL.out HBL.out hp HA.out).mono ?_); clear hp HL HA; rintro e w1 ⟨rfl, a, c, hl, ha, hp⟩; have HL := Lib.hid hl; have HA := Lib.hid ha; clear hl ha) | ((with_reducible refine (text_call_no br _ _ bs HT.out HL.out HBL.out hp HA.out).mono ?_); rintro e w1 ⟨⟨q, hq, rfl⟩, rfl⟩)) | (go_at_call 84; first | ((with_reducible refine (got84 _ _).mono ?_); rintro e w' ⟨rfl, rfl⟩) | ((with_reducible refine (got84_no _ _ hq _).mono ?_); rintro e w' ⟨rfl, rfl⟩)) | ((with_reducible refine pre_convert _ _ _ rfl ?_); refine wpList_convB hp 9 89 5 _ rfl wy Tryz.underlying9 Tryz.underlying89 Tryz.underlying5 _ (sTm rfl) ?_; clear hp; intro ad cb w1 hcb had hp; rw [HTB.out] at had; rw [HSZ.out] at hcb ⊢; have HCB := Lib.hid hcb; have HAD := Lib.hid had; clear hcb had; simp only [put_some, put_none, sSet, zSet]) | (go_at_call 83; (with_reducible refine (geth83 t ad cb HCB.out _ HAD.out).mono ?_); rintro e w1 hq; rw [HH.out] at hq; first | (obtain ⟨y, R, rfl, hy, ⟨RO, RF, M, rfl, hown⟩, hp2⟩ := hq; replace hp := join5 (hp.join hp2); have HY := Lib.hid hy; have HW := Lib.hid hown; clear hy hown hp2; obtain ⟨od, oa, os, oc, nx, t0, t1, t2, t3, fa, fs, fc⟩ := y; simp only [hvL]) | (obtain ⟨rfl, hb⟩ := hq; replace hp := hp.call hb; clear hb; simp only [hvL, zeroHv])) | (go_at_call 82; first | ((with_reducible refine (got82L od oa os oc nx t0 t1 t2 t3 fa fs fc _).mono ?_); rintro e w1 ⟨rfl, hb⟩; replace hp := hp.call hb; clear hb) | ((with_reducible refine (got82Z _).mono ?_); rintro e w1 ⟨rfl, hb⟩; replace hp := hp.call hb; clear hb)) | (go_at_call 87; refine (inn87 br bi _ (K := [_, _]) (L := _) ⟨_, _, HL.out, HA.out, hp⟩).mono ?_; clear hp HL HA; rintro e w1 hq; rw [H4.out] at hq; (first | (obtain ⟨rfl, a, c, hl, ha, hp⟩ := hq; have HL := Lib.hid hl; have HA := Lib.hid ha; clear hl ha; simp only [List.cons_append, List.nil_append, Rb, Ib] at hp) | (obtain ⟨rfl, hp⟩ := hq; simp only [List.cons_append, List.nil_append] at hp))) | (go_at_call 86; have hst : RdSt w0 br bi _ [] _ _ := RdSt.front (K := [_, _]) (L := L ++ (RO ++ (RF ++ M))) ⟨_, _, HL.out, HA.out, hp⟩; (with_reducible refine (many86 br bi k 4 HK1.out HK2.out _ hst).mono ?_); clear hst; clear hp HL HA; rintro e w1 hq; rw [H5.out] at hq; first | (obtain ⟨vo, RR, rfl, hol, hrr, a, c, hl, ha, hp⟩ := hq; subst hol; obtain ⟨ra, rc, rfl, _⟩ := hrr.kept; have HL := Lib.hid hl; have HA := Lib.hid ha; have HRR := Lib.hid hrr; clear hl ha hrr; simp only [List.cons_append, List.nil_append, Rb, Ib] at hp; replace hp := front2r hp) | (obtain ⟨rfl, hp⟩ := hq; simp only [List.cons_append, List.nil_append] at hp)) | go_skip | (first | (refine hA0 ?_; clear hp; intro b w1 hp) | refine hL0 ?_ | (refine hS0 ?_; clear hp; intro w1 hp)))
            refine ⟨rfl, ?_⟩; show StatePost w0 br bi (stateR0 bs) L _ _; rw [HR.out]
            exact ⟨rfl, hp.kp⟩
          | some q5 =>
            obtain ⟨rs, b3⟩ := q5
            have H5 := Lib.hid h5
            have HE3 : RowKit.Hid (stateR0 bs = if stB ⟨x, none, rs, 0⟩ = true then some (⟨x, none, rs, 0⟩, b3) else none) := Lib.hid (by rw [HE0.out, HE2.out, h5])
            clear h5
            go_enter Tryz.func81, Tryz.ntmps81
            go_wp2_with (first | (go_at_call 85; first | ((with_reducible refine (text_call br _ t b1 _ bs HT.out HL.out HBL.out hp HA.out).mono ?_); clear hp HL HA; rintro e w1 ⟨rfl, a, c, hl, ha, hp⟩; have HL := Lib.hid hl; have HA := Lib.hid ha; clear hl ha) | ((with_reducible refine (text_call_no br _ _ bs HT.out HL.out HBL.out hp HA.out).mono ?_); rintro e w1 ⟨⟨q, hq, rfl⟩, rfl⟩)) | (go_at_call 84; first | ((with_reducible refine (got84 _ _).mono ?_); rintro e w' ⟨rfl, rfl⟩) | ((with_reducible refine (got84_no _ _ hq _).mono ?_); rintro e w' ⟨rfl, rfl⟩)) | ((with_reducible refine pre_convert _ _ _ rfl ?_); refine wpList_convB hp 9 89 5 _ rfl wy Tryz.underlying9 Tryz.underlying89 Tryz.underlying5 _ (sTm rfl) ?_; clear hp; intro ad cb w1 hcb had hp; rw [HTB.out] at had; rw [HSZ.out] at hcb ⊢; have HCB := Lib.hid hcb; have HAD := Lib.hid had; clear hcb had; simp only [put_some, put_none, sSet, zSet]) | (go_at_call 83; (with_reducible refine (geth83 t ad cb HCB.out _ HAD.out).mono ?_); rintro e w1 hq; rw [HH.out] at hq; first | (obtain ⟨y, R, rfl, hy, ⟨RO, RF, M, rfl, hown⟩, hp2⟩ := hq; replace hp := join5 (hp.join hp2); have HY := Lib.hid hy; have HW := Lib.hid hown; clear hy hown hp2; obtain ⟨od, oa, os, oc, nx, t0, t1, t2, t3, fa, fs, fc⟩ := y; simp only [hvL]) | (obtain ⟨rfl, hb⟩ := hq; replace hp := hp.call hb; clear hb; simp only [hvL, zeroHv])) | (go_at_call 82; first | ((with_reducible refine (got82L od oa os oc nx t0 t1 t2 t3 fa fs fc _).mono ?_); rintro e w1 ⟨rfl, hb⟩; replace hp := hp.call hb; clear hb) | ((with_reducible refine (got82Z _).mono ?_); rintro e w1 ⟨rfl, hb⟩; replace hp := hp.call hb; clear hb)) | (go_at_call 87; refine (inn87 br bi _ (K := [_, _]) (L := _) ⟨_, _, HL.out, HA.out, hp⟩).mono ?_; clear hp HL HA; rintro e w1 hq; rw [H4.out] at hq; (first | (obtain ⟨rfl, a, c, hl, ha, hp⟩ := hq; have HL := Lib.hid hl; have HA := Lib.hid ha; clear hl ha; simp only [List.cons_append, List.nil_append, Rb, Ib] at hp) | (obtain ⟨rfl, hp⟩ := hq; simp only [List.cons_append, List.nil_append] at hp))) | (go_at_call 86; have hst : RdSt w0 br bi _ [] _ _ := RdSt.front (K := [_, _]) (L := L ++ (RO ++ (RF ++ M))) ⟨_, _, HL.out, HA.out, hp⟩; (with_reducible refine (many86 br bi k 4 HK1.out HK2.out _ hst).mono ?_); clear hst; clear hp HL HA; rintro e w1 hq; rw [H5.out] at hq; first | (obtain ⟨vo, RR, rfl, hol, hrr, a, c, hl, ha, hp⟩ := hq; subst hol; obtain ⟨ra, rc, rfl, _⟩ := hrr.kept; have HL := Lib.hid hl; have HA := Lib.hid ha; have HRR := Lib.hid hrr; clear hl ha hrr; simp only [List.cons_append, List.nil_append, Rb, Ib] at hp; replace hp := front2r hp) | (obtain ⟨rfl, hp⟩ := hq; simp only [List.cons_append, List.nil_append] at hp)) | go_skip | (first | (refine hA0 ?_; clear hp; intro b w1 hp) | refine hL0 ?_ | (refine hS0 ?_; clear hp; intro w1 hp)))
            have hsm : Sv.Sm ⟨⟨od, oa, os, oc, nx, t0, t1, t2, t3, fa, fs, fc⟩, ra, rs, rc⟩ ⟨x, none, rs, 0⟩ := ⟨HY.out, rfl⟩
            have HSM := Lib.hid hsm
            have HSS : RowKit.Hid (Sv.Small ⟨⟨od, oa, os, oc, nx, t0, t1, t2, t3, fa, fs, fc⟩, ra, rs, rc⟩) := Lib.hid ⟨HXR.out.small.sm HY.out.symm, HK2.out⟩
            have HIS : RowKit.Hid (Kept (RR ++ (RO ++ (RF ++ M))) fun w => Sv.Is w ⟨⟨od, oa, os, oc, nx, t0, t1, t2, t3, fa, fs, fc⟩, ra, rs, rc⟩) := Lib.hid ((HRR.out.keptS.and HW.out.kept).mono (fun _ h => h) (fun w ⟨h1, h2⟩ => ⟨h2, h1⟩))
            obtain ⟨b, hb⟩ : ∃ b, stB ⟨⟨od, oa, os, oc, nx, t0, t1, t2, t3, fa, fs, fc⟩, ra, rs, rc⟩ = b := ⟨_, rfl⟩
            have HB := Lib.hid hb
            have HE4 : RowKit.Hid (stateR0 bs = if b = true then some (⟨x, none, rs, 0⟩, b3) else none) := Lib.hid (by rw [HE3.out, ← stB_sm hsm, hb])
            clear hsm hb
            cases b with
            | false =>
              have HR : RowKit.Hid (stateR0 bs = none) := Lib.hid (by rw [HE4.out, if_neg (by decide)])
              go_wp2_with (first | (go_at_call 90; (with_reducible refine (check90L od oa os oc nx t0 t1 t2 t3 fa fs fc ra rs rc _ HB.out HSS.out _ (HIS.out.at hp (fun p hm => by simp only [List.mem_append, List.mem_cons] at hm ⊢; rcases hm with hm | hm | hm | hm <;> simp [hm]))).mono ?_); rintro e w1 ⟨rfl, hb⟩; replace hp := hp.call hb; clear hb; simp only [errS, if_true, Bool.false_eq_true, if_false]) | (go_at_call 89; first | ((with_reducible refine (is89 _).mono ?_); rintro e w' ⟨rfl, rfl⟩) | ((with_reducible refine (is89_no _).mono ?_); rintro e w' ⟨rfl, rfl⟩)) | go_skip | (first | (refine hA0 ?_; clear hp; intro b w1 hp) | refine hL0 ?_ | (refine hS0 ?_; clear hp; intro w1 hp)))
              refine ⟨rfl, ?_⟩; show StatePost w0 br bi (stateR0 bs) L _ _; rw [HR.out]
              exact ⟨rfl, hp.kp⟩
            | true =>
              have HR : RowKit.Hid (stateR0 bs = some (⟨x, none, rs, 0⟩, b3)) := Lib.hid (by rw [HE4.out, if_pos rfl])
              go_wp2_with (first | (go_at_call 90; (with_reducible refine (check90L od oa os oc nx t0 t1 t2 t3 fa fs fc ra rs rc _ HB.out HSS.out _ (HIS.out.at hp (fun p hm => by simp only [List.mem_append, List.mem_cons] at hm ⊢; rcases hm with hm | hm | hm | hm <;> simp [hm]))).mono ?_); rintro e w1 ⟨rfl, hb⟩; replace hp := hp.call hb; clear hb; simp only [errS, if_true, Bool.false_eq_true, if_false]) | (go_at_call 89; first | ((with_reducible refine (is89 _).mono ?_); rintro e w' ⟨rfl, rfl⟩) | ((with_reducible refine (is89_no _).mono ?_); rintro e w' ⟨rfl, rfl⟩)) | go_skip | (first | (refine hA0 ?_; clear hp; intro b w1 hp) | refine hL0 ?_ | (refine hS0 ?_; clear hp; intro w1 hp)))
              refine bodyPost_ret (results_one (rs := [.cell 2 86]) Tryz.results81 (.cell rfl (hp.loadAgg agg86 at1 0 _ (by rfl) (by rfl)) .nil)) rfl ?_
              show StatePost w0 br bi (stateR0 bs) L _ _
              rw [HR.out]
              exact ⟨⟨⟨od, oa, os, oc, nx, t0, t1, t2, t3, fa, fs, fc⟩, ra, rs, rc⟩, RR, RO, RF, M, rfl, HSM.out, HRR.out, HW.out, RdSt.mk7 HL.out HA.out hp⟩
theorem reader_outS {B : Nat} {w0 w : World} {r i x y z : Blk} {RR RO RF M : List Blk} (hp : Hp B w0 w (r :: i :: (RR ++ (RO ++ (RF ++ (M ++ [x, y, z])))))) : Hp B w0 w (r :: i :: x :: y :: z :: (RR ++ (RO ++ (RF ++ M)))) := hp.kp
theorem idle100 (p q r : Addr) (w : World) : CallsD Tryz.prog 100 #[.pointer (some p), .pointer (some q), .pointer (some r)] .returning w fun e u' w' => e = .returned (.tuple #[]) ∧ u' = .returning ∧ w' = w := by
  refine callsD_of_wpS Tryz.func100 rfl fun c₀ cs hu => ?_
  apply wpS_seq
  apply wpS_region
  simp [wpOpsS, go_sem, recoverD, hu, Tryz.ntmps100, Exit.thenS]
  refine wpS_of_wp ?_
  go_wp2
  cases c₀
  simp_all [bodyPostS, results, Tryz.results100]
theorem bad100 (bn bx be : Nat) (y : Sv) {B : Nat} {w0 w : World} {L : List Blk} (hp : Hp B w0 w (⟨bn, [.int .i64 0, .slice none 0 0, .int .i64 0, .int .i64 0, .int .i64 0, .int .i64 0, .int .i64 0, .slice none 0 0, .slice none 0 0], 86, 9⟩ :: ⟨be, [.int .i64 0], 33, 1⟩ :: ⟨bx, svL y, 86, 9⟩ :: L)) :
    CallsD Tryz.prog 100 #[.pointer (some ⟨bn, 0, none⟩), .pointer (some ⟨bx, 0, none⟩), .pointer (some ⟨be, 0, none⟩)] (.panicking badP) w fun e u' w' => e = .returned (.tuple #[]) ∧ u' = .panicking [{ v := .iface 137 (.agg #[]), recovered := true }] ∧ Hp B w0 w' (⟨bn, [.int .i64 0, .slice none 0 0, .int .i64 0, .int .i64 0, .int .i64 0, .int .i64 0, .int .i64 0, .slice none 0 0, .slice none 0 0], 86, 9⟩ :: ⟨be, [.int .i64 60], 33, 1⟩ :: ⟨bx, [.int .i64 0, .slice none 0 0, .int .i64 0, .int .i64 0, .int .i64 0, .int .i64 0, .int .i64 0, .slice none 0 0, .slice none 0 0], 86, 9⟩ :: L) := by
  obtain ⟨⟨od, oa, os, oc, nx, t0, t1, t2, t3, fa, fs, fc⟩, ra, rs, rc⟩ := y
  simp only [svL, hvL, List.cons_append, List.nil_append] at hp
  refine callsD_of_wpS Tryz.func100 rfl fun c₀ cs hu => ?_
  apply wpS_seq
  apply wpS_region
  simp [wpOpsS, go_sem, recoverD, hu, badP, Tryz.ntmps100, Exit.thenS]
  refine wpS_of_wp ?_
  change Code.wp Tryz.prog _ _ ⟨#[.pointer (some ⟨bn, 0, none⟩), .pointer (some ⟨bx, 0, none⟩), .pointer (some ⟨be, 0, none⟩), .iface 137 (.agg #[]), .iface 137 (.agg #[]), undef, undef, undef], []⟩ w
  go_wp2_with (first | go_skip | (first | (refine hA0 ?_; clear hp; intro b w1 hp) | refine hL0 ?_ | (refine hS0 ?_; clear hp; intro w1 hp)))
  simp [bodyPostS, results, Tryz.results100]
  exact hp
set_option maxRecDepth 100000 in
set_option maxHeartbeats 8000000 in
theorem wholes80 (bs : List Nat) (a : Option Addr) (c : Nat) (hnc : bs.length ≤ c) (hbl : bs.length ≤ 1000000000) (w : World) (ha : RdAt w a bs) :
    Calls Tryz.prog 80 #[.slice a bs.length c, .func (.func 81) #[] #[]] w (GetPostS w (stateR bs)) := by
  have HA := Lib.hid ha
  have HNC := Lib.hid hnc
  have hp := Hp.start w
  have HBL := Lib.hid hbl
  clear ha hnc hbl
  cases hr : stateR0 bs with
  | none =>
    have HE : RowKit.Hid (stateR bs = none) := Lib.hid (by unfold stateR wholeR; rw [hr])
    have HR := Lib.hid hr
    clear hr
    go_enter_defers Tryz.func80, Tryz.ntmps80
    go_wp2_with (first | (go_at_call 101; (with_reducible refine (newr101 _ _ _ _).mono ?_); rintro e w1 ⟨br, rfl, hp2⟩; replace hp := reader4 (hp.join hp2); clear hp2) | (go_at_call 81; have hst : RdSt w _ _ bs [] _ _ := ⟨a, c, HNC.out, HA.out, reader_in hp⟩; (with_reducible refine (inst81 _ _ bs HBL.out hst).mono ?_); clear hst; clear hp; rintro e w1 hq; rw [HR.out] at hq; first | (obtain ⟨y, RR, RO, RF, M, rfl, hy, hrr, hown, a2, c2, hl2, ha2, hp⟩ := hq; have HY := Lib.hid hy; have HW := Lib.hid hown; have HWR := Lib.hid hrr; clear hy hown hl2 ha2 hrr; obtain ⟨⟨od, oa, os, oc, nx, t0, t1, t2, t3, fa, fs, fc⟩, ra, rs, rc⟩ := y; simp only [List.nil_append, Rb, Ib] at hp; simp only [svL, hvL, List.cons_append, List.nil_append]; replace hp := reader_outS hp) | obtain ⟨rfl, hp⟩ := hq) | go_skip | (first | (refine hA0 ?_; clear hp; intro b w1 hp) | refine hL0 ?_ | (refine hS0 ?_; clear hp; intro w1 hp)))
    obtain ⟨b2, rfl⟩ := hp.id0; obtain ⟨b3, rfl⟩ := hp.id1; obtain ⟨b4, rfl⟩ := hp.id2; refine leaves_cons (f := 100) (args := #[.pointer (some ⟨b2, 0, none⟩), .pointer (some ⟨b4, 0, none⟩), .pointer (some ⟨b3, 0, none⟩)]) (by simp) (by simp [go_sem]) ?_
    refine (bad100 b2 b4 b3 zeroSv hp).mono ?_
    clear hp
    rintro e u' w'' ⟨rfl, rfl, hp⟩
    refine ⟨_, results_many (rs := [.cell 4 86, .cell 5 33]) Tryz.results80 (.cell rfl (hp.loadAgg agg86 at2 0 _ (by rfl) (by rfl)) (.cell rfl (hp.loadOne cell33 at1 0 _ (by rfl)) .nil)), ?_⟩
    rw [HE.out]
    exact ⟨rfl, hp.below⟩
  | some p =>
    obtain ⟨x, r⟩ := p
    have HR := Lib.hid hr
    by_cases h0 : r.length = 0
    · have HE : RowKit.Hid (stateR bs = some x) := Lib.hid (by unfold stateR wholeR; rw [hr]; simp only; rw [if_pos h0])
      have e0 : ((r.length : Int) == 0) = true := by simp [h0]
      clear hr h0
      go_enter_defers Tryz.func80, Tryz.ntmps80
      go_wp2_with (first | (go_at_call 101; (with_reducible refine (newr101 _ _ _ _).mono ?_); rintro e w1 ⟨br, rfl, hp2⟩; replace hp := reader4 (hp.join hp2); clear hp2) | (go_at_call 81; have hst : RdSt w _ _ bs [] _ _ := ⟨a, c, HNC.out, HA.out, reader_in hp⟩; (with_reducible refine (inst81 _ _ bs HBL.out hst).mono ?_); clear hst; clear hp; rintro e w1 hq; rw [HR.out] at hq; first | (obtain ⟨y, RR, RO, RF, M, rfl, hy, hrr, hown, a2, c2, hl2, ha2, hp⟩ := hq; have HY := Lib.hid hy; have HW := Lib.hid hown; have HWR := Lib.hid hrr; clear hy hown hl2 ha2 hrr; obtain ⟨⟨od, oa, os, oc, nx, t0, t1, t2, t3, fa, fs, fc⟩, ra, rs, rc⟩ := y; simp only [List.nil_append, Rb, Ib] at hp; simp only [svL, hvL, List.cons_append, List.nil_append]; replace hp := reader_outS hp) | obtain ⟨rfl, hp⟩ := hq) | (go_at_call 102; (with_reducible refine (leftq _ _ _ _ hp).mono ?_); rintro e w' ⟨rfl, rfl⟩) | (go_at_call 89; first | ((with_reducible refine (is89 _).mono ?_); rintro e w' ⟨rfl, rfl⟩) | ((with_reducible refine (is89_no _).mono ?_); rintro e w' ⟨rfl, rfl⟩)) | go_skip | (first | (refine hA0 ?_; clear hp; intro b w1 hp) | refine hL0 ?_ | (refine hS0 ?_; clear hp; intro w1 hp)))
      replace hp := hp.tail.tail
      obtain ⟨b2, rfl⟩ := hp.id0; obtain ⟨b3, rfl⟩ := hp.id1; obtain ⟨b4, rfl⟩ := hp.id2; refine leaves_cons (f := 100) (args := #[.pointer (some ⟨b2, 0, none⟩), .pointer (some ⟨b4, 0, none⟩), .pointer (some ⟨b3, 0, none⟩)]) (by simp) (by simp [go_sem]) ?_
      refine (idle100 _ _ _ _).mono ?_
      rintro e u' w'' ⟨rfl, rfl, rfl⟩
      refine ⟨_, results_many (rs := [.cell 4 86, .cell 5 33]) Tryz.results80 (.cell rfl (hp.loadAgg agg86 at2 0 _ (by rfl) (by rfl)) (.cell rfl (hp.loadOne cell33 at1 0 _ (by rfl)) .nil)), ?_⟩
      rw [HE.out]
      exact ⟨⟨⟨od, oa, os, oc, nx, t0, t1, t2, t3, fa, fs, fc⟩, ra, rs, rc⟩, _, rfl, HY.out, ⟨RR, _, rfl, HWR.out, RO, RF, M, rfl, HW.out⟩, hp.tail.tail.tail⟩
    · have HE : RowKit.Hid (stateR bs = none) := Lib.hid (by unfold stateR wholeR; rw [hr]; simp only; rw [if_neg h0])
      have e0 : ((r.length : Int) == 0) = false := beq_eq_false_iff_ne.2 (by omega)
      clear hr h0
      go_enter_defers Tryz.func80, Tryz.ntmps80
      go_wp2_with (first | (go_at_call 101; (with_reducible refine (newr101 _ _ _ _).mono ?_); rintro e w1 ⟨br, rfl, hp2⟩; replace hp := reader4 (hp.join hp2); clear hp2) | (go_at_call 81; have hst : RdSt w _ _ bs [] _ _ := ⟨a, c, HNC.out, HA.out, reader_in hp⟩; (with_reducible refine (inst81 _ _ bs HBL.out hst).mono ?_); clear hst; clear hp; rintro e w1 hq; rw [HR.out] at hq; first | (obtain ⟨y, RR, RO, RF, M, rfl, hy, hrr, hown, a2, c2, hl2, ha2, hp⟩ := hq; have HY := Lib.hid hy; have HW := Lib.hid hown; have HWR := Lib.hid hrr; clear hy hown hl2 ha2 hrr; obtain ⟨⟨od, oa, os, oc, nx, t0, t1, t2, t3, fa, fs, fc⟩, ra, rs, rc⟩ := y; simp only [List.nil_append, Rb, Ib] at hp; simp only [svL, hvL, List.cons_append, List.nil_append]; replace hp := reader_outS hp) | obtain ⟨rfl, hp⟩ := hq) | (go_at_call 102; (with_reducible refine (leftq _ _ _ _ hp).mono ?_); rintro e w' ⟨rfl, rfl⟩) | (go_at_call 89; first | ((with_reducible refine (is89 _).mono ?_); rintro e w' ⟨rfl, rfl⟩) | ((with_reducible refine (is89_no _).mono ?_); rintro e w' ⟨rfl, rfl⟩)) | go_skip | (first | (refine hA0 ?_; clear hp; intro b w1 hp) | refine hL0 ?_ | (refine hS0 ?_; clear hp; intro w1 hp)))
      replace hp := hp.tail.tail
      obtain ⟨b2, rfl⟩ := hp.id0; obtain ⟨b3, rfl⟩ := hp.id1; obtain ⟨b4, rfl⟩ := hp.id2; refine leaves_cons (f := 100) (args := #[.pointer (some ⟨b2, 0, none⟩), .pointer (some ⟨b4, 0, none⟩), .pointer (some ⟨b3, 0, none⟩)]) (by simp) (by simp [go_sem]) ?_
      refine (bad100 b2 b4 b3 ⟨⟨od, oa, os, oc, nx, t0, t1, t2, t3, fa, fs, fc⟩, ra, rs, rc⟩ hp).mono ?_
      clear hp
      rintro e u' w'' ⟨rfl, rfl, hp⟩
      refine ⟨_, results_many (rs := [.cell 4 86, .cell 5 33]) Tryz.results80 (.cell rfl (hp.loadAgg agg86 at2 0 _ (by rfl) (by rfl)) (.cell rfl (hp.loadOne cell33 at1 0 _ (by rfl)) .nil)), ?_⟩
      rw [HE.out]
      exact ⟨rfl, hp.below⟩
set_option maxRecDepth 100000 in
set_option maxHeartbeats 8000000 in
theorem gets59 (bs : List Nat) (a : Option Addr) (c : Nat) (hnc : bs.length ≤ c) (hbl : bs.length ≤ 1000000000) (w : World) (ha : RdAt w a bs) :
    Calls Tryz.prog 59 #[.slice a bs.length c] w (GetPostS w (stateR bs)) := by
  have HA := Lib.hid ha
  have HNC := Lib.hid hnc
  have hp := Hp.start w
  have HBL := Lib.hid hbl
  clear ha hnc hbl
  cases hr : stateR bs with
  | none =>
    have HR := Lib.hid hr
    clear hr
    go_enter Tryz.func59, Tryz.ntmps59
    go_wp2_with (first | (go_at_call 80; (with_reducible refine (wholes80 bs a c HNC.out HBL.out _ (HA.out.below hp.below)).mono ?_); rintro e w1 hq; rw [HR.out] at hq; first | (obtain ⟨y, R, rfl, hy, hown, hp2⟩ := hq; replace hp := hp.join hp2; have HY := Lib.hid hy; have HW := Lib.hid hown; clear hy hown hp2; obtain ⟨⟨od, oa, os, oc, nx, t0, t1, t2, t3, fa, fs, fc⟩, ra, rs, rc⟩ := y; simp only [svL, hvL, List.cons_append, List.nil_append] at hp ⊢) | (obtain ⟨rfl, hb⟩ := hq; replace hp := hp.call hb; clear hb; simp only [svL, hvL, zeroSv, zeroHv, List.cons_append, List.nil_append])) | go_skip | (first | (refine hA0 ?_; clear hp; intro b w1 hp) | refine hL0 ?_ | (refine hS0 ?_; clear hp; intro w1 hp)))
    exact bodyPost_ret (results_many (rs := [.cell 2 86, .tmp 3]) Tryz.results59 (.cell rfl (hp.loadAgg agg86 at0 0 _ (by rfl) (by rfl)) (.tmp rfl .nil))) rfl ⟨rfl, hp.below⟩
  | some x =>
    have HR := Lib.hid hr
    clear hr
    go_enter Tryz.func59, Tryz.ntmps59
    go_wp2_with (first | (go_at_call 80; (with_reducible refine (wholes80 bs a c HNC.out HBL.out _ (HA.out.below hp.below)).mono ?_); rintro e w1 hq; rw [HR.out] at hq; first | (obtain ⟨y, R, rfl, hy, hown, hp2⟩ := hq; replace hp := hp.join hp2; have HY := Lib.hid hy; have HW := Lib.hid hown; clear hy hown hp2; obtain ⟨⟨od, oa, os, oc, nx, t0, t1, t2, t3, fa, fs, fc⟩, ra, rs, rc⟩ := y; simp only [svL, hvL, List.cons_append, List.nil_append] at hp ⊢) | (obtain ⟨rfl, hb⟩ := hq; replace hp := hp.call hb; clear hb; simp only [svL, hvL, zeroSv, zeroHv, List.cons_append, List.nil_append])) | go_skip | (first | (refine hA0 ?_; clear hp; intro b w1 hp) | refine hL0 ?_ | (refine hS0 ?_; clear hp; intro w1 hp)))
    exact bodyPost_ret (results_many (rs := [.cell 2 86, .tmp 3]) Tryz.results59 (.cell rfl (hp.loadAgg agg86 at0 0 _ (by rfl) (by rfl)) (.tmp rfl .nil))) rfl ⟨⟨⟨od, oa, os, oc, nx, t0, t1, t2, t3, fa, fs, fc⟩, ra, rs, rc⟩, R, rfl, HY.out, HW.out, hp.tail⟩
end Go.Proofs.YtcjbepaclbhjaaaGreat

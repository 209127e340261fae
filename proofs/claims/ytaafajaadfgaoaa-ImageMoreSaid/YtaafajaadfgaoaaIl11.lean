/- Parts of the proof. -/
import Derived.Test.YtaafajaadfgaoaaIl10
import Derived.Test.YtaafajaadfgaoaaIl6
import Derived.Test.YtaafajaadfgaoaaIl8
import Derived.Test.YtaafajaadfgaoaaIl2
import Derived.WalkMore
import Derived.ScopeJumps
import Derived.Test.YtaafajaadfgaoaaIl1
import Derived.Test.YtaafajaadfgaoaaIl3
import Derived.Test.YtaafajaadfgaoaaIl4
open List renaming set_cons_zero → zSet, set_cons_succ → sSet
/- The walks of GetState: a state that is all there is (the second half is written by mkjs.py out of JK). -/
set_option linter.unusedSimpArgs false
set_option linter.unusedVariables false
namespace Go.Proofs.Ytaafajaadfgaoaa
open Go.RowKit
theorem gaJS0 {ty : TypeId} {k : Nat} (h : aggB Try.prog ty k = true := by with_reducible first | exact agg29 | exact agg26 | exact agg69) : aggB Try.prog ty k = true := h
theorem ceJS1 {ty : TypeId} (h : cellB Try.prog ty = true := by with_reducible first | exact cell3 | exact cell4 | exact cell67 | exact cell105 | exact cell32 | exact cell27) : cellB Try.prog ty = true := h
noncomputable def stateR1 (x : Hv) (b1 : List Nat) : Option (Sv × List Nat) := match nR b1 with
  | none => none
  | some (n, b2) => if 4 < n then none else match repR rowR n.toNat b2 with
    | none => none
    | some (rs, b3) => if stB ⟨x, none, rs, 0⟩ = true then some (⟨x, none, rs, 0⟩, b3) else none
noncomputable def stateR0 (bs : List Nat) : Option (Sv × List Nat) := match textR bs with
  | none => none
  | some (t, b1) => match heapR t with
    | none => none
    | some x => stateR1 x b1
noncomputable def stateR (bs : List Nat) : Option Sv := wholeR stateR0 bs
def GetPostS (w : World) (r : Option Sv) (e : Ending) (w' : World) : Prop :=
  match r with
  | some x => ∃ y R, e = .returned (.tuple #[.agg (svL y).toArray, .int .i64 0]) ∧ y.Sm x ∧ SvO y R ∧ Hp w.heap.size w w' R
  | none => e = .returned (.tuple #[.agg (svL zeroSv).toArray, .int .i64 60]) ∧ Below w.heap.size w w'
def StatePost (w0 : World) (br bi : Nat) (r : Option (Sv × List Nat)) (L : List Blk) (e : Ending) (w' : World) : Prop :=
  match r with
  | some (x, bs') => ∃ y RR RO RF M, e = .returned (.agg (svL y).toArray) ∧ y.Sm x ∧ OwnRow 54 4 (.slice y.ra y.rs.length y.rc) y.rs.length (y.rs.flatMap rwV) RR ∧ HvR y.hv RO RF M ∧ RdSt w0 br bi bs' [] (RR ++ (RO ++ (RF ++ (M ++ L)))) w'
  | none => e = .panicked badP ∧ Hp w0.heap.size w0 w' L
theorem heapR_right {bs : List Nat} {x : Hv} (h : heapR bs = some x) : HRight x := by
  unfold heapR wholeR at h
  split at h
  · rename_i y r hy
    split at h
    · injection h with h
      subst h
      unfold heapR0 at hy
      split at hy
      · cases hy
      · split at hy
        · cases hy
        · unfold heapR1 at hy
          split at hy
          · cases hy
          · unfold heapR2 at hy
            split at hy
            · cases hy
            · split at hy
              · cases hy
              · split at hy
                · cases hy
                · unfold heapR3 at hy
                  split at hy
                  · split at hy
                    · rename_i hb
                      injection hy with hy
                      injection hy with hy _
                      rw [← hy]
                      exact hright_of hb
                    · cases hy
                  · cases hy
    · cases h
  · cases h
theorem text_call (br c : Nat) (t r : List Nat) (a : Option Addr) (bs : List Nat) (hv : textR bs = some (t, r)) (hnc : bs.length ≤ c) (hbl : bs.length ≤ 1000000000) {w0 w : World} {x y i : Blk} {L : List Blk} (hp : Hp w0.heap.size w0 w (x :: y :: ⟨br, [.slice a bs.length c], 105, 1⟩ :: i :: L)) (ha : RdAt w0 a bs) :
    Calls Try.prog 26 #[.pointer (some ⟨br, 0, none⟩)] w fun e w' => e = .returned (.tuple #[.string (strOfNums (nI t)), .int .i64 0]) ∧ ∃ a' c', r.length ≤ c' ∧ RdAt w0 a' r ∧ Hp w0.heap.size w0 w' (x :: y :: ⟨br, [.slice a' r.length c'], 105, 1⟩ :: i :: L) := by
  refine (textg26 br c t r a bs hv hnc hbl (L := x :: y :: i :: L) (show Hp w0.heap.size w0 w (x :: y :: Rb br a bs.length c :: i :: L) from hp).kp ha).mono fun e w' h => ?_
  obtain ⟨h1, c', h2, a', h3, h4⟩ := h
  exact ⟨h1, a', c', h2, h3, (show Hp w0.heap.size w0 w' (x :: y :: Rb br a' r.length c' :: i :: L) from h4.kp)⟩
theorem text_call_no (br c : Nat) (a : Option Addr) (bs : List Nat) (hv : textR bs = none) (hnc : bs.length ≤ c) (hbl : bs.length ≤ 1000000000) {w0 w : World} {x y i : Blk} {L : List Blk} (hp : Hp w0.heap.size w0 w (x :: y :: ⟨br, [.slice a bs.length c], 105, 1⟩ :: i :: L)) (ha : RdAt w0 a bs) :
    Calls Try.prog 26 #[.pointer (some ⟨br, 0, none⟩)] w fun e w' => (∃ q : Int, (q = 10 ∨ q = 11) ∧ e = .returned (.tuple #[.string ⟨#[]⟩, .int .i64 q])) ∧ w = w' :=
  textg26_no br c a bs hv hnc hbl (L := x :: y :: i :: L) (show Hp w0.heap.size w0 w (x :: y :: Rb br a bs.length c :: i :: L) from hp).kp ha
theorem got24L (od : Int) (oa : Option Addr) (os : List Ob) (oc : Nat) (nx t0 t1 t2 t3 : Int) (fa : Option Addr) (fs : List Bl) (fc : Nat) (w : World) : Calls Try.prog 24 #[.agg #[.int .i64 od, .slice oa os.length oc, .int .i64 nx, .int .i64 t0, .int .i64 t1, .int .i64 t2, .int .i64 t3, .slice fa fs.length fc], .int .i64 0] w fun e w' => e = .returned (.agg #[.int .i64 od, .slice oa os.length oc, .int .i64 nx, .int .i64 t0, .int .i64 t1, .int .i64 t2, .int .i64 t3, .slice fa fs.length fc]) ∧ Below w.heap.size w w' := got24 ⟨od, oa, os, oc, nx, t0, t1, t2, t3, fa, fs, fc⟩ w
theorem got24Z (w : World) : Calls Try.prog 24 #[.agg #[.int .i64 0, .slice none 0 0, .int .i64 0, .int .i64 0, .int .i64 0, .int .i64 0, .int .i64 0, .slice none 0 0], .int .i64 60] w fun e w' => e = .panicked badP ∧ Below w.heap.size w w' := got24_no zeroHv w
theorem RdSt.mk7 {w0 w : World} {br bi c : Nat} {a : Option Addr} {bs : List Nat} {x y : Blk} {RR RO RF M L : List Blk} (h1 : bs.length ≤ c) (h2 : RdAt w0 a bs)
    (hp : Hp w0.heap.size w0 w (x :: y :: ⟨br, [.slice a bs.length c], 105, 1⟩ :: ⟨bi, [.pointer (some ⟨br, 0, none⟩)], 69, 1⟩ :: (RR ++ (L ++ (RO ++ (RF ++ M)))))) : RdSt w0 br bi bs [] (RR ++ (RO ++ (RF ++ (M ++ L)))) w :=
  ⟨a, c, h1, h2, (show Hp w0.heap.size w0 w (x :: y :: Rb br a bs.length c :: Ib bi br :: (RR ++ (L ++ (RO ++ (RF ++ M))))) from hp).kp⟩
theorem front2r {B : Nat} {w0 w : World} {x y r i : Blk} {RR L : List Blk} (hp : Hp B w0 w (r :: i :: (RR ++ (x :: y :: L)))) : Hp B w0 w (x :: y :: r :: i :: (RR ++ L)) := hp.kp
theorem join5 {B : Nat} {w0 w : World} {x y r i : Blk} {L R : List Blk} (hp : Hp B w0 w ((x :: y :: r :: i :: L) ++ R)) : Hp B w0 w (x :: y :: r :: i :: (L ++ R)) := hp.kp
set_option maxRecDepth 100000 in
set_option maxHeartbeats 16000000 in
theorem inst23 (br bi : Nat) (bs : List Nat) (hbl : bs.length ≤ 1000000000) {w0 w : World} {L : List Blk} (hs : RdSt w0 br bi bs [] L w) :
    Calls Try.prog 23 #[.pointer (some ⟨bi, 0, none⟩)] w (StatePost w0 br bi (stateR0 bs) L) := by
  obtain ⟨a, c, hl, ha, hp⟩ := hs
  have HL := Lib.hid hl
  have HBY := Lib.hid ha.2
  have HA := Lib.hid ha
  have HBL := Lib.hid hbl
  clear hl ha hbl
  simp only [List.nil_append, Rb, Ib] at hp
  cases ht : textR bs with
  | none =>
    have HT := Lib.hid ht
    have HR : RowKit.Hid (stateR0 bs = none) := Lib.hid (by unfold stateR0; rw [ht])
    clear ht
    go_enter Try.func23, Try.ntmps23
    go_wp2_with (first | (go_at_call 26; first | ((with_reducible refine (text_call br _ t b1 _ bs HT.out HL.out HBL.out hp HA.out).mono ?_); clear hp HL HA; rintro e w1 ⟨rfl, a, c, hl, ha, hp⟩; have HL := Lib.hid hl; have HA := Lib.hid ha; clear hl ha) | ((with_reducible refine (text_call_no br _ _ bs HT.out HL.out HBL.out hp HA.out).mono ?_); rintro e w1 ⟨⟨q, hq, rfl⟩, rfl⟩)) | (go_at_call 25; first | ((with_reducible refine (got25 _ _).mono ?_); rintro e w' ⟨rfl, rfl⟩) | ((with_reducible refine (got25_no _ _ hq _).mono ?_); rintro e w' ⟨rfl, rfl⟩)) | go_skip | ((first | ((with_reducible refine pre_alloc _ rfl ?_); refine lZ hp rfl (by with_reducible first | exact zero29 | exact zero32) ?_; clear hp; intro b w1 hp) | ((with_reducible refine pre_box _ _ rfl ?_); refine lB hp rfl (sTm rfl) rfl ?_; clear hp; intro b w1 hp) | ((with_reducible refine pre_load _ _ rfl ?_); first | refine lO hp rfl (sTm rfl) ceJS1 aa5 ?_ | refine lA hp rfl (sTm rfl) gaJS0 aa5 ?_) | ((with_reducible refine pre_store _ _ _ rfl ?_); (first | refine sO hp rfl (sTm rfl) ceJS1 aa5 ?_ | refine sA hp rfl (sTm rfl) (sTm rfl) gaJS0 aa5 ?_ | refine sG hp rfl (sTm rfl) (sTm rfl) gaJS0 aa5 ?_); clear hp; intro w1 hp; simp only [spl, zSet, sSet] at hp) | ((with_reducible refine pre_build _ _ _ rfl ?_); refine lS hp rfl (by intro w; go_simp; rfl) ?_; clear hp; intro b w1 hp; simp only [List.length_cons, List.length_nil, Nat.reduceAdd] at hp)); simp only [put_some, put_none, sSet, zSet]))
    refine ⟨rfl, ?_⟩; show StatePost w0 br bi (stateR0 bs) L _ _; rw [HR.out]
    exact ⟨rfl, hp.kp⟩
  | some q =>
    obtain ⟨t, b1⟩ := q
    have HT := Lib.hid ht
    obtain ⟨tn, _, _, _, htt, _⟩ := text_some ht
    have hby : Bytes t := by rw [htt]; exact (HBY.out.drop 4).take tn
    have HTB : RowKit.Hid (strB (strOfNums (nI t)) = t) := Lib.hid (strB_of hby)
    have HSZ : RowKit.Hid ((strOfNums (nI t)).size = t.length) := Lib.hid (by rw [← strB_len, strB_of hby])
    clear htt hby
    cases hh : heapR t with
    | none =>
      have HH := Lib.hid hh
      have HR : RowKit.Hid (stateR0 bs = none) := Lib.hid (by unfold stateR0; rw [ht]; simp only; rw [hh])
      clear ht hh
      go_enter Try.func23, Try.ntmps23
      go_wp2_with (first | (go_at_call 26; first | ((with_reducible refine (text_call br _ t b1 _ bs HT.out HL.out HBL.out hp HA.out).mono ?_); clear hp HL HA; rintro e w1 ⟨rfl, a, c, hl, ha, hp⟩; have HL := Lib.hid hl; have HA := Lib.hid ha; clear hl ha) | ((with_reducible refine (text_call_no br _ _ bs HT.out HL.out HBL.out hp HA.out).mono ?_); rintro e w1 ⟨⟨q, hq, rfl⟩, rfl⟩)) | (go_at_call 25; first | ((with_reducible refine (got25 _ _).mono ?_); rintro e w' ⟨rfl, rfl⟩) | ((with_reducible refine (got25_no _ _ hq _).mono ?_); rintro e w' ⟨rfl, rfl⟩)) | ((with_reducible refine pre_convert _ _ _ rfl ?_); refine wpList_convB hp 9 31 5 _ rfl wy Try.underlying9 Try.underlying31 Try.underlying5 _ (sTm rfl) ?_; clear hp; intro ad cb w1 hcb had hp; rw [HTB.out] at had; rw [HSZ.out] at hcb ⊢; have HCB := Lib.hid hcb; have HAD := Lib.hid had; clear hcb had; simp only [put_some, put_none, sSet, zSet]) | (go_at_call 11; (with_reducible refine (geth11 t ad cb HCB.out _ HAD.out).mono ?_); rintro e w1 hq; rw [HH.out] at hq; first | (obtain ⟨y, R, rfl, hy, ⟨RO, RF, M, rfl, hown⟩, hp2⟩ := hq; replace hp := join5 (hp.join hp2); have HY := Lib.hid hy; have HW := Lib.hid hown; clear hy hown hp2; obtain ⟨od, oa, os, oc, nx, t0, t1, t2, t3, fa, fs, fc⟩ := y; simp only [hvL]) | (obtain ⟨rfl, hb⟩ := hq; replace hp := hp.call hb; clear hb; simp only [hvL, zeroHv])) | (go_at_call 24; first | ((with_reducible refine (got24L od oa os oc nx t0 t1 t2 t3 fa fs fc _).mono ?_); rintro e w1 ⟨rfl, hb⟩; replace hp := hp.call hb; clear hb) | ((with_reducible refine (got24Z _).mono ?_); rintro e w1 ⟨rfl, hb⟩; replace hp := hp.call hb; clear hb)) | go_skip | ((first | ((with_reducible refine pre_alloc _ rfl ?_); refine lZ hp rfl (by with_reducible first | exact zero29 | exact zero32) ?_; clear hp; intro b w1 hp) | ((with_reducible refine pre_box _ _ rfl ?_); refine lB hp rfl (sTm rfl) rfl ?_; clear hp; intro b w1 hp) | ((with_reducible refine pre_load _ _ rfl ?_); first | refine lO hp rfl (sTm rfl) ceJS1 aa5 ?_ | refine lA hp rfl (sTm rfl) gaJS0 aa5 ?_) | ((with_reducible refine pre_store _ _ _ rfl ?_); (first | refine sO hp rfl (sTm rfl) ceJS1 aa5 ?_ | refine sA hp rfl (sTm rfl) (sTm rfl) gaJS0 aa5 ?_ | refine sG hp rfl (sTm rfl) (sTm rfl) gaJS0 aa5 ?_); clear hp; intro w1 hp; simp only [spl, zSet, sSet] at hp) | ((with_reducible refine pre_build _ _ _ rfl ?_); refine lS hp rfl (by intro w; go_simp; rfl) ?_; clear hp; intro b w1 hp; simp only [List.length_cons, List.length_nil, Nat.reduceAdd] at hp)); simp only [put_some, put_none, sSet, zSet]))
      refine ⟨rfl, ?_⟩; show StatePost w0 br bi (stateR0 bs) L _ _; rw [HR.out]
      exact ⟨rfl, hp.kp⟩
    | some x =>
      have HH := Lib.hid hh
      have HE0 : RowKit.Hid (stateR0 bs = stateR1 x b1) := Lib.hid (by unfold stateR0; rw [ht]; simp only; rw [hh])
      have HXR := Lib.hid (heapR_right hh)
      clear ht hh
      cases h4 : nR b1 with
      | none =>
        have H4 := Lib.hid h4
        have HR : RowKit.Hid (stateR0 bs = none) := Lib.hid (by rw [HE0.out]; unfold stateR1; rw [h4])
        clear h4
        go_enter Try.func23, Try.ntmps23
        go_wp2_with (first | (go_at_call 26; first | ((with_reducible refine (text_call br _ t b1 _ bs HT.out HL.out HBL.out hp HA.out).mono ?_); clear hp HL HA; rintro e w1 ⟨rfl, a, c, hl, ha, hp⟩; have HL := Lib.hid hl; have HA := Lib.hid ha; clear hl ha) | ((with_reducible refine (text_call_no br _ _ bs HT.out HL.out HBL.out hp HA.out).mono ?_); rintro e w1 ⟨⟨q, hq, rfl⟩, rfl⟩)) | (go_at_call 25; first | ((with_reducible refine (got25 _ _).mono ?_); rintro e w' ⟨rfl, rfl⟩) | ((with_reducible refine (got25_no _ _ hq _).mono ?_); rintro e w' ⟨rfl, rfl⟩)) | ((with_reducible refine pre_convert _ _ _ rfl ?_); refine wpList_convB hp 9 31 5 _ rfl wy Try.underlying9 Try.underlying31 Try.underlying5 _ (sTm rfl) ?_; clear hp; intro ad cb w1 hcb had hp; rw [HTB.out] at had; rw [HSZ.out] at hcb ⊢; have HCB := Lib.hid hcb; have HAD := Lib.hid had; clear hcb had; simp only [put_some, put_none, sSet, zSet]) | (go_at_call 11; (with_reducible refine (geth11 t ad cb HCB.out _ HAD.out).mono ?_); rintro e w1 hq; rw [HH.out] at hq; first | (obtain ⟨y, R, rfl, hy, ⟨RO, RF, M, rfl, hown⟩, hp2⟩ := hq; replace hp := join5 (hp.join hp2); have HY := Lib.hid hy; have HW := Lib.hid hown; clear hy hown hp2; obtain ⟨od, oa, os, oc, nx, t0, t1, t2, t3, fa, fs, fc⟩ := y; simp only [hvL]) | (obtain ⟨rfl, hb⟩ := hq; replace hp := hp.call hb; clear hb; simp only [hvL, zeroHv])) | (go_at_call 24; first | ((with_reducible refine (got24L od oa os oc nx t0 t1 t2 t3 fa fs fc _).mono ?_); rintro e w1 ⟨rfl, hb⟩; replace hp := hp.call hb; clear hb) | ((with_reducible refine (got24Z _).mono ?_); rintro e w1 ⟨rfl, hb⟩; replace hp := hp.call hb; clear hb)) | (go_at_call 28; refine (inn28 br bi _ (K := [_, _]) (L := _) ⟨_, _, HL.out, HA.out, hp⟩).mono ?_; clear hp HL HA; rintro e w1 hq; rw [H4.out] at hq; (first | (obtain ⟨rfl, a, c, hl, ha, hp⟩ := hq; have HL := Lib.hid hl; have HA := Lib.hid ha; clear hl ha; simp only [List.cons_append, List.nil_append, Rb, Ib] at hp) | (obtain ⟨rfl, hp⟩ := hq; simp only [List.cons_append, List.nil_append] at hp))) | go_skip | ((first | ((with_reducible refine pre_alloc _ rfl ?_); refine lZ hp rfl (by with_reducible first | exact zero29 | exact zero32) ?_; clear hp; intro b w1 hp) | ((with_reducible refine pre_box _ _ rfl ?_); refine lB hp rfl (sTm rfl) rfl ?_; clear hp; intro b w1 hp) | ((with_reducible refine pre_load _ _ rfl ?_); first | refine lO hp rfl (sTm rfl) ceJS1 aa5 ?_ | refine lA hp rfl (sTm rfl) gaJS0 aa5 ?_) | ((with_reducible refine pre_store _ _ _ rfl ?_); (first | refine sO hp rfl (sTm rfl) ceJS1 aa5 ?_ | refine sA hp rfl (sTm rfl) (sTm rfl) gaJS0 aa5 ?_ | refine sG hp rfl (sTm rfl) (sTm rfl) gaJS0 aa5 ?_); clear hp; intro w1 hp; simp only [spl, zSet, sSet] at hp) | ((with_reducible refine pre_build _ _ _ rfl ?_); refine lS hp rfl (by intro w; go_simp; rfl) ?_; clear hp; intro b w1 hp; simp only [List.length_cons, List.length_nil, Nat.reduceAdd] at hp)); simp only [put_some, put_none, sSet, zSet]))
        refine ⟨rfl, ?_⟩; show StatePost w0 br bi (stateR0 bs) L _ _; rw [HR.out]
        exact ⟨rfl, hp.kp⟩
      | some q4 =>
        obtain ⟨k, b2⟩ := q4
        have H4 := Lib.hid h4
        clear h4
        obtain ⟨k, rfl, hk⟩ := nR_nat H4.out
        by_cases hk2 : (4 : Int) < (k : Int)
        · have HK := Lib.hid hk2
          have HR : RowKit.Hid (stateR0 bs = none) := Lib.hid (by rw [HE0.out]; unfold stateR1; rw [H4.out]; simp only; rw [if_pos hk2])
          clear hk2 hk
          go_enter Try.func23, Try.ntmps23
          go_wp2_with (first | (go_at_call 26; first | ((with_reducible refine (text_call br _ t b1 _ bs HT.out HL.out HBL.out hp HA.out).mono ?_); clear hp HL HA; rintro e w1 ⟨rfl, a, c, hl, ha, hp⟩; have HL := Lib.hid hl; have HA := Lib.hid ha; clear hl ha) | ((with_reducible refine (text_call_no br _ _ bs HT.out HL.out HBL.out hp HA.out).mono ?_); rintro e w1 ⟨⟨q, hq, rfl⟩, rfl⟩)) | (go_at_call 25; first | ((with_reducible refine (got25 _ _).mono ?_); rintro e w' ⟨rfl, rfl⟩) | ((with_reducible refine (got25_no _ _ hq _).mono ?_); rintro e w' ⟨rfl, rfl⟩)) | ((with_reducible refine pre_convert _ _ _ rfl ?_); refine wpList_convB hp 9 31 5 _ rfl wy Try.underlying9 Try.underlying31 Try.underlying5 _ (sTm rfl) ?_; clear hp; intro ad cb w1 hcb had hp; rw [HTB.out] at had; rw [HSZ.out] at hcb ⊢; have HCB := Lib.hid hcb; have HAD := Lib.hid had; clear hcb had; simp only [put_some, put_none, sSet, zSet]) | (go_at_call 11; (with_reducible refine (geth11 t ad cb HCB.out _ HAD.out).mono ?_); rintro e w1 hq; rw [HH.out] at hq; first | (obtain ⟨y, R, rfl, hy, ⟨RO, RF, M, rfl, hown⟩, hp2⟩ := hq; replace hp := join5 (hp.join hp2); have HY := Lib.hid hy; have HW := Lib.hid hown; clear hy hown hp2; obtain ⟨od, oa, os, oc, nx, t0, t1, t2, t3, fa, fs, fc⟩ := y; simp only [hvL]) | (obtain ⟨rfl, hb⟩ := hq; replace hp := hp.call hb; clear hb; simp only [hvL, zeroHv])) | (go_at_call 24; first | ((with_reducible refine (got24L od oa os oc nx t0 t1 t2 t3 fa fs fc _).mono ?_); rintro e w1 ⟨rfl, hb⟩; replace hp := hp.call hb; clear hb) | ((with_reducible refine (got24Z _).mono ?_); rintro e w1 ⟨rfl, hb⟩; replace hp := hp.call hb; clear hb)) | (go_at_call 28; refine (inn28 br bi _ (K := [_, _]) (L := _) ⟨_, _, HL.out, HA.out, hp⟩).mono ?_; clear hp HL HA; rintro e w1 hq; rw [H4.out] at hq; (first | (obtain ⟨rfl, a, c, hl, ha, hp⟩ := hq; have HL := Lib.hid hl; have HA := Lib.hid ha; clear hl ha; simp only [List.cons_append, List.nil_append, Rb, Ib] at hp) | (obtain ⟨rfl, hp⟩ := hq; simp only [List.cons_append, List.nil_append] at hp))) | (go_at_call 27; (with_reducible refine (many27_no bi k 4 HK.out _).mono ?_); rintro e w' ⟨rfl, rfl⟩) | go_skip | ((first | ((with_reducible refine pre_alloc _ rfl ?_); refine lZ hp rfl (by with_reducible first | exact zero29 | exact zero32) ?_; clear hp; intro b w1 hp) | ((with_reducible refine pre_box _ _ rfl ?_); refine lB hp rfl (sTm rfl) rfl ?_; clear hp; intro b w1 hp) | ((with_reducible refine pre_load _ _ rfl ?_); first | refine lO hp rfl (sTm rfl) ceJS1 aa5 ?_ | refine lA hp rfl (sTm rfl) gaJS0 aa5 ?_) | ((with_reducible refine pre_store _ _ _ rfl ?_); (first | refine sO hp rfl (sTm rfl) ceJS1 aa5 ?_ | refine sA hp rfl (sTm rfl) (sTm rfl) gaJS0 aa5 ?_ | refine sG hp rfl (sTm rfl) (sTm rfl) gaJS0 aa5 ?_); clear hp; intro w1 hp; simp only [spl, zSet, sSet] at hp) | ((with_reducible refine pre_build _ _ _ rfl ?_); refine lS hp rfl (by intro w; go_simp; rfl) ?_; clear hp; intro b w1 hp; simp only [List.length_cons, List.length_nil, Nat.reduceAdd] at hp)); simp only [put_some, put_none, sSet, zSet]))
          refine ⟨rfl, ?_⟩; show StatePost w0 br bi (stateR0 bs) L _ _; rw [HR.out]
          exact ⟨rfl, hp.kp⟩
        · have HE2 : RowKit.Hid (stateR1 x b1 = match repR rowR k b2 with | none => none | some (rs, b3) => if stB ⟨x, none, rs, 0⟩ = true then some (⟨x, none, rs, 0⟩, b3) else none) := Lib.hid (by unfold stateR1; rw [H4.out]; simp only; rw [if_neg hk2, Int.toNat_natCast])
          have HK1 : RowKit.Hid ((k : Int) ≤ 4) := Lib.hid (by omega)
          have HK2 : RowKit.Hid (k ≤ 1000) := Lib.hid (by omega)
          clear hk hk2
          cases h5 : repR rowR k b2 with
          | none =>
            have H5 := Lib.hid h5
            have HR : RowKit.Hid (stateR0 bs = none) := Lib.hid (by rw [HE0.out, HE2.out, h5])
            clear h5
            go_enter Try.func23, Try.ntmps23
            go_wp2_with (first | (go_at_call 26; first | ((with_reducible refine (text_call br _ t b1 _ bs HT.out HL.out HBL.out hp HA.out).mono ?_); clear hp HL HA; rintro e w1 ⟨rfl, a, c, hl, ha, hp⟩; have HL := Lib.hid hl; have HA := Lib.hid ha; clear hl ha) | ((with_reducible refine (text_call_no br _ _ bs HT.out HL.out HBL.out hp HA.out).mono ?_); rintro e w1 ⟨⟨q, hq, rfl⟩, rfl⟩)) | (go_at_call 25; first | ((with_reducible refine (got25 _ _).mono ?_); rintro e w' ⟨rfl, rfl⟩) | ((with_reducible refine (got25_no _ _ hq _).mono ?_); rintro e w' ⟨rfl, rfl⟩)) | ((with_reducible refine pre_convert _ _ _ rfl ?_); refine wpList_convB hp 9 31 5 _ rfl wy Try.underlying9 Try.underlying31 Try.underlying5 _ (sTm rfl) ?_; clear hp; intro ad cb w1 hcb had hp; rw [HTB.out] at had; rw [HSZ.out] at hcb ⊢; have HCB := Lib.hid hcb; have HAD := Lib.hid had; clear hcb had; simp only [put_some, put_none, sSet, zSet]) | (go_at_call 11; (with_reducible refine (geth11 t ad cb HCB.out _ HAD.out).mono ?_); rintro e w1 hq; rw [HH.out] at hq; first | (obtain ⟨y, R, rfl, hy, ⟨RO, RF, M, rfl, hown⟩, hp2⟩ := hq; replace hp := join5 (hp.join hp2); have HY := Lib.hid hy; have HW := Lib.hid hown; clear hy hown hp2; obtain ⟨od, oa, os, oc, nx, t0, t1, t2, t3, fa, fs, fc⟩ := y; simp only [hvL]) | (obtain ⟨rfl, hb⟩ := hq; replace hp := hp.call hb; clear hb; simp only [hvL, zeroHv])) | (go_at_call 24; first | ((with_reducible refine (got24L od oa os oc nx t0 t1 t2 t3 fa fs fc _).mono ?_); rintro e w1 ⟨rfl, hb⟩; replace hp := hp.call hb; clear hb) | ((with_reducible refine (got24Z _).mono ?_); rintro e w1 ⟨rfl, hb⟩; replace hp := hp.call hb; clear hb)) | (go_at_call 28; refine (inn28 br bi _ (K := [_, _]) (L := _) ⟨_, _, HL.out, HA.out, hp⟩).mono ?_; clear hp HL HA; rintro e w1 hq; rw [H4.out] at hq; (first | (obtain ⟨rfl, a, c, hl, ha, hp⟩ := hq; have HL := Lib.hid hl; have HA := Lib.hid ha; clear hl ha; simp only [List.cons_append, List.nil_append, Rb, Ib] at hp) | (obtain ⟨rfl, hp⟩ := hq; simp only [List.cons_append, List.nil_append] at hp))) | (go_at_call 27; have hst : RdSt w0 br bi _ [] _ _ := RdSt.front (K := [_, _]) (L := L ++ (RO ++ (RF ++ M))) ⟨_, _, HL.out, HA.out, hp⟩; (with_reducible refine (many27 br bi k 4 HK1.out HK2.out _ hst).mono ?_); clear hst; clear hp HL HA; rintro e w1 hq; rw [H5.out] at hq; first | (obtain ⟨vo, RR, rfl, hol, hrr, a, c, hl, ha, hp⟩ := hq; subst hol; obtain ⟨ra, rc, rfl, _⟩ := hrr.kept; have HL := Lib.hid hl; have HA := Lib.hid ha; have HRR := Lib.hid hrr; clear hl ha hrr; simp only [List.cons_append, List.nil_append, Rb, Ib] at hp; replace hp := front2r hp) | (obtain ⟨rfl, hp⟩ := hq; simp only [List.cons_append, List.nil_append] at hp)) | go_skip | ((first | ((with_reducible refine pre_alloc _ rfl ?_); refine lZ hp rfl (by with_reducible first | exact zero29 | exact zero32) ?_; clear hp; intro b w1 hp) | ((with_reducible refine pre_box _ _ rfl ?_); refine lB hp rfl (sTm rfl) rfl ?_; clear hp; intro b w1 hp) | ((with_reducible refine pre_load _ _ rfl ?_); first | refine lO hp rfl (sTm rfl) ceJS1 aa5 ?_ | refine lA hp rfl (sTm rfl) gaJS0 aa5 ?_) | ((with_reducible refine pre_store _ _ _ rfl ?_); (first | refine sO hp rfl (sTm rfl) ceJS1 aa5 ?_ | refine sA hp rfl (sTm rfl) (sTm rfl) gaJS0 aa5 ?_ | refine sG hp rfl (sTm rfl) (sTm rfl) gaJS0 aa5 ?_); clear hp; intro w1 hp; simp only [spl, zSet, sSet] at hp) | ((with_reducible refine pre_build _ _ _ rfl ?_); refine lS hp rfl (by intro w; go_simp; rfl) ?_; clear hp; intro b w1 hp; simp only [List.length_cons, List.length_nil, Nat.reduceAdd] at hp)); simp only [put_some, put_none, sSet, zSet]))
            refine ⟨rfl, ?_⟩; show StatePost w0 br bi (stateR0 bs) L _ _; rw [HR.out]
            exact ⟨rfl, hp.kp⟩
          | some q5 =>
            obtain ⟨rs, b3⟩ := q5
            have H5 := Lib.hid h5
            have HE3 : RowKit.Hid (stateR0 bs = if stB ⟨x, none, rs, 0⟩ = true then some (⟨x, none, rs, 0⟩, b3) else none) := Lib.hid (by rw [HE0.out, HE2.out, h5])
            clear h5
            go_enter Try.func23, Try.ntmps23
            go_wp2_with (first | (go_at_call 26; first | ((with_reducible refine (text_call br _ t b1 _ bs HT.out HL.out HBL.out hp HA.out).mono ?_); clear hp HL HA; rintro e w1 ⟨rfl, a, c, hl, ha, hp⟩; have HL := Lib.hid hl; have HA := Lib.hid ha; clear hl ha) | ((with_reducible refine (text_call_no br _ _ bs HT.out HL.out HBL.out hp HA.out).mono ?_); rintro e w1 ⟨⟨q, hq, rfl⟩, rfl⟩)) | (go_at_call 25; first | ((with_reducible refine (got25 _ _).mono ?_); rintro e w' ⟨rfl, rfl⟩) | ((with_reducible refine (got25_no _ _ hq _).mono ?_); rintro e w' ⟨rfl, rfl⟩)) | ((with_reducible refine pre_convert _ _ _ rfl ?_); refine wpList_convB hp 9 31 5 _ rfl wy Try.underlying9 Try.underlying31 Try.underlying5 _ (sTm rfl) ?_; clear hp; intro ad cb w1 hcb had hp; rw [HTB.out] at had; rw [HSZ.out] at hcb ⊢; have HCB := Lib.hid hcb; have HAD := Lib.hid had; clear hcb had; simp only [put_some, put_none, sSet, zSet]) | (go_at_call 11; (with_reducible refine (geth11 t ad cb HCB.out _ HAD.out).mono ?_); rintro e w1 hq; rw [HH.out] at hq; first | (obtain ⟨y, R, rfl, hy, ⟨RO, RF, M, rfl, hown⟩, hp2⟩ := hq; replace hp := join5 (hp.join hp2); have HY := Lib.hid hy; have HW := Lib.hid hown; clear hy hown hp2; obtain ⟨od, oa, os, oc, nx, t0, t1, t2, t3, fa, fs, fc⟩ := y; simp only [hvL]) | (obtain ⟨rfl, hb⟩ := hq; replace hp := hp.call hb; clear hb; simp only [hvL, zeroHv])) | (go_at_call 24; first | ((with_reducible refine (got24L od oa os oc nx t0 t1 t2 t3 fa fs fc _).mono ?_); rintro e w1 ⟨rfl, hb⟩; replace hp := hp.call hb; clear hb) | ((with_reducible refine (got24Z _).mono ?_); rintro e w1 ⟨rfl, hb⟩; replace hp := hp.call hb; clear hb)) | (go_at_call 28; refine (inn28 br bi _ (K := [_, _]) (L := _) ⟨_, _, HL.out, HA.out, hp⟩).mono ?_; clear hp HL HA; rintro e w1 hq; rw [H4.out] at hq; (first | (obtain ⟨rfl, a, c, hl, ha, hp⟩ := hq; have HL := Lib.hid hl; have HA := Lib.hid ha; clear hl ha; simp only [List.cons_append, List.nil_append, Rb, Ib] at hp) | (obtain ⟨rfl, hp⟩ := hq; simp only [List.cons_append, List.nil_append] at hp))) | (go_at_call 27; have hst : RdSt w0 br bi _ [] _ _ := RdSt.front (K := [_, _]) (L := L ++ (RO ++ (RF ++ M))) ⟨_, _, HL.out, HA.out, hp⟩; (with_reducible refine (many27 br bi k 4 HK1.out HK2.out _ hst).mono ?_); clear hst; clear hp HL HA; rintro e w1 hq; rw [H5.out] at hq; first | (obtain ⟨vo, RR, rfl, hol, hrr, a, c, hl, ha, hp⟩ := hq; subst hol; obtain ⟨ra, rc, rfl, _⟩ := hrr.kept; have HL := Lib.hid hl; have HA := Lib.hid ha; have HRR := Lib.hid hrr; clear hl ha hrr; simp only [List.cons_append, List.nil_append, Rb, Ib] at hp; replace hp := front2r hp) | (obtain ⟨rfl, hp⟩ := hq; simp only [List.cons_append, List.nil_append] at hp)) | go_skip | ((first | ((with_reducible refine pre_alloc _ rfl ?_); refine lZ hp rfl (by with_reducible first | exact zero29 | exact zero32) ?_; clear hp; intro b w1 hp) | ((with_reducible refine pre_box _ _ rfl ?_); refine lB hp rfl (sTm rfl) rfl ?_; clear hp; intro b w1 hp) | ((with_reducible refine pre_load _ _ rfl ?_); first | refine lO hp rfl (sTm rfl) ceJS1 aa5 ?_ | refine lA hp rfl (sTm rfl) gaJS0 aa5 ?_) | ((with_reducible refine pre_store _ _ _ rfl ?_); (first | refine sO hp rfl (sTm rfl) ceJS1 aa5 ?_ | refine sA hp rfl (sTm rfl) (sTm rfl) gaJS0 aa5 ?_ | refine sG hp rfl (sTm rfl) (sTm rfl) gaJS0 aa5 ?_); clear hp; intro w1 hp; simp only [spl, zSet, sSet] at hp) | ((with_reducible refine pre_build _ _ _ rfl ?_); refine lS hp rfl (by intro w; go_simp; rfl) ?_; clear hp; intro b w1 hp; simp only [List.length_cons, List.length_nil, Nat.reduceAdd] at hp)); simp only [put_some, put_none, sSet, zSet]))
            have hsm : Sv.Sm ⟨⟨od, oa, os, oc, nx, t0, t1, t2, t3, fa, fs, fc⟩, ra, rs, rc⟩ ⟨x, none, rs, 0⟩ := ⟨HY.out, rfl⟩
            have HSM := Lib.hid hsm
            have HSS : RowKit.Hid (Sv.Small ⟨⟨od, oa, os, oc, nx, t0, t1, t2, t3, fa, fs, fc⟩, ra, rs, rc⟩) := Lib.hid ⟨HXR.out.small.sm HY.out.symm, HK2.out⟩
            have HIS : RowKit.Hid (Kept (RR ++ (RO ++ (RF ++ M))) fun w => Sv.Is w ⟨⟨od, oa, os, oc, nx, t0, t1, t2, t3, fa, fs, fc⟩, ra, rs, rc⟩) := Lib.hid ((HRR.out.keptS.and HW.out.kept).mono (fun _ h => h) (fun w ⟨h1, h2⟩ => ⟨h2, h1⟩))
            obtain ⟨b, hb⟩ : ∃ b, stB ⟨⟨od, oa, os, oc, nx, t0, t1, t2, t3, fa, fs, fc⟩, ra, rs, rc⟩ = b := ⟨_, rfl⟩
            have HB := Lib.hid hb
            have HE4 : RowKit.Hid (stateR0 bs = if b = true then some (⟨x, none, rs, 0⟩, b3) else none) := Lib.hid (by rw [HE3.out, ← stB_sm hsm, hb])
            clear hsm hb
            cases b with
            | false =>
              have HR : RowKit.Hid (stateR0 bs = none) := Lib.hid (by rw [HE4.out, if_neg (by decide)])
              go_wp2_with (first | (go_at_call 16; (with_reducible refine (check16L od oa os oc nx t0 t1 t2 t3 fa fs fc ra rs rc _ HB.out HSS.out _ (HIS.out.at hp (fun p hm => by simp only [List.mem_append, List.mem_cons] at hm ⊢; rcases hm with hm | hm | hm | hm <;> simp [hm]))).mono ?_); rintro e w1 ⟨rfl, hb⟩; replace hp := hp.call hb; clear hb; simp only [errS, if_true, Bool.false_eq_true, if_false]) | (go_at_call 30; first | ((with_reducible refine (is30 _).mono ?_); rintro e w' ⟨rfl, rfl⟩) | ((with_reducible refine (is30_no _).mono ?_); rintro e w' ⟨rfl, rfl⟩)) | go_skip | ((first | ((with_reducible refine pre_alloc _ rfl ?_); refine lZ hp rfl (by with_reducible first | exact zero29 | exact zero32) ?_; clear hp; intro b w1 hp) | ((with_reducible refine pre_box _ _ rfl ?_); refine lB hp rfl (sTm rfl) rfl ?_; clear hp; intro b w1 hp) | ((with_reducible refine pre_load _ _ rfl ?_); first | refine lO hp rfl (sTm rfl) ceJS1 aa5 ?_ | refine lA hp rfl (sTm rfl) gaJS0 aa5 ?_) | ((with_reducible refine pre_store _ _ _ rfl ?_); (first | refine sO hp rfl (sTm rfl) ceJS1 aa5 ?_ | refine sA hp rfl (sTm rfl) (sTm rfl) gaJS0 aa5 ?_ | refine sG hp rfl (sTm rfl) (sTm rfl) gaJS0 aa5 ?_); clear hp; intro w1 hp; simp only [spl, zSet, sSet] at hp) | ((with_reducible refine pre_build _ _ _ rfl ?_); refine lS hp rfl (by intro w; go_simp; rfl) ?_; clear hp; intro b w1 hp; simp only [List.length_cons, List.length_nil, Nat.reduceAdd] at hp)); simp only [put_some, put_none, sSet, zSet]))
              refine ⟨rfl, ?_⟩; show StatePost w0 br bi (stateR0 bs) L _ _; rw [HR.out]
              exact ⟨rfl, hp.kp⟩
            | true =>
              have HR : RowKit.Hid (stateR0 bs = some (⟨x, none, rs, 0⟩, b3)) := Lib.hid (by rw [HE4.out, if_pos rfl])
              go_wp2_with (first | (go_at_call 16; (with_reducible refine (check16L od oa os oc nx t0 t1 t2 t3 fa fs fc ra rs rc _ HB.out HSS.out _ (HIS.out.at hp (fun p hm => by simp only [List.mem_append, List.mem_cons] at hm ⊢; rcases hm with hm | hm | hm | hm <;> simp [hm]))).mono ?_); rintro e w1 ⟨rfl, hb⟩; replace hp := hp.call hb; clear hb; simp only [errS, if_true, Bool.false_eq_true, if_false]) | (go_at_call 30; first | ((with_reducible refine (is30 _).mono ?_); rintro e w' ⟨rfl, rfl⟩) | ((with_reducible refine (is30_no _).mono ?_); rintro e w' ⟨rfl, rfl⟩)) | go_skip | ((first | ((with_reducible refine pre_alloc _ rfl ?_); refine lZ hp rfl (by with_reducible first | exact zero29 | exact zero32) ?_; clear hp; intro b w1 hp) | ((with_reducible refine pre_box _ _ rfl ?_); refine lB hp rfl (sTm rfl) rfl ?_; clear hp; intro b w1 hp) | ((with_reducible refine pre_load _ _ rfl ?_); first | refine lO hp rfl (sTm rfl) ceJS1 aa5 ?_ | refine lA hp rfl (sTm rfl) gaJS0 aa5 ?_) | ((with_reducible refine pre_store _ _ _ rfl ?_); (first | refine sO hp rfl (sTm rfl) ceJS1 aa5 ?_ | refine sA hp rfl (sTm rfl) (sTm rfl) gaJS0 aa5 ?_ | refine sG hp rfl (sTm rfl) (sTm rfl) gaJS0 aa5 ?_); clear hp; intro w1 hp; simp only [spl, zSet, sSet] at hp) | ((with_reducible refine pre_build _ _ _ rfl ?_); refine lS hp rfl (by intro w; go_simp; rfl) ?_; clear hp; intro b w1 hp; simp only [List.length_cons, List.length_nil, Nat.reduceAdd] at hp)); simp only [put_some, put_none, sSet, zSet]))
              refine bodyPost_ret (results_one (rs := [.cell 2 29]) Try.results23 (.cell rfl (hp.loadAgg agg29 at1 0 _ (by rfl) (by rfl)) .nil)) rfl ?_
              show StatePost w0 br bi (stateR0 bs) L _ _
              rw [HR.out]
              exact ⟨⟨⟨od, oa, os, oc, nx, t0, t1, t2, t3, fa, fs, fc⟩, ra, rs, rc⟩, RR, RO, RF, M, rfl, HSM.out, HRR.out, HW.out, RdSt.mk7 HL.out HA.out hp⟩
theorem reader_outS {B : Nat} {w0 w : World} {r i x y z : Blk} {RR RO RF M : List Blk} (hp : Hp B w0 w (r :: i :: (RR ++ (RO ++ (RF ++ (M ++ [x, y, z])))))) : Hp B w0 w (r :: i :: x :: y :: z :: (RR ++ (RO ++ (RF ++ M)))) := hp.kp
theorem idle54 (p q r : Addr) (w : World) : CallsD Try.prog 54 #[.pointer (some p), .pointer (some q), .pointer (some r)] .returning w fun e u' w' => e = .returned (.tuple #[]) ∧ u' = .returning ∧ w' = w := by
  refine callsD_of_wpS Try.func54 rfl fun c₀ cs hu => ?_
  apply wpS_seq
  apply wpS_region
  simp [wpOpsS, go_sem, recoverD, hu, Try.ntmps54, Exit.thenS]
  refine wpS_of_wp ?_
  go_wp2
  cases c₀
  simp_all [bodyPostS, results, Try.results54]
theorem bad54 (bn bx be : Nat) (y : Sv) {B : Nat} {w0 w : World} {L : List Blk} (hp : Hp B w0 w (⟨bn, [.int .i64 0, .slice none 0 0, .int .i64 0, .int .i64 0, .int .i64 0, .int .i64 0, .int .i64 0, .slice none 0 0, .slice none 0 0], 29, 9⟩ :: ⟨be, [.int .i64 0], 32, 1⟩ :: ⟨bx, svL y, 29, 9⟩ :: L)) :
    CallsD Try.prog 54 #[.pointer (some ⟨bn, 0, none⟩), .pointer (some ⟨bx, 0, none⟩), .pointer (some ⟨be, 0, none⟩)] (.panicking badP) w fun e u' w' => e = .returned (.tuple #[]) ∧ u' = .panicking [{ v := .iface 101 (.agg #[]), recovered := true }] ∧ Hp B w0 w' (⟨bn, [.int .i64 0, .slice none 0 0, .int .i64 0, .int .i64 0, .int .i64 0, .int .i64 0, .int .i64 0, .slice none 0 0, .slice none 0 0], 29, 9⟩ :: ⟨be, [.int .i64 60], 32, 1⟩ :: ⟨bx, [.int .i64 0, .slice none 0 0, .int .i64 0, .int .i64 0, .int .i64 0, .int .i64 0, .int .i64 0, .slice none 0 0, .slice none 0 0], 29, 9⟩ :: L) := by
  obtain ⟨⟨od, oa, os, oc, nx, t0, t1, t2, t3, fa, fs, fc⟩, ra, rs, rc⟩ := y
  simp only [svL, hvL, List.cons_append, List.nil_append] at hp
  refine callsD_of_wpS Try.func54 rfl fun c₀ cs hu => ?_
  apply wpS_seq
  apply wpS_region
  simp [wpOpsS, go_sem, recoverD, hu, badP, Try.ntmps54, Exit.thenS]
  refine wpS_of_wp ?_
  change Code.wp Try.prog _ _ ⟨#[.pointer (some ⟨bn, 0, none⟩), .pointer (some ⟨bx, 0, none⟩), .pointer (some ⟨be, 0, none⟩), .iface 101 (.agg #[]), .iface 101 (.agg #[]), undef, undef, undef], []⟩ w
  go_wp2_with (first | go_skip | ((first | ((with_reducible refine pre_alloc _ rfl ?_); refine lZ hp rfl (by with_reducible first | exact zero29 | exact zero32) ?_; clear hp; intro b w1 hp) | ((with_reducible refine pre_box _ _ rfl ?_); refine lB hp rfl (sTm rfl) rfl ?_; clear hp; intro b w1 hp) | ((with_reducible refine pre_load _ _ rfl ?_); first | refine lO hp rfl (sTm rfl) ceJS1 aa5 ?_ | refine lA hp rfl (sTm rfl) gaJS0 aa5 ?_) | ((with_reducible refine pre_store _ _ _ rfl ?_); (first | refine sO hp rfl (sTm rfl) ceJS1 aa5 ?_ | refine sA hp rfl (sTm rfl) (sTm rfl) gaJS0 aa5 ?_ | refine sG hp rfl (sTm rfl) (sTm rfl) gaJS0 aa5 ?_); clear hp; intro w1 hp; simp only [spl, zSet, sSet] at hp) | ((with_reducible refine pre_build _ _ _ rfl ?_); refine lS hp rfl (by intro w; go_simp; rfl) ?_; clear hp; intro b w1 hp; simp only [List.length_cons, List.length_nil, Nat.reduceAdd] at hp)); simp only [put_some, put_none, sSet, zSet]))
  simp [bodyPostS, results, Try.results54]
  exact hp
set_option maxRecDepth 100000 in
set_option maxHeartbeats 8000000 in
theorem wholes22 (bs : List Nat) (a : Option Addr) (c : Nat) (hnc : bs.length ≤ c) (hbl : bs.length ≤ 1000000000) (w : World) (ha : RdAt w a bs) :
    Calls Try.prog 22 #[.slice a bs.length c, .func (.func 23) #[] #[]] w (GetPostS w (stateR bs)) := by
  have HA := Lib.hid ha
  have HNC := Lib.hid hnc
  have hp := Hp.start w
  have HBL := Lib.hid hbl
  clear ha hnc hbl
  cases hr : stateR0 bs with
  | none =>
    have HE : RowKit.Hid (stateR bs = none) := Lib.hid (by unfold stateR wholeR; rw [hr])
    have HR := Lib.hid hr
    clear hr
    go_enter_defers Try.func22, Try.ntmps22
    go_wp2_with (first | (go_at_call 55; (with_reducible refine (newr55 _ _ _ _).mono ?_); rintro e w1 ⟨br, rfl, hp2⟩; replace hp := reader4 (hp.join hp2); clear hp2) | (go_at_call 23; have hst : RdSt w _ _ bs [] _ _ := ⟨a, c, HNC.out, HA.out, reader_in hp⟩; (with_reducible refine (inst23 _ _ bs HBL.out hst).mono ?_); clear hst; clear hp; rintro e w1 hq; rw [HR.out] at hq; first | (obtain ⟨y, RR, RO, RF, M, rfl, hy, hrr, hown, a2, c2, hl2, ha2, hp⟩ := hq; have HY := Lib.hid hy; have HW := Lib.hid hown; have HWR := Lib.hid hrr; clear hy hown hl2 ha2 hrr; obtain ⟨⟨od, oa, os, oc, nx, t0, t1, t2, t3, fa, fs, fc⟩, ra, rs, rc⟩ := y; simp only [List.nil_append, Rb, Ib] at hp; simp only [svL, hvL, List.cons_append, List.nil_append]; replace hp := reader_outS hp) | obtain ⟨rfl, hp⟩ := hq) | go_skip | ((first | ((with_reducible refine pre_alloc _ rfl ?_); refine lZ hp rfl (by with_reducible first | exact zero29 | exact zero32) ?_; clear hp; intro b w1 hp) | ((with_reducible refine pre_box _ _ rfl ?_); refine lB hp rfl (sTm rfl) rfl ?_; clear hp; intro b w1 hp) | ((with_reducible refine pre_load _ _ rfl ?_); first | refine lO hp rfl (sTm rfl) ceJS1 aa5 ?_ | refine lA hp rfl (sTm rfl) gaJS0 aa5 ?_) | ((with_reducible refine pre_store _ _ _ rfl ?_); (first | refine sO hp rfl (sTm rfl) ceJS1 aa5 ?_ | refine sA hp rfl (sTm rfl) (sTm rfl) gaJS0 aa5 ?_ | refine sG hp rfl (sTm rfl) (sTm rfl) gaJS0 aa5 ?_); clear hp; intro w1 hp; simp only [spl, zSet, sSet] at hp) | ((with_reducible refine pre_build _ _ _ rfl ?_); refine lS hp rfl (by intro w; go_simp; rfl) ?_; clear hp; intro b w1 hp; simp only [List.length_cons, List.length_nil, Nat.reduceAdd] at hp)); simp only [put_some, put_none, sSet, zSet]))
    obtain ⟨b2, rfl⟩ := hp.id0; obtain ⟨b3, rfl⟩ := hp.id1; obtain ⟨b4, rfl⟩ := hp.id2; refine leaves_cons (f := 54) (args := #[.pointer (some ⟨b2, 0, none⟩), .pointer (some ⟨b4, 0, none⟩), .pointer (some ⟨b3, 0, none⟩)]) (by simp) (by simp [go_sem]) ?_
    refine (bad54 b2 b4 b3 zeroSv hp).mono ?_
    clear hp
    rintro e u' w'' ⟨rfl, rfl, hp⟩
    refine ⟨_, results_many (rs := [.cell 4 29, .cell 5 32]) Try.results22 (.cell rfl (hp.loadAgg agg29 at2 0 _ (by rfl) (by rfl)) (.cell rfl (hp.loadOne cell32 at1 0 _ (by rfl)) .nil)), ?_⟩
    rw [HE.out]
    exact ⟨rfl, hp.below⟩
  | some p =>
    obtain ⟨x, r⟩ := p
    have HR := Lib.hid hr
    by_cases h0 : r.length = 0
    · have HE : RowKit.Hid (stateR bs = some x) := Lib.hid (by unfold stateR wholeR; rw [hr]; simp only; rw [if_pos h0])
      have e0 : ((r.length : Int) == 0) = true := by simp [h0]
      clear hr h0
      go_enter_defers Try.func22, Try.ntmps22
      go_wp2_with (first | (go_at_call 55; (with_reducible refine (newr55 _ _ _ _).mono ?_); rintro e w1 ⟨br, rfl, hp2⟩; replace hp := reader4 (hp.join hp2); clear hp2) | (go_at_call 23; have hst : RdSt w _ _ bs [] _ _ := ⟨a, c, HNC.out, HA.out, reader_in hp⟩; (with_reducible refine (inst23 _ _ bs HBL.out hst).mono ?_); clear hst; clear hp; rintro e w1 hq; rw [HR.out] at hq; first | (obtain ⟨y, RR, RO, RF, M, rfl, hy, hrr, hown, a2, c2, hl2, ha2, hp⟩ := hq; have HY := Lib.hid hy; have HW := Lib.hid hown; have HWR := Lib.hid hrr; clear hy hown hl2 ha2 hrr; obtain ⟨⟨od, oa, os, oc, nx, t0, t1, t2, t3, fa, fs, fc⟩, ra, rs, rc⟩ := y; simp only [List.nil_append, Rb, Ib] at hp; simp only [svL, hvL, List.cons_append, List.nil_append]; replace hp := reader_outS hp) | obtain ⟨rfl, hp⟩ := hq) | (go_at_call 56; (with_reducible refine (leftq _ _ _ _ hp).mono ?_); rintro e w' ⟨rfl, rfl⟩) | (go_at_call 30; first | ((with_reducible refine (is30 _).mono ?_); rintro e w' ⟨rfl, rfl⟩) | ((with_reducible refine (is30_no _).mono ?_); rintro e w' ⟨rfl, rfl⟩)) | go_skip | ((first | ((with_reducible refine pre_alloc _ rfl ?_); refine lZ hp rfl (by with_reducible first | exact zero29 | exact zero32) ?_; clear hp; intro b w1 hp) | ((with_reducible refine pre_box _ _ rfl ?_); refine lB hp rfl (sTm rfl) rfl ?_; clear hp; intro b w1 hp) | ((with_reducible refine pre_load _ _ rfl ?_); first | refine lO hp rfl (sTm rfl) ceJS1 aa5 ?_ | refine lA hp rfl (sTm rfl) gaJS0 aa5 ?_) | ((with_reducible refine pre_store _ _ _ rfl ?_); (first | refine sO hp rfl (sTm rfl) ceJS1 aa5 ?_ | refine sA hp rfl (sTm rfl) (sTm rfl) gaJS0 aa5 ?_ | refine sG hp rfl (sTm rfl) (sTm rfl) gaJS0 aa5 ?_); clear hp; intro w1 hp; simp only [spl, zSet, sSet] at hp) | ((with_reducible refine pre_build _ _ _ rfl ?_); refine lS hp rfl (by intro w; go_simp; rfl) ?_; clear hp; intro b w1 hp; simp only [List.length_cons, List.length_nil, Nat.reduceAdd] at hp)); simp only [put_some, put_none, sSet, zSet]))
      replace hp := hp.tail.tail
      obtain ⟨b2, rfl⟩ := hp.id0; obtain ⟨b3, rfl⟩ := hp.id1; obtain ⟨b4, rfl⟩ := hp.id2; refine leaves_cons (f := 54) (args := #[.pointer (some ⟨b2, 0, none⟩), .pointer (some ⟨b4, 0, none⟩), .pointer (some ⟨b3, 0, none⟩)]) (by simp) (by simp [go_sem]) ?_
      refine (idle54 _ _ _ _).mono ?_
      rintro e u' w'' ⟨rfl, rfl, rfl⟩
      refine ⟨_, results_many (rs := [.cell 4 29, .cell 5 32]) Try.results22 (.cell rfl (hp.loadAgg agg29 at2 0 _ (by rfl) (by rfl)) (.cell rfl (hp.loadOne cell32 at1 0 _ (by rfl)) .nil)), ?_⟩
      rw [HE.out]
      exact ⟨⟨⟨od, oa, os, oc, nx, t0, t1, t2, t3, fa, fs, fc⟩, ra, rs, rc⟩, _, rfl, HY.out, ⟨RR, _, rfl, HWR.out, RO, RF, M, rfl, HW.out⟩, hp.tail.tail.tail⟩
    · have HE : RowKit.Hid (stateR bs = none) := Lib.hid (by unfold stateR wholeR; rw [hr]; simp only; rw [if_neg h0])
      have e0 : ((r.length : Int) == 0) = false := beq_eq_false_iff_ne.2 (by omega)
      clear hr h0
      go_enter_defers Try.func22, Try.ntmps22
      go_wp2_with (first | (go_at_call 55; (with_reducible refine (newr55 _ _ _ _).mono ?_); rintro e w1 ⟨br, rfl, hp2⟩; replace hp := reader4 (hp.join hp2); clear hp2) | (go_at_call 23; have hst : RdSt w _ _ bs [] _ _ := ⟨a, c, HNC.out, HA.out, reader_in hp⟩; (with_reducible refine (inst23 _ _ bs HBL.out hst).mono ?_); clear hst; clear hp; rintro e w1 hq; rw [HR.out] at hq; first | (obtain ⟨y, RR, RO, RF, M, rfl, hy, hrr, hown, a2, c2, hl2, ha2, hp⟩ := hq; have HY := Lib.hid hy; have HW := Lib.hid hown; have HWR := Lib.hid hrr; clear hy hown hl2 ha2 hrr; obtain ⟨⟨od, oa, os, oc, nx, t0, t1, t2, t3, fa, fs, fc⟩, ra, rs, rc⟩ := y; simp only [List.nil_append, Rb, Ib] at hp; simp only [svL, hvL, List.cons_append, List.nil_append]; replace hp := reader_outS hp) | obtain ⟨rfl, hp⟩ := hq) | (go_at_call 56; (with_reducible refine (leftq _ _ _ _ hp).mono ?_); rintro e w' ⟨rfl, rfl⟩) | (go_at_call 30; first | ((with_reducible refine (is30 _).mono ?_); rintro e w' ⟨rfl, rfl⟩) | ((with_reducible refine (is30_no _).mono ?_); rintro e w' ⟨rfl, rfl⟩)) | go_skip | ((first | ((with_reducible refine pre_alloc _ rfl ?_); refine lZ hp rfl (by with_reducible first | exact zero29 | exact zero32) ?_; clear hp; intro b w1 hp) | ((with_reducible refine pre_box _ _ rfl ?_); refine lB hp rfl (sTm rfl) rfl ?_; clear hp; intro b w1 hp) | ((with_reducible refine pre_load _ _ rfl ?_); first | refine lO hp rfl (sTm rfl) ceJS1 aa5 ?_ | refine lA hp rfl (sTm rfl) gaJS0 aa5 ?_) | ((with_reducible refine pre_store _ _ _ rfl ?_); (first | refine sO hp rfl (sTm rfl) ceJS1 aa5 ?_ | refine sA hp rfl (sTm rfl) (sTm rfl) gaJS0 aa5 ?_ | refine sG hp rfl (sTm rfl) (sTm rfl) gaJS0 aa5 ?_); clear hp; intro w1 hp; simp only [spl, zSet, sSet] at hp) | ((with_reducible refine pre_build _ _ _ rfl ?_); refine lS hp rfl (by intro w; go_simp; rfl) ?_; clear hp; intro b w1 hp; simp only [List.length_cons, List.length_nil, Nat.reduceAdd] at hp)); simp only [put_some, put_none, sSet, zSet]))
      replace hp := hp.tail.tail
      obtain ⟨b2, rfl⟩ := hp.id0; obtain ⟨b3, rfl⟩ := hp.id1; obtain ⟨b4, rfl⟩ := hp.id2; refine leaves_cons (f := 54) (args := #[.pointer (some ⟨b2, 0, none⟩), .pointer (some ⟨b4, 0, none⟩), .pointer (some ⟨b3, 0, none⟩)]) (by simp) (by simp [go_sem]) ?_
      refine (bad54 b2 b4 b3 ⟨⟨od, oa, os, oc, nx, t0, t1, t2, t3, fa, fs, fc⟩, ra, rs, rc⟩ hp).mono ?_
      clear hp
      rintro e u' w'' ⟨rfl, rfl, hp⟩
      refine ⟨_, results_many (rs := [.cell 4 29, .cell 5 32]) Try.results22 (.cell rfl (hp.loadAgg agg29 at2 0 _ (by rfl) (by rfl)) (.cell rfl (hp.loadOne cell32 at1 0 _ (by rfl)) .nil)), ?_⟩
      rw [HE.out]
      exact ⟨rfl, hp.below⟩
set_option maxRecDepth 100000 in
set_option maxHeartbeats 8000000 in
theorem gets10 (bs : List Nat) (a : Option Addr) (c : Nat) (hnc : bs.length ≤ c) (hbl : bs.length ≤ 1000000000) (w : World) (ha : RdAt w a bs) :
    Calls Try.prog 10 #[.slice a bs.length c] w (GetPostS w (stateR bs)) := by
  have HA := Lib.hid ha
  have HNC := Lib.hid hnc
  have hp := Hp.start w
  have HBL := Lib.hid hbl
  clear ha hnc hbl
  cases hr : stateR bs with
  | none =>
    have HR := Lib.hid hr
    clear hr
    go_enter Try.func10, Try.ntmps10
    go_wp2_with (first | (go_at_call 22; (with_reducible refine (wholes22 bs a c HNC.out HBL.out _ (HA.out.below hp.below)).mono ?_); rintro e w1 hq; rw [HR.out] at hq; first | (obtain ⟨y, R, rfl, hy, hown, hp2⟩ := hq; replace hp := hp.join hp2; have HY := Lib.hid hy; have HW := Lib.hid hown; clear hy hown hp2; obtain ⟨⟨od, oa, os, oc, nx, t0, t1, t2, t3, fa, fs, fc⟩, ra, rs, rc⟩ := y; simp only [svL, hvL, List.cons_append, List.nil_append] at hp ⊢) | (obtain ⟨rfl, hb⟩ := hq; replace hp := hp.call hb; clear hb; simp only [svL, hvL, zeroSv, zeroHv, List.cons_append, List.nil_append])) | go_skip | ((first | ((with_reducible refine pre_alloc _ rfl ?_); refine lZ hp rfl (by with_reducible first | exact zero29 | exact zero32) ?_; clear hp; intro b w1 hp) | ((with_reducible refine pre_box _ _ rfl ?_); refine lB hp rfl (sTm rfl) rfl ?_; clear hp; intro b w1 hp) | ((with_reducible refine pre_load _ _ rfl ?_); first | refine lO hp rfl (sTm rfl) ceJS1 aa5 ?_ | refine lA hp rfl (sTm rfl) gaJS0 aa5 ?_) | ((with_reducible refine pre_store _ _ _ rfl ?_); (first | refine sO hp rfl (sTm rfl) ceJS1 aa5 ?_ | refine sA hp rfl (sTm rfl) (sTm rfl) gaJS0 aa5 ?_ | refine sG hp rfl (sTm rfl) (sTm rfl) gaJS0 aa5 ?_); clear hp; intro w1 hp; simp only [spl, zSet, sSet] at hp) | ((with_reducible refine pre_build _ _ _ rfl ?_); refine lS hp rfl (by intro w; go_simp; rfl) ?_; clear hp; intro b w1 hp; simp only [List.length_cons, List.length_nil, Nat.reduceAdd] at hp)); simp only [put_some, put_none, sSet, zSet]))
    exact bodyPost_ret (results_many (rs := [.cell 2 29, .tmp 3]) Try.results10 (.cell rfl (hp.loadAgg agg29 at0 0 _ (by rfl) (by rfl)) (.tmp rfl .nil))) rfl ⟨rfl, hp.below⟩
  | some x =>
    have HR := Lib.hid hr
    clear hr
    go_enter Try.func10, Try.ntmps10
    go_wp2_with (first | (go_at_call 22; (with_reducible refine (wholes22 bs a c HNC.out HBL.out _ (HA.out.below hp.below)).mono ?_); rintro e w1 hq; rw [HR.out] at hq; first | (obtain ⟨y, R, rfl, hy, hown, hp2⟩ := hq; replace hp := hp.join hp2; have HY := Lib.hid hy; have HW := Lib.hid hown; clear hy hown hp2; obtain ⟨⟨od, oa, os, oc, nx, t0, t1, t2, t3, fa, fs, fc⟩, ra, rs, rc⟩ := y; simp only [svL, hvL, List.cons_append, List.nil_append] at hp ⊢) | (obtain ⟨rfl, hb⟩ := hq; replace hp := hp.call hb; clear hb; simp only [svL, hvL, zeroSv, zeroHv, List.cons_append, List.nil_append])) | go_skip | ((first | ((with_reducible refine pre_alloc _ rfl ?_); refine lZ hp rfl (by with_reducible first | exact zero29 | exact zero32) ?_; clear hp; intro b w1 hp) | ((with_reducible refine pre_box _ _ rfl ?_); refine lB hp rfl (sTm rfl) rfl ?_; clear hp; intro b w1 hp) | ((with_reducible refine pre_load _ _ rfl ?_); first | refine lO hp rfl (sTm rfl) ceJS1 aa5 ?_ | refine lA hp rfl (sTm rfl) gaJS0 aa5 ?_) | ((with_reducible refine pre_store _ _ _ rfl ?_); (first | refine sO hp rfl (sTm rfl) ceJS1 aa5 ?_ | refine sA hp rfl (sTm rfl) (sTm rfl) gaJS0 aa5 ?_ | refine sG hp rfl (sTm rfl) (sTm rfl) gaJS0 aa5 ?_); clear hp; intro w1 hp; simp only [spl, zSet, sSet] at hp) | ((with_reducible refine pre_build _ _ _ rfl ?_); refine lS hp rfl (by intro w; go_simp; rfl) ?_; clear hp; intro b w1 hp; simp only [List.length_cons, List.length_nil, Nat.reduceAdd] at hp)); simp only [put_some, put_none, sSet, zSet]))
    exact bodyPost_ret (results_many (rs := [.cell 2 29, .tmp 3]) Try.results10 (.cell rfl (hp.loadAgg agg29 at0 0 _ (by rfl) (by rfl)) (.tmp rfl .nil))) rfl ⟨⟨⟨od, oa, os, oc, nx, t0, t1, t2, t3, fa, fs, fc⟩, ra, rs, rc⟩, R, rfl, HY.out, HW.out, hp.tail⟩
end Go.Proofs.Ytaafajaadfgaoaa
/- What is laid is read: the plain law. No program in sight. -/
namespace Go.Proofs.Ytaafajaadfgaoaa
open Go.RowKit
def I64 (v : Int) : Prop := -9223372036854775808 ≤ v ∧ v ≤ 9223372036854775807
theorem beV_beS4 {n : Nat} (h : n < 4294967296) : beV (beS 4 n) = n := by
  have e : beS 4 n = [n / 2 ^ 24 % 256, n / 2 ^ 16 % 256, n / 2 ^ 8 % 256, n / 2 ^ 0 % 256] := rfl
  rw [e]
  simp only [beV, List.foldl_cons, List.foldl_nil]
  omega
theorem beV_beS8 {n : Nat} (h : n < 18446744073709551616) : beV (beS 8 n) = n := by
  have e : beS 8 n = [n / 2 ^ 56 % 256, n / 2 ^ 48 % 256, n / 2 ^ 40 % 256, n / 2 ^ 32 % 256, n / 2 ^ 24 % 256, n / 2 ^ 16 % 256, n / 2 ^ 8 % 256, n / 2 ^ 0 % 256] := rfl
  rw [e]
  simp only [beV, List.foldl_cons, List.foldl_nil]
  omega
theorem wrap_uN {v : Int} (h : I64 v) : wrap64 ((uN v : Nat) : Int) = v := by
  obtain ⟨h1, h2⟩ := h
  rw [uN_cast]; unfold wrap64; omega
theorem numR_put {n : Nat} (h : n ≤ 2147483647) (r : List Nat) : numR (beS 4 n ++ r) = some n := by
  unfold numR
  have e : (beS 4 n ++ r).take 4 = beS 4 n := by rw [List.take_left' (beS_len 4 n)]
  rw [e, beV_beS4 (by omega), if_pos ⟨by rw [List.length_append, beS_len]; omega, h⟩]
theorem nR_put {n : Nat} (h : n ≤ 2147483647) (r : List Nat) : nR (beS 4 n ++ r) = some ((n : Int), r) := by
  unfold nR
  rw [numR_put h]
  show some ((n : Int), (beS 4 n ++ r).drop 4) = _
  rw [List.drop_left' (beS_len 4 n)]
theorem iR_put {v : Int} (h : I64 v) (r : List Nat) : iR (beS 8 (uN v) ++ r) = some (v, r) := by
  unfold iR intR
  rw [if_pos (by rw [List.length_append, beS_len]; omega), List.take_left' (beS_len 8 _), beV_beS8 (uN_lt v), wrap_uN h, Option.map_some, List.drop_left' (beS_len 8 _)]
theorem rep_put {α β : Type} {one : List Nat → Option (β × List Nat)} (f : α → List Nat) (g : α → β) : ∀ (n : Nat) (l : List α), l.length = n → (∀ x ∈ l, ∀ r, one (f x ++ r) = some (g x, r)) → ∀ r, repR one n (l.flatMap f ++ r) = some (l.map g, r)
  | 0, l, hl, _, r => by
    rw [List.length_eq_zero_iff.1 hl]; rfl
  | n + 1, l, hl, h, r => by
    rcases List.eq_nil_or_concat l with rfl | ⟨k, x, rfl⟩
    · cases hl
    rw [List.concat_eq_append] at hl h ⊢
    have hk : k.length = n := by simpa using hl
    have h1 := rep_put f g n k hk (fun y hy => h y (by simp [hy])) (f x ++ r)
    have h2 := h x (by simp) r
    rw [List.flatMap_append, List.append_assoc, show [x].flatMap f = f x by simp]
    rw [repR_step h1 h2, List.map_append]; rfl
theorem rep_ints {l : List Int} (h : ∀ v ∈ l, I64 v) (r : List Nat) : repR iR l.length (bi8 l ++ r) = some (l, r) := by
  have := rep_put (one := iR) (fun v => beS 8 (uN v)) id l.length l rfl (fun v hv r => iR_put (h v hv) r) r
  rw [List.map_id] at this
  exact this
theorem rep_nats {l : List Nat} (h : ∀ v ∈ l, v ≤ 2147483647) (r : List Nat) : repR nR l.length (bn4 l ++ r) = some (l.map fun (n : Nat) => (n : Int), r) := rep_put (one := nR) (fun v => beS 4 v) (fun n => (n : Int)) l.length l rfl (fun v hv r => nR_put (h v hv) r) r
theorem bn4_cons (n : Nat) (l : List Nat) (r : List Nat) : bn4 (n :: l) ++ r = beS 4 n ++ (bn4 l ++ r) := by unfold bn4; rw [List.flatMap_cons, List.append_assoc]
theorem bn4_nil (r : List Nat) : bn4 [] ++ r = r := rfl
def clearO (o : Ob) : Ob := mkOb o.h o.p o.o o.ws o.ls
theorem toNat_list {l : List Int} (h : ∀ t ∈ l, 0 ≤ t) : ((l.map Int.toNat).map fun (n : Nat) => (n : Int)) = l := by
  rw [List.map_map]
  conv => rhs; rw [← List.map_id l]
  exact List.map_congr_left fun x hx => by have := h x hx; simp only [Function.comp_apply, id]; omega
theorem objR_put {o : Ob} (hl : ObLay o) (hn : needI o.ws.length o.ls.length = o.o) (h0 : 0 ≤ o.o) (hw : ∀ v ∈ o.ws, I64 v) (r : List Nat) : objR (obB o ++ r) = some (clearO o, r) := by
  have g1 := hl.h0
  have g2 := hl.h1
  have g3 := hl.p0
  have g4 := hl.p1
  have g5 := hl.wl
  have g6 := hl.ll
  unfold obB
  rw [List.append_assoc, bn4_cons, bn4_cons, bn4_cons, bn4_cons, bn4_nil, List.append_assoc]
  unfold objR
  rw [nR_put (by omega)]; simp only
  rw [nR_put (by omega)]; simp only
  rw [nR_put (by omega)]; simp only
  rw [nR_put (by omega)]; simp only
  rw [hn, if_neg (by omega), Int.toNat_natCast, Int.toNat_natCast, rep_ints hw]; simp only
  rw [show o.ls.length = (o.ls.map Int.toNat).length by simp, rep_nats (fun v hv => by
    obtain ⟨t, ht, rfl⟩ := List.mem_map.1 hv
    have := hl.ls t ht
    omega)]
  simp only
  rw [toNat_list (fun t ht => (hl.ls t ht).1), Int.toNat_of_nonneg g1, Int.toNat_of_nonneg g3]
  rfl
theorem ObsSm.clear (l : List Ob) : ObsSm (l.map clearO) l := by
  refine ⟨by simp, fun i a b ha hb => ?_⟩
  rw [List.getElem?_map, hb] at ha
  simp only [Option.map_some, Option.some.injEq] at ha
  subst ha
  exact ⟨rfl, rfl, rfl, rfl, rfl⟩
def clearH (x : Hv) : Hv := ⟨x.od, none, x.os.map clearO, 0, x.nx, x.t0, x.t1, x.t2, x.t3, none, x.fs, 0⟩
theorem clearH_sm (x : Hv) : (clearH x).Sm x := ⟨rfl, rfl, rfl, rfl, rfl, rfl, ObsSm.clear _, rfl⟩
def Hv.W64 (x : Hv) : Prop := ∀ o ∈ x.os, ∀ v ∈ o.ws, I64 v
theorem heapR0_put {x : Hv} (hx : HRight x) (hw : x.W64) (r : List Nat) : heapR0 (heapB x ++ r) = some (clearH x, r) := by
  have hlay := hright_lay hx
  have hod := hright_od hx
  have hlo := hx.lo
  have hhi := hx.hi
  have hlen := hx.len
  have l0 := leads_lay hx (hx.tops x.t0 (by simp [tops]))
  have l1 := leads_lay hx (hx.tops x.t1 (by simp [tops]))
  have l2 := leads_lay hx (hx.tops x.t2 (by simp [tops]))
  have l3 := leads_lay hx (hx.tops x.t3 (by simp [tops]))
  have hob : ∀ o ∈ x.os, ∀ r, objR (obB o ++ r) = some (clearO o, r) := fun o ho r => objR_put (hlay o ho) (hx.need o ho).1 (by have := (hx.need o ho).2.1; simpa [obBl] using this) (hw o ho) r
  unfold heapB headB
  rw [List.append_assoc, List.append_assoc, List.append_assoc, bn4_cons, bn4_cons, bn4_nil]
  unfold heapR0
  rw [nR_put (by omega)]; simp only
  rw [nR_put (by omega)]; simp only
  unfold heapR1
  rw [show (4 : Nat) = [x.t0.toNat, x.t1.toNat, x.t2.toNat, x.t3.toNat].length from rfl, rep_nats (by intro v hv; simp at hv; omega)]
  simp only
  unfold heapR2
  rw [bn4_cons, bn4_nil, nR_put (by omega)]
  simp only
  rw [if_neg (by omega), Int.toNat_natCast, rep_put obB clearO x.os.length x.os rfl hob]
  simp only
  unfold heapR3
  rw [Int.toNat_of_nonneg (by omega), Int.toNat_of_nonneg (by omega)]
  have hre : regionB x.od = true := by unfold regionB; simp [hod.1, hod.2]
  have hm : mkHv x.od (x.os.map clearO) x.nx ([x.t0.toNat, x.t1.toNat, x.t2.toNat, x.t3.toNat].map fun (n : Nat) => (n : Int)) (lfN (pw x.od) (x.os.map clearO) x.od.toNat 0) = clearH x := by
    rw [lf_sm (ObsSm.clear x.os), left_free hx]
    unfold mkHv clearH
    simp only [List.map_cons, List.map_nil, List.getD_cons_zero, List.getD_cons_succ, Int.toNat_of_nonneg l0.1, Int.toNat_of_nonneg l1.1, Int.toNat_of_nonneg l2.1, Int.toNat_of_nonneg l3.1]
  rw [if_pos hre, hm, if_pos (by rw [hright_sm (clearH_sm x)]; exact hright_yes hx)]
theorem heapR_put {x : Hv} (hx : HRight x) (hw : x.W64) : heapR (heapB x) = some (clearH x) := by
  have h := heapR0_put hx hw []
  rw [List.append_nil] at h
  unfold heapR wholeR
  rw [h]; rfl
theorem rowR_put {x : Rw} (hc : 0 ≤ x.c ∧ x.c ≤ 4 ∧ 0 ≤ x.s ∧ x.s ≤ 1000000 ∧ 0 ≤ x.e ∧ x.e ≤ 65535) (hv : I64 x.v) (r : List Nat) : rowR (rowB x ++ r) = some (x, r) := by
  unfold rowB
  rw [List.append_assoc, bn4_cons, bn4_cons, bn4_cons, bn4_nil]
  unfold rowR
  rw [nR_put (by omega)]; simp only
  rw [nR_put (by omega)]; simp only
  rw [nR_put (by omega)]; simp only
  rw [show bi8 [x.v] ++ r = beS 8 (uN x.v) ++ r by simp [bi8], iR_put hv]
  simp only
  rw [Int.toNat_of_nonneg hc.1, Int.toNat_of_nonneg hc.2.2.1, Int.toNat_of_nonneg hc.2.2.2.2.1]
structure Sv.W64 (x : Sv) : Prop where
  hv : x.hv.W64
  rows : ∀ r ∈ x.rs, I64 r.v
def clearS (x : Sv) : Sv := ⟨clearH x.hv, none, x.rs, 0⟩
theorem clearS_sm (x : Sv) : (clearS x).Sm x := ⟨clearH_sm _, rfl⟩
theorem textR_put {bs : List Nat} (h : bs.length ≤ 65536) (r : List Nat) : textR ((beS 4 bs.length ++ bs) ++ r) = some (bs, r) := by
  unfold textR
  rw [List.append_assoc, numR_put (by omega)]
  simp only
  rw [List.drop_left' (beS_len 4 _)]
  simp [h, beS_len]
  omega
theorem stateR_put {x : Sv} (hx : StR x) (hw : x.W64) : stateR (stateB x) = some (clearS x) := by
  have hlen := heapB_len hx.hv
  have hrl := rowsOk_len hx.rows (by decide)
  unfold stateR wholeR stateR0 stateB
  rw [textR_put (by omega)]
  simp only
  rw [heapR_put hx.hv hw.hv]
  simp only
  unfold stateR1
  rw [bn4_cons, bn4_nil, nR_put (by omega)]
  simp only
  have hrow := rep_put rowB id x.rs.length x.rs rfl (fun y hy r => rowR_put (by have := rowOk_iff.1 (rowsOk_mem hx.rows y hy); omega) (hw.rows y hy) r) []
  rw [List.append_nil, List.map_id] at hrow
  rw [if_neg (by omega), Int.toNat_natCast, hrow]
  simp only
  rw [show (⟨clearH x.hv, none, x.rs, 0⟩ : Sv) = clearS x from rfl, if_pos (by rw [stB_sm (clearS_sm x)]; exact st_yes hx)]
  rfl
end Go.Proofs.Ytaafajaadfgaoaa
/- Heaps and states that come in, opened: what words they hold is in range. -/
namespace Go.Proofs.Ytaafajaadfgaoaa
open Go.RowKit Go.ChangeShapes Go.WideShapes Go.ChangeAt Go.Deep
section
variable {H : Type} {enc : TypeId × Value → H} {w : World} {base : Nat} {spare : Nat → Bool} {held : Bool} {cs : List Value}
theorem has_I64 {n : Int} (h : IntKind.i64.has n) : I64 n := by
  have h5 : IntKind.i64.max = 9223372036854775807 := by decide
  have h6 : IntKind.i64.min = -9223372036854775808 := by decide
  have h7 := h.1
  have h8 := h.2
  rw [h6] at h7
  rw [h5] at h8
  exact ⟨h7, h8⟩
theorem reads_intW (h : Reads H enc Try.prog w base spare held 3 cs) : ∃ x, cs = iV x ∧ I64 x := by
  obtain ⟨n, rfl, hn⟩ := h.int Try.underlying3
  exact ⟨n, rfl, has_I64 hn⟩
theorem reads_intsW (h : Reads H enc Try.prog w base spare held 56 cs) : ∃ (a : Option Addr) (l : List Int) (c : Nat), cs = [.slice a l.length c] ∧ RowIs w a (l.flatMap iV) ∧ ∀ v ∈ l, I64 v := h.slice iV I64 1 (by decide) iV_len Try.underlying56 (by kernel_rfl) (fun cs h => reads_intW h)
theorem reads_obW (h : Reads H enc Try.prog w base spare held 60 cs) : ∃ x, cs = obV x ∧ x.Is w ∧ ∀ v ∈ x.ws, I64 v := by
  obtain ⟨hl, hz⟩ := h.struct Try.underlying60
  rw [show Try.prog.cellsOf 60 = 5 by kernel_rfl] at hl
  match cs, hl with
  | [v0, v1, v2, v3, v4], _ =>
    obtain ⟨a, ha, _⟩ := (hz 0 _ rfl 0 1 rfl (by kernel_rfl)).int Try.underlying3
    obtain ⟨⟨p, o⟩, hb, _⟩ := reads_bl (hz 1 _ rfl 1 2 rfl (by kernel_rfl))
    obtain ⟨wa, ws, wc, hw, hw2, hw3⟩ := reads_intsW (hz 2 _ rfl 3 1 rfl (by kernel_rfl))
    obtain ⟨la, ls, lc, hk, hk2⟩ := reads_ints (hz 3 _ rfl 4 1 rfl (by kernel_rfl))
    simp [blV] at ha hb hw hk
    obtain ⟨hb1, hb2⟩ := hb
    subst ha hb1 hb2 hw hk
    exact ⟨⟨a, p, o, wa, ws, wc, la, ls, lc⟩, rfl, ⟨hw2, hk2⟩, hw3⟩
theorem reads_heapW (h : Reads H enc Try.prog w base spare held 26 cs) : ∃ x : Hv, cs = hvL x ∧ (x.Is w ∧ x.W64) := by
  obtain ⟨hl, hz⟩ := h.struct Try.underlying26
  rw [show Try.prog.cellsOf 26 = 8 by kernel_rfl] at hl
  match cs, hl with
  | [v0, v1, v2, v3, v4, v5, v6, v7], _ =>
    obtain ⟨od, h0, _⟩ := (hz 0 _ rfl 0 1 rfl (by kernel_rfl)).int Try.underlying3
    obtain ⟨oa, os, oc, h1, h1r, h1g⟩ := (hz 1 _ rfl 1 1 rfl (by kernel_rfl)).slice obV (fun x => x.Is w ∧ ∀ v ∈ x.ws, I64 v) 5 (by decide) obV_len Try.underlying22 (by kernel_rfl) (fun cs h => reads_obW h)
    obtain ⟨nx, h2, _⟩ := (hz 2 _ rfl 2 1 rfl (by kernel_rfl)).int Try.underlying3
    obtain ⟨t0, t1, t2, t3, h3⟩ := (hz 3 _ rfl 3 4 rfl (by kernel_rfl)).four Try.underlying23 Try.underlying3 (by kernel_rfl) (by kernel_rfl)
    obtain ⟨fa, fs, fc, h4, h4r⟩ := reads_bls (hz 4 _ rfl 7 1 rfl (by kernel_rfl))
    simp at h0 h1 h2 h3 h4
    obtain ⟨h30, h31, h32, h33⟩ := h3
    subst h0 h1 h2 h30 h31 h32 h33 h4
    exact ⟨⟨od, oa, os, oc, nx, t0, t1, t2, t3, fa, fs, fc⟩, rfl, ⟨h1r, fun o ho => (h1g o ho).1, h4r⟩, fun o ho => (h1g o ho).2⟩
theorem reads_rowW (h : Reads H enc Try.prog w base spare held 54 cs) : ∃ x, cs = rwV x ∧ I64 x.v := by
  obtain ⟨hl, hz⟩ := h.struct Try.underlying54
  rw [show Try.prog.cellsOf 54 = 4 by kernel_rfl] at hl
  match cs, hl with
  | [v0, v1, v2, v3], _ =>
    obtain ⟨a, ha, _⟩ := (hz 0 _ rfl 0 1 rfl (by kernel_rfl)).int Try.underlying3
    obtain ⟨b, hb, _⟩ := (hz 1 _ rfl 1 1 rfl (by kernel_rfl)).int Try.underlying3
    obtain ⟨hl2, hz2⟩ := (hz 2 _ rfl 2 2 rfl (by kernel_rfl)).struct Try.underlying52
    obtain ⟨c, hc, _⟩ := (hz2 0 _ rfl 0 1 rfl (by kernel_rfl)).int Try.underlying32
    obtain ⟨d, hd, h64⟩ := (hz2 1 _ rfl 1 1 rfl (by kernel_rfl)).int Try.underlying3
    simp at ha hb hc hd
    subst ha hb hc hd
    exact ⟨⟨a, b, c, d⟩, rfl, has_I64 h64⟩
theorem reads_stateW (h : Reads H enc Try.prog w base spare held 29 cs) : ∃ x : Sv, cs = svL x ∧ (x.Is w ∧ x.W64) := by
  obtain ⟨hl, hz⟩ := h.struct Try.underlying29
  rw [show Try.prog.cellsOf 29 = 9 by kernel_rfl] at hl
  match cs, hl with
  | [v0, v1, v2, v3, v4, v5, v6, v7, v8], _ =>
    obtain ⟨x, h0, hx, hx2⟩ := reads_heapW (hz 0 _ rfl 0 8 rfl (by kernel_rfl))
    obtain ⟨ra, rs, rc, h1, h1r, h1g⟩ := (hz 1 _ rfl 8 1 rfl (by kernel_rfl)).slice rwV (fun x => I64 x.v) 4 (by decide) rwV_len Try.underlying27 (by kernel_rfl) (fun cs h => reads_rowW h)
    simp at h0 h1
    refine ⟨⟨x, ra, rs, rc⟩, ?_, ⟨hx, h1r⟩, hx2, h1g⟩
    simp only [svL]
    rw [← h0, h1]; rfl
end
end Go.Proofs.Ytaafajaadfgaoaa
/- What is kept, by its cells; the walks of within, follows and last. -/
namespace Go.Proofs.Ytaafajaadfgaoaa
open Go.RowKit
structure Kv where
  vw : Int
  nm : Int
  bs : Int
  im : ByteArray
  ea : Option Addr
  es : List Env
  ec : Nat
def Kv.Is (w : World) (x : Kv) : Prop := RowIs w x.ea (x.es.flatMap envL)
structure Kv.Sm (x y : Kv) : Prop where
  vw : x.vw = y.vw
  nm : x.nm = y.nm
  bs : x.bs = y.bs
  im : x.im = y.im
  es : x.es = y.es
end Go.Proofs.Ytaafajaadfgaoaa
/- The walk of Check of what is kept. -/
namespace Go.Proofs.Ytaafajaadfgaoaa
open Go.RowKit
def Kv.Small (x : Kv) : Prop := x.es.length ≤ 100000 ∧ x.im.size ≤ 1000000
end Go.Proofs.Ytaafajaadfgaoaa
/- Own rows cut short; the walks of Last and Above. -/
namespace Go.Proofs.Ytaafajaadfgaoaa
open Go.RowKit
theorem SubRow.drop {e : TypeId} {c n cap off g k : Nat} {xs : List Value} {R : List Blk} (h : SubRow e c (.slice (some ⟨g, off, none⟩) n cap) n xs R) (hk : k ≤ n) (hn : 0 < n) :
    SubRow e c (.slice (some ⟨g, off + k * c, none⟩) (n - k) (cap - k)) (n - k) (xs.drop (k * c)) R := by
  obtain ⟨hl, ⟨h0, _, _⟩ | ⟨g', off', cap', pre, hv, h1, h2, h3, h4⟩⟩ := h
  · omega
  · injection hv with hv _ hc
    injection hv with hv
    injection hv with hg ho _
    subst hg ho hc
    have hm := Nat.mul_le_mul_right c hk
    refine ⟨by rw [List.length_drop, hl, Nat.sub_mul], .inr ⟨g, off + k * c, cap - k, pre ++ xs.take (k * c), rfl, by omega, by omega, by rw [List.length_append, List.length_take, h3, hl]; omega, ?_⟩⟩
    rw [h4, List.append_assoc, List.take_append_drop]
    have hm2 := Nat.mul_le_mul_right c (show k ≤ cap by omega)
    rw [Nat.sub_mul, show off + k * c + (cap * c - k * c) = off + cap * c by omega]
theorem SubRow.take {e : TypeId} {c n cap off g k : Nat} {xs : List Value} {R : List Blk} (h : SubRow e c (.slice (some ⟨g, off, none⟩) n cap) n xs R) (hk : k ≤ n) (hn : 0 < n) :
    ∃ R', SubRow e c (.slice (some ⟨g, off, none⟩) k cap) k (xs.take (k * c)) R' ∧ ∀ {B : Nat} {w0 w : World} {M : List Blk}, Hp B w0 w (R ++ M) → Hp B w0 w (R' ++ M) := by
  obtain ⟨hl, ⟨h0, _, _⟩ | ⟨g', off', cap', pre, hv, h1, h2, h3, h4⟩⟩ := h
  · omega
  · injection hv with hv _ hc
    injection hv with hv
    injection hv with hg ho _
    subst hg ho hc
    have hm := Nat.mul_le_mul_right c hk
    refine ⟨[⟨g, pre ++ xs.take (k * c), e, off + cap * c⟩], ⟨by rw [List.length_take, hl]; omega, .inr ⟨g, off, cap, pre, rfl, by omega, h2, h3, rfl⟩⟩, fun {B w0 w M} hp => ?_⟩
    subst h4
    refine Hp.less (l2 := xs.drop (k * c)) ?_
    rw [List.append_assoc, List.take_append_drop]; exact hp
theorem OwnRow.cap {e : TypeId} {c n m : Nat} {a : Option Addr} {k : Nat} {xs : List Value} {R : List Blk} (h : OwnRow e c (.slice a n k) m xs R) : m ≤ k := by
  obtain ⟨_, ⟨h0, hv, _, _⟩ | ⟨g, cap, hv, h1, h2, _⟩⟩ := h
  · omega
  · injection hv with _ _ hk
    omega
end Go.Proofs.Ytaafajaadfgaoaa
/- The walk of fold: another log is taken. -/
namespace Go.Proofs.Ytaafajaadfgaoaa
open Go.RowKit
theorem SubRow.cut {e : TypeId} {c n cap k : Nat} {a : Option Addr} {xs : List Value} {R : List Blk} (h : SubRow e c (.slice a n cap) n xs R) (hk : k ≤ n) :
    ∃ R', SubRow e c (.slice a k cap) k (xs.take (k * c)) R' ∧ ∀ (B : Nat) (w0 w : World) (M : List Blk), Hp B w0 w (R ++ M) → Hp B w0 w (R' ++ M) := by
  obtain ⟨hl, ⟨h0, ⟨a', hv⟩, hr⟩ | ⟨g', off', cap', pre, hv, h1, h2, h3, h4⟩⟩ := h
  · injection hv with _ _ hc
    subst h0 hc hr
    obtain rfl : k = 0 := by omega
    have hx : xs = [] := List.eq_nil_of_length_eq_zero (by simpa using hl)
    subst hx
    exact ⟨[], by simpa using SubRow.nil e c a, fun _ _ _ _ hp => hp⟩
  · injection hv with hv _ hc
    subst hv hc
    have hm := Nat.mul_le_mul_right c hk
    refine ⟨[⟨g', pre ++ xs.take (k * c), e, off' + cap * c⟩], ⟨by rw [List.length_take, hl]; omega, .inr ⟨g', off', cap, pre, rfl, by omega, h2, h3, rfl⟩⟩, fun B w0 w M hp => ?_⟩
    subst h4
    refine Hp.less (l2 := xs.drop (k * c)) ?_
    rw [List.append_assoc, List.take_append_drop]; exact hp
end Go.Proofs.Ytaafajaadfgaoaa

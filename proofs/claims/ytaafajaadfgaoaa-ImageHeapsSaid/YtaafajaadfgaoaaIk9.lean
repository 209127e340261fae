/- Parts of the proof. -/
import Derived.Test.YtaafajaadfgaoaaIk3
import Derived.Test.YtaafajaadfgaoaaIk5
import Derived.Test.YtaafajaadfgaoaaIk2
open List renaming set_cons_zero → zSet, set_cons_succ → sSet
/- The walk that reads an object. -/
set_option linter.unusedSimpArgs false
set_option linter.unusedVariables false
namespace Go.Proofs.Ytaafajaadfgaoaa
open Go.RowKit
theorem ceRO0 {ty : TypeId} (h : cellB Try.prog ty = true := by with_reducible first | exact cell3 | exact cell4 | exact cell56) : cellB Try.prog ty = true := h
theorem nR_nat {bs : List Nat} {x : Int} {b1 : List Nat} (h : nR bs = some (x, b1)) : ∃ v : Nat, x = v ∧ v ≤ 2147483647 := by
  unfold nR at h
  cases h1 : numR bs with
  | none => rw [h1] at h; cases h
  | some v => rw [h1] at h; simp at h; exact ⟨v, h.1.symm, (numR_len h1).2.2⟩
def objR (bs : List Nat) : Option (Ob × List Nat) := match nR bs with
  | none => none
  | some (h, b1) => match nR b1 with
    | none => none
    | some (p, b2) => match nR b2 with
      | none => none
      | some (nw, b3) => match nR b3 with
        | none => none
        | some (nl, b4) => if needI nw nl < 0 then none else match repR iR nw.toNat b4 with
          | none => none
          | some (ws, b5) => match repR nR nl.toNat b5 with
            | none => none
            | some (ls, b6) => some (mkOb h p (needI nw nl) ws ls, b6)
def ObjPost (w0 : World) (br bi : Nat) (r : Option (Ob × List Nat)) (K L : List Blk) (e : Ending) (w' : World) : Prop :=
  match r with
  | some (o, bs') => ∃ y R, e = .returned (.agg (obV y).toArray) ∧ y.Sm o ∧ ObR y R ∧ RdSt w0 br bi bs' K (R ++ L) w'
  | none => e = .panicked badP ∧ Hp w0.heap.size w0 w' (K ++ L)
theorem RdSt.mk2 {w0 w : World} {br bi c : Nat} {a : Option Addr} {bs : List Nat} {x y : Blk} {R1 R2 L : List Blk} (h1 : bs.length ≤ c) (h2 : RdAt w0 a bs)
    (hp : Hp w0.heap.size w0 w (x :: y :: ⟨br, [.slice a bs.length c], 105, 1⟩ :: ⟨bi, [.pointer (some ⟨br, 0, none⟩)], 69, 1⟩ :: (R2 ++ (R1 ++ L)))) : RdSt w0 br bi bs [] ((R1 ++ R2) ++ L) w :=
  ⟨a, c, h1, h2, (show Hp w0.heap.size w0 w (x :: y :: Rb br a bs.length c :: Ib bi br :: (R2 ++ (R1 ++ L))) from hp).kp⟩
set_option maxRecDepth 100000 in
set_option maxHeartbeats 8000000 in
theorem ino64 (br bi : Nat) (bs : List Nat) {w0 w : World} {K L : List Blk} (hs : RdSt w0 br bi bs K L w) :
    Calls Try.prog 64 #[.pointer (some ⟨bi, 0, none⟩)] w (ObjPost w0 br bi (objR bs) K L) := by
  replace hs := hs.front
  have HB : RowKit.Hid (∀ l b w', RdSt w0 br bi b [] (l ++ (K ++ L)) w' → RdSt w0 br bi b K (l ++ L) w') := Lib.hid (fun l b w' h => RdSt.back (by obtain ⟨a, c, h1, h2, hp⟩ := h; exact ⟨a, c, h1, h2, hp.kp⟩))
  obtain ⟨M, hM⟩ : ∃ M, M = K ++ L := ⟨_, rfl⟩
  rw [← hM] at hs HB
  suffices h : Calls Try.prog 64 #[.pointer (some ⟨bi, 0, none⟩)] w (ObjPost w0 br bi (objR bs) [] M) by
    refine h.mono fun e w' hq => ?_
    cases ho : objR bs with
    | none => rw [ho] at hq; exact ⟨hq.1, by rw [← hM]; exact hq.2⟩
    | some p =>
      obtain ⟨o, b6⟩ := p
      rw [ho] at hq
      obtain ⟨y, R, h1, h2, h3, h4⟩ := hq
      exact ⟨y, R, h1, h2, h3, HB.out _ _ _ h4⟩
  clear HB hM
  clear K L
  obtain ⟨L, hL⟩ : ∃ L, L = M := ⟨_, rfl⟩
  subst hL
  obtain ⟨a, c, hl, ha, hp⟩ := hs
  have HL := Lib.hid hl
  have HA := Lib.hid ha
  clear hl ha
  simp only [List.nil_append, Rb, Ib] at hp
  unfold objR
  cases h1 : nR bs with
  | none => have H1 := Lib.hid h1; clear h1; simp only; go_enter Try.func64, Try.ntmps64; go_wp2_with (first | (go_at_call 28; refine (inn28 br bi _ (K := [_, _]) (L := L) ⟨_, _, HL.out, HA.out, hp⟩).mono ?_; clear hp HL HA; rintro e w1 hq; (first | rw [H1.out] at hq | rw [H2.out] at hq | rw [H3.out] at hq | rw [H4.out] at hq); (first | (obtain ⟨rfl, a, c, hl, ha, hp⟩ := hq; have HL := Lib.hid hl; have HA := Lib.hid ha; clear hl ha; simp only [List.cons_append, List.nil_append, Rb, Ib] at hp) | (obtain ⟨rfl, hp⟩ := hq; simp only [List.cons_append, List.nil_append] at hp))) | (go_at_call 46; (with_reducible refine (need46 _ _ _).mono ?_); rintro e w' ⟨rfl, rfl⟩; rw [HND.out]) | (go_at_call 30; first | ((with_reducible refine (is30 _).mono ?_); rintro e w' ⟨rfl, rfl⟩) | ((with_reducible refine (is30_no _).mono ?_); rintro e w' ⟨rfl, rfl⟩)) | (go_at_call 85; have hst : RdSt w0 br bi _ [_, _] L _ := ⟨_, _, HL.out, HA.out, hp⟩; (with_reducible refine (many85_i br bi nw 32 HW.out HW2.out _ hst).mono ?_); clear hst; clear hp HL HA; rintro e w1 hq; rw [H5.out] at hq; first | (obtain ⟨v1, R1, rfl, hr1, a, c, hl, ha, hp⟩ := hq; obtain ⟨wa, wc, rfl, _⟩ := hr1.kept; have HR1 := Lib.hid hr1; have HL := Lib.hid hl; have HA := Lib.hid ha; clear hl ha hr1; simp only [List.cons_append, List.nil_append, Rb, Ib] at hp) | (obtain ⟨rfl, hp⟩ := hq; simp only [List.cons_append, List.nil_append] at hp)) | (go_at_call 85; have hst : RdSt w0 br bi _ [_, _] (R1 ++ L) _ := ⟨_, _, HL.out, HA.out, hp⟩; (with_reducible refine (many85_n br bi nl 16 HX.out HX2.out _ hst).mono ?_); clear hst; clear hp HL HA; rintro e w1 hq; rw [H6.out] at hq; first | (obtain ⟨v2, R2, rfl, hr2, a, c, hl, ha, hp⟩ := hq; obtain ⟨la, lc, rfl, _⟩ := hr2.kept; have HR2 := Lib.hid hr2; have HL := Lib.hid hl; have HA := Lib.hid ha; clear hl ha hr2; simp only [List.cons_append, List.nil_append, Rb, Ib] at hp) | (obtain ⟨rfl, hp⟩ := hq; simp only [List.cons_append, List.nil_append] at hp)) | go_skip | ((first | ((with_reducible refine pre_alloc _ rfl ?_); refine lZ hp rfl zero60 ?_; clear hp; intro b w1 hp) | ((with_reducible refine pre_box _ _ rfl ?_); refine lB hp rfl (sTm rfl) rfl ?_; clear hp; intro b w1 hp) | ((with_reducible refine pre_load _ _ rfl ?_); first | refine lO hp rfl (sTm rfl) ceRO0 aa5 ?_ | refine lA hp rfl (sTm rfl) agg60 aa5 ?_) | ((with_reducible refine pre_store _ _ _ rfl ?_); (first | refine sO hp rfl (sTm rfl) ceRO0 aa5 ?_ | refine sA hp rfl (sTm rfl) (sTm rfl) agg60 aa5 ?_ | refine sG hp rfl (sTm rfl) (sTm rfl) agg60 aa5 ?_); clear hp; intro w1 hp; simp only [spl, zSet, sSet] at hp)); simp only [put_some, put_none, sSet, zSet])); exact ⟨rfl, rfl, hp.kp⟩
  | some q1 =>
    obtain ⟨h, b1⟩ := q1
    have H1 := Lib.hid h1
    clear h1
    simp only
    cases h2 : nR b1 with
    | none => have H2 := Lib.hid h2; clear h2; simp only; go_enter Try.func64, Try.ntmps64; go_wp2_with (first | (go_at_call 28; refine (inn28 br bi _ (K := [_, _]) (L := L) ⟨_, _, HL.out, HA.out, hp⟩).mono ?_; clear hp HL HA; rintro e w1 hq; (first | rw [H1.out] at hq | rw [H2.out] at hq | rw [H3.out] at hq | rw [H4.out] at hq); (first | (obtain ⟨rfl, a, c, hl, ha, hp⟩ := hq; have HL := Lib.hid hl; have HA := Lib.hid ha; clear hl ha; simp only [List.cons_append, List.nil_append, Rb, Ib] at hp) | (obtain ⟨rfl, hp⟩ := hq; simp only [List.cons_append, List.nil_append] at hp))) | (go_at_call 46; (with_reducible refine (need46 _ _ _).mono ?_); rintro e w' ⟨rfl, rfl⟩; rw [HND.out]) | (go_at_call 30; first | ((with_reducible refine (is30 _).mono ?_); rintro e w' ⟨rfl, rfl⟩) | ((with_reducible refine (is30_no _).mono ?_); rintro e w' ⟨rfl, rfl⟩)) | (go_at_call 85; have hst : RdSt w0 br bi _ [_, _] L _ := ⟨_, _, HL.out, HA.out, hp⟩; (with_reducible refine (many85_i br bi nw 32 HW.out HW2.out _ hst).mono ?_); clear hst; clear hp HL HA; rintro e w1 hq; rw [H5.out] at hq; first | (obtain ⟨v1, R1, rfl, hr1, a, c, hl, ha, hp⟩ := hq; obtain ⟨wa, wc, rfl, _⟩ := hr1.kept; have HR1 := Lib.hid hr1; have HL := Lib.hid hl; have HA := Lib.hid ha; clear hl ha hr1; simp only [List.cons_append, List.nil_append, Rb, Ib] at hp) | (obtain ⟨rfl, hp⟩ := hq; simp only [List.cons_append, List.nil_append] at hp)) | (go_at_call 85; have hst : RdSt w0 br bi _ [_, _] (R1 ++ L) _ := ⟨_, _, HL.out, HA.out, hp⟩; (with_reducible refine (many85_n br bi nl 16 HX.out HX2.out _ hst).mono ?_); clear hst; clear hp HL HA; rintro e w1 hq; rw [H6.out] at hq; first | (obtain ⟨v2, R2, rfl, hr2, a, c, hl, ha, hp⟩ := hq; obtain ⟨la, lc, rfl, _⟩ := hr2.kept; have HR2 := Lib.hid hr2; have HL := Lib.hid hl; have HA := Lib.hid ha; clear hl ha hr2; simp only [List.cons_append, List.nil_append, Rb, Ib] at hp) | (obtain ⟨rfl, hp⟩ := hq; simp only [List.cons_append, List.nil_append] at hp)) | go_skip | ((first | ((with_reducible refine pre_alloc _ rfl ?_); refine lZ hp rfl zero60 ?_; clear hp; intro b w1 hp) | ((with_reducible refine pre_box _ _ rfl ?_); refine lB hp rfl (sTm rfl) rfl ?_; clear hp; intro b w1 hp) | ((with_reducible refine pre_load _ _ rfl ?_); first | refine lO hp rfl (sTm rfl) ceRO0 aa5 ?_ | refine lA hp rfl (sTm rfl) agg60 aa5 ?_) | ((with_reducible refine pre_store _ _ _ rfl ?_); (first | refine sO hp rfl (sTm rfl) ceRO0 aa5 ?_ | refine sA hp rfl (sTm rfl) (sTm rfl) agg60 aa5 ?_ | refine sG hp rfl (sTm rfl) (sTm rfl) agg60 aa5 ?_); clear hp; intro w1 hp; simp only [spl, zSet, sSet] at hp)); simp only [put_some, put_none, sSet, zSet])); exact ⟨rfl, rfl, hp.kp⟩
    | some q2 =>
      obtain ⟨p, b2⟩ := q2
      have H2 := Lib.hid h2
      clear h2
      simp only
      cases h3 : nR b2 with
      | none => have H3 := Lib.hid h3; clear h3; simp only; go_enter Try.func64, Try.ntmps64; go_wp2_with (first | (go_at_call 28; refine (inn28 br bi _ (K := [_, _]) (L := L) ⟨_, _, HL.out, HA.out, hp⟩).mono ?_; clear hp HL HA; rintro e w1 hq; (first | rw [H1.out] at hq | rw [H2.out] at hq | rw [H3.out] at hq | rw [H4.out] at hq); (first | (obtain ⟨rfl, a, c, hl, ha, hp⟩ := hq; have HL := Lib.hid hl; have HA := Lib.hid ha; clear hl ha; simp only [List.cons_append, List.nil_append, Rb, Ib] at hp) | (obtain ⟨rfl, hp⟩ := hq; simp only [List.cons_append, List.nil_append] at hp))) | (go_at_call 46; (with_reducible refine (need46 _ _ _).mono ?_); rintro e w' ⟨rfl, rfl⟩; rw [HND.out]) | (go_at_call 30; first | ((with_reducible refine (is30 _).mono ?_); rintro e w' ⟨rfl, rfl⟩) | ((with_reducible refine (is30_no _).mono ?_); rintro e w' ⟨rfl, rfl⟩)) | (go_at_call 85; have hst : RdSt w0 br bi _ [_, _] L _ := ⟨_, _, HL.out, HA.out, hp⟩; (with_reducible refine (many85_i br bi nw 32 HW.out HW2.out _ hst).mono ?_); clear hst; clear hp HL HA; rintro e w1 hq; rw [H5.out] at hq; first | (obtain ⟨v1, R1, rfl, hr1, a, c, hl, ha, hp⟩ := hq; obtain ⟨wa, wc, rfl, _⟩ := hr1.kept; have HR1 := Lib.hid hr1; have HL := Lib.hid hl; have HA := Lib.hid ha; clear hl ha hr1; simp only [List.cons_append, List.nil_append, Rb, Ib] at hp) | (obtain ⟨rfl, hp⟩ := hq; simp only [List.cons_append, List.nil_append] at hp)) | (go_at_call 85; have hst : RdSt w0 br bi _ [_, _] (R1 ++ L) _ := ⟨_, _, HL.out, HA.out, hp⟩; (with_reducible refine (many85_n br bi nl 16 HX.out HX2.out _ hst).mono ?_); clear hst; clear hp HL HA; rintro e w1 hq; rw [H6.out] at hq; first | (obtain ⟨v2, R2, rfl, hr2, a, c, hl, ha, hp⟩ := hq; obtain ⟨la, lc, rfl, _⟩ := hr2.kept; have HR2 := Lib.hid hr2; have HL := Lib.hid hl; have HA := Lib.hid ha; clear hl ha hr2; simp only [List.cons_append, List.nil_append, Rb, Ib] at hp) | (obtain ⟨rfl, hp⟩ := hq; simp only [List.cons_append, List.nil_append] at hp)) | go_skip | ((first | ((with_reducible refine pre_alloc _ rfl ?_); refine lZ hp rfl zero60 ?_; clear hp; intro b w1 hp) | ((with_reducible refine pre_box _ _ rfl ?_); refine lB hp rfl (sTm rfl) rfl ?_; clear hp; intro b w1 hp) | ((with_reducible refine pre_load _ _ rfl ?_); first | refine lO hp rfl (sTm rfl) ceRO0 aa5 ?_ | refine lA hp rfl (sTm rfl) agg60 aa5 ?_) | ((with_reducible refine pre_store _ _ _ rfl ?_); (first | refine sO hp rfl (sTm rfl) ceRO0 aa5 ?_ | refine sA hp rfl (sTm rfl) (sTm rfl) agg60 aa5 ?_ | refine sG hp rfl (sTm rfl) (sTm rfl) agg60 aa5 ?_); clear hp; intro w1 hp; simp only [spl, zSet, sSet] at hp)); simp only [put_some, put_none, sSet, zSet])); exact ⟨rfl, rfl, hp.kp⟩
      | some q3 =>
        obtain ⟨nw, b3⟩ := q3
        have H3 := Lib.hid h3
        clear h3
        simp only
        cases h4 : nR b3 with
        | none => have H4 := Lib.hid h4; clear h4; simp only; go_enter Try.func64, Try.ntmps64; go_wp2_with (first | (go_at_call 28; refine (inn28 br bi _ (K := [_, _]) (L := L) ⟨_, _, HL.out, HA.out, hp⟩).mono ?_; clear hp HL HA; rintro e w1 hq; (first | rw [H1.out] at hq | rw [H2.out] at hq | rw [H3.out] at hq | rw [H4.out] at hq); (first | (obtain ⟨rfl, a, c, hl, ha, hp⟩ := hq; have HL := Lib.hid hl; have HA := Lib.hid ha; clear hl ha; simp only [List.cons_append, List.nil_append, Rb, Ib] at hp) | (obtain ⟨rfl, hp⟩ := hq; simp only [List.cons_append, List.nil_append] at hp))) | (go_at_call 46; (with_reducible refine (need46 _ _ _).mono ?_); rintro e w' ⟨rfl, rfl⟩; rw [HND.out]) | (go_at_call 30; first | ((with_reducible refine (is30 _).mono ?_); rintro e w' ⟨rfl, rfl⟩) | ((with_reducible refine (is30_no _).mono ?_); rintro e w' ⟨rfl, rfl⟩)) | (go_at_call 85; have hst : RdSt w0 br bi _ [_, _] L _ := ⟨_, _, HL.out, HA.out, hp⟩; (with_reducible refine (many85_i br bi nw 32 HW.out HW2.out _ hst).mono ?_); clear hst; clear hp HL HA; rintro e w1 hq; rw [H5.out] at hq; first | (obtain ⟨v1, R1, rfl, hr1, a, c, hl, ha, hp⟩ := hq; obtain ⟨wa, wc, rfl, _⟩ := hr1.kept; have HR1 := Lib.hid hr1; have HL := Lib.hid hl; have HA := Lib.hid ha; clear hl ha hr1; simp only [List.cons_append, List.nil_append, Rb, Ib] at hp) | (obtain ⟨rfl, hp⟩ := hq; simp only [List.cons_append, List.nil_append] at hp)) | (go_at_call 85; have hst : RdSt w0 br bi _ [_, _] (R1 ++ L) _ := ⟨_, _, HL.out, HA.out, hp⟩; (with_reducible refine (many85_n br bi nl 16 HX.out HX2.out _ hst).mono ?_); clear hst; clear hp HL HA; rintro e w1 hq; rw [H6.out] at hq; first | (obtain ⟨v2, R2, rfl, hr2, a, c, hl, ha, hp⟩ := hq; obtain ⟨la, lc, rfl, _⟩ := hr2.kept; have HR2 := Lib.hid hr2; have HL := Lib.hid hl; have HA := Lib.hid ha; clear hl ha hr2; simp only [List.cons_append, List.nil_append, Rb, Ib] at hp) | (obtain ⟨rfl, hp⟩ := hq; simp only [List.cons_append, List.nil_append] at hp)) | go_skip | ((first | ((with_reducible refine pre_alloc _ rfl ?_); refine lZ hp rfl zero60 ?_; clear hp; intro b w1 hp) | ((with_reducible refine pre_box _ _ rfl ?_); refine lB hp rfl (sTm rfl) rfl ?_; clear hp; intro b w1 hp) | ((with_reducible refine pre_load _ _ rfl ?_); first | refine lO hp rfl (sTm rfl) ceRO0 aa5 ?_ | refine lA hp rfl (sTm rfl) agg60 aa5 ?_) | ((with_reducible refine pre_store _ _ _ rfl ?_); (first | refine sO hp rfl (sTm rfl) ceRO0 aa5 ?_ | refine sA hp rfl (sTm rfl) (sTm rfl) agg60 aa5 ?_ | refine sG hp rfl (sTm rfl) (sTm rfl) agg60 aa5 ?_); clear hp; intro w1 hp; simp only [spl, zSet, sSet] at hp)); simp only [put_some, put_none, sSet, zSet])); exact ⟨rfl, rfl, hp.kp⟩
        | some q4 =>
          obtain ⟨nl, b4⟩ := q4
          have H4 := Lib.hid h4
          clear h4
          simp only
          obtain ⟨nw, rfl, _⟩ := nR_nat H3.out
          obtain ⟨nl, rfl, _⟩ := nR_nat H4.out
          obtain ⟨nd, hnd⟩ : ∃ nd, needI nw nl = nd := ⟨_, rfl⟩
          have HND := Lib.hid hnd
          rw [hnd]
          by_cases hneg : nd < 0
          · rw [if_pos hneg]
            have e1 : decide (0 ≤ nd) = false := decide_eq_false (by omega)
            clear hneg hnd
            go_enter Try.func64, Try.ntmps64; go_wp2_with (first | (go_at_call 28; refine (inn28 br bi _ (K := [_, _]) (L := L) ⟨_, _, HL.out, HA.out, hp⟩).mono ?_; clear hp HL HA; rintro e w1 hq; (first | rw [H1.out] at hq | rw [H2.out] at hq | rw [H3.out] at hq | rw [H4.out] at hq); (first | (obtain ⟨rfl, a, c, hl, ha, hp⟩ := hq; have HL := Lib.hid hl; have HA := Lib.hid ha; clear hl ha; simp only [List.cons_append, List.nil_append, Rb, Ib] at hp) | (obtain ⟨rfl, hp⟩ := hq; simp only [List.cons_append, List.nil_append] at hp))) | (go_at_call 46; (with_reducible refine (need46 _ _ _).mono ?_); rintro e w' ⟨rfl, rfl⟩; rw [HND.out]) | (go_at_call 30; first | ((with_reducible refine (is30 _).mono ?_); rintro e w' ⟨rfl, rfl⟩) | ((with_reducible refine (is30_no _).mono ?_); rintro e w' ⟨rfl, rfl⟩)) | (go_at_call 85; have hst : RdSt w0 br bi _ [_, _] L _ := ⟨_, _, HL.out, HA.out, hp⟩; (with_reducible refine (many85_i br bi nw 32 HW.out HW2.out _ hst).mono ?_); clear hst; clear hp HL HA; rintro e w1 hq; rw [H5.out] at hq; first | (obtain ⟨v1, R1, rfl, hr1, a, c, hl, ha, hp⟩ := hq; obtain ⟨wa, wc, rfl, _⟩ := hr1.kept; have HR1 := Lib.hid hr1; have HL := Lib.hid hl; have HA := Lib.hid ha; clear hl ha hr1; simp only [List.cons_append, List.nil_append, Rb, Ib] at hp) | (obtain ⟨rfl, hp⟩ := hq; simp only [List.cons_append, List.nil_append] at hp)) | (go_at_call 85; have hst : RdSt w0 br bi _ [_, _] (R1 ++ L) _ := ⟨_, _, HL.out, HA.out, hp⟩; (with_reducible refine (many85_n br bi nl 16 HX.out HX2.out _ hst).mono ?_); clear hst; clear hp HL HA; rintro e w1 hq; rw [H6.out] at hq; first | (obtain ⟨v2, R2, rfl, hr2, a, c, hl, ha, hp⟩ := hq; obtain ⟨la, lc, rfl, _⟩ := hr2.kept; have HR2 := Lib.hid hr2; have HL := Lib.hid hl; have HA := Lib.hid ha; clear hl ha hr2; simp only [List.cons_append, List.nil_append, Rb, Ib] at hp) | (obtain ⟨rfl, hp⟩ := hq; simp only [List.cons_append, List.nil_append] at hp)) | go_skip | ((first | ((with_reducible refine pre_alloc _ rfl ?_); refine lZ hp rfl zero60 ?_; clear hp; intro b w1 hp) | ((with_reducible refine pre_box _ _ rfl ?_); refine lB hp rfl (sTm rfl) rfl ?_; clear hp; intro b w1 hp) | ((with_reducible refine pre_load _ _ rfl ?_); first | refine lO hp rfl (sTm rfl) ceRO0 aa5 ?_ | refine lA hp rfl (sTm rfl) agg60 aa5 ?_) | ((with_reducible refine pre_store _ _ _ rfl ?_); (first | refine sO hp rfl (sTm rfl) ceRO0 aa5 ?_ | refine sA hp rfl (sTm rfl) (sTm rfl) agg60 aa5 ?_ | refine sG hp rfl (sTm rfl) (sTm rfl) agg60 aa5 ?_); clear hp; intro w1 hp; simp only [spl, zSet, sSet] at hp)); simp only [put_some, put_none, sSet, zSet])); exact ⟨rfl, rfl, hp.kp⟩
          · rw [if_neg hneg]
            have e1 : decide (0 ≤ nd) = true := decide_eq_true (by omega)
            obtain ⟨n1, n2, n3, n4⟩ := needI_ok (a := nw) (b := nl) (by omega)
            have HW : RowKit.Hid ((nw : Int) ≤ 32) := Lib.hid n2
            have HX : RowKit.Hid ((nl : Int) ≤ 16) := Lib.hid n4
            have HW2 : RowKit.Hid (nw ≤ 1000) := Lib.hid (by omega)
            have HX2 : RowKit.Hid (nl ≤ 1000) := Lib.hid (by omega)
            clear hneg hnd n1 n2 n3 n4
            simp only [Int.toNat_natCast]
            cases h5 : repR iR nw b4 with
            | none => have H5 := Lib.hid h5; clear h5; simp only; go_enter Try.func64, Try.ntmps64; go_wp2_with (first | (go_at_call 28; refine (inn28 br bi _ (K := [_, _]) (L := L) ⟨_, _, HL.out, HA.out, hp⟩).mono ?_; clear hp HL HA; rintro e w1 hq; (first | rw [H1.out] at hq | rw [H2.out] at hq | rw [H3.out] at hq | rw [H4.out] at hq); (first | (obtain ⟨rfl, a, c, hl, ha, hp⟩ := hq; have HL := Lib.hid hl; have HA := Lib.hid ha; clear hl ha; simp only [List.cons_append, List.nil_append, Rb, Ib] at hp) | (obtain ⟨rfl, hp⟩ := hq; simp only [List.cons_append, List.nil_append] at hp))) | (go_at_call 46; (with_reducible refine (need46 _ _ _).mono ?_); rintro e w' ⟨rfl, rfl⟩; rw [HND.out]) | (go_at_call 30; first | ((with_reducible refine (is30 _).mono ?_); rintro e w' ⟨rfl, rfl⟩) | ((with_reducible refine (is30_no _).mono ?_); rintro e w' ⟨rfl, rfl⟩)) | (go_at_call 85; have hst : RdSt w0 br bi _ [_, _] L _ := ⟨_, _, HL.out, HA.out, hp⟩; (with_reducible refine (many85_i br bi nw 32 HW.out HW2.out _ hst).mono ?_); clear hst; clear hp HL HA; rintro e w1 hq; rw [H5.out] at hq; first | (obtain ⟨v1, R1, rfl, hr1, a, c, hl, ha, hp⟩ := hq; obtain ⟨wa, wc, rfl, _⟩ := hr1.kept; have HR1 := Lib.hid hr1; have HL := Lib.hid hl; have HA := Lib.hid ha; clear hl ha hr1; simp only [List.cons_append, List.nil_append, Rb, Ib] at hp) | (obtain ⟨rfl, hp⟩ := hq; simp only [List.cons_append, List.nil_append] at hp)) | (go_at_call 85; have hst : RdSt w0 br bi _ [_, _] (R1 ++ L) _ := ⟨_, _, HL.out, HA.out, hp⟩; (with_reducible refine (many85_n br bi nl 16 HX.out HX2.out _ hst).mono ?_); clear hst; clear hp HL HA; rintro e w1 hq; rw [H6.out] at hq; first | (obtain ⟨v2, R2, rfl, hr2, a, c, hl, ha, hp⟩ := hq; obtain ⟨la, lc, rfl, _⟩ := hr2.kept; have HR2 := Lib.hid hr2; have HL := Lib.hid hl; have HA := Lib.hid ha; clear hl ha hr2; simp only [List.cons_append, List.nil_append, Rb, Ib] at hp) | (obtain ⟨rfl, hp⟩ := hq; simp only [List.cons_append, List.nil_append] at hp)) | go_skip | ((first | ((with_reducible refine pre_alloc _ rfl ?_); refine lZ hp rfl zero60 ?_; clear hp; intro b w1 hp) | ((with_reducible refine pre_box _ _ rfl ?_); refine lB hp rfl (sTm rfl) rfl ?_; clear hp; intro b w1 hp) | ((with_reducible refine pre_load _ _ rfl ?_); first | refine lO hp rfl (sTm rfl) ceRO0 aa5 ?_ | refine lA hp rfl (sTm rfl) agg60 aa5 ?_) | ((with_reducible refine pre_store _ _ _ rfl ?_); (first | refine sO hp rfl (sTm rfl) ceRO0 aa5 ?_ | refine sA hp rfl (sTm rfl) (sTm rfl) agg60 aa5 ?_ | refine sG hp rfl (sTm rfl) (sTm rfl) agg60 aa5 ?_); clear hp; intro w1 hp; simp only [spl, zSet, sSet] at hp)); simp only [put_some, put_none, sSet, zSet])); exact ⟨rfl, rfl, hp.kp⟩
            | some q5 =>
              obtain ⟨ws, b5⟩ := q5
              have H5 := Lib.hid h5
              have HWL := Lib.hid (repR_len h5)
              clear h5
              simp only
              cases h6 : repR nR nl b5 with
              | none => have H6 := Lib.hid h6; clear h6; simp only; go_enter Try.func64, Try.ntmps64; go_wp2_with (first | (go_at_call 28; refine (inn28 br bi _ (K := [_, _]) (L := L) ⟨_, _, HL.out, HA.out, hp⟩).mono ?_; clear hp HL HA; rintro e w1 hq; (first | rw [H1.out] at hq | rw [H2.out] at hq | rw [H3.out] at hq | rw [H4.out] at hq); (first | (obtain ⟨rfl, a, c, hl, ha, hp⟩ := hq; have HL := Lib.hid hl; have HA := Lib.hid ha; clear hl ha; simp only [List.cons_append, List.nil_append, Rb, Ib] at hp) | (obtain ⟨rfl, hp⟩ := hq; simp only [List.cons_append, List.nil_append] at hp))) | (go_at_call 46; (with_reducible refine (need46 _ _ _).mono ?_); rintro e w' ⟨rfl, rfl⟩; rw [HND.out]) | (go_at_call 30; first | ((with_reducible refine (is30 _).mono ?_); rintro e w' ⟨rfl, rfl⟩) | ((with_reducible refine (is30_no _).mono ?_); rintro e w' ⟨rfl, rfl⟩)) | (go_at_call 85; have hst : RdSt w0 br bi _ [_, _] L _ := ⟨_, _, HL.out, HA.out, hp⟩; (with_reducible refine (many85_i br bi nw 32 HW.out HW2.out _ hst).mono ?_); clear hst; clear hp HL HA; rintro e w1 hq; rw [H5.out] at hq; first | (obtain ⟨v1, R1, rfl, hr1, a, c, hl, ha, hp⟩ := hq; obtain ⟨wa, wc, rfl, _⟩ := hr1.kept; have HR1 := Lib.hid hr1; have HL := Lib.hid hl; have HA := Lib.hid ha; clear hl ha hr1; simp only [List.cons_append, List.nil_append, Rb, Ib] at hp) | (obtain ⟨rfl, hp⟩ := hq; simp only [List.cons_append, List.nil_append] at hp)) | (go_at_call 85; have hst : RdSt w0 br bi _ [_, _] (R1 ++ L) _ := ⟨_, _, HL.out, HA.out, hp⟩; (with_reducible refine (many85_n br bi nl 16 HX.out HX2.out _ hst).mono ?_); clear hst; clear hp HL HA; rintro e w1 hq; rw [H6.out] at hq; first | (obtain ⟨v2, R2, rfl, hr2, a, c, hl, ha, hp⟩ := hq; obtain ⟨la, lc, rfl, _⟩ := hr2.kept; have HR2 := Lib.hid hr2; have HL := Lib.hid hl; have HA := Lib.hid ha; clear hl ha hr2; simp only [List.cons_append, List.nil_append, Rb, Ib] at hp) | (obtain ⟨rfl, hp⟩ := hq; simp only [List.cons_append, List.nil_append] at hp)) | go_skip | ((first | ((with_reducible refine pre_alloc _ rfl ?_); refine lZ hp rfl zero60 ?_; clear hp; intro b w1 hp) | ((with_reducible refine pre_box _ _ rfl ?_); refine lB hp rfl (sTm rfl) rfl ?_; clear hp; intro b w1 hp) | ((with_reducible refine pre_load _ _ rfl ?_); first | refine lO hp rfl (sTm rfl) ceRO0 aa5 ?_ | refine lA hp rfl (sTm rfl) agg60 aa5 ?_) | ((with_reducible refine pre_store _ _ _ rfl ?_); (first | refine sO hp rfl (sTm rfl) ceRO0 aa5 ?_ | refine sA hp rfl (sTm rfl) (sTm rfl) agg60 aa5 ?_ | refine sG hp rfl (sTm rfl) (sTm rfl) agg60 aa5 ?_); clear hp; intro w1 hp; simp only [spl, zSet, sSet] at hp)); simp only [put_some, put_none, sSet, zSet])); exact ⟨rfl, rfl, hp.kp⟩
              | some q6 =>
                obtain ⟨ls, b6⟩ := q6
                have H6 := Lib.hid h6
                have HLL := Lib.hid (repR_len h6)
                clear h6
                simp only
                go_enter Try.func64, Try.ntmps64; go_wp2_with (first | (go_at_call 28; refine (inn28 br bi _ (K := [_, _]) (L := L) ⟨_, _, HL.out, HA.out, hp⟩).mono ?_; clear hp HL HA; rintro e w1 hq; (first | rw [H1.out] at hq | rw [H2.out] at hq | rw [H3.out] at hq | rw [H4.out] at hq); (first | (obtain ⟨rfl, a, c, hl, ha, hp⟩ := hq; have HL := Lib.hid hl; have HA := Lib.hid ha; clear hl ha; simp only [List.cons_append, List.nil_append, Rb, Ib] at hp) | (obtain ⟨rfl, hp⟩ := hq; simp only [List.cons_append, List.nil_append] at hp))) | (go_at_call 46; (with_reducible refine (need46 _ _ _).mono ?_); rintro e w' ⟨rfl, rfl⟩; rw [HND.out]) | (go_at_call 30; first | ((with_reducible refine (is30 _).mono ?_); rintro e w' ⟨rfl, rfl⟩) | ((with_reducible refine (is30_no _).mono ?_); rintro e w' ⟨rfl, rfl⟩)) | (go_at_call 85; have hst : RdSt w0 br bi _ [_, _] L _ := ⟨_, _, HL.out, HA.out, hp⟩; (with_reducible refine (many85_i br bi nw 32 HW.out HW2.out _ hst).mono ?_); clear hst; clear hp HL HA; rintro e w1 hq; rw [H5.out] at hq; first | (obtain ⟨v1, R1, rfl, hr1, a, c, hl, ha, hp⟩ := hq; obtain ⟨wa, wc, rfl, _⟩ := hr1.kept; have HR1 := Lib.hid hr1; have HL := Lib.hid hl; have HA := Lib.hid ha; clear hl ha hr1; simp only [List.cons_append, List.nil_append, Rb, Ib] at hp) | (obtain ⟨rfl, hp⟩ := hq; simp only [List.cons_append, List.nil_append] at hp)) | (go_at_call 85; have hst : RdSt w0 br bi _ [_, _] (R1 ++ L) _ := ⟨_, _, HL.out, HA.out, hp⟩; (with_reducible refine (many85_n br bi nl 16 HX.out HX2.out _ hst).mono ?_); clear hst; clear hp HL HA; rintro e w1 hq; rw [H6.out] at hq; first | (obtain ⟨v2, R2, rfl, hr2, a, c, hl, ha, hp⟩ := hq; obtain ⟨la, lc, rfl, _⟩ := hr2.kept; have HR2 := Lib.hid hr2; have HL := Lib.hid hl; have HA := Lib.hid ha; clear hl ha hr2; simp only [List.cons_append, List.nil_append, Rb, Ib] at hp) | (obtain ⟨rfl, hp⟩ := hq; simp only [List.cons_append, List.nil_append] at hp)) | go_skip | ((first | ((with_reducible refine pre_alloc _ rfl ?_); refine lZ hp rfl zero60 ?_; clear hp; intro b w1 hp) | ((with_reducible refine pre_box _ _ rfl ?_); refine lB hp rfl (sTm rfl) rfl ?_; clear hp; intro b w1 hp) | ((with_reducible refine pre_load _ _ rfl ?_); first | refine lO hp rfl (sTm rfl) ceRO0 aa5 ?_ | refine lA hp rfl (sTm rfl) agg60 aa5 ?_) | ((with_reducible refine pre_store _ _ _ rfl ?_); (first | refine sO hp rfl (sTm rfl) ceRO0 aa5 ?_ | refine sA hp rfl (sTm rfl) (sTm rfl) agg60 aa5 ?_ | refine sG hp rfl (sTm rfl) (sTm rfl) agg60 aa5 ?_); clear hp; intro w1 hp; simp only [spl, zSet, sSet] at hp)); simp only [put_some, put_none, sSet, zSet]))
                have hw := HWL.out
                have hl := HLL.out
                subst hw hl
                exact bodyPost_ret (results_one (rs := [.cell 2 60]) Try.results64 (.cell rfl (hp.loadAgg agg60 at1 0 _ (by rfl) (by rfl)) .nil)) rfl ⟨⟨h, p, nd, wa, ws, wc, la, ls, lc⟩, R1 ++ R2, rfl, ⟨rfl, rfl, rfl, rfl, rfl⟩, ⟨R1, R2, rfl, HR1.out, HR2.out⟩, RdSt.mk2 HL.out HA.out hp⟩
end Go.Proofs.Ytaafajaadfgaoaa
/- The walk that reads so many objects. -/
namespace Go.Proofs.Ytaafajaadfgaoaa
open Go.RowKit
def ManyObPost (w0 : World) (br bi n : Nat) (r : Option (List Ob × List Nat)) (L : List Blk) (e : Ending) (w' : World) : Prop :=
  match r with
  | some (l, bs') => ∃ v os R M, e = .returned v ∧ os.length = n ∧ ObsSm os l ∧ OwnRow 60 5 v n (os.flatMap obV) R ∧ ObsR os M ∧ RdSt w0 br bi bs' [] (R ++ (M ++ L)) w'
  | none => e = .panicked badP ∧ Hp w0.heap.size w0 w' L
theorem obs_snoc2 {l k : List Ob} {x y : Ob} (h : ObsSm l k) (hx : x.Sm y) : ObsSm (l ++ [x]) (k ++ [y]) := by
  refine ⟨by rw [List.length_append, List.length_append, h.1]; rfl, fun i a b ha hb => ?_⟩
  rcases Nat.lt_or_ge i l.length with hi | hi
  · rw [List.getElem?_append_left hi] at ha
    rw [List.getElem?_append_left (by have := h.1; omega)] at hb
    exact h.2 i a b ha hb
  · rw [List.getElem?_append_right hi] at ha
    rw [List.getElem?_append_right (by have := h.1; omega)] at hb
    rw [← h.1] at hb
    obtain ⟨j, hj⟩ : ∃ j, j = i - l.length := ⟨_, rfl⟩
    rw [← hj] at ha hb
    cases j with
    | zero => simp at ha hb; subst ha; subst hb; exact hx
    | succ j => simp at ha
theorem RdSt.swap {w0 w : World} {br bi : Nat} {bs : List Nat} {A B C D L : List Blk} (h : RdSt w0 br bi bs [] (A ++ (B ++ (C ++ L))) w) (hD : D = C ++ A) : RdSt w0 br bi bs [] (B ++ (D ++ L)) w := by
  subst hD
  obtain ⟨a, c, h1, h2, hp⟩ := h
  exact ⟨a, c, h1, h2, hp.kp⟩
set_option maxRecDepth 100000 in
set_option maxHeartbeats 4000000 in
theorem many63 (br bi n : Nat) (most : Int) (hn : (n : Int) ≤ most) (hm : n ≤ 1000) (bs : List Nat) {w0 w : World} {L : List Blk} (hs : RdSt w0 br bi bs [] L w) :
    Calls Try.prog 63 #[.int .i64 n, .int .i64 most, .func (.func 64) #[.pointer (some ⟨bi, 0, none⟩)] #[]] w (ManyObPost w0 br bi n (repR objR n bs) L) := by
  obtain ⟨i0, hi0, hz0, hz1, hz2⟩ := info_parts info60
  go_enter Try.func63, Try.ntmps63
  go_wp2_with (first | (go_at_call 30; (with_reducible refine (is30 _).mono ?_); rintro e w' ⟨rfl, rfl⟩) | go_skip)
  go_loopg [7, 13] n (fun k v i wr => ∃ (q : Nat) (l os : List Ob) (b1 : List Nat) (R M : List Blk), k + q = n ∧ i = .int .i64 q ∧ RowKit.Hid (repR objR q bs = some (l, b1)) ∧ RowKit.Hid (os.length = q ∧ ObsSm os l) ∧ RowKit.Hid (OwnRow 60 5 v q (os.flatMap obV) R) ∧ RowKit.Hid (ObsR os M) ∧ RowKit.Hid (RdSt w0 br bi b1 [] (R ++ (M ++ L)) wr))
  case atStart => exact ⟨0, [], [], bs, [], [], by omega, rfl, Lib.hid rfl, Lib.hid ⟨rfl, ObsSm.refl _⟩, Lib.hid (OwnRow.nil _ _), Lib.hid .nil, Lib.hid hs⟩
  case round =>
    clear hs
    obtain ⟨q, l, os, b1, R, M, hkq, rfl, HQ, HOS, HR, HM, HS⟩ := hrel
    by_cases hlt : q < n
    · have f1 : (0 : Int) ≤ (q : Int) := by omega
      have f2 : (q : Int) < (n : Int) := by omega
      cases ho : objR b1 with
      | none =>
        have HO := Lib.hid ho
        have HF := Lib.hid (repR_fail HQ.out ho n hlt)
        clear ho
        go_wp2_with (first | (go_at_call 64; (with_reducible refine (ino64 br bi b1 HS.out).mono ?_); rw [HO.out]; first | (rintro e w1 ⟨y, Ry, rfl, hy, hry, hs1⟩; replace hs1 := RdSt.swap hs1 rfl; obtain ⟨a, c, hnc, ha, hp⟩ := hs1; have HA := Lib.hid ha; have HNC := Lib.hid hnc; have HY := Lib.hid hy; have HRY := Lib.hid hry; clear ha hnc hy hry; obtain ⟨yh, yp, yo, ywa, yws, ywc, yla, yls, ylc⟩ := y; simp only [List.nil_append, Rb, Ib] at hp; simp only [obV]) | rintro e w1 ⟨rfl, hp⟩) | go_skip)
        refine ⟨rfl, ?_⟩
        rw [HF.out]
        exact ⟨rfl, hp.kp⟩
      | some p =>
        obtain ⟨x, b2⟩ := p
        have HO := Lib.hid ho
        have HT := Lib.hid (repR_step HQ.out ho)
        clear ho
        go_wp2_with (first | (go_at_call 64; (with_reducible refine (ino64 br bi b1 HS.out).mono ?_); rw [HO.out]; first | (rintro e w1 ⟨y, Ry, rfl, hy, hry, hs1⟩; replace hs1 := RdSt.swap hs1 rfl; obtain ⟨a, c, hnc, ha, hp⟩ := hs1; have HA := Lib.hid ha; have HNC := Lib.hid hnc; have HY := Lib.hid hy; have HRY := Lib.hid hry; clear ha hnc hy hry; obtain ⟨yh, yp, yo, ywa, yws, ywc, yla, yls, ylc⟩ := y; simp only [List.nil_append, Rb, Ib] at hp; simp only [obV]) | rintro e w1 ⟨rfl, hp⟩) | ((with_reducible refine pre_append _ _ 22 rfl ?_); refine wpList_appendGrow (K := [_, _]) (R := R) (M := (M ++ Ry) ++ L) hp _ _ _ rfl wy i0 _ 72 Try.underlying22 hi0 hz0 hz1 hz2 rfl (by decide) (sTm rfl) HR.out 1 1 (sTm rfl) (by rfl) (by decide) (by rfl) (by unfold maxLen; omega) (by omega) ?_; clear hp HR; intro v' R' w1 hR' hp; have HR' := Lib.hid hR'; clear hR'; simp only [List.cons_append, List.nil_append] at hp; simp only [put_some, put_none, sSet, zSet]) | go_skip | ((first | ((with_reducible refine pre_box _ _ rfl ?_); refine lB hp rfl (sTm rfl) rfl ?_; clear hp; intro b w1 hp) | ((with_reducible refine pre_load _ _ rfl ?_); first | refine lO hp rfl (sTm rfl) cell3 aa5 ?_ | refine lA hp rfl (sTm rfl) agg60 aa5 ?_) | ((with_reducible refine pre_store _ _ _ rfl ?_); (first | refine sO hp rfl (sTm rfl) cell3 aa5 ?_ | refine sA hp rfl (sTm rfl) (sTm rfl) agg60 aa5 ?_ | refine sG hp rfl (sTm rfl) (sTm rfl) agg60 aa5 ?_); clear hp; intro w1 hp; simp only [spl, zSet, sSet] at hp) | ((with_reducible refine pre_build _ _ _ rfl ?_); refine lS hp rfl (by intro w; go_simp; rfl) ?_; clear hp; intro b w1 hp; simp only [List.length_cons, List.length_nil, Nat.reduceAdd] at hp)); simp only [put_some, put_none, sSet, zSet]))
        go_roundg (gk - 1)
        case measure => omega
        case rel =>
          refine ⟨q + 1, l ++ [x], os ++ [⟨yh, yp, yo, ywa, yws, ywc, yla, yls, ylc⟩], b2, R', M ++ Ry, by omega, by go_num, HT, Lib.hid ⟨by rw [List.length_append, HOS.out.1]; rfl, obs_snoc2 HOS.out.2 HY.out⟩, Lib.hid (by have := HR'.out; rw [obs_snoc]; exact this), Lib.hid (HM.out.snoc HRY.out), Lib.hid ⟨a, c, HNC.out, HA.out, hp⟩⟩
    · obtain rfl : q = n := by omega
      have f2 : decide ((q : Int) < (q : Int)) = false := by simp
      go_wp2_with (first | go_skip)
      go_ret
      rw [HQ.out]
      exact ⟨_, os, R, M, rfl, HOS.out.1, HOS.out.2, HR.out, HM.out, HS.out⟩
set_option maxRecDepth 100000 in
set_option maxHeartbeats 4000000 in
theorem many63_no (bi n : Nat) (most : Int) (hn : most < (n : Int)) (w : World) :
    Calls Try.prog 63 #[.int .i64 n, .int .i64 most, .func (.func 64) #[.pointer (some ⟨bi, 0, none⟩)] #[]] w fun e w' => e = .panicked badP ∧ w = w' := by
  have e1 : decide ((n : Int) ≤ most) = false := by simp; omega
  clear hn
  go_enter Try.func63, Try.ntmps63
  go_wp2_with (first | (go_at_call 30; (with_reducible refine (is30_no _).mono ?_); rintro e w' ⟨rfl, rfl⟩) | go_skip)
  exact ⟨rfl, rfl, rfl⟩
end Go.Proofs.Ytaafajaadfgaoaa

/- Parts of the proof. -/
import Derived.Test.YtcjbepaclbhjaaaGreatKe1
import Derived.Test.YtcjbepaclbhjaaaGreatKe5
import Derived.Test.YtcjbepaclbhjaaaGreatKe10
import Derived.Test.YtcjbepaclbhjaaaGreatKe3
open List renaming set_cons_zero → zSet, set_cons_succ → sSet
/- The walk that reads an object. -/
set_option linter.unusedSimpArgs false
set_option linter.unusedVariables false
namespace Go.Proofs.YtcjbepaclbhjaaaGreat
open Go.RowKit
theorem nR_nat {bs : List Nat} {x : Int} {b1 : List Nat} (h : nR bs = some (x, b1)) : ∃ v : Nat, x = v ∧ v ≤ 2147483647 := by
  unfold nR at h
  cases h1 : numR bs with
  | none => rw [h1] at h; cases h
  | some v => rw [h1] at h; simp at h; exact ⟨v, h.1.symm, (numR_len h1).2.2⟩
def objR (bs : List Nat) : Option (Ob × List Nat) := match nR bs with
  | none => none
  | some (h, b1) => match nR b1 with
    | none => none
    | some (p, b2) => match nR b2 with
      | none => none
      | some (nw, b3) => match nR b3 with
        | none => none
        | some (nl, b4) => if needI nw nl < 0 then none else match repR iR nw.toNat b4 with
          | none => none
          | some (ws, b5) => match repR nR nl.toNat b5 with
            | none => none
            | some (ls, b6) => some (mkOb h p (needI nw nl) ws ls, b6)
def ObjPost (w0 : World) (br bi : Nat) (r : Option (Ob × List Nat)) (K L : List Blk) (e : Ending) (w' : World) : Prop :=
  match r with
  | some (o, bs') => ∃ y R, e = .returned (.agg (obV y).toArray) ∧ y.Sm o ∧ ObR y R ∧ RdSt w0 br bi bs' K (R ++ L) w'
  | none => e = .panicked badP ∧ Hp w0.heap.size w0 w' (K ++ L)
theorem RdSt.mk2 {w0 w : World} {br bi c : Nat} {a : Option Addr} {bs : List Nat} {x y : Blk} {R1 R2 L : List Blk} (h1 : bs.length ≤ c) (h2 : RdAt w0 a bs)
    (hp : Hp w0.heap.size w0 w (x :: y :: ⟨br, [.slice a bs.length c], 144, 1⟩ :: ⟨bi, [.pointer (some ⟨br, 0, none⟩)], 115, 1⟩ :: (R2 ++ (R1 ++ L)))) : RdSt w0 br bi bs [] ((R1 ++ R2) ++ L) w :=
  ⟨a, c, h1, h2, (show Hp w0.heap.size w0 w (x :: y :: Rb br a bs.length c :: Ib bi br :: (R2 ++ (R1 ++ L))) from hp).kp⟩
set_option maxRecDepth 100000 in
set_option maxHeartbeats 8000000 in
theorem ino126 (br bi : Nat) (bs : List Nat) {w0 w : World} {K L : List Blk} (hs : RdSt w0 br bi bs K L w) :
    Calls Tryz.prog 126 #[.pointer (some ⟨bi, 0, none⟩)] w (ObjPost w0 br bi (objR bs) K L) := by
  replace hs := hs.front
  have HB : RowKit.Hid (∀ l b w', RdSt w0 br bi b [] (l ++ (K ++ L)) w' → RdSt w0 br bi b K (l ++ L) w') := Lib.hid (fun l b w' h => RdSt.back (by obtain ⟨a, c, h1, h2, hp⟩ := h; exact ⟨a, c, h1, h2, hp.kp⟩))
  obtain ⟨M, hM⟩ : ∃ M, M = K ++ L := ⟨_, rfl⟩
  rw [← hM] at hs HB
  suffices h : Calls Tryz.prog 126 #[.pointer (some ⟨bi, 0, none⟩)] w (ObjPost w0 br bi (objR bs) [] M) by
    refine h.mono fun e w' hq => ?_
    cases ho : objR bs with
    | none => rw [ho] at hq; exact ⟨hq.1, by rw [← hM]; exact hq.2⟩
    | some p =>
      obtain ⟨o, b6⟩ := p
      rw [ho] at hq
      obtain ⟨y, R, h1, h2, h3, h4⟩ := hq
      exact ⟨y, R, h1, h2, h3, HB.out _ _ _ h4⟩
  clear HB hM
  clear K L
  obtain ⟨L, hL⟩ : ∃ L, L = M := ⟨_, rfl⟩
  subst hL
  obtain ⟨a, c, hl, ha, hp⟩ := hs
  have HL := Lib.hid hl
  have HA := Lib.hid ha
  clear hl ha
  simp only [List.nil_append, Rb, Ib] at hp
  unfold objR
  cases h1 : nR bs with
  | none => have H1 := Lib.hid h1; clear h1; simp only; go_enter Tryz.func126, Tryz.ntmps126; go_wp2_with (first | (go_at_call 87; refine (inn87 br bi _ (K := [_, _]) (L := L) ⟨_, _, HL.out, HA.out, hp⟩).mono ?_; clear hp HL HA; rintro e w1 hq; (first | rw [H1.out] at hq | rw [H2.out] at hq | rw [H3.out] at hq | rw [H4.out] at hq); (first | (obtain ⟨rfl, a, c, hl, ha, hp⟩ := hq; have HL := Lib.hid hl; have HA := Lib.hid ha; clear hl ha; simp only [List.cons_append, List.nil_append, Rb, Ib] at hp) | (obtain ⟨rfl, hp⟩ := hq; simp only [List.cons_append, List.nil_append] at hp))) | (go_at_call 135; (with_reducible refine (need135 _ _ _).mono ?_); rintro e w' ⟨rfl, rfl⟩; rw [HND.out]) | (go_at_call 89; first | ((with_reducible refine (is89 _).mono ?_); rintro e w' ⟨rfl, rfl⟩) | ((with_reducible refine (is89_no _).mono ?_); rintro e w' ⟨rfl, rfl⟩)) | (go_at_call 154; have hst : RdSt w0 br bi _ [_, _] L _ := ⟨_, _, HL.out, HA.out, hp⟩; (with_reducible refine (many154_i br bi nw 32 HW.out HW2.out _ hst).mono ?_); clear hst; clear hp HL HA; rintro e w1 hq; rw [H5.out] at hq; first | (obtain ⟨v1, R1, rfl, hr1, a, c, hl, ha, hp⟩ := hq; obtain ⟨wa, wc, rfl, _⟩ := hr1.kept; have HR1 := Lib.hid hr1; have HL := Lib.hid hl; have HA := Lib.hid ha; clear hl ha hr1; simp only [List.cons_append, List.nil_append, Rb, Ib] at hp) | (obtain ⟨rfl, hp⟩ := hq; simp only [List.cons_append, List.nil_append] at hp)) | (go_at_call 154; have hst : RdSt w0 br bi _ [_, _] (R1 ++ L) _ := ⟨_, _, HL.out, HA.out, hp⟩; (with_reducible refine (many154_n br bi nl 16 HX.out HX2.out _ hst).mono ?_); clear hst; clear hp HL HA; rintro e w1 hq; rw [H6.out] at hq; first | (obtain ⟨v2, R2, rfl, hr2, a, c, hl, ha, hp⟩ := hq; obtain ⟨la, lc, rfl, _⟩ := hr2.kept; have HR2 := Lib.hid hr2; have HL := Lib.hid hl; have HA := Lib.hid ha; clear hl ha hr2; simp only [List.cons_append, List.nil_append, Rb, Ib] at hp) | (obtain ⟨rfl, hp⟩ := hq; simp only [List.cons_append, List.nil_append] at hp)) | go_skip | (first | (refine hA1 ?_; clear hp; intro b w1 hp) | refine hL0 ?_ | (refine hS0 ?_; clear hp; intro w1 hp))); exact ⟨rfl, rfl, hp.kp⟩
  | some q1 =>
    obtain ⟨h, b1⟩ := q1
    have H1 := Lib.hid h1
    clear h1
    simp only
    cases h2 : nR b1 with
    | none => have H2 := Lib.hid h2; clear h2; simp only; go_enter Tryz.func126, Tryz.ntmps126; go_wp2_with (first | (go_at_call 87; refine (inn87 br bi _ (K := [_, _]) (L := L) ⟨_, _, HL.out, HA.out, hp⟩).mono ?_; clear hp HL HA; rintro e w1 hq; (first | rw [H1.out] at hq | rw [H2.out] at hq | rw [H3.out] at hq | rw [H4.out] at hq); (first | (obtain ⟨rfl, a, c, hl, ha, hp⟩ := hq; have HL := Lib.hid hl; have HA := Lib.hid ha; clear hl ha; simp only [List.cons_append, List.nil_append, Rb, Ib] at hp) | (obtain ⟨rfl, hp⟩ := hq; simp only [List.cons_append, List.nil_append] at hp))) | (go_at_call 135; (with_reducible refine (need135 _ _ _).mono ?_); rintro e w' ⟨rfl, rfl⟩; rw [HND.out]) | (go_at_call 89; first | ((with_reducible refine (is89 _).mono ?_); rintro e w' ⟨rfl, rfl⟩) | ((with_reducible refine (is89_no _).mono ?_); rintro e w' ⟨rfl, rfl⟩)) | (go_at_call 154; have hst : RdSt w0 br bi _ [_, _] L _ := ⟨_, _, HL.out, HA.out, hp⟩; (with_reducible refine (many154_i br bi nw 32 HW.out HW2.out _ hst).mono ?_); clear hst; clear hp HL HA; rintro e w1 hq; rw [H5.out] at hq; first | (obtain ⟨v1, R1, rfl, hr1, a, c, hl, ha, hp⟩ := hq; obtain ⟨wa, wc, rfl, _⟩ := hr1.kept; have HR1 := Lib.hid hr1; have HL := Lib.hid hl; have HA := Lib.hid ha; clear hl ha hr1; simp only [List.cons_append, List.nil_append, Rb, Ib] at hp) | (obtain ⟨rfl, hp⟩ := hq; simp only [List.cons_append, List.nil_append] at hp)) | (go_at_call 154; have hst : RdSt w0 br bi _ [_, _] (R1 ++ L) _ := ⟨_, _, HL.out, HA.out, hp⟩; (with_reducible refine (many154_n br bi nl 16 HX.out HX2.out _ hst).mono ?_); clear hst; clear hp HL HA; rintro e w1 hq; rw [H6.out] at hq; first | (obtain ⟨v2, R2, rfl, hr2, a, c, hl, ha, hp⟩ := hq; obtain ⟨la, lc, rfl, _⟩ := hr2.kept; have HR2 := Lib.hid hr2; have HL := Lib.hid hl; have HA := Lib.hid ha; clear hl ha hr2; simp only [List.cons_append, List.nil_append, Rb, Ib] at hp) | (obtain ⟨rfl, hp⟩ := hq; simp only [List.cons_append, List.nil_append] at hp)) | go_skip | (first | (refine hA1 ?_; clear hp; intro b w1 hp) | refine hL0 ?_ | (refine hS0 ?_; clear hp; intro w1 hp))); exact ⟨rfl, rfl, hp.kp⟩
    | some q2 =>
      obtain ⟨p, b2⟩ := q2
      have H2 := Lib.hid h2
      clear h2
      simp only
      cases h3 : nR b2 with
      | none => have H3 := Lib.hid h3; clear h3; simp only; go_enter Tryz.func126, Tryz.ntmps126; go_wp2_with (first | (go_at_call 87; refine (inn87 br bi _ (K := [_, _]) (L := L) ⟨_, _, HL.out, HA.out, hp⟩).mono ?_; clear hp HL HA; rintro e w1 hq; (first | rw [H1.out] at hq | rw [H2.out] at hq | rw [H3.out] at hq | rw [H4.out] at hq); (first | (obtain ⟨rfl, a, c, hl, ha, hp⟩ := hq; have HL := Lib.hid hl; have HA := Lib.hid ha; clear hl ha; simp only [List.cons_append, List.nil_append, Rb, Ib] at hp) | (obtain ⟨rfl, hp⟩ := hq; simp only [List.cons_append, List.nil_append] at hp))) | (go_at_call 135; (with_reducible refine (need135 _ _ _).mono ?_); rintro e w' ⟨rfl, rfl⟩; rw [HND.out]) | (go_at_call 89; first | ((with_reducible refine (is89 _).mono ?_); rintro e w' ⟨rfl, rfl⟩) | ((with_reducible refine (is89_no _).mono ?_); rintro e w' ⟨rfl, rfl⟩)) | (go_at_call 154; have hst : RdSt w0 br bi _ [_, _] L _ := ⟨_, _, HL.out, HA.out, hp⟩; (with_reducible refine (many154_i br bi nw 32 HW.out HW2.out _ hst).mono ?_); clear hst; clear hp HL HA; rintro e w1 hq; rw [H5.out] at hq; first | (obtain ⟨v1, R1, rfl, hr1, a, c, hl, ha, hp⟩ := hq; obtain ⟨wa, wc, rfl, _⟩ := hr1.kept; have HR1 := Lib.hid hr1; have HL := Lib.hid hl; have HA := Lib.hid ha; clear hl ha hr1; simp only [List.cons_append, List.nil_append, Rb, Ib] at hp) | (obtain ⟨rfl, hp⟩ := hq; simp only [List.cons_append, List.nil_append] at hp)) | (go_at_call 154; have hst : RdSt w0 br bi _ [_, _] (R1 ++ L) _ := ⟨_, _, HL.out, HA.out, hp⟩; (with_reducible refine (many154_n br bi nl 16 HX.out HX2.out _ hst).mono ?_); clear hst; clear hp HL HA; rintro e w1 hq; rw [H6.out] at hq; first | (obtain ⟨v2, R2, rfl, hr2, a, c, hl, ha, hp⟩ := hq; obtain ⟨la, lc, rfl, _⟩ := hr2.kept; have HR2 := Lib.hid hr2; have HL := Lib.hid hl; have HA := Lib.hid ha; clear hl ha hr2; simp only [List.cons_append, List.nil_append, Rb, Ib] at hp) | (obtain ⟨rfl, hp⟩ := hq; simp only [List.cons_append, List.nil_append] at hp)) | go_skip | (first | (refine hA1 ?_; clear hp; intro b w1 hp) | refine hL0 ?_ | (refine hS0 ?_; clear hp; intro w1 hp))); exact ⟨rfl, rfl, hp.kp⟩
      | some q3 =>
        obtain ⟨nw, b3⟩ := q3
        have H3 := Lib.hid h3
        clear h3
        simp only
        cases h4 : nR b3 with
        | none => have H4 := Lib.hid h4; clear h4; simp only; go_enter Tryz.func126, Tryz.ntmps126; go_wp2_with (first | (go_at_call 87; refine (inn87 br bi _ (K := [_, _]) (L := L) ⟨_, _, HL.out, HA.out, hp⟩).mono ?_; clear hp HL HA; rintro e w1 hq; (first | rw [H1.out] at hq | rw [H2.out] at hq | rw [H3.out] at hq | rw [H4.out] at hq); (first | (obtain ⟨rfl, a, c, hl, ha, hp⟩ := hq; have HL := Lib.hid hl; have HA := Lib.hid ha; clear hl ha; simp only [List.cons_append, List.nil_append, Rb, Ib] at hp) | (obtain ⟨rfl, hp⟩ := hq; simp only [List.cons_append, List.nil_append] at hp))) | (go_at_call 135; (with_reducible refine (need135 _ _ _).mono ?_); rintro e w' ⟨rfl, rfl⟩; rw [HND.out]) | (go_at_call 89; first | ((with_reducible refine (is89 _).mono ?_); rintro e w' ⟨rfl, rfl⟩) | ((with_reducible refine (is89_no _).mono ?_); rintro e w' ⟨rfl, rfl⟩)) | (go_at_call 154; have hst : RdSt w0 br bi _ [_, _] L _ := ⟨_, _, HL.out, HA.out, hp⟩; (with_reducible refine (many154_i br bi nw 32 HW.out HW2.out _ hst).mono ?_); clear hst; clear hp HL HA; rintro e w1 hq; rw [H5.out] at hq; first | (obtain ⟨v1, R1, rfl, hr1, a, c, hl, ha, hp⟩ := hq; obtain ⟨wa, wc, rfl, _⟩ := hr1.kept; have HR1 := Lib.hid hr1; have HL := Lib.hid hl; have HA := Lib.hid ha; clear hl ha hr1; simp only [List.cons_append, List.nil_append, Rb, Ib] at hp) | (obtain ⟨rfl, hp⟩ := hq; simp only [List.cons_append, List.nil_append] at hp)) | (go_at_call 154; have hst : RdSt w0 br bi _ [_, _] (R1 ++ L) _ := ⟨_, _, HL.out, HA.out, hp⟩; (with_reducible refine (many154_n br bi nl 16 HX.out HX2.out _ hst).mono ?_); clear hst; clear hp HL HA; rintro e w1 hq; rw [H6.out] at hq; first | (obtain ⟨v2, R2, rfl, hr2, a, c, hl, ha, hp⟩ := hq; obtain ⟨la, lc, rfl, _⟩ := hr2.kept; have HR2 := Lib.hid hr2; have HL := Lib.hid hl; have HA := Lib.hid ha; clear hl ha hr2; simp only [List.cons_append, List.nil_append, Rb, Ib] at hp) | (obtain ⟨rfl, hp⟩ := hq; simp only [List.cons_append, List.nil_append] at hp)) | go_skip | (first | (refine hA1 ?_; clear hp; intro b w1 hp) | refine hL0 ?_ | (refine hS0 ?_; clear hp; intro w1 hp))); exact ⟨rfl, rfl, hp.kp⟩
        | some q4 =>
          obtain ⟨nl, b4⟩ := q4
          have H4 := Lib.hid h4
          clear h4
          simp only
          obtain ⟨nw, rfl, _⟩ := nR_nat H3.out
          obtain ⟨nl, rfl, _⟩ := nR_nat H4.out
          obtain ⟨nd, hnd⟩ : ∃ nd, needI nw nl = nd := ⟨_, rfl⟩
          have HND := Lib.hid hnd
          rw [hnd]
          by_cases hneg : nd < 0
          · rw [if_pos hneg]
            have e1 : decide (0 ≤ nd) = false := decide_eq_false (by omega)
            clear hneg hnd
            go_enter Tryz.func126, Tryz.ntmps126; go_wp2_with (first | (go_at_call 87; refine (inn87 br bi _ (K := [_, _]) (L := L) ⟨_, _, HL.out, HA.out, hp⟩).mono ?_; clear hp HL HA; rintro e w1 hq; (first | rw [H1.out] at hq | rw [H2.out] at hq | rw [H3.out] at hq | rw [H4.out] at hq); (first | (obtain ⟨rfl, a, c, hl, ha, hp⟩ := hq; have HL := Lib.hid hl; have HA := Lib.hid ha; clear hl ha; simp only [List.cons_append, List.nil_append, Rb, Ib] at hp) | (obtain ⟨rfl, hp⟩ := hq; simp only [List.cons_append, List.nil_append] at hp))) | (go_at_call 135; (with_reducible refine (need135 _ _ _).mono ?_); rintro e w' ⟨rfl, rfl⟩; rw [HND.out]) | (go_at_call 89; first | ((with_reducible refine (is89 _).mono ?_); rintro e w' ⟨rfl, rfl⟩) | ((with_reducible refine (is89_no _).mono ?_); rintro e w' ⟨rfl, rfl⟩)) | (go_at_call 154; have hst : RdSt w0 br bi _ [_, _] L _ := ⟨_, _, HL.out, HA.out, hp⟩; (with_reducible refine (many154_i br bi nw 32 HW.out HW2.out _ hst).mono ?_); clear hst; clear hp HL HA; rintro e w1 hq; rw [H5.out] at hq; first | (obtain ⟨v1, R1, rfl, hr1, a, c, hl, ha, hp⟩ := hq; obtain ⟨wa, wc, rfl, _⟩ := hr1.kept; have HR1 := Lib.hid hr1; have HL := Lib.hid hl; have HA := Lib.hid ha; clear hl ha hr1; simp only [List.cons_append, List.nil_append, Rb, Ib] at hp) | (obtain ⟨rfl, hp⟩ := hq; simp only [List.cons_append, List.nil_append] at hp)) | (go_at_call 154; have hst : RdSt w0 br bi _ [_, _] (R1 ++ L) _ := ⟨_, _, HL.out, HA.out, hp⟩; (with_reducible refine (many154_n br bi nl 16 HX.out HX2.out _ hst).mono ?_); clear hst; clear hp HL HA; rintro e w1 hq; rw [H6.out] at hq; first | (obtain ⟨v2, R2, rfl, hr2, a, c, hl, ha, hp⟩ := hq; obtain ⟨la, lc, rfl, _⟩ := hr2.kept; have HR2 := Lib.hid hr2; have HL := Lib.hid hl; have HA := Lib.hid ha; clear hl ha hr2; simp only [List.cons_append, List.nil_append, Rb, Ib] at hp) | (obtain ⟨rfl, hp⟩ := hq; simp only [List.cons_append, List.nil_append] at hp)) | go_skip | (first | (refine hA1 ?_; clear hp; intro b w1 hp) | refine hL0 ?_ | (refine hS0 ?_; clear hp; intro w1 hp))); exact ⟨rfl, rfl, hp.kp⟩
          · rw [if_neg hneg]
            have e1 : decide (0 ≤ nd) = true := decide_eq_true (by omega)
            obtain ⟨n1, n2, n3, n4⟩ := needI_ok (a := nw) (b := nl) (by omega)
            have HW : RowKit.Hid ((nw : Int) ≤ 32) := Lib.hid n2
            have HX : RowKit.Hid ((nl : Int) ≤ 16) := Lib.hid n4
            have HW2 : RowKit.Hid (nw ≤ 1000) := Lib.hid (by omega)
            have HX2 : RowKit.Hid (nl ≤ 1000) := Lib.hid (by omega)
            clear hneg hnd n1 n2 n3 n4
            simp only [Int.toNat_natCast]
            cases h5 : repR iR nw b4 with
            | none => have H5 := Lib.hid h5; clear h5; simp only; go_enter Tryz.func126, Tryz.ntmps126; go_wp2_with (first | (go_at_call 87; refine (inn87 br bi _ (K := [_, _]) (L := L) ⟨_, _, HL.out, HA.out, hp⟩).mono ?_; clear hp HL HA; rintro e w1 hq; (first | rw [H1.out] at hq | rw [H2.out] at hq | rw [H3.out] at hq | rw [H4.out] at hq); (first | (obtain ⟨rfl, a, c, hl, ha, hp⟩ := hq; have HL := Lib.hid hl; have HA := Lib.hid ha; clear hl ha; simp only [List.cons_append, List.nil_append, Rb, Ib] at hp) | (obtain ⟨rfl, hp⟩ := hq; simp only [List.cons_append, List.nil_append] at hp))) | (go_at_call 135; (with_reducible refine (need135 _ _ _).mono ?_); rintro e w' ⟨rfl, rfl⟩; rw [HND.out]) | (go_at_call 89; first | ((with_reducible refine (is89 _).mono ?_); rintro e w' ⟨rfl, rfl⟩) | ((with_reducible refine (is89_no _).mono ?_); rintro e w' ⟨rfl, rfl⟩)) | (go_at_call 154; have hst : RdSt w0 br bi _ [_, _] L _ := ⟨_, _, HL.out, HA.out, hp⟩; (with_reducible refine (many154_i br bi nw 32 HW.out HW2.out _ hst).mono ?_); clear hst; clear hp HL HA; rintro e w1 hq; rw [H5.out] at hq; first | (obtain ⟨v1, R1, rfl, hr1, a, c, hl, ha, hp⟩ := hq; obtain ⟨wa, wc, rfl, _⟩ := hr1.kept; have HR1 := Lib.hid hr1; have HL := Lib.hid hl; have HA := Lib.hid ha; clear hl ha hr1; simp only [List.cons_append, List.nil_append, Rb, Ib] at hp) | (obtain ⟨rfl, hp⟩ := hq; simp only [List.cons_append, List.nil_append] at hp)) | (go_at_call 154; have hst : RdSt w0 br bi _ [_, _] (R1 ++ L) _ := ⟨_, _, HL.out, HA.out, hp⟩; (with_reducible refine (many154_n br bi nl 16 HX.out HX2.out _ hst).mono ?_); clear hst; clear hp HL HA; rintro e w1 hq; rw [H6.out] at hq; first | (obtain ⟨v2, R2, rfl, hr2, a, c, hl, ha, hp⟩ := hq; obtain ⟨la, lc, rfl, _⟩ := hr2.kept; have HR2 := Lib.hid hr2; have HL := Lib.hid hl; have HA := Lib.hid ha; clear hl ha hr2; simp only [List.cons_append, List.nil_append, Rb, Ib] at hp) | (obtain ⟨rfl, hp⟩ := hq; simp only [List.cons_append, List.nil_append] at hp)) | go_skip | (first | (refine hA1 ?_; clear hp; intro b w1 hp) | refine hL0 ?_ | (refine hS0 ?_; clear hp; intro w1 hp))); exact ⟨rfl, rfl, hp.kp⟩
            | some q5 =>
              obtain ⟨ws, b5⟩ := q5
              have H5 := Lib.hid h5
              have HWL := Lib.hid (repR_len h5)
              clear h5
              simp only
              cases h6 : repR nR nl b5 with
              | none => have H6 := Lib.hid h6; clear h6; simp only; go_enter Tryz.func126, Tryz.ntmps126; go_wp2_with (first | (go_at_call 87; refine (inn87 br bi _ (K := [_, _]) (L := L) ⟨_, _, HL.out, HA.out, hp⟩).mono ?_; clear hp HL HA; rintro e w1 hq; (first | rw [H1.out] at hq | rw [H2.out] at hq | rw [H3.out] at hq | rw [H4.out] at hq); (first | (obtain ⟨rfl, a, c, hl, ha, hp⟩ := hq; have HL := Lib.hid hl; have HA := Lib.hid ha; clear hl ha; simp only [List.cons_append, List.nil_append, Rb, Ib] at hp) | (obtain ⟨rfl, hp⟩ := hq; simp only [List.cons_append, List.nil_append] at hp))) | (go_at_call 135; (with_reducible refine (need135 _ _ _).mono ?_); rintro e w' ⟨rfl, rfl⟩; rw [HND.out]) | (go_at_call 89; first | ((with_reducible refine (is89 _).mono ?_); rintro e w' ⟨rfl, rfl⟩) | ((with_reducible refine (is89_no _).mono ?_); rintro e w' ⟨rfl, rfl⟩)) | (go_at_call 154; have hst : RdSt w0 br bi _ [_, _] L _ := ⟨_, _, HL.out, HA.out, hp⟩; (with_reducible refine (many154_i br bi nw 32 HW.out HW2.out _ hst).mono ?_); clear hst; clear hp HL HA; rintro e w1 hq; rw [H5.out] at hq; first | (obtain ⟨v1, R1, rfl, hr1, a, c, hl, ha, hp⟩ := hq; obtain ⟨wa, wc, rfl, _⟩ := hr1.kept; have HR1 := Lib.hid hr1; have HL := Lib.hid hl; have HA := Lib.hid ha; clear hl ha hr1; simp only [List.cons_append, List.nil_append, Rb, Ib] at hp) | (obtain ⟨rfl, hp⟩ := hq; simp only [List.cons_append, List.nil_append] at hp)) | (go_at_call 154; have hst : RdSt w0 br bi _ [_, _] (R1 ++ L) _ := ⟨_, _, HL.out, HA.out, hp⟩; (with_reducible refine (many154_n br bi nl 16 HX.out HX2.out _ hst).mono ?_); clear hst; clear hp HL HA; rintro e w1 hq; rw [H6.out] at hq; first | (obtain ⟨v2, R2, rfl, hr2, a, c, hl, ha, hp⟩ := hq; obtain ⟨la, lc, rfl, _⟩ := hr2.kept; have HR2 := Lib.hid hr2; have HL := Lib.hid hl; have HA := Lib.hid ha; clear hl ha hr2; simp only [List.cons_append, List.nil_append, Rb, Ib] at hp) | (obtain ⟨rfl, hp⟩ := hq; simp only [List.cons_append, List.nil_append] at hp)) | go_skip | (first | (refine hA1 ?_; clear hp; intro b w1 hp) | refine hL0 ?_ | (refine hS0 ?_; clear hp; intro w1 hp))); exact ⟨rfl, rfl, hp.kp⟩
              | some q6 =>
                obtain ⟨ls, b6⟩ := q6
                have H6 := Lib.hid h6
                have HLL := Lib.hid (repR_len h6)
                clear h6
                simp only
                go_enter Tryz.func126, Tryz.ntmps126; go_wp2_with (first | (go_at_call 87; refine (inn87 br bi _ (K := [_, _]) (L := L) ⟨_, _, HL.out, HA.out, hp⟩).mono ?_; clear hp HL HA; rintro e w1 hq; (first | rw [H1.out] at hq | rw [H2.out] at hq | rw [H3.out] at hq | rw [H4.out] at hq); (first | (obtain ⟨rfl, a, c, hl, ha, hp⟩ := hq; have HL := Lib.hid hl; have HA := Lib.hid ha; clear hl ha; simp only [List.cons_append, List.nil_append, Rb, Ib] at hp) | (obtain ⟨rfl, hp⟩ := hq; simp only [List.cons_append, List.nil_append] at hp))) | (go_at_call 135; (with_reducible refine (need135 _ _ _).mono ?_); rintro e w' ⟨rfl, rfl⟩; rw [HND.out]) | (go_at_call 89; first | ((with_reducible refine (is89 _).mono ?_); rintro e w' ⟨rfl, rfl⟩) | ((with_reducible refine (is89_no _).mono ?_); rintro e w' ⟨rfl, rfl⟩)) | (go_at_call 154; have hst : RdSt w0 br bi _ [_, _] L _ := ⟨_, _, HL.out, HA.out, hp⟩; (with_reducible refine (many154_i br bi nw 32 HW.out HW2.out _ hst).mono ?_); clear hst; clear hp HL HA; rintro e w1 hq; rw [H5.out] at hq; first | (obtain ⟨v1, R1, rfl, hr1, a, c, hl, ha, hp⟩ := hq; obtain ⟨wa, wc, rfl, _⟩ := hr1.kept; have HR1 := Lib.hid hr1; have HL := Lib.hid hl; have HA := Lib.hid ha; clear hl ha hr1; simp only [List.cons_append, List.nil_append, Rb, Ib] at hp) | (obtain ⟨rfl, hp⟩ := hq; simp only [List.cons_append, List.nil_append] at hp)) | (go_at_call 154; have hst : RdSt w0 br bi _ [_, _] (R1 ++ L) _ := ⟨_, _, HL.out, HA.out, hp⟩; (with_reducible refine (many154_n br bi nl 16 HX.out HX2.out _ hst).mono ?_); clear hst; clear hp HL HA; rintro e w1 hq; rw [H6.out] at hq; first | (obtain ⟨v2, R2, rfl, hr2, a, c, hl, ha, hp⟩ := hq; obtain ⟨la, lc, rfl, _⟩ := hr2.kept; have HR2 := Lib.hid hr2; have HL := Lib.hid hl; have HA := Lib.hid ha; clear hl ha hr2; simp only [List.cons_append, List.nil_append, Rb, Ib] at hp) | (obtain ⟨rfl, hp⟩ := hq; simp only [List.cons_append, List.nil_append] at hp)) | go_skip | (first | (refine hA1 ?_; clear hp; intro b w1 hp) | refine hL0 ?_ | (refine hS0 ?_; clear hp; intro w1 hp)))
                have hw := HWL.out
                have hl := HLL.out
                subst hw hl
                exact bodyPost_ret (results_one (rs := [.cell 2 152]) Tryz.results126 (.cell rfl (hp.loadAgg agg152 at1 0 _ (by rfl) (by rfl)) .nil)) rfl ⟨⟨h, p, nd, wa, ws, wc, la, ls, lc⟩, R1 ++ R2, rfl, ⟨rfl, rfl, rfl, rfl, rfl⟩, ⟨R1, R2, rfl, HR1.out, HR2.out⟩, RdSt.mk2 HL.out HA.out hp⟩
end Go.Proofs.YtcjbepaclbhjaaaGreat

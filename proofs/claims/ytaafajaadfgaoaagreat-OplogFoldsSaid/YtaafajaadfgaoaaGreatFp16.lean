import Derived.Test.YtaafajaadfgaoaaGreatFp4
import Derived.Test.YtaafajaadfgaoaaGreatFp7
import Derived.Test.YtaafajaadfgaoaaGreatFp2
set_option linter.unusedSimpArgs false
set_option linter.unusedVariables false
set_option maxRecDepth 100000
set_option maxHeartbeats 60000000
namespace Go.Proofs.YtaafajaadfgaoaaGreat
open Go.RowKit
theorem zcQ {ty : TypeId} (h : zB Tryz.prog ty = true := by with_reducible first | exact zq | exact zA | exact zbi) : zB Tryz.prog ty = true := h
theorem zeH {bs : List Nat} {x : Int} {b1 : List Nat} (h : nR bs = some (x, b1)) : ∃ v : Nat, x = v ∧ v ≤ 2147483647 := by
 unfold nR at h
 cases h1 : zef bs with
 | none => rw [h1] at h; cases h
 | some v => rw [h1] at h; simp at h; exact ⟨v, h.1.symm, (zbL h1).2.2⟩
def zc8 (bs : List Nat) : Option (Ob × List Nat) := match nR bs with
 | none => none
 | some (h, b1) => match nR b1 with
  | none => none
  | some (p, b2) => match nR b2 with
   | none => none
   | some (nw, b3) => match nR b3 with
    | none => none
    | some (nl, b4) => if Z9 nw nl < 0 then none else match zal iR nw.toNat b4 with
     | none => none
     | some (ws, b5) => match zal nR nl.toNat b5 with
      | none => none
      | some (ls, b6) => some (zn1 h p (Z9 nw nl) ws ls, b6)
def ziZ (w0 : World) (br bi : Nat) (r : Option (Ob × List Nat)) (K L : List Blk) (e : Ending) (w' : World) : Prop :=
 match r with
 | some (o, bs') => ∃ y R, e = .returned (.agg (obV y).toArray) ∧ y.Sm o ∧ ObR y R ∧ ZZ w0 br bi bs' K (R ++ L) w'
 | none => e = .panicked zfB ∧ Hp w0.heap.size w0 w' (K ++ L)
theorem ZZ.mk2 {w0 w : World} {br bi c : Nat} {a : Option Addr} {bs : List Nat} {x y : Blk} {R1 R2 L : List Blk} (h1 : bs.length ≤ c) (h2 : zaw w0 a bs)
  (hp : Hp w0.heap.size w0 w (x :: y :: ⟨br, [.slice a bs.length c], 210, 1⟩ :: ⟨bi, [.pointer (some ⟨br, 0, none⟩)], 144, 1⟩ :: (R2 ++ (R1 ++ L)))) : ZZ w0 br bi bs [] ((R1 ++ R2) ++ L) w :=
 ⟨a, c, h1, h2, (show Hp w0.heap.size w0 w (x :: y :: Rb br a bs.length c :: Ib bi br :: (R2 ++ (R1 ++ L))) from hp).kp⟩
theorem zl3 (br bi : Nat) (bs : List Nat) {w0 w : World} {K L : List Blk} (hs : ZZ w0 br bi bs K L w) :
  Calls Tryz.prog 182 #[.pointer (some ⟨bi, 0, none⟩)] w (ziZ w0 br bi (zc8 bs) K L) := by
 replace hs := hs.front
 have HB : Hid (∀ l b w', ZZ w0 br bi b [] (l ++ (K ++ L)) w' → ZZ w0 br bi b K (l ++ L) w') := z0j (fun l b w' h => ZZ.back (by obtain ⟨a, c, h1, h2, hp⟩ := h; exact ⟨a, c, h1, h2, hp.kp⟩))
 obtain ⟨M, hM⟩ : ∃ M, M = K ++ L := ⟨_, rfl⟩
 rw [← hM] at hs HB
 suffices h : Calls Tryz.prog 182 #[.pointer (some ⟨bi, 0, none⟩)] w (ziZ w0 br bi (zc8 bs) [] M) by
  refine h.mono fun e w' hq => ?_
  cases ho : zc8 bs with
  | none => rw [ho] at hq; exact ⟨hq.1, by rw [← hM]; exact hq.2⟩
  | some p =>
   obtain ⟨o, b6⟩ := p
   rw [ho] at hq
   obtain ⟨y, R, h1, h2, h3, h4⟩ := hq
   exact ⟨y, R, h1, h2, h3, HB.out _ _ _ h4⟩
 clear HB hM
 clear K L
 obtain ⟨L, hL⟩ : ∃ L, L = M := ⟨_, rfl⟩
 subst hL
 obtain ⟨a, c, hl, ha, hp⟩ := hs
 have HL := z0j hl
 have HA := z0j ha
 clear hl ha
 simp only [z0e, Rb, Ib] at hp
 unfold zc8
 cases h1 : nR bs with
 | none => have H1 := z0j h1; clear h1; simp only; go_enter Tryz.func182, Tryz.ntmps182; go_wp2_with (first | (go_at_call 103; refine (Z3 br bi _ (K := [_, _]) (L := L) ⟨_, _, HL.out, HA.out, hp⟩).mono ?_; clear hp HL HA; rintro e w1 hq; (first | rw [H1.out] at hq | rw [H2.out] at hq | rw [H3.out] at hq | rw [H4.out] at hq); (first | (obtain ⟨rfl, a, c, hl, ha, hp⟩ := hq; have HL := z0j hl; have HA := z0j ha; clear hl ha; simp only [z0f, z0e, Rb, Ib] at hp) | (obtain ⟨rfl, hp⟩ := hq; simp only [z0f, z0e] at hp))) | (go_at_call 143; (with_reducible refine (zci _ _ _).mono ?_); rintro e w' ⟨rfl, rfl⟩; rw [HND.out]) | (go_at_call 105; first | ((with_reducible refine (zbF _).mono ?_); rintro e w' ⟨rfl, rfl⟩) | ((with_reducible refine (ZR _).mono ?_); rintro e w' ⟨rfl, rfl⟩)) | (go_at_call 108; have hst : ZZ w0 br bi _ [_, _] L _ := ⟨_, _, HL.out, HA.out, hp⟩; (with_reducible refine (zbc br bi nw 32 HW.out HW2.out _ hst).mono ?_); clear hst; clear hp HL HA; rintro e w1 hq; rw [H5.out] at hq; first | (obtain ⟨v1, R1, rfl, hr1, a, c, hl, ha, hp⟩ := hq; obtain ⟨wa, wc, rfl, _⟩ := hr1.kept; have HR1 := z0j hr1; have HL := z0j hl; have HA := z0j ha; clear hl ha hr1; simp only [z0f, z0e, Rb, Ib] at hp) | (obtain ⟨rfl, hp⟩ := hq; simp only [z0f, z0e] at hp)) | (go_at_call 108; have hst : ZZ w0 br bi _ [_, _] (R1 ++ L) _ := ⟨_, _, HL.out, HA.out, hp⟩; (with_reducible refine (zbd br bi nl 16 HX.out HX2.out _ hst).mono ?_); clear hst; clear hp HL HA; rintro e w1 hq; rw [H6.out] at hq; first | (obtain ⟨v2, R2, rfl, hr2, a, c, hl, ha, hp⟩ := hq; obtain ⟨la, lc, rfl, _⟩ := hr2.kept; have HR2 := z0j hr2; have HL := z0j hl; have HA := z0j ha; clear hl ha hr2; simp only [z0f, z0e, Rb, Ib] at hp) | (obtain ⟨rfl, hp⟩ := hq; simp only [z0f, z0e] at hp)) | go_skip | ((first | ((refine zg _ rfl ?_); refine lZ hp rfl zC ?_; clear hp; intro b w1 hp) | ((refine zh _ _ rfl ?_); refine lB hp rfl (za rfl) rfl ?_; clear hp; intro b w1 hp) | ((refine zf _ _ rfl ?_); first | refine lO hp rfl (za rfl) zcQ aa5 ?_ | refine lA hp rfl (za rfl) zv aa5 ?_) | ((refine zd _ _ _ rfl ?_); (first | refine sO hp rfl (za rfl) zcQ aa5 ?_ | refine sA hp rfl (za rfl) (za rfl) zv aa5 ?_ | refine sG hp rfl (za rfl) (za rfl) zv aa5 ?_); clear hp; intro w1 hp; simp only [spl, z0a, z0b] at hp)); simp only [zc, zb, z0b, z0a])); exact ⟨rfl, rfl, hp.kp⟩
 | some q1 =>
  obtain ⟨h, b1⟩ := q1
  have H1 := z0j h1
  clear h1
  simp only
  cases h2 : nR b1 with
  | none => have H2 := z0j h2; clear h2; simp only; go_enter Tryz.func182, Tryz.ntmps182; go_wp2_with (first | (go_at_call 103; refine (Z3 br bi _ (K := [_, _]) (L := L) ⟨_, _, HL.out, HA.out, hp⟩).mono ?_; clear hp HL HA; rintro e w1 hq; (first | rw [H1.out] at hq | rw [H2.out] at hq | rw [H3.out] at hq | rw [H4.out] at hq); (first | (obtain ⟨rfl, a, c, hl, ha, hp⟩ := hq; have HL := z0j hl; have HA := z0j ha; clear hl ha; simp only [z0f, z0e, Rb, Ib] at hp) | (obtain ⟨rfl, hp⟩ := hq; simp only [z0f, z0e] at hp))) | (go_at_call 143; (with_reducible refine (zci _ _ _).mono ?_); rintro e w' ⟨rfl, rfl⟩; rw [HND.out]) | (go_at_call 105; first | ((with_reducible refine (zbF _).mono ?_); rintro e w' ⟨rfl, rfl⟩) | ((with_reducible refine (ZR _).mono ?_); rintro e w' ⟨rfl, rfl⟩)) | (go_at_call 108; have hst : ZZ w0 br bi _ [_, _] L _ := ⟨_, _, HL.out, HA.out, hp⟩; (with_reducible refine (zbc br bi nw 32 HW.out HW2.out _ hst).mono ?_); clear hst; clear hp HL HA; rintro e w1 hq; rw [H5.out] at hq; first | (obtain ⟨v1, R1, rfl, hr1, a, c, hl, ha, hp⟩ := hq; obtain ⟨wa, wc, rfl, _⟩ := hr1.kept; have HR1 := z0j hr1; have HL := z0j hl; have HA := z0j ha; clear hl ha hr1; simp only [z0f, z0e, Rb, Ib] at hp) | (obtain ⟨rfl, hp⟩ := hq; simp only [z0f, z0e] at hp)) | (go_at_call 108; have hst : ZZ w0 br bi _ [_, _] (R1 ++ L) _ := ⟨_, _, HL.out, HA.out, hp⟩; (with_reducible refine (zbd br bi nl 16 HX.out HX2.out _ hst).mono ?_); clear hst; clear hp HL HA; rintro e w1 hq; rw [H6.out] at hq; first | (obtain ⟨v2, R2, rfl, hr2, a, c, hl, ha, hp⟩ := hq; obtain ⟨la, lc, rfl, _⟩ := hr2.kept; have HR2 := z0j hr2; have HL := z0j hl; have HA := z0j ha; clear hl ha hr2; simp only [z0f, z0e, Rb, Ib] at hp) | (obtain ⟨rfl, hp⟩ := hq; simp only [z0f, z0e] at hp)) | go_skip | ((first | ((refine zg _ rfl ?_); refine lZ hp rfl zC ?_; clear hp; intro b w1 hp) | ((refine zh _ _ rfl ?_); refine lB hp rfl (za rfl) rfl ?_; clear hp; intro b w1 hp) | ((refine zf _ _ rfl ?_); first | refine lO hp rfl (za rfl) zcQ aa5 ?_ | refine lA hp rfl (za rfl) zv aa5 ?_) | ((refine zd _ _ _ rfl ?_); (first | refine sO hp rfl (za rfl) zcQ aa5 ?_ | refine sA hp rfl (za rfl) (za rfl) zv aa5 ?_ | refine sG hp rfl (za rfl) (za rfl) zv aa5 ?_); clear hp; intro w1 hp; simp only [spl, z0a, z0b] at hp)); simp only [zc, zb, z0b, z0a])); exact ⟨rfl, rfl, hp.kp⟩
  | some q2 =>
   obtain ⟨p, b2⟩ := q2
   have H2 := z0j h2
   clear h2
   simp only
   cases h3 : nR b2 with
   | none => have H3 := z0j h3; clear h3; simp only; go_enter Tryz.func182, Tryz.ntmps182; go_wp2_with (first | (go_at_call 103; refine (Z3 br bi _ (K := [_, _]) (L := L) ⟨_, _, HL.out, HA.out, hp⟩).mono ?_; clear hp HL HA; rintro e w1 hq; (first | rw [H1.out] at hq | rw [H2.out] at hq | rw [H3.out] at hq | rw [H4.out] at hq); (first | (obtain ⟨rfl, a, c, hl, ha, hp⟩ := hq; have HL := z0j hl; have HA := z0j ha; clear hl ha; simp only [z0f, z0e, Rb, Ib] at hp) | (obtain ⟨rfl, hp⟩ := hq; simp only [z0f, z0e] at hp))) | (go_at_call 143; (with_reducible refine (zci _ _ _).mono ?_); rintro e w' ⟨rfl, rfl⟩; rw [HND.out]) | (go_at_call 105; first | ((with_reducible refine (zbF _).mono ?_); rintro e w' ⟨rfl, rfl⟩) | ((with_reducible refine (ZR _).mono ?_); rintro e w' ⟨rfl, rfl⟩)) | (go_at_call 108; have hst : ZZ w0 br bi _ [_, _] L _ := ⟨_, _, HL.out, HA.out, hp⟩; (with_reducible refine (zbc br bi nw 32 HW.out HW2.out _ hst).mono ?_); clear hst; clear hp HL HA; rintro e w1 hq; rw [H5.out] at hq; first | (obtain ⟨v1, R1, rfl, hr1, a, c, hl, ha, hp⟩ := hq; obtain ⟨wa, wc, rfl, _⟩ := hr1.kept; have HR1 := z0j hr1; have HL := z0j hl; have HA := z0j ha; clear hl ha hr1; simp only [z0f, z0e, Rb, Ib] at hp) | (obtain ⟨rfl, hp⟩ := hq; simp only [z0f, z0e] at hp)) | (go_at_call 108; have hst : ZZ w0 br bi _ [_, _] (R1 ++ L) _ := ⟨_, _, HL.out, HA.out, hp⟩; (with_reducible refine (zbd br bi nl 16 HX.out HX2.out _ hst).mono ?_); clear hst; clear hp HL HA; rintro e w1 hq; rw [H6.out] at hq; first | (obtain ⟨v2, R2, rfl, hr2, a, c, hl, ha, hp⟩ := hq; obtain ⟨la, lc, rfl, _⟩ := hr2.kept; have HR2 := z0j hr2; have HL := z0j hl; have HA := z0j ha; clear hl ha hr2; simp only [z0f, z0e, Rb, Ib] at hp) | (obtain ⟨rfl, hp⟩ := hq; simp only [z0f, z0e] at hp)) | go_skip | ((first | ((refine zg _ rfl ?_); refine lZ hp rfl zC ?_; clear hp; intro b w1 hp) | ((refine zh _ _ rfl ?_); refine lB hp rfl (za rfl) rfl ?_; clear hp; intro b w1 hp) | ((refine zf _ _ rfl ?_); first | refine lO hp rfl (za rfl) zcQ aa5 ?_ | refine lA hp rfl (za rfl) zv aa5 ?_) | ((refine zd _ _ _ rfl ?_); (first | refine sO hp rfl (za rfl) zcQ aa5 ?_ | refine sA hp rfl (za rfl) (za rfl) zv aa5 ?_ | refine sG hp rfl (za rfl) (za rfl) zv aa5 ?_); clear hp; intro w1 hp; simp only [spl, z0a, z0b] at hp)); simp only [zc, zb, z0b, z0a])); exact ⟨rfl, rfl, hp.kp⟩
   | some q3 =>
    obtain ⟨nw, b3⟩ := q3
    have H3 := z0j h3
    clear h3
    simp only
    cases h4 : nR b3 with
    | none => have H4 := z0j h4; clear h4; simp only; go_enter Tryz.func182, Tryz.ntmps182; go_wp2_with (first | (go_at_call 103; refine (Z3 br bi _ (K := [_, _]) (L := L) ⟨_, _, HL.out, HA.out, hp⟩).mono ?_; clear hp HL HA; rintro e w1 hq; (first | rw [H1.out] at hq | rw [H2.out] at hq | rw [H3.out] at hq | rw [H4.out] at hq); (first | (obtain ⟨rfl, a, c, hl, ha, hp⟩ := hq; have HL := z0j hl; have HA := z0j ha; clear hl ha; simp only [z0f, z0e, Rb, Ib] at hp) | (obtain ⟨rfl, hp⟩ := hq; simp only [z0f, z0e] at hp))) | (go_at_call 143; (with_reducible refine (zci _ _ _).mono ?_); rintro e w' ⟨rfl, rfl⟩; rw [HND.out]) | (go_at_call 105; first | ((with_reducible refine (zbF _).mono ?_); rintro e w' ⟨rfl, rfl⟩) | ((with_reducible refine (ZR _).mono ?_); rintro e w' ⟨rfl, rfl⟩)) | (go_at_call 108; have hst : ZZ w0 br bi _ [_, _] L _ := ⟨_, _, HL.out, HA.out, hp⟩; (with_reducible refine (zbc br bi nw 32 HW.out HW2.out _ hst).mono ?_); clear hst; clear hp HL HA; rintro e w1 hq; rw [H5.out] at hq; first | (obtain ⟨v1, R1, rfl, hr1, a, c, hl, ha, hp⟩ := hq; obtain ⟨wa, wc, rfl, _⟩ := hr1.kept; have HR1 := z0j hr1; have HL := z0j hl; have HA := z0j ha; clear hl ha hr1; simp only [z0f, z0e, Rb, Ib] at hp) | (obtain ⟨rfl, hp⟩ := hq; simp only [z0f, z0e] at hp)) | (go_at_call 108; have hst : ZZ w0 br bi _ [_, _] (R1 ++ L) _ := ⟨_, _, HL.out, HA.out, hp⟩; (with_reducible refine (zbd br bi nl 16 HX.out HX2.out _ hst).mono ?_); clear hst; clear hp HL HA; rintro e w1 hq; rw [H6.out] at hq; first | (obtain ⟨v2, R2, rfl, hr2, a, c, hl, ha, hp⟩ := hq; obtain ⟨la, lc, rfl, _⟩ := hr2.kept; have HR2 := z0j hr2; have HL := z0j hl; have HA := z0j ha; clear hl ha hr2; simp only [z0f, z0e, Rb, Ib] at hp) | (obtain ⟨rfl, hp⟩ := hq; simp only [z0f, z0e] at hp)) | go_skip | ((first | ((refine zg _ rfl ?_); refine lZ hp rfl zC ?_; clear hp; intro b w1 hp) | ((refine zh _ _ rfl ?_); refine lB hp rfl (za rfl) rfl ?_; clear hp; intro b w1 hp) | ((refine zf _ _ rfl ?_); first | refine lO hp rfl (za rfl) zcQ aa5 ?_ | refine lA hp rfl (za rfl) zv aa5 ?_) | ((refine zd _ _ _ rfl ?_); (first | refine sO hp rfl (za rfl) zcQ aa5 ?_ | refine sA hp rfl (za rfl) (za rfl) zv aa5 ?_ | refine sG hp rfl (za rfl) (za rfl) zv aa5 ?_); clear hp; intro w1 hp; simp only [spl, z0a, z0b] at hp)); simp only [zc, zb, z0b, z0a])); exact ⟨rfl, rfl, hp.kp⟩
    | some q4 =>
     obtain ⟨nl, b4⟩ := q4
     have H4 := z0j h4
     clear h4
     simp only
     obtain ⟨nw, rfl, _⟩ := zeH H3.out
     obtain ⟨nl, rfl, _⟩ := zeH H4.out
     obtain ⟨nd, hnd⟩ : ∃ nd, Z9 nw nl = nd := ⟨_, rfl⟩
     have HND := z0j hnd
     rw [hnd]
     by_cases hneg : nd < 0
     ·rw [if_pos hneg]
      have e1 : decide (0 ≤ nd) = false := decide_eq_false (by omega)
      clear hneg hnd
      go_enter Tryz.func182, Tryz.ntmps182; go_wp2_with (first | (go_at_call 103; refine (Z3 br bi _ (K := [_, _]) (L := L) ⟨_, _, HL.out, HA.out, hp⟩).mono ?_; clear hp HL HA; rintro e w1 hq; (first | rw [H1.out] at hq | rw [H2.out] at hq | rw [H3.out] at hq | rw [H4.out] at hq); (first | (obtain ⟨rfl, a, c, hl, ha, hp⟩ := hq; have HL := z0j hl; have HA := z0j ha; clear hl ha; simp only [z0f, z0e, Rb, Ib] at hp) | (obtain ⟨rfl, hp⟩ := hq; simp only [z0f, z0e] at hp))) | (go_at_call 143; (with_reducible refine (zci _ _ _).mono ?_); rintro e w' ⟨rfl, rfl⟩; rw [HND.out]) | (go_at_call 105; first | ((with_reducible refine (zbF _).mono ?_); rintro e w' ⟨rfl, rfl⟩) | ((with_reducible refine (ZR _).mono ?_); rintro e w' ⟨rfl, rfl⟩)) | (go_at_call 108; have hst : ZZ w0 br bi _ [_, _] L _ := ⟨_, _, HL.out, HA.out, hp⟩; (with_reducible refine (zbc br bi nw 32 HW.out HW2.out _ hst).mono ?_); clear hst; clear hp HL HA; rintro e w1 hq; rw [H5.out] at hq; first | (obtain ⟨v1, R1, rfl, hr1, a, c, hl, ha, hp⟩ := hq; obtain ⟨wa, wc, rfl, _⟩ := hr1.kept; have HR1 := z0j hr1; have HL := z0j hl; have HA := z0j ha; clear hl ha hr1; simp only [z0f, z0e, Rb, Ib] at hp) | (obtain ⟨rfl, hp⟩ := hq; simp only [z0f, z0e] at hp)) | (go_at_call 108; have hst : ZZ w0 br bi _ [_, _] (R1 ++ L) _ := ⟨_, _, HL.out, HA.out, hp⟩; (with_reducible refine (zbd br bi nl 16 HX.out HX2.out _ hst).mono ?_); clear hst; clear hp HL HA; rintro e w1 hq; rw [H6.out] at hq; first | (obtain ⟨v2, R2, rfl, hr2, a, c, hl, ha, hp⟩ := hq; obtain ⟨la, lc, rfl, _⟩ := hr2.kept; have HR2 := z0j hr2; have HL := z0j hl; have HA := z0j ha; clear hl ha hr2; simp only [z0f, z0e, Rb, Ib] at hp) | (obtain ⟨rfl, hp⟩ := hq; simp only [z0f, z0e] at hp)) | go_skip | ((first | ((refine zg _ rfl ?_); refine lZ hp rfl zC ?_; clear hp; intro b w1 hp) | ((refine zh _ _ rfl ?_); refine lB hp rfl (za rfl) rfl ?_; clear hp; intro b w1 hp) | ((refine zf _ _ rfl ?_); first | refine lO hp rfl (za rfl) zcQ aa5 ?_ | refine lA hp rfl (za rfl) zv aa5 ?_) | ((refine zd _ _ _ rfl ?_); (first | refine sO hp rfl (za rfl) zcQ aa5 ?_ | refine sA hp rfl (za rfl) (za rfl) zv aa5 ?_ | refine sG hp rfl (za rfl) (za rfl) zv aa5 ?_); clear hp; intro w1 hp; simp only [spl, z0a, z0b] at hp)); simp only [zc, zb, z0b, z0a])); exact ⟨rfl, rfl, hp.kp⟩
     ·rw [if_neg hneg]
      have e1 : decide (0 ≤ nd) = true := decide_eq_true (by omega)
      obtain ⟨n1, n2, n3, n4⟩ := zdu (a := nw) (b := nl) (by omega)
      have HW : Hid ((nw : Int) ≤ 32) := z0j n2
      have HX : Hid ((nl : Int) ≤ 16) := z0j n4
      have HW2 : Hid (nw ≤ 1000) := z0j (by omega)
      have HX2 : Hid (nl ≤ 1000) := z0j (by omega)
      clear hneg hnd n1 n2 n3 n4
      simp only [Int.toNat_natCast]
      cases h5 : zal iR nw b4 with
      | none => have H5 := z0j h5; clear h5; simp only; go_enter Tryz.func182, Tryz.ntmps182; go_wp2_with (first | (go_at_call 103; refine (Z3 br bi _ (K := [_, _]) (L := L) ⟨_, _, HL.out, HA.out, hp⟩).mono ?_; clear hp HL HA; rintro e w1 hq; (first | rw [H1.out] at hq | rw [H2.out] at hq | rw [H3.out] at hq | rw [H4.out] at hq); (first | (obtain ⟨rfl, a, c, hl, ha, hp⟩ := hq; have HL := z0j hl; have HA := z0j ha; clear hl ha; simp only [z0f, z0e, Rb, Ib] at hp) | (obtain ⟨rfl, hp⟩ := hq; simp only [z0f, z0e] at hp))) | (go_at_call 143; (with_reducible refine (zci _ _ _).mono ?_); rintro e w' ⟨rfl, rfl⟩; rw [HND.out]) | (go_at_call 105; first | ((with_reducible refine (zbF _).mono ?_); rintro e w' ⟨rfl, rfl⟩) | ((with_reducible refine (ZR _).mono ?_); rintro e w' ⟨rfl, rfl⟩)) | (go_at_call 108; have hst : ZZ w0 br bi _ [_, _] L _ := ⟨_, _, HL.out, HA.out, hp⟩; (with_reducible refine (zbc br bi nw 32 HW.out HW2.out _ hst).mono ?_); clear hst; clear hp HL HA; rintro e w1 hq; rw [H5.out] at hq; first | (obtain ⟨v1, R1, rfl, hr1, a, c, hl, ha, hp⟩ := hq; obtain ⟨wa, wc, rfl, _⟩ := hr1.kept; have HR1 := z0j hr1; have HL := z0j hl; have HA := z0j ha; clear hl ha hr1; simp only [z0f, z0e, Rb, Ib] at hp) | (obtain ⟨rfl, hp⟩ := hq; simp only [z0f, z0e] at hp)) | (go_at_call 108; have hst : ZZ w0 br bi _ [_, _] (R1 ++ L) _ := ⟨_, _, HL.out, HA.out, hp⟩; (with_reducible refine (zbd br bi nl 16 HX.out HX2.out _ hst).mono ?_); clear hst; clear hp HL HA; rintro e w1 hq; rw [H6.out] at hq; first | (obtain ⟨v2, R2, rfl, hr2, a, c, hl, ha, hp⟩ := hq; obtain ⟨la, lc, rfl, _⟩ := hr2.kept; have HR2 := z0j hr2; have HL := z0j hl; have HA := z0j ha; clear hl ha hr2; simp only [z0f, z0e, Rb, Ib] at hp) | (obtain ⟨rfl, hp⟩ := hq; simp only [z0f, z0e] at hp)) | go_skip | ((first | ((refine zg _ rfl ?_); refine lZ hp rfl zC ?_; clear hp; intro b w1 hp) | ((refine zh _ _ rfl ?_); refine lB hp rfl (za rfl) rfl ?_; clear hp; intro b w1 hp) | ((refine zf _ _ rfl ?_); first | refine lO hp rfl (za rfl) zcQ aa5 ?_ | refine lA hp rfl (za rfl) zv aa5 ?_) | ((refine zd _ _ _ rfl ?_); (first | refine sO hp rfl (za rfl) zcQ aa5 ?_ | refine sA hp rfl (za rfl) (za rfl) zv aa5 ?_ | refine sG hp rfl (za rfl) (za rfl) zv aa5 ?_); clear hp; intro w1 hp; simp only [spl, z0a, z0b] at hp)); simp only [zc, zb, z0b, z0a])); exact ⟨rfl, rfl, hp.kp⟩
      | some q5 =>
       obtain ⟨ws, b5⟩ := q5
       have H5 := z0j h5
       have HWL := z0j (zbp h5)
       clear h5
       simp only
       cases h6 : zal nR nl b5 with
       | none => have H6 := z0j h6; clear h6; simp only; go_enter Tryz.func182, Tryz.ntmps182; go_wp2_with (first | (go_at_call 103; refine (Z3 br bi _ (K := [_, _]) (L := L) ⟨_, _, HL.out, HA.out, hp⟩).mono ?_; clear hp HL HA; rintro e w1 hq; (first | rw [H1.out] at hq | rw [H2.out] at hq | rw [H3.out] at hq | rw [H4.out] at hq); (first | (obtain ⟨rfl, a, c, hl, ha, hp⟩ := hq; have HL := z0j hl; have HA := z0j ha; clear hl ha; simp only [z0f, z0e, Rb, Ib] at hp) | (obtain ⟨rfl, hp⟩ := hq; simp only [z0f, z0e] at hp))) | (go_at_call 143; (with_reducible refine (zci _ _ _).mono ?_); rintro e w' ⟨rfl, rfl⟩; rw [HND.out]) | (go_at_call 105; first | ((with_reducible refine (zbF _).mono ?_); rintro e w' ⟨rfl, rfl⟩) | ((with_reducible refine (ZR _).mono ?_); rintro e w' ⟨rfl, rfl⟩)) | (go_at_call 108; have hst : ZZ w0 br bi _ [_, _] L _ := ⟨_, _, HL.out, HA.out, hp⟩; (with_reducible refine (zbc br bi nw 32 HW.out HW2.out _ hst).mono ?_); clear hst; clear hp HL HA; rintro e w1 hq; rw [H5.out] at hq; first | (obtain ⟨v1, R1, rfl, hr1, a, c, hl, ha, hp⟩ := hq; obtain ⟨wa, wc, rfl, _⟩ := hr1.kept; have HR1 := z0j hr1; have HL := z0j hl; have HA := z0j ha; clear hl ha hr1; simp only [z0f, z0e, Rb, Ib] at hp) | (obtain ⟨rfl, hp⟩ := hq; simp only [z0f, z0e] at hp)) | (go_at_call 108; have hst : ZZ w0 br bi _ [_, _] (R1 ++ L) _ := ⟨_, _, HL.out, HA.out, hp⟩; (with_reducible refine (zbd br bi nl 16 HX.out HX2.out _ hst).mono ?_); clear hst; clear hp HL HA; rintro e w1 hq; rw [H6.out] at hq; first | (obtain ⟨v2, R2, rfl, hr2, a, c, hl, ha, hp⟩ := hq; obtain ⟨la, lc, rfl, _⟩ := hr2.kept; have HR2 := z0j hr2; have HL := z0j hl; have HA := z0j ha; clear hl ha hr2; simp only [z0f, z0e, Rb, Ib] at hp) | (obtain ⟨rfl, hp⟩ := hq; simp only [z0f, z0e] at hp)) | go_skip | ((first | ((refine zg _ rfl ?_); refine lZ hp rfl zC ?_; clear hp; intro b w1 hp) | ((refine zh _ _ rfl ?_); refine lB hp rfl (za rfl) rfl ?_; clear hp; intro b w1 hp) | ((refine zf _ _ rfl ?_); first | refine lO hp rfl (za rfl) zcQ aa5 ?_ | refine lA hp rfl (za rfl) zv aa5 ?_) | ((refine zd _ _ _ rfl ?_); (first | refine sO hp rfl (za rfl) zcQ aa5 ?_ | refine sA hp rfl (za rfl) (za rfl) zv aa5 ?_ | refine sG hp rfl (za rfl) (za rfl) zv aa5 ?_); clear hp; intro w1 hp; simp only [spl, z0a, z0b] at hp)); simp only [zc, zb, z0b, z0a])); exact ⟨rfl, rfl, hp.kp⟩
       | some q6 =>
        obtain ⟨ls, b6⟩ := q6
        have H6 := z0j h6
        have HLL := z0j (zbp h6)
        clear h6
        simp only
        go_enter Tryz.func182, Tryz.ntmps182; go_wp2_with (first | (go_at_call 103; refine (Z3 br bi _ (K := [_, _]) (L := L) ⟨_, _, HL.out, HA.out, hp⟩).mono ?_; clear hp HL HA; rintro e w1 hq; (first | rw [H1.out] at hq | rw [H2.out] at hq | rw [H3.out] at hq | rw [H4.out] at hq); (first | (obtain ⟨rfl, a, c, hl, ha, hp⟩ := hq; have HL := z0j hl; have HA := z0j ha; clear hl ha; simp only [z0f, z0e, Rb, Ib] at hp) | (obtain ⟨rfl, hp⟩ := hq; simp only [z0f, z0e] at hp))) | (go_at_call 143; (with_reducible refine (zci _ _ _).mono ?_); rintro e w' ⟨rfl, rfl⟩; rw [HND.out]) | (go_at_call 105; first | ((with_reducible refine (zbF _).mono ?_); rintro e w' ⟨rfl, rfl⟩) | ((with_reducible refine (ZR _).mono ?_); rintro e w' ⟨rfl, rfl⟩)) | (go_at_call 108; have hst : ZZ w0 br bi _ [_, _] L _ := ⟨_, _, HL.out, HA.out, hp⟩; (with_reducible refine (zbc br bi nw 32 HW.out HW2.out _ hst).mono ?_); clear hst; clear hp HL HA; rintro e w1 hq; rw [H5.out] at hq; first | (obtain ⟨v1, R1, rfl, hr1, a, c, hl, ha, hp⟩ := hq; obtain ⟨wa, wc, rfl, _⟩ := hr1.kept; have HR1 := z0j hr1; have HL := z0j hl; have HA := z0j ha; clear hl ha hr1; simp only [z0f, z0e, Rb, Ib] at hp) | (obtain ⟨rfl, hp⟩ := hq; simp only [z0f, z0e] at hp)) | (go_at_call 108; have hst : ZZ w0 br bi _ [_, _] (R1 ++ L) _ := ⟨_, _, HL.out, HA.out, hp⟩; (with_reducible refine (zbd br bi nl 16 HX.out HX2.out _ hst).mono ?_); clear hst; clear hp HL HA; rintro e w1 hq; rw [H6.out] at hq; first | (obtain ⟨v2, R2, rfl, hr2, a, c, hl, ha, hp⟩ := hq; obtain ⟨la, lc, rfl, _⟩ := hr2.kept; have HR2 := z0j hr2; have HL := z0j hl; have HA := z0j ha; clear hl ha hr2; simp only [z0f, z0e, Rb, Ib] at hp) | (obtain ⟨rfl, hp⟩ := hq; simp only [z0f, z0e] at hp)) | go_skip | ((first | ((refine zg _ rfl ?_); refine lZ hp rfl zC ?_; clear hp; intro b w1 hp) | ((refine zh _ _ rfl ?_); refine lB hp rfl (za rfl) rfl ?_; clear hp; intro b w1 hp) | ((refine zf _ _ rfl ?_); first | refine lO hp rfl (za rfl) zcQ aa5 ?_ | refine lA hp rfl (za rfl) zv aa5 ?_) | ((refine zd _ _ _ rfl ?_); (first | refine sO hp rfl (za rfl) zcQ aa5 ?_ | refine sA hp rfl (za rfl) (za rfl) zv aa5 ?_ | refine sG hp rfl (za rfl) (za rfl) zv aa5 ?_); clear hp; intro w1 hp; simp only [spl, z0a, z0b] at hp)); simp only [zc, zb, z0b, z0a]))
        have hw := HWL.out
        have hl := HLL.out
        subst hw hl
        exact bodyPost_ret (ZI (rs := [.cell 2 126]) Tryz.results182 (.cell rfl (hp.loadAgg zv at1 0 _ (by rfl) (by rfl)) .nil)) rfl ⟨⟨h, p, nd, wa, ws, wc, la, ls, lc⟩, R1 ++ R2, rfl, ⟨rfl, rfl, rfl, rfl, rfl⟩, ⟨R1, R2, rfl, HR1.out, HR2.out⟩, ZZ.mk2 HL.out HA.out hp⟩
open Go.RowKit
def zh5 (w0 : World) (br bi n : Nat) (r : Option (List Ob × List Nat)) (L : List Blk) (e : Ending) (w' : World) : Prop :=
 match r with
 | some (l, bs') => ∃ v os R M, e = .returned v ∧ os.length = n ∧ Z7 os l ∧ zJ 126 5 v n (os.flatMap obV) R ∧ ze8 os M ∧ ZZ w0 br bi bs' [] (R ++ (M ++ L)) w'
 | none => e = .panicked zfB ∧ Hp w0.heap.size w0 w' L
theorem zgz {l k : List Ob} {x y : Ob} (h : Z7 l k) (hx : x.Sm y) : Z7 (l ++ [x]) (k ++ [y]) := by
 refine ⟨by rw [List.length_append, List.length_append, h.1]; rfl, fun i a b ha hb => ?_⟩
 rcases Nat.lt_or_ge i l.length with hi | hi
 ·rw [List.getElem?_append_left hi] at ha
  rw [List.getElem?_append_left (by have := h.1; omega)] at hb
  exact h.2 i a b ha hb
 ·rw [List.getElem?_append_right hi] at ha
  rw [List.getElem?_append_right (by have := h.1; omega)] at hb
  rw [← h.1] at hb
  obtain ⟨j, hj⟩ : ∃ j, j = i - l.length := ⟨_, rfl⟩
  rw [← hj] at ha hb
  cases j with
  | zero => simp at ha hb; subst ha; subst hb; exact hx
  | succ j => simp at ha
theorem ZZ.swap {w0 w : World} {br bi : Nat} {bs : List Nat} {A B C D L : List Blk} (h : ZZ w0 br bi bs [] (A ++ (B ++ (C ++ L))) w) (hD : D = C ++ A) : ZZ w0 br bi bs [] (B ++ (D ++ L)) w := by
 subst hD
 obtain ⟨a, c, h1, h2, hp⟩ := h
 exact ⟨a, c, h1, h2, hp.kp⟩
theorem zhc (br bi n : Nat) (most : Int) (hn : (n : Int) ≤ most) (hm : n ≤ 1000) (bs : List Nat) {w0 w : World} {L : List Blk} (hs : ZZ w0 br bi bs [] L w) :
  Calls Tryz.prog 181 #[.int .i64 n, .int .i64 most, .func (.func 182) #[.pointer (some ⟨bi, 0, none⟩)] #[]] w (zh5 w0 br bi n (zal zc8 n bs) L) := by
 obtain ⟨i0, hi0, hz0, hz1, hz2⟩ := info_parts zjA
 go_enter Tryz.func181, Tryz.ntmps181
 go_wp2_with (first | (go_at_call 105; (with_reducible refine (zbF _).mono ?_); rintro e w' ⟨rfl, rfl⟩) | go_skip)
 go_loopg [7, 13] n (fun k v i wr => ∃ (q : Nat) (l os : List Ob) (b1 : List Nat) (R M : List Blk), k + q = n ∧ i = .int .i64 q ∧ Hid (zal zc8 q bs = some (l, b1)) ∧ Hid (os.length = q ∧ Z7 os l) ∧ Hid (zJ 126 5 v q (os.flatMap obV) R) ∧ Hid (ze8 os M) ∧ Hid (ZZ w0 br bi b1 [] (R ++ (M ++ L)) wr))
 case atStart => exact ⟨0, [], [], bs, [], [], by omega, rfl, z0j rfl, z0j ⟨rfl, Z7.refl _⟩, z0j (zJ.nil _ _), z0j .nil, z0j hs⟩
 case round =>
  clear hs
  obtain ⟨q, l, os, b1, R, M, hkq, rfl, HQ, HOS, HR, HM, HS⟩ := hrel
  by_cases hlt : q < n
  ·have f1 : (0 : Int) ≤ (q : Int) := by omega
   have f2 : (q : Int) < (n : Int) := by omega
   cases ho : zc8 b1 with
   | none =>
    have HO := z0j ho
    have HF := z0j (zbf HQ.out ho n hlt)
    clear ho
    go_wp2_with (first | (go_at_call 182; (with_reducible refine (zl3 br bi b1 HS.out).mono ?_); rw [HO.out]; first | (rintro e w1 ⟨y, Ry, rfl, hy, hry, hs1⟩; replace hs1 := ZZ.swap hs1 rfl; obtain ⟨a, c, hnc, ha, hp⟩ := hs1; have HA := z0j ha; have HNC := z0j hnc; have HY := z0j hy; have HRY := z0j hry; clear ha hnc hy hry; obtain ⟨yh, yp, yo, ywa, yws, ywc, yla, yls, ylc⟩ := y; simp only [z0e, Rb, Ib] at hp; simp only [obV]) | rintro e w1 ⟨rfl, hp⟩) | go_skip)
    refine ⟨rfl, ?_⟩
    rw [HF.out]
    exact ⟨rfl, hp.kp⟩
   | some p =>
    obtain ⟨x, b2⟩ := p
    have HO := z0j ho
    have HT := z0j (zbg HQ.out ho)
    clear ho
    go_wp2_with (first | (go_at_call 182; (with_reducible refine (zl3 br bi b1 HS.out).mono ?_); rw [HO.out]; first | (rintro e w1 ⟨y, Ry, rfl, hy, hry, hs1⟩; replace hs1 := ZZ.swap hs1 rfl; obtain ⟨a, c, hnc, ha, hp⟩ := hs1; have HA := z0j ha; have HNC := z0j hnc; have HY := z0j hy; have HRY := z0j hry; clear ha hnc hy hry; obtain ⟨yh, yp, yo, ywa, yws, ywc, yla, yls, ylc⟩ := y; simp only [z0e, Rb, Ib] at hp; simp only [obV]) | rintro e w1 ⟨rfl, hp⟩) | ((refine Zb _ _ 43 rfl ?_); refine zM (K := [_, _]) (R := R) (M := (M ++ Ry) ++ L) hp _ _ _ rfl wy i0 _ 72 Tryz.underlying43 hi0 hz0 hz1 hz2 rfl (by decide) (za rfl) HR.out 1 1 (za rfl) (by rfl) (by decide) (by rfl) (by unfold maxLen; omega) (by omega) ?_; clear hp HR; intro v' R' w1 hR' hp; have HR' := z0j hR'; clear hR'; simp only [z0f, z0e] at hp; simp only [zc, zb, z0b, z0a]) | go_skip | ((first | ((refine zh _ _ rfl ?_); refine lB hp rfl (za rfl) rfl ?_; clear hp; intro b w1 hp) | ((refine zf _ _ rfl ?_); first | refine lO hp rfl (za rfl) zq aa5 ?_ | refine lA hp rfl (za rfl) zv aa5 ?_) | ((refine zd _ _ _ rfl ?_); (first | refine sO hp rfl (za rfl) zq aa5 ?_ | refine sA hp rfl (za rfl) (za rfl) zv aa5 ?_ | refine sG hp rfl (za rfl) (za rfl) zv aa5 ?_); clear hp; intro w1 hp; simp only [spl, z0a, z0b] at hp) | ((refine zi _ _ _ rfl ?_); refine lS hp rfl (by intro w; go_simp; rfl) ?_; clear hp; intro b w1 hp; simp only [z0g, z0h, Nat.reduceAdd] at hp)); simp only [zc, zb, z0b, z0a]))
    go_roundg (gk - 1)
    case measure => omega
    case rel =>
     refine ⟨q + 1, l ++ [x], os ++ [⟨yh, yp, yo, ywa, yws, ywc, yla, yls, ylc⟩], b2, R', M ++ Ry, by omega, by go_num, HT, z0j ⟨by rw [List.length_append, HOS.out.1]; rfl, zgz HOS.out.2 HY.out⟩, z0j (by have := HR'.out; rw [zlq]; exact this), z0j (HM.out.snoc HRY.out), z0j ⟨a, c, HNC.out, HA.out, hp⟩⟩
  ·obtain rfl : q = n := by omega
   have f2 : decide ((q : Int) < (q : Int)) = false := by simp
   go_wp2_with (first | go_skip)
   go_ret
   rw [HQ.out]
   exact ⟨_, os, R, M, rfl, HOS.out.1, HOS.out.2, HR.out, HM.out, HS.out⟩
theorem ziu (bi n : Nat) (most : Int) (hn : most < (n : Int)) (w : World) :
  Calls Tryz.prog 181 #[.int .i64 n, .int .i64 most, .func (.func 182) #[.pointer (some ⟨bi, 0, none⟩)] #[]] w fun e w' => e = .panicked zfB ∧ w = w' := by
 have e1 : decide ((n : Int) ≤ most) = false := by simp; omega
 clear hn
 go_enter Tryz.func181, Tryz.ntmps181
 go_wp2_with (first | (go_at_call 105; (with_reducible refine (ZR _).mono ?_); rintro e w' ⟨rfl, rfl⟩) | go_skip)
 exact ⟨rfl, rfl, rfl⟩
end Go.Proofs.YtaafajaadfgaoaaGreat

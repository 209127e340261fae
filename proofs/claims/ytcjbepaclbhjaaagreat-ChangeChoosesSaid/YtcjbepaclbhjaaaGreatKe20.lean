/- Parts of the proof. -/
import Derived.Test.YtcjbepaclbhjaaaGreatKe1
import Derived.Test.YtcjbepaclbhjaaaGreatKe19
open List renaming set_cons_zero → zSet, set_cons_succ → sSet
/- The walk that reads so many objects. -/
set_option linter.unusedSimpArgs false
set_option linter.unusedVariables false
namespace Go.Proofs.YtcjbepaclbhjaaaGreat
open Go.RowKit
def ManyObPost (w0 : World) (br bi n : Nat) (r : Option (List Ob × List Nat)) (L : List Blk) (e : Ending) (w' : World) : Prop :=
  match r with
  | some (l, bs') => ∃ v os R M, e = .returned v ∧ os.length = n ∧ ObsSm os l ∧ OwnRow 152 5 v n (os.flatMap obV) R ∧ ObsR os M ∧ RdSt w0 br bi bs' [] (R ++ (M ++ L)) w'
  | none => e = .panicked badP ∧ Hp w0.heap.size w0 w' L
theorem obs_snoc2 {l k : List Ob} {x y : Ob} (h : ObsSm l k) (hx : x.Sm y) : ObsSm (l ++ [x]) (k ++ [y]) := by
  refine ⟨by rw [List.length_append, List.length_append, h.1]; rfl, fun i a b ha hb => ?_⟩
  rcases Nat.lt_or_ge i l.length with hi | hi
  · rw [List.getElem?_append_left hi] at ha
    rw [List.getElem?_append_left (by have := h.1; omega)] at hb
    exact h.2 i a b ha hb
  · rw [List.getElem?_append_right hi] at ha
    rw [List.getElem?_append_right (by have := h.1; omega)] at hb
    rw [← h.1] at hb
    obtain ⟨j, hj⟩ : ∃ j, j = i - l.length := ⟨_, rfl⟩
    rw [← hj] at ha hb
    cases j with
    | zero => simp at ha hb; subst ha; subst hb; exact hx
    | succ j => simp at ha
theorem RdSt.swap {w0 w : World} {br bi : Nat} {bs : List Nat} {A B C D L : List Blk} (h : RdSt w0 br bi bs [] (A ++ (B ++ (C ++ L))) w) (hD : D = C ++ A) : RdSt w0 br bi bs [] (B ++ (D ++ L)) w := by
  subst hD
  obtain ⟨a, c, h1, h2, hp⟩ := h
  exact ⟨a, c, h1, h2, hp.kp⟩
set_option maxRecDepth 100000 in
set_option maxHeartbeats 4000000 in
theorem many125 (br bi n : Nat) (most : Int) (hn : (n : Int) ≤ most) (hm : n ≤ 1000) (bs : List Nat) {w0 w : World} {L : List Blk} (hs : RdSt w0 br bi bs [] L w) :
    Calls Tryz.prog 125 #[.int .i64 n, .int .i64 most, .func (.func 126) #[.pointer (some ⟨bi, 0, none⟩)] #[]] w (ManyObPost w0 br bi n (repR objR n bs) L) := by
  obtain ⟨i0, hi0, hz0, hz1, hz2⟩ := info_parts info152
  go_enter Tryz.func125, Tryz.ntmps125
  go_wp2_with (first | (go_at_call 89; (with_reducible refine (is89 _).mono ?_); rintro e w' ⟨rfl, rfl⟩) | go_skip)
  go_loopg [7, 13] n (fun k v i wr => ∃ (q : Nat) (l os : List Ob) (b1 : List Nat) (R M : List Blk), k + q = n ∧ i = .int .i64 q ∧ RowKit.Hid (repR objR q bs = some (l, b1)) ∧ RowKit.Hid (os.length = q ∧ ObsSm os l) ∧ RowKit.Hid (OwnRow 152 5 v q (os.flatMap obV) R) ∧ RowKit.Hid (ObsR os M) ∧ RowKit.Hid (RdSt w0 br bi b1 [] (R ++ (M ++ L)) wr))
  case atStart => exact ⟨0, [], [], bs, [], [], by omega, rfl, Lib.hid rfl, Lib.hid ⟨rfl, ObsSm.refl _⟩, Lib.hid (OwnRow.nil _ _), Lib.hid .nil, Lib.hid hs⟩
  case round =>
    clear hs
    obtain ⟨q, l, os, b1, R, M, hkq, rfl, HQ, HOS, HR, HM, HS⟩ := hrel
    by_cases hlt : q < n
    · have f1 : (0 : Int) ≤ (q : Int) := by omega
      have f2 : (q : Int) < (n : Int) := by omega
      cases ho : objR b1 with
      | none =>
        have HO := Lib.hid ho
        have HF := Lib.hid (repR_fail HQ.out ho n hlt)
        clear ho
        go_wp2_with (first | (go_at_call 126; (with_reducible refine (ino126 br bi b1 HS.out).mono ?_); rw [HO.out]; first | (rintro e w1 ⟨y, Ry, rfl, hy, hry, hs1⟩; replace hs1 := RdSt.swap hs1 rfl; obtain ⟨a, c, hnc, ha, hp⟩ := hs1; have HA := Lib.hid ha; have HNC := Lib.hid hnc; have HY := Lib.hid hy; have HRY := Lib.hid hry; clear ha hnc hy hry; obtain ⟨yh, yp, yo, ywa, yws, ywc, yla, yls, ylc⟩ := y; simp only [List.nil_append, Rb, Ib] at hp; simp only [obV]) | rintro e w1 ⟨rfl, hp⟩) | go_skip)
        refine ⟨rfl, ?_⟩
        rw [HF.out]
        exact ⟨rfl, hp.kp⟩
      | some p =>
        obtain ⟨x, b2⟩ := p
        have HO := Lib.hid ho
        have HT := Lib.hid (repR_step HQ.out ho)
        clear ho
        go_wp2_with (first | (go_at_call 126; (with_reducible refine (ino126 br bi b1 HS.out).mono ?_); rw [HO.out]; first | (rintro e w1 ⟨y, Ry, rfl, hy, hry, hs1⟩; replace hs1 := RdSt.swap hs1 rfl; obtain ⟨a, c, hnc, ha, hp⟩ := hs1; have HA := Lib.hid ha; have HNC := Lib.hid hnc; have HY := Lib.hid hy; have HRY := Lib.hid hry; clear ha hnc hy hry; obtain ⟨yh, yp, yo, ywa, yws, ywc, yla, yls, ylc⟩ := y; simp only [List.nil_append, Rb, Ib] at hp; simp only [obV]) | rintro e w1 ⟨rfl, hp⟩) | ((with_reducible refine pre_append _ _ 79 rfl ?_); refine wpList_appendGrow (K := [_, _]) (R := R) (M := (M ++ Ry) ++ L) hp _ _ _ rfl wy i0 _ 72 Tryz.underlying79 hi0 hz0 hz1 hz2 rfl (by decide) (sTm rfl) HR.out 1 1 (sTm rfl) (by rfl) (by decide) (by rfl) (by unfold maxLen; omega) (by omega) ?_; clear hp HR; intro v' R' w1 hR' hp; have HR' := Lib.hid hR'; clear hR'; simp only [List.cons_append, List.nil_append] at hp; simp only [put_some, put_none, sSet, zSet]) | go_skip | (first | (refine hA3 ?_; clear hp; intro b w1 hp) | refine hL0 ?_ | (refine hS0 ?_; clear hp; intro w1 hp)))
        go_roundg (gk - 1)
        case measure => omega
        case rel =>
          refine ⟨q + 1, l ++ [x], os ++ [⟨yh, yp, yo, ywa, yws, ywc, yla, yls, ylc⟩], b2, R', M ++ Ry, by omega, by go_num, HT, Lib.hid ⟨by rw [List.length_append, HOS.out.1]; rfl, obs_snoc2 HOS.out.2 HY.out⟩, Lib.hid (by have := HR'.out; rw [obs_snoc]; exact this), Lib.hid (HM.out.snoc HRY.out), Lib.hid ⟨a, c, HNC.out, HA.out, hp⟩⟩
    · obtain rfl : q = n := by omega
      have f2 : decide ((q : Int) < (q : Int)) = false := by simp
      go_wp2_with (first | go_skip)
      go_ret
      rw [HQ.out]
      exact ⟨_, os, R, M, rfl, HOS.out.1, HOS.out.2, HR.out, HM.out, HS.out⟩
set_option maxRecDepth 100000 in
set_option maxHeartbeats 4000000 in
theorem many125_no (bi n : Nat) (most : Int) (hn : most < (n : Int)) (w : World) :
    Calls Tryz.prog 125 #[.int .i64 n, .int .i64 most, .func (.func 126) #[.pointer (some ⟨bi, 0, none⟩)] #[]] w fun e w' => e = .panicked badP ∧ w = w' := by
  have e1 : decide ((n : Int) ≤ most) = false := by simp; omega
  clear hn
  go_enter Tryz.func125, Tryz.ntmps125
  go_wp2_with (first | (go_at_call 89; (with_reducible refine (is89_no _).mono ?_); rintro e w' ⟨rfl, rfl⟩) | go_skip)
  exact ⟨rfl, rfl, rfl⟩
end Go.Proofs.YtcjbepaclbhjaaaGreat

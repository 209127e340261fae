/- Parts of the proof. -/
import Derived.Test.YtcjbepaclbhjaaaGreatKe1
import Derived.Test.YtcjbepaclbhjaaaGreatKe17
import Derived.Test.YtcjbepaclbhjaaaGreatKe10
open List renaming set_cons_zero → zSet, set_cons_succ → sSet
/- The walk of left: the loop. -/
set_option linter.unusedSimpArgs false
set_option linter.unusedVariables false
namespace Go.Proofs.YtcjbepaclbhjaaaGreat
open Go.RowKit
def LeftRel (B : Nat) (w0 : World) (sz : Int) (os : List Ob) (res : List Bl) (b7 : Nat) (L : List Blk) (k : Nat) (vf vo : Value) (wr : World) : Prop :=
  ∃ (fr ou : List Bl) (Rf Ro : List Blk), k = wtL fr ∧ wtL fr ≤ 511 ∧ RowKit.Hid (SubRow 150 2 vf fr.length (fr.flatMap blV) Rf) ∧ RowKit.Hid (OwnRow 150 2 vo ou.length (ou.flatMap blV) Ro) ∧ RowKit.Hid (∀ b ∈ fr, BlFit b) ∧ RowKit.Hid (ou ++ fr.flatMap (lfB sz os) = res) ∧
    Hp B w0 wr (⟨b7, [.int .i64 sz], 3, 1⟩ :: (Ro ++ (Rf ++ L)))
theorem bl_flat_one (l : List Bl) : (l.flatMap blV).all (·.oneCell') = true := by
  rw [List.all_eq_true]; intro u hu; obtain ⟨x, _, hx⟩ := List.mem_flatMap.1 hu; simp [blV] at hx; rcases hx with rfl | rfl <;> rfl
theorem ins_call {B : Nat} {w0 w : World} {L Ro Rf : List Blk} {p1 p2 p3 : Blk} {m : Nat} (hm : m ≤ 1000) {r : List Bl} {v : Value} (hR : SubRow 150 2 v m (r.flatMap blV) Rf) {p o q : Int} {bv : Nat} {ev : TypeId} {mv : Nat} (hp : Hp B w0 w (⟨bv, [.int .i64 p, .int .i64 o, .int .i64 q, .int .i64 o], ev, mv⟩ :: p1 :: p2 :: p3 :: (Ro ++ (Rf ++ L)))) :
    Calls Tryz.prog 158 #[v, .int .i64 0, .slice (some ⟨bv, 0, none⟩) 2 2] w fun e w' => ∃ v' R', e = .returned v' ∧ SubRow 150 2 v' (m + 2) ((⟨p, o⟩ :: ⟨q, o⟩ :: r : List Bl).flatMap blV) R' ∧ Hp B w0 w' (p1 :: p2 :: p3 :: (Ro ++ (R' ++ L))) := by
  refine (ins2158 m hm (r.flatMap blV) v [.int .i64 p, .int .i64 o, .int .i64 q, .int .i64 o] rfl rfl (bl_flat_one r) bv ev mv hR (M := p1 :: p2 :: p3 :: (Ro ++ L)) hp.kp).mono fun e w' h => ?_
  obtain ⟨v', R', he, h1, h2⟩ := h
  exact ⟨v', R', he, h1, h2.kp⟩
theorem free_next {r : List Bl} {b : Bl} {g off cap : Nat} {pre : List Value} {Rf : List Blk} (h1 : r.length + 1 ≤ cap) (hrf : Rf = [⟨g, pre ++ (blV b ++ r.flatMap blV), 150, off + cap * 2⟩])
    (htl : cap ≠ 1 → SubRow 150 2 (.slice (some ⟨g, off + 2, none⟩) r.length (cap - 1)) r.length (r.flatMap blV) Rf) :
    ∃ (ad : Nat) (Rn : List Blk), SubRow 150 2 (.slice (some ⟨g, ad, none⟩) r.length (cap - 1)) r.length (r.flatMap blV) Rn ∧ (∀ f : Blk → Nat, (Rn.map f).sum ≤ (Rf.map f).sum) ∧ ((cap = 1 ∧ ad = off) ∨ (cap ≠ 1 ∧ ad = off + 2)) := by
  by_cases hc : cap = 1
  · have hr : r = [] := List.eq_nil_of_length_eq_zero (by omega)
    subst hr hc
    exact ⟨off, [], SubRow.nil _ _ _, fun f => by simp, .inl ⟨rfl, rfl⟩⟩
  · exact ⟨off + 2, Rf, htl hc, fun f => Nat.le_refl _, .inr ⟨hc, rfl⟩⟩
theorem Hp.fin3 {B : Nat} {w0 w : World} {p1 p2 p3 : Blk} {Ro Rf Rn L : List Blk} (hp : Hp B w0 w (p1 :: p2 :: p3 :: (Ro ++ (Rf ++ L)))) (h : ∀ f : Blk → Nat, (Rn.map f).sum ≤ (Rf.map f).sum) : Hp B w0 w (p3 :: (Ro ++ (Rn ++ L))) :=
  hp.keep (fun f => by have := h f; simp only [List.map_append, List.map_cons, List.sum_append, List.sum_cons]; omega)
theorem Hp.fin4 {B : Nat} {w0 w : World} {p0 p1 p2 p3 : Blk} {Ro Rf Rn L : List Blk} (hp : Hp B w0 w (p0 :: p1 :: p2 :: p3 :: (Ro ++ (Rf ++ L)))) (h : ∀ f : Blk → Nat, (Rn.map f).sum ≤ (Rf.map f).sum) : Hp B w0 w (p0 :: p1 :: p2 :: p3 :: (Ro ++ (Rn ++ L))) :=
  hp.keep (fun f => by have := h f; simp only [List.map_append, List.map_cons, List.sum_append, List.sum_cons]; omega)
theorem fit_two {a b : Bl} {r : List Bl} (h1 : BlFit a) (h2 : BlFit b) (h3 : ∀ x ∈ r, BlFit x) : ∀ x ∈ (a :: b :: r), BlFit x := fun x hx => by
  rcases List.mem_cons.1 hx with rfl | hx
  · exact h1
  · rcases List.mem_cons.1 hx with rfl | hx
    · exact h2
    · exact h3 x hx
set_option maxRecDepth 100000 in
set_option maxHeartbeats 16000000 in
theorem left128 (od : Int) (h3 : 3 ≤ od) (h8 : od ≤ 8) (os : List Ob) (a : Option Addr) (c : Nat) (hol : os.length ≤ 600) (hob : ∀ x ∈ os, ObFit x) (v : Value) {B : Nat} {w0 w : World} {R L : List Blk} (hR : SubRow 150 2 v 1 (blV ⟨0, od⟩) R) (hs : Stay B w0 L fun w => RowIs w a (os.flatMap obV)) (hp : Hp B w0 w (R ++ L)) :
    Calls Tryz.prog 128 #[.int .i64 od, v, .slice a os.length c] w (LeftPost B w0 (lfN (pw od) os od.toNat 0) L) := by
  obtain ⟨i0, hi0, hz0, hz1, hz2⟩ := info_parts info150
  have HLEN := Lib.hid (lf_len (os := os) h3 h8)
  have HO0 : RowKit.Hid (0 ≤ od) := Lib.hid (by omega)
  have HO8 := Lib.hid h8
  have HOB := Lib.hid hob
  have HS := Lib.hid hs
  have HR0 := Lib.hid hR
  have hpw := pw_le h8
  have hpw1 := pw_pos od
  have HFIT0 : RowKit.Hid (BlFit ⟨0, od⟩ ∧ wtL [⟨0, od⟩] ≤ 511) := Lib.hid (by
    refine ⟨⟨by simp only; omega, h8, Int.le_refl _, by simp only; omega⟩, ?_⟩
    have : (2 : Nat) ^ od.toNat ≤ 2 ^ 8 := Nat.pow_le_pow_right (by decide) (by omega)
    simp only [wtL, wtB, List.map_cons, List.map_nil, List.sum_cons, List.sum_nil]
    omega)
  obtain ⟨res, hres⟩ : ∃ res, res = lfN (pw od) os od.toNat 0 := ⟨_, rfl⟩
  rw [← hres] at HLEN ⊢
  have HRES : RowKit.Hid ([] ++ [(⟨0, od⟩ : Bl)].flatMap (lfB (pw od) os) = res) := Lib.hid (by rw [hres]; simp [lfB])
  clear hob hs hR hpw hpw1 h3 h8 hres
  go_enter Tryz.func128, Tryz.ntmps128
  go_wp2_with (first | (go_at_call 133; first | ((with_reducible refine (words133 _ HO0.out HO8.out _).mono ?_); rintro e w' ⟨rfl, rfl⟩) | ((with_reducible refine (words133 _ HP0.out HP8.out _).mono ?_); rintro e w' ⟨rfl, rfl⟩)) | go_skip | (first | (refine hA0 ?_; clear hp; intro b w1 hp) | refine hL0 ?_ | (refine hS0 ?_; clear hp; intro w1 hp)))
  obtain ⟨b7, rfl⟩ := hp.id0
  go_loopg [1, 8] (wtL [⟨0, od⟩]) (fun k vf vo wr => LeftRel B w0 (pw od) os res b7 L k vf vo wr)
  case atStart => exact ⟨[⟨0, od⟩], [], R, [], rfl, HFIT0.out.2, Lib.hid (by simpa using HR0.out), Lib.hid (OwnRow.nil _ _), Lib.hid (fun b hb => by rw [List.mem_singleton.1 hb]; exact HFIT0.out.1), HRES, hp⟩
  case round =>
    clear hp HR0 HRES HFIT0
    obtain ⟨fr, ou, Rf, Ro, rfl, hwt, HFR, HOU, HFIT, HEQ, hp⟩ := hrel
    cases fr with
    | nil =>
      obtain ⟨va, vk, rfl, _, _⟩ := HFR.out.kept
      simp only [List.length_nil]
      go_wp2_with (first | go_skip | (first | (refine hA0 ?_; clear hp; intro b w1 hp) | refine hL0 ?_ | (refine hS0 ?_; clear hp; intro w1 hp)))
      go_ret
      have he : ou = res := by have := HEQ.out; simpa using this
      subst he
      exact ⟨_, Ro, rfl, HOU.out, hp.tail.kp⟩
    | cons b r =>
      have hfr := HFR.out
      rw [List.flatMap_cons, List.length_cons] at hfr
      obtain ⟨g, off, cap, pre, rfl, hcn, hcm, hrf, hpre, htl, htl0⟩ := hfr.head (blV_len b) (by decide)
      clear htl0
      obtain ⟨f1, f2, f3, f4⟩ := HFIT.out b (by simp)
      have hpb := pw_pos b.o
      have HFR2 : RowKit.Hid (∀ x ∈ r, BlFit x) := Lib.hid (fun x hx => HFIT.out x (List.mem_cons_of_mem _ hx))
      have hwl := wtL_len (b :: r)
      have HWL : RowKit.Hid (r.length ≤ 1000) := Lib.hid (by rw [List.length_cons] at hwl; omega)
      have HWT : RowKit.Hid (wtL (b :: r) = wtB b + wtL r ∧ 1 ≤ wtB b ∧ wtL (b :: r) ≤ 511) := Lib.hid ⟨wtL_cons b r, wtB_pos b, hwt⟩
      have hou : ou.length ≤ 256 := by
        have h := HLEN.out
        rw [← HEQ.out, List.length_append] at h
        omega
      have HOL1 : RowKit.Hid (ou.length + 1 ≤ maxLen) := Lib.hid (by unfold maxLen; omega)
      have HOL2 : RowKit.Hid ((ou.length + 1) * 16 ≤ 140737488355328) := Lib.hid (by omega)
      have HB0 : RowKit.Hid (Kept Rf fun w => ∀ j u, (blV b)[j]? = some u → w.cell? ⟨g, off + j, none⟩ = some u) := Lib.hid (by
        rw [hrf]
        intro B' w0' w' L' hp' hm' j u hj
        obtain ⟨k, hk, hkl⟩ := List.getElem_of_mem (hm' _ (List.mem_singleton.2 rfl))
        refine hp'.cell (i := k) (by rw [List.getElem?_eq_getElem hk, hkl]) (pre_get hpre ?_)
        rw [List.getElem?_append_left (List.getElem?_eq_some_iff.1 hj).1]; exact hj)
      have HNO := Lib.hid (fun h => lf_no (sz := pw od) (os := os) (b := b) f1 h)
      have HZE := Lib.hid (fun h0 h => lf_zero (sz := pw od) (os := os) (b := b) h0 h)
      have HSP := Lib.hid (fun h0 h => lf_split (sz := pw od) (os := os) (b := b) h0 h)
      have HWS := Lib.hid (fun h0 q => wt_split (b := b) h0 q)
      have HRM : RowKit.Hid (ou ++ (lfB (pw od) os b ++ r.flatMap (lfB (pw od) os)) = res) := Lib.hid (by have := HEQ.out; rwa [List.flatMap_cons] at this)
      obtain ⟨ad, Rn, hsub, hdr, hcase⟩ := free_next hcn hrf htl
      have HSUB := Lib.hid hsub
      have HDR := Lib.hid hdr
      obtain ⟨mm, hmm⟩ : ∃ mm, metB (pw od) os b = mm := ⟨_, rfl⟩
      have HM0 := Lib.hid hmm
      obtain ⟨p, o⟩ := b
      simp only at f1 f2 f3 f4 hpb
      simp only [blV] at HB0
      have HM : RowKit.Hid (os.any (metE (pw od) p (p + pw o)) = mm) := Lib.hid HM0.out
      have HP0 := Lib.hid f1
      have HP8 := Lib.hid f2
      have HWE : RowKit.Hid (wrap64 (p + pw o) = p + pw o) := Lib.hid (by unfold wrap64; omega)
      have HFB := Lib.hid (show BlFit ⟨p, o⟩ from ⟨f1, f2, f3, f4⟩)
      have g0 : (0 : Int) < ((r.length + 1 : Nat) : Int) := by omega
      have g1 : (1 : Int) ≤ ((r.length + 1 : Nat) : Int) := by omega
      have g2 : (1 : Int) ≤ (cap : Int) := by omega
      clear hfr htl hrf hcm hwl hwt hou hsub hdr hmm HEQ HFIT HFR hpre f3 f4 hpb
      rcases hcase with ⟨hc, rfl⟩ | ⟨hc, rfl⟩
      case' inl => have HSUB : RowKit.Hid (SubRow 150 2 (.slice (some ⟨g, ad, none⟩) r.length 0) r.length (r.flatMap blV) Rn) := Lib.hid (by have hr0 : r.length = 0 := (by omega); have := HSUB.out; rw [hr0, hc] at this; rw [hr0]; exact this)
      all_goals
        go_wp2_with (first | (refine hL14 ?_) | go_skip | (first | (refine hA0 ?_; clear hp; intro b w1 hp) | refine hL0 ?_ | (refine hS0 ?_; clear hp; intro w1 hp)))
        obtain ⟨b9, rfl⟩ := hp.id0
        refine wp_region_keepsT [_] (Keeps.one hp.drew at0) [] (.take 0 (.take 1 (.take 2 (.take 3 (.two 4 (.take 5 (.one 6 (.one 7 .nil))) 6 (.one 4 (.take 5 (.one 7 .nil)))))))) (by kernel_rfl) (by kernel_rfl) (by kernel_rfl) (by kernel_rfl) (fun _ _ d _ _ h => by cases d <;> exact h) ?_
        replace hp := hp.drew
        repeat' (with_reducible refine tree_is ?_); first | (with_reducible refine tree_nil ?_) | refine tk7 ?_ | ((first | refine tree_one (doT_of rfl (fun K hK => ?_)) | refine tree_two (doT_of rfl (fun K hK => ?_)) (doT_of rfl (fun K hK => ?_))) <;> (go_wp2_with (first | (go_at_call 133; first | ((with_reducible refine (words133 _ HO0.out HO8.out _).mono ?_); rintro e w' ⟨rfl, rfl⟩) | ((with_reducible refine (words133 _ HP0.out HP8.out _).mono ?_); rintro e w' ⟨rfl, rfl⟩)) | go_skip | (first | (refine hA4 ?_; clear hp; intro b w1 hp) | (refine hS0 ?_; clear hp; intro w1 hp))); (refine hK.out _ _ (.inr (Keeps.one hp aa5)) ?_); clear hK K; try simp only [put_some, put_none, eval_tmp, eval_const, sSet, zSet, List.getD_cons_succ, List.getD_cons_zero, wrap_eq, HWE.out]))
        all_goals
          obtain ⟨b10, rfl⟩ := hp.id0
          cases mm with
          | false =>
            go_wp2_with (first | (go_at_call 156; (with_reducible refine (contains156 (pw od) p (p + pw o) os a c hol HOB.out _ _ _ _ (HS.out.at hp (by intro p hp2; simp [hp2])) (CellAt.of (hp.cell at2 rfl)) (CellAt.of (hp.cell at1 rfl)) (CellAt.of (hp.cell at0 rfl))).mono ?_); rintro e w1 ⟨rfl, hb⟩; replace hp := hp.call hb; clear hb; rw [HM.out]) | ((with_reducible refine pre_append _ _ 81 rfl ?_); refine wpList_appendGrow (K := [_, _, _]) (R := Ro) (M := Rf ++ L) hp _ _ _ rfl wy i0 _ 16 Tryz.underlying81 hi0 hz0 hz1 hz2 rfl (by decide) (sTm rfl) HOU.out 1 1 (sTm rfl) (by rfl) (by decide) (by rfl) HOL1.out HOL2.out ?_; clear hp; intro v' R' w1 hR' hp; have HR' := Lib.hid hR'; clear hR'; simp only [List.cons_append, List.nil_append] at hp; simp only [put_some, put_none, sSet, zSet]) | go_skip | (first | (refine hA0 ?_; clear hp; intro b w1 hp) | refine hL0 ?_ | (refine hS0 ?_; clear hp; intro w1 hp)))
            go_roundg (wtL r)
            case measure => have := HWT.out; omega
            case rel => exact ⟨r, ou ++ [⟨p, o⟩], Rn, R', rfl, by have := HWT.out; omega, HSUB, Lib.hid (by have := HR'.out; rw [List.flatMap_append, List.length_append]; exact this), HFR2, Lib.hid (by have h := HRM.out; rw [HNO.out HM0.out] at h; simpa using h), Hp.fin3 hp HDR.out⟩
          | true =>
            by_cases ho : o = 0
            · have z : decide (0 < o) = false := by rw [ho]; decide
              have HO := Lib.hid ho
              clear ho
              go_wp2_with (first | (go_at_call 156; (with_reducible refine (contains156 (pw od) p (p + pw o) os a c hol HOB.out _ _ _ _ (HS.out.at hp (by intro p hp2; simp [hp2])) (CellAt.of (hp.cell at2 rfl)) (CellAt.of (hp.cell at1 rfl)) (CellAt.of (hp.cell at0 rfl))).mono ?_); rintro e w1 ⟨rfl, hb⟩; replace hp := hp.call hb; clear hb; rw [HM.out]) | go_skip | (first | (refine hA0 ?_; clear hp; intro b w1 hp) | refine hL0 ?_ | (refine hS0 ?_; clear hp; intro w1 hp)))
              go_roundg (wtL r)
              case measure => have := HWT.out; omega
              case rel => exact ⟨r, ou, Rn, Ro, rfl, by have := HWT.out; omega, HSUB, HOU, HFR2, Lib.hid (by have h := HRM.out; rw [HZE.out HO.out HM0.out] at h; simpa using h), Hp.fin3 hp HDR.out⟩
            · have z : decide (0 < o) = true := decide_eq_true (by omega)
              have hz : 0 < o := by omega
              have HZ := Lib.hid hz
              have hw1 : wrap64 (o - 1) = o - 1 := by unfold wrap64; omega
              have HQ0 : RowKit.Hid (0 ≤ o - 1) := Lib.hid (by omega)
              have HQ8 : RowKit.Hid (o - 1 ≤ 8) := Lib.hid (by omega)
              have hb := HFB.out
              have hs := pw_succ (o := o - 1) (by omega)
              have hpp := pw_pos (o - 1)
              rw [show o - 1 + 1 = o by omega] at hs
              have HWE2 : RowKit.Hid (wrap64 (p + pw (o - 1)) = p + pw (o - 1)) := Lib.hid (by have h3 := hb.2.2.1; have h4 := hb.2.2.2; simp only at h3 h4; unfold wrap64; omega)
              have HFB2 : RowKit.Hid (BlFit ⟨p, o - 1⟩ ∧ BlFit ⟨p + pw (o - 1), o - 1⟩) := Lib.hid (by
                have h3 := hb.2.2.1; have h4 := hb.2.2.2; simp only at h3 h4
                exact ⟨⟨by simp only; omega, by simp only; omega, h3, by simp only; omega⟩, ⟨by simp only; omega, by simp only; omega, by simp only; omega, by simp only; omega⟩⟩)
              have HINS : RowKit.Hid (∀ {vn : Value}, SubRow 150 2 vn r.length (r.flatMap blV) Rn → ∀ {bv : Nat} {ev : TypeId} {mv : Nat} {w1 : World} {p1 p2 p3 : Blk}, Hp B w0 w1 (⟨bv, [.int .i64 p, .int .i64 (o - 1), .int .i64 (p + pw (o - 1)), .int .i64 (o - 1)], ev, mv⟩ :: p1 :: p2 :: p3 :: (Ro ++ (Rf ++ L))) →
                  Calls Tryz.prog 158 #[vn, .int .i64 0, .slice (some ⟨bv, 0, none⟩) 2 2] w1 fun e w' => ∃ v' R', e = .returned v' ∧ SubRow 150 2 v' (r.length + 2) ((⟨p, o - 1⟩ :: ⟨p + pw (o - 1), o - 1⟩ :: r : List Bl).flatMap blV) R' ∧ Hp B w0 w' (p1 :: p2 :: p3 :: (Ro ++ (R' ++ L)))) := Lib.hid (fun hs => fun hp => ins_call HWL.out hs (Hp.fin4 hp HDR.out))
              clear hb hs hpp ho
              go_wp2_with (first | (go_at_call 156; (with_reducible refine (contains156 (pw od) p (p + pw o) os a c hol HOB.out _ _ _ _ (HS.out.at hp (by intro p hp2; simp [hp2])) (CellAt.of (hp.cell at2 rfl)) (CellAt.of (hp.cell at1 rfl)) (CellAt.of (hp.cell at0 rfl))).mono ?_); rintro e w1 ⟨rfl, hb⟩; replace hp := hp.call hb; clear hb; rw [HM.out]) | go_skip | (first | (refine hA0 ?_; clear hp; intro b w1 hp) | refine hL0 ?_ | (refine hS0 ?_; clear hp; intro w1 hp)))
              refine wp_region_keeps [_, _] (Keeps.two hp.drew at0 at1) [] [(0, true), (1, true), (2, true), (3, true), (4, true), (5, true), (6, true), (7, true), (10, true), (8, false), (9, true), (11, true), (12, false), (13, false), (14, false)] (by kernel_rfl) (by kernel_rfl) rfl (by kernel_rfl) (fun _ _ d _ _ h => by cases d <;> exact h) ?_
              replace hp := hp.drew
              repeat' (with_reducible refine plan_is ?_); first | (with_reducible refine plan_nil ?_) | refine tk8 ?_ | (refine plan_do rfl (fun K hK => ?_); go_wp2_with (first | (go_at_call 133; (with_reducible refine (words133 _ HQ0.out HQ8.out _).mono ?_); rintro e w' ⟨rfl, rfl⟩) | (go_at_call 158; (with_reducible refine (HINS.out HSUB.out hp).mono ?_); clear hp; rintro e w1 ⟨v', R', rfl, hr', hp⟩; have HR' := Lib.hid hr'; clear hr') | go_skip | (refine hA5 ?_; clear hp; intro b w1 hp)); (refine hK.out _ _ (.inr (Keeps.two hp aa5 aa5)) ?_); clear hK K; try simp only [put_some, put_none, eval_tmp, eval_const, sSet, zSet, List.getD_cons_succ, List.getD_cons_zero, wrap_eq, HWE2.out])
              go_wp2_with fail
              go_roundg (wtL (⟨p, o - 1⟩ :: ⟨p + pw (o - 1), o - 1⟩ :: r))
              case measure => have h1 := HWT.out; have h2 := HWS.out HZ.out (p + pw (o - 1)); rw [wtL_cons, wtL_cons]; omega
              case rel => exact ⟨_, ou, R', Ro, rfl, by have h1 := HWT.out; have h2 := HWS.out HZ.out (p + pw (o - 1)); rw [wtL_cons, wtL_cons]; omega, HR', HOU, Lib.hid (fit_two HFB2.out.1 HFB2.out.2 HFR2.out), Lib.hid (by have h := HRM.out; rw [HSP.out HZ.out HM0.out] at h; simpa using h), hp.tail.tail⟩
end Go.Proofs.YtcjbepaclbhjaaaGreat

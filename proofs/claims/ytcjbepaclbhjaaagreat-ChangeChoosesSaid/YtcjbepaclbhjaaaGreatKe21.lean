/- Parts of the proof. -/
import Derived.Test.YtcjbepaclbhjaaaGreatKe1
import Derived.Test.YtcjbepaclbhjaaaGreatKe18
import Derived.Test.YtcjbepaclbhjaaaGreatKe14
import Derived.Test.YtcjbepaclbhjaaaGreatKe20
import Derived.Test.YtcjbepaclbhjaaaGreatKe12
open List renaming set_cons_zero → zSet, set_cons_succ → sSet
/- The walk that reads a heap. -/
set_option linter.unusedSimpArgs false
set_option linter.unusedVariables false
namespace Go.Proofs.YtcjbepaclbhjaaaGreat
open Go.RowKit
theorem sm_bl {l k : List Ob} (h : ObsSm l k) : l.map obBl = k.map obBl := by
  apply List.ext_getElem?
  intro i
  rw [List.getElem?_map, List.getElem?_map]
  rcases Nat.lt_or_ge i l.length with hi | hi
  · have ha := List.getElem?_eq_getElem hi
    have hb := List.getElem?_eq_getElem (l := k) (i := i) (by have := h.1; omega)
    obtain ⟨_, h2, h3, _⟩ := h.2 i _ _ ha hb
    rw [ha, hb]
    simp only [Option.map_some, obBl, h2, h3]
  · rw [List.getElem?_eq_none hi, List.getElem?_eq_none (by have := h.1; omega)]
theorem met_bl (sz : Int) (os : List Ob) (b : Bl) : metB sz os b = (os.map obBl).any fun x => decide (x.p ≤ sz) && (decide (b.p < x.p + pw x.o) && decide (x.p < b.p + pw b.o)) := by
  unfold metB; rw [List.any_map]; rfl
theorem lf_sm {sz : Int} {l k : List Ob} (h : ObsSm l k) : ∀ (n : Nat) (p : Int), lfN sz l n p = lfN sz k n p
  | 0, p => by unfold lfN; rw [met_bl, met_bl, sm_bl h]
  | n + 1, p => by unfold lfN; rw [met_bl, met_bl, sm_bl h, lf_sm h n p, lf_sm h n (p + pw n)]
theorem obj_fit {bs r : List Nat} {o : Ob} (h : objR bs = some (o, r)) : ObFit o ∧ o.ws.length ≤ 32 ∧ o.ls.length ≤ 16 := by
  unfold objR at h
  split at h
  · cases h
  · split at h
    · cases h
    · rename_i q2 p b2 h2
      split at h
      · cases h
      · rename_i q3 nw b3 h3
        split at h
        · cases h
        · rename_i q4 nl b4 h4
          split at h
          · cases h
          · rename_i hneg
            split at h
            · cases h
            · rename_i q5 ws b5 h5
              split at h
              · cases h
              · rename_i q6 ls b6 h6
                injection h with h
                injection h with h _
                subst h
                obtain ⟨v, rfl, hv⟩ := nR_nat h2
                obtain ⟨vw, rfl, _⟩ := nR_nat h3
                obtain ⟨vl, rfl, _⟩ := nR_nat h4
                have hr := needI_range vw vl
                have hok := needI_ok (a := vw) (b := vl) (by omega)
                have l1 := repR_len h5
                have l2 := repR_len h6
                refine ⟨⟨?_, ?_, ?_, ?_⟩, ?_, ?_⟩ <;> simp only [mkOb] <;> omega
theorem rep_all {α : Type} {one : List Nat → Option (α × List Nat)} {P : α → Prop} (h1 : ∀ bs x r, one bs = some (x, r) → P x) : ∀ {n : Nat} {bs : List Nat} {l : List α} {r : List Nat}, repR one n bs = some (l, r) → ∀ x ∈ l, P x
  | 0, _, _, _, h, x, hx => by unfold repR at h; injection h with h; injection h with h _; rw [← h] at hx; cases hx
  | n + 1, bs, l, r, h, x, hx => by
    unfold repR at h
    cases hq : repR one n bs with
    | none => rw [hq] at h; cases h
    | some p =>
      obtain ⟨l1, b1⟩ := p
      rw [hq] at h
      simp only at h
      cases h2 : one b1 with
      | none => rw [h2] at h; cases h
      | some q =>
        obtain ⟨y, b2⟩ := q
        rw [h2] at h
        injection h with h; injection h with h _
        rw [← h] at hx
        rcases List.mem_append.1 hx with hx | hx
        · exact rep_all h1 hq x hx
        · rw [List.mem_singleton.1 hx]; exact h1 _ _ _ h2
theorem sm_fit {l k : List Ob} (h : ObsSm l k) (hf : ∀ x ∈ k, ObFit x ∧ x.ws.length ≤ 32 ∧ x.ls.length ≤ 16) : ∀ x ∈ l, ObFit x ∧ x.ws.length ≤ 32 ∧ x.ls.length ≤ 16 := by
  intro x hx
  obtain ⟨i, hi, rfl⟩ := List.getElem_of_mem hx
  have hb := List.getElem?_eq_getElem (l := k) (i := i) (by have := h.1; omega)
  obtain ⟨_, h2, h3, h4, h5⟩ := h.2 i _ _ (List.getElem?_eq_getElem hi) hb
  have := hf _ (List.mem_of_getElem? hb)
  unfold ObFit at this ⊢
  rw [h2, h3, h4, h5]
  exact this
def mkHv (od : Int) (os : List Ob) (nx : Int) (ts : List Int) (fs : List Bl) : Hv := ⟨od, none, os, 0, nx, ts.getD 0 0, ts.getD 1 0, ts.getD 2 0, ts.getD 3 0, none, fs, 0⟩
noncomputable def heapR3 (od nx : Int) (ts : List Int) (os : List Ob) (b5 : List Nat) : Option (Hv × List Nat) :=
  if regionB od = true then (if hrightB (mkHv od os nx ts (lfN (pw od) os od.toNat 0)) = true then some (mkHv od os nx ts (lfN (pw od) os od.toNat 0), b5) else none) else none
noncomputable def heapR2 (od nx : Int) (ts : List Int) (b3 : List Nat) : Option (Hv × List Nat) := match nR b3 with
  | none => none
  | some (k, b4) => if 256 < k then none else match repR objR k.toNat b4 with
    | none => none
    | some (os, b5) => heapR3 od nx ts os b5
noncomputable def heapR1 (od nx : Int) (b2 : List Nat) : Option (Hv × List Nat) := match repR nR 4 b2 with
  | none => none
  | some (ts, b3) => heapR2 od nx ts b3
noncomputable def heapR0 (bs : List Nat) : Option (Hv × List Nat) := match nR bs with
  | none => none
  | some (od, b1) => match nR b1 with
    | none => none
    | some (nx, b2) => heapR1 od nx b2
def HeapPost (w0 : World) (br bi : Nat) (r : Option (Hv × List Nat)) (L : List Blk) (e : Ending) (w' : World) : Prop :=
  match r with
  | some (x, bs') => ∃ y RO RF M, e = .returned (.agg (hvL y).toArray) ∧ y.Sm x ∧ HvR y RO RF M ∧ RdSt w0 br bi bs' [] (RO ++ (RF ++ (M ++ L))) w'
  | none => e = .panicked badP ∧ Hp w0.heap.size w0 w' L
theorem tops4 {l : List Int} {t0 t1 t2 t3 : Int} (hl : l.length = 4) (h : [t0, t1, t2, t3] = (l ++ [0, 0, 0, 0]).take 4) : t0 = l.getD 0 0 ∧ t1 = l.getD 1 0 ∧ t2 = l.getD 2 0 ∧ t3 = l.getD 3 0 := by
  match l, hl with
  | [a, b, c, d], _ => simp at h ⊢; exact h
theorem RdSt.mk6 {w0 w : World} {br bi c : Nat} {a : Option Addr} {bs : List Nat} {x y : Blk} {Ro Rf Mo L : List Blk} (h1 : bs.length ≤ c) (h2 : RdAt w0 a bs)
    (hp : Hp w0.heap.size w0 w (x :: y :: ⟨br, [.slice a bs.length c], 144, 1⟩ :: ⟨bi, [.pointer (some ⟨br, 0, none⟩)], 115, 1⟩ :: (Rf ++ (Ro ++ (Mo ++ L))))) : RdSt w0 br bi bs [] (Ro ++ (Rf ++ (Mo ++ L))) w :=
  ⟨a, c, h1, h2, (show Hp w0.heap.size w0 w (x :: y :: Rb br a bs.length c :: Ib bi br :: (Rf ++ (Ro ++ (Mo ++ L)))) from hp).kp⟩
theorem front2 {B : Nat} {w0 w : World} {x y r i : Blk} {Ro Mo L : List Blk} (hp : Hp B w0 w (r :: i :: (Ro ++ (Mo ++ (x :: y :: L))))) : Hp B w0 w (x :: y :: r :: i :: (Ro ++ (Mo ++ L))) := hp.kp
theorem left_call (od : Int) (h3 : 3 ≤ od) (h8 : od ≤ 8) (os : List Ob) (oa : Option Addr) (oc : Nat) (hol : os.length ≤ 600) (hob : ∀ x ∈ os, ObFit x) {B : Nat} {w0 w : World} {bf : Nat} {x y r i : Blk} {Ro Mo L : List Blk} (hro : Kept Ro fun w => RowIs w oa (os.flatMap obV))
    (hp : Hp B w0 w (⟨bf, [.int .i64 0, .int .i64 od], 150, 2⟩ :: x :: y :: r :: i :: (Ro ++ (Mo ++ L)))) :
    Calls Tryz.prog 128 #[.int .i64 od, .slice (some ⟨bf, 0, none⟩) 1 1, .slice oa os.length oc] w fun e w' => ∃ fa fc fs Rf, e = .returned (.slice fa fs.length fc) ∧ fs = lfN (pw od) os od.toNat 0 ∧ OwnRow 150 2 (.slice fa fs.length fc) fs.length (fs.flatMap blV) Rf ∧ Hp B w0 w' (x :: y :: r :: i :: (Rf ++ (Ro ++ (Mo ++ L)))) := by
  refine (left128 od h3 h8 os oa oc hol hob (.slice (some ⟨bf, 0, none⟩) 1 1) (R := [⟨bf, [.int .i64 0, .int .i64 od], 150, 2⟩]) (L := x :: y :: r :: i :: (Ro ++ (Mo ++ L))) ⟨rfl, .inr ⟨bf, 0, 1, [], rfl, Nat.le_refl _, by decide, rfl, rfl⟩⟩
    (fun w1 L1 hp1 hm => hro.at hp1 (fun p hp2 => hm p (by simp [hp2]))) hp).mono fun e w' h => ?_
  obtain ⟨v, R, he, hr, hp'⟩ := h
  obtain ⟨fa, fc, rfl, _⟩ := hr.kept
  exact ⟨fa, fc, _, R, he, rfl, hr, hp'.kp⟩
def HeadRel (w0 : World) (br bi b3 b2 : Nat) (od nx : Int) (bs : List Nat) (L : List Blk) (j : Nat) (wr : World) : Prop :=
  ∃ (l : List Int) (b1 : List Nat) (t0 t1 t2 t3 : Int) (a : Option Addr) (c : Nat), RowKit.Hid (repR nR j bs = some (l, b1)) ∧ RowKit.Hid ([t0, t1, t2, t3] = (l ++ [0, 0, 0, 0]).take 4) ∧ RowKit.Hid (b1.length ≤ c) ∧ RowKit.Hid (RdAt w0 a b1) ∧
    Hp w0.heap.size w0 wr (⟨b3, [.int .i64 od, .slice none 0 0, .int .i64 nx, .int .i64 t0, .int .i64 t1, .int .i64 t2, .int .i64 t3, .slice none 0 0], 83, 8⟩ :: ⟨b2, [.int .i64 0, .slice none 0 0, .int .i64 0, .int .i64 0, .int .i64 0, .int .i64 0, .int .i64 0, .slice none 0 0], 83, 8⟩ :: ⟨br, [.slice a b1.length c], 144, 1⟩ :: ⟨bi, [.pointer (some ⟨br, 0, none⟩)], 115, 1⟩ :: L)
set_option maxRecDepth 100000 in
set_option maxHeartbeats 16000000 in
theorem inh104 (br bi : Nat) (bs : List Nat) {w0 w : World} {L : List Blk} (hs : RdSt w0 br bi bs [] L w) :
    Calls Tryz.prog 104 #[.pointer (some ⟨bi, 0, none⟩)] w (HeapPost w0 br bi (heapR0 bs) L) := by
  obtain ⟨a, c, hl, ha, hp⟩ := hs
  have HL := Lib.hid hl
  have HA := Lib.hid ha
  clear hl ha
  simp only [List.nil_append, Rb, Ib] at hp
  unfold heapR0
  cases h1 : nR bs with
  | none => have H1 := Lib.hid h1; clear h1; simp only; go_enter Tryz.func104, Tryz.ntmps104; go_wp2_with (first | (go_at_call 87; refine (inn87 br bi _ (K := [_, _]) (L := L) ⟨_, _, HL.out, HA.out, hp⟩).mono ?_; clear hp HL HA; rintro e w1 hq; (first | rw [H1.out] at hq | rw [H2.out] at hq | rw [HO.out] at hq | rw [H4.out] at hq); (first | (obtain ⟨rfl, a, c, hl, ha, hp⟩ := hq; have HL := Lib.hid hl; have HA := Lib.hid ha; clear hl ha; simp only [List.cons_append, List.nil_append, Rb, Ib] at hp) | (obtain ⟨rfl, hp⟩ := hq; simp only [List.cons_append, List.nil_append] at hp))) | go_skip | (first | (refine hA1 ?_; clear hp; intro b w1 hp) | refine hL0 ?_ | (refine hS0 ?_; clear hp; intro w1 hp))); exact ⟨rfl, rfl, hp.kp⟩
  | some q1 =>
    obtain ⟨od, b1⟩ := q1
    have H1 := Lib.hid h1
    clear h1
    simp only
    cases h2 : nR b1 with
    | none => have H2 := Lib.hid h2; clear h2; simp only; go_enter Tryz.func104, Tryz.ntmps104; go_wp2_with (first | (go_at_call 87; refine (inn87 br bi _ (K := [_, _]) (L := L) ⟨_, _, HL.out, HA.out, hp⟩).mono ?_; clear hp HL HA; rintro e w1 hq; (first | rw [H1.out] at hq | rw [H2.out] at hq | rw [HO.out] at hq | rw [H4.out] at hq); (first | (obtain ⟨rfl, a, c, hl, ha, hp⟩ := hq; have HL := Lib.hid hl; have HA := Lib.hid ha; clear hl ha; simp only [List.cons_append, List.nil_append, Rb, Ib] at hp) | (obtain ⟨rfl, hp⟩ := hq; simp only [List.cons_append, List.nil_append] at hp))) | go_skip | (first | (refine hA1 ?_; clear hp; intro b w1 hp) | refine hL0 ?_ | (refine hS0 ?_; clear hp; intro w1 hp))); exact ⟨rfl, rfl, hp.kp⟩
    | some q2 =>
      obtain ⟨nx, b2⟩ := q2
      have H2 := Lib.hid h2
      clear h2
      simp only
      go_enter Tryz.func104, Tryz.ntmps104; go_wp2_with (first | (go_at_call 87; refine (inn87 br bi _ (K := [_, _]) (L := L) ⟨_, _, HL.out, HA.out, hp⟩).mono ?_; clear hp HL HA; rintro e w1 hq; (first | rw [H1.out] at hq | rw [H2.out] at hq | rw [HO.out] at hq | rw [H4.out] at hq); (first | (obtain ⟨rfl, a, c, hl, ha, hp⟩ := hq; have HL := Lib.hid hl; have HA := Lib.hid ha; clear hl ha; simp only [List.cons_append, List.nil_append, Rb, Ib] at hp) | (obtain ⟨rfl, hp⟩ := hq; simp only [List.cons_append, List.nil_append] at hp))) | go_skip | (first | (refine hA1 ?_; clear hp; intro b w1 hp) | refine hL0 ?_ | (refine hS0 ?_; clear hp; intro w1 hp)))
      obtain ⟨bh, rfl⟩ := hp.id0
      obtain ⟨bz, rfl⟩ := hp.id1
      go_loopg [13] 4 (fun k i wr => ∃ j : Nat, k + j = 4 ∧ i = .int .i64 j ∧ HeadRel w0 br bi bh bz od nx b2 L j wr)
      case atStart => exact ⟨0, by omega, rfl, [], b2, 0, 0, 0, 0, _, _, Lib.hid rfl, Lib.hid rfl, HL, HA, hp⟩
      case round =>
        clear hp HL HA H1 H2
        obtain ⟨j, hkj, rfl, l, b1, t0, t1, t2, t3, a, c, HQ, HT, HL, HA, hp⟩ := hrel
        by_cases hlt : j < 4
        · cases ho : nR b1 with
          | none =>
            have HF := repR_fail HQ.out ho 4 hlt
            have HR : RowKit.Hid (heapR1 od nx b2 = none) := Lib.hid (by unfold heapR1; rw [HF])
            have HO := Lib.hid ho
            clear ho HF
            have f1 : (0 : Int) ≤ (j : Int) := by omega
            have f2 : (j : Int) < 4 := by omega
            go_wp2_with (first | (go_at_call 87; refine (inn87 br bi _ (K := [_, _]) (L := L) ⟨_, _, HL.out, HA.out, hp⟩).mono ?_; clear hp HL HA; rintro e w1 hq; (first | rw [H1.out] at hq | rw [H2.out] at hq | rw [HO.out] at hq | rw [H4.out] at hq); (first | (obtain ⟨rfl, a, c, hl, ha, hp⟩ := hq; have HL := Lib.hid hl; have HA := Lib.hid ha; clear hl ha; simp only [List.cons_append, List.nil_append, Rb, Ib] at hp) | (obtain ⟨rfl, hp⟩ := hq; simp only [List.cons_append, List.nil_append] at hp))) | go_skip | (first | (refine hA1 ?_; clear hp; intro b w1 hp) | refine hL0 ?_ | (refine hS0 ?_; clear hp; intro w1 hp)))
            refine ⟨rfl, ?_⟩; show HeapPost w0 br bi (heapR1 od nx b2) L _ _; rw [HR.out]; exact ⟨rfl, hp.kp⟩
          | some p =>
            obtain ⟨x, b5⟩ := p
            have HO := Lib.hid ho
            have HN := Lib.hid (repR_step HQ.out ho)
            have hll := repR_len HQ.out
            clear ho
            rcases l with _ | ⟨a0, _ | ⟨a1, _ | ⟨a2, _ | ⟨a3, l⟩⟩⟩⟩
            all_goals simp only [List.length_cons, List.length_nil] at hll
            case cons.cons.cons.cons => omega
            all_goals
              subst hll
              have ht := HT.out
              simp at ht
              obtain ⟨rfl, rfl, rfl, rfl⟩ := ht
              go_wp2_with (first | (go_at_call 87; refine (inn87 br bi _ (K := [_, _]) (L := L) ⟨_, _, HL.out, HA.out, hp⟩).mono ?_; clear hp HL HA; rintro e w1 hq; (first | rw [H1.out] at hq | rw [H2.out] at hq | rw [HO.out] at hq | rw [H4.out] at hq); (first | (obtain ⟨rfl, a, c, hl, ha, hp⟩ := hq; have HL := Lib.hid hl; have HA := Lib.hid ha; clear hl ha; simp only [List.cons_append, List.nil_append, Rb, Ib] at hp) | (obtain ⟨rfl, hp⟩ := hq; simp only [List.cons_append, List.nil_append] at hp))) | go_skip | (first | (refine hA1 ?_; clear hp; intro b w1 hp) | refine hL0 ?_ | (refine hS0 ?_; clear hp; intro w1 hp)))
              go_roundg (gk - 1)
              case measure => omega
              case rel => exact ⟨_, by omega, by go_num, _, b5, _, _, _, _, _, _, HN, Lib.hid rfl, HL, HA, hp⟩
        · obtain rfl : j = 4 := by omega
          have hll := repR_len HQ.out
          obtain ⟨g0, g1, g2, g3⟩ := tops4 hll HT.out
          have HTS := Lib.hid (show t0 = l.getD 0 0 ∧ t1 = l.getD 1 0 ∧ t2 = l.getD 2 0 ∧ t3 = l.getD 3 0 from ⟨g0, g1, g2, g3⟩)
          have HE1 : RowKit.Hid (heapR1 od nx b2 = heapR2 od nx l b1) := Lib.hid (by unfold heapR1; rw [HQ.out])
          have f2 : decide (((4 : Nat) : Int) < 4) = false := by decide
          clear hkj hlt g0 g1 g2 g3 hll HT HQ
          cases h4 : nR b1 with
          | none => have H4 := Lib.hid h4; have HR : RowKit.Hid (heapR1 od nx b2 = none) := Lib.hid (by rw [HE1.out]; unfold heapR2; rw [h4]); clear h4; go_wp2_with (first | (go_at_call 87; refine (inn87 br bi _ (K := [_, _]) (L := L) ⟨_, _, HL.out, HA.out, hp⟩).mono ?_; clear hp HL HA; rintro e w1 hq; (first | rw [H1.out] at hq | rw [H2.out] at hq | rw [HO.out] at hq | rw [H4.out] at hq); (first | (obtain ⟨rfl, a, c, hl, ha, hp⟩ := hq; have HL := Lib.hid hl; have HA := Lib.hid ha; clear hl ha; simp only [List.cons_append, List.nil_append, Rb, Ib] at hp) | (obtain ⟨rfl, hp⟩ := hq; simp only [List.cons_append, List.nil_append] at hp))) | go_skip | (first | (refine hA1 ?_; clear hp; intro b w1 hp) | refine hL0 ?_ | (refine hS0 ?_; clear hp; intro w1 hp))); refine ⟨rfl, ?_⟩; show HeapPost w0 br bi (heapR1 od nx b2) L _ _; rw [HR.out]; exact ⟨rfl, hp.kp⟩
          | some q4 =>
            obtain ⟨k, b4⟩ := q4
            have H4 := Lib.hid h4
            clear h4
            obtain ⟨k, rfl, hk⟩ := nR_nat H4.out
            by_cases hk2 : (256 : Int) < (k : Int)
            · have HK := Lib.hid hk2
              have HR : RowKit.Hid (heapR1 od nx b2 = none) := Lib.hid (by rw [HE1.out]; unfold heapR2; rw [H4.out]; simp only; rw [if_pos hk2])
              clear hk2
              go_wp2_with (first | (go_at_call 87; refine (inn87 br bi _ (K := [_, _]) (L := L) ⟨_, _, HL.out, HA.out, hp⟩).mono ?_; clear hp HL HA; rintro e w1 hq; (first | rw [H1.out] at hq | rw [H2.out] at hq | rw [HO.out] at hq | rw [H4.out] at hq); (first | (obtain ⟨rfl, a, c, hl, ha, hp⟩ := hq; have HL := Lib.hid hl; have HA := Lib.hid ha; clear hl ha; simp only [List.cons_append, List.nil_append, Rb, Ib] at hp) | (obtain ⟨rfl, hp⟩ := hq; simp only [List.cons_append, List.nil_append] at hp))) | (go_at_call 125; (with_reducible refine (many125_no bi k 256 HK.out _).mono ?_); rintro e w' ⟨rfl, rfl⟩) | go_skip | (first | (refine hA1 ?_; clear hp; intro b w1 hp) | refine hL0 ?_ | (refine hS0 ?_; clear hp; intro w1 hp)))
              refine ⟨rfl, ?_⟩; show HeapPost w0 br bi (heapR1 od nx b2) L _ _; rw [HR.out]; exact ⟨rfl, hp.kp⟩
            · have HE2 : RowKit.Hid (heapR2 od nx l b1 = match repR objR k b4 with | none => none | some (os, b5) => heapR3 od nx l os b5) := Lib.hid (by unfold heapR2; rw [H4.out]; simp only; rw [if_neg hk2, Int.toNat_natCast])
              have HK1 : RowKit.Hid ((k : Int) ≤ 256) := Lib.hid (by omega)
              have HK2 : RowKit.Hid (k ≤ 1000) := Lib.hid (by omega)
              have HK3 : RowKit.Hid (k ≤ 256) := Lib.hid (by omega)
              clear hk hk2
              cases h5 : repR objR k b4 with
              | none => have H5 := Lib.hid h5; have HR : RowKit.Hid (heapR1 od nx b2 = none) := Lib.hid (by rw [HE1.out, HE2.out, h5]); clear h5; go_wp2_with (first | (go_at_call 87; refine (inn87 br bi _ (K := [_, _]) (L := L) ⟨_, _, HL.out, HA.out, hp⟩).mono ?_; clear hp HL HA; rintro e w1 hq; (first | rw [H1.out] at hq | rw [H2.out] at hq | rw [HO.out] at hq | rw [H4.out] at hq); (first | (obtain ⟨rfl, a, c, hl, ha, hp⟩ := hq; have HL := Lib.hid hl; have HA := Lib.hid ha; clear hl ha; simp only [List.cons_append, List.nil_append, Rb, Ib] at hp) | (obtain ⟨rfl, hp⟩ := hq; simp only [List.cons_append, List.nil_append] at hp))) | (go_at_call 125; have hst : RdSt w0 br bi _ [] _ _ := RdSt.front (K := [_, _]) (L := L) ⟨_, _, HL.out, HA.out, hp⟩; (with_reducible refine (many125 br bi k 256 HK1.out HK2.out _ hst).mono ?_); clear hst; clear hp HL HA; rintro e w1 hq; rw [H5.out] at hq; first | (obtain ⟨vo, os1, Ro, Mo, rfl, hol, hos, hro, hmo, a, c, hl, ha, hp⟩ := hq; subst hol; obtain ⟨oa, oc, rfl, _⟩ := hro.kept; have HL := Lib.hid hl; have HA := Lib.hid ha; have HOS := Lib.hid hos; have HRO := Lib.hid hro; have HMO := Lib.hid hmo; clear hl ha hos hro hmo; simp only [List.cons_append, List.nil_append, Rb, Ib] at hp; replace hp := front2 hp) | (obtain ⟨rfl, hp⟩ := hq; simp only [List.cons_append, List.nil_append] at hp)) | go_skip | (first | (refine hA1 ?_; clear hp; intro b w1 hp) | refine hL0 ?_ | (refine hS0 ?_; clear hp; intro w1 hp))); refine ⟨rfl, ?_⟩; show HeapPost w0 br bi (heapR1 od nx b2) L _ _; rw [HR.out]; exact ⟨rfl, hp.kp⟩
              | some q5 =>
                obtain ⟨os, b5⟩ := q5
                have H5 := Lib.hid h5
                have hall := rep_all (P := fun x => ObFit x ∧ x.ws.length ≤ 32 ∧ x.ls.length ≤ 16) (fun _ _ _ h => obj_fit h) h5
                have hosl := repR_len h5
                have HFT : RowKit.Hid (∀ {l : List Ob}, ObsSm l os → l.length ≤ 600 ∧ (∀ x ∈ l, ObFit x) ∧ ObsSmall l) := Lib.hid (fun h => by
                  have h1 := sm_fit h hall
                  have h2 := h.1
                  have h3 := HK3.out
                  exact ⟨by omega, fun x hx => (h1 x hx).1, by omega, fun x hx => ⟨by have := (h1 x hx).2.1; omega, by have := (h1 x hx).2.2; omega⟩⟩)
                have HE3 : RowKit.Hid (heapR1 od nx b2 = heapR3 od nx l os b5) := Lib.hid (by rw [HE1.out, HE2.out, h5])
                clear h5 hall hosl
                cases hr : regionB od with
                | false =>
                  have HRG := Lib.hid hr
                  have HR : RowKit.Hid (heapR1 od nx b2 = none) := Lib.hid (by rw [HE3.out]; unfold heapR3; rw [hr, if_neg (by decide)])
                  clear hr
                  go_wp2_with (first | (go_at_call 87; refine (inn87 br bi _ (K := [_, _]) (L := L) ⟨_, _, HL.out, HA.out, hp⟩).mono ?_; clear hp HL HA; rintro e w1 hq; (first | rw [H1.out] at hq | rw [H2.out] at hq | rw [HO.out] at hq | rw [H4.out] at hq); (first | (obtain ⟨rfl, a, c, hl, ha, hp⟩ := hq; have HL := Lib.hid hl; have HA := Lib.hid ha; clear hl ha; simp only [List.cons_append, List.nil_append, Rb, Ib] at hp) | (obtain ⟨rfl, hp⟩ := hq; simp only [List.cons_append, List.nil_append] at hp))) | (go_at_call 125; have hst : RdSt w0 br bi _ [] _ _ := RdSt.front (K := [_, _]) (L := L) ⟨_, _, HL.out, HA.out, hp⟩; (with_reducible refine (many125 br bi k 256 HK1.out HK2.out _ hst).mono ?_); clear hst; clear hp HL HA; rintro e w1 hq; rw [H5.out] at hq; first | (obtain ⟨vo, os1, Ro, Mo, rfl, hol, hos, hro, hmo, a, c, hl, ha, hp⟩ := hq; subst hol; obtain ⟨oa, oc, rfl, _⟩ := hro.kept; have HL := Lib.hid hl; have HA := Lib.hid ha; have HOS := Lib.hid hos; have HRO := Lib.hid hro; have HMO := Lib.hid hmo; clear hl ha hos hro hmo; simp only [List.cons_append, List.nil_append, Rb, Ib] at hp; replace hp := front2 hp) | (obtain ⟨rfl, hp⟩ := hq; simp only [List.cons_append, List.nil_append] at hp)) | (go_at_call 127; (with_reducible refine (all127_no od HRG.out _).mono ?_); rintro e w1 ⟨rfl, hb⟩; replace hp := hp.call hb; clear hb) | (go_at_call 89; first | ((with_reducible refine (is89 _).mono ?_); rintro e w' ⟨rfl, rfl⟩) | ((with_reducible refine (is89_no _).mono ?_); rintro e w' ⟨rfl, rfl⟩)) | go_skip | (first | (refine hA1 ?_; clear hp; intro b w1 hp) | refine hL0 ?_ | (refine hS0 ?_; clear hp; intro w1 hp)))
                  refine ⟨rfl, ?_⟩; show HeapPost w0 br bi (heapR1 od nx b2) L _ _; rw [HR.out]; exact ⟨rfl, hp.kp⟩
                | true =>
                  have HRG := Lib.hid hr
                  have hrr : 3 ≤ od ∧ od ≤ 8 := by unfold regionB at hr; simpa using hr
                  have HR3 := Lib.hid hrr.1
                  have HR8 := Lib.hid hrr.2
                  clear hr hrr
                  go_wp2_with (first | (go_at_call 87; refine (inn87 br bi _ (K := [_, _]) (L := L) ⟨_, _, HL.out, HA.out, hp⟩).mono ?_; clear hp HL HA; rintro e w1 hq; (first | rw [H1.out] at hq | rw [H2.out] at hq | rw [HO.out] at hq | rw [H4.out] at hq); (first | (obtain ⟨rfl, a, c, hl, ha, hp⟩ := hq; have HL := Lib.hid hl; have HA := Lib.hid ha; clear hl ha; simp only [List.cons_append, List.nil_append, Rb, Ib] at hp) | (obtain ⟨rfl, hp⟩ := hq; simp only [List.cons_append, List.nil_append] at hp))) | (go_at_call 125; have hst : RdSt w0 br bi _ [] _ _ := RdSt.front (K := [_, _]) (L := L) ⟨_, _, HL.out, HA.out, hp⟩; (with_reducible refine (many125 br bi k 256 HK1.out HK2.out _ hst).mono ?_); clear hst; clear hp HL HA; rintro e w1 hq; rw [H5.out] at hq; first | (obtain ⟨vo, os1, Ro, Mo, rfl, hol, hos, hro, hmo, a, c, hl, ha, hp⟩ := hq; subst hol; obtain ⟨oa, oc, rfl, _⟩ := hro.kept; have HL := Lib.hid hl; have HA := Lib.hid ha; have HOS := Lib.hid hos; have HRO := Lib.hid hro; have HMO := Lib.hid hmo; clear hl ha hos hro hmo; simp only [List.cons_append, List.nil_append, Rb, Ib] at hp; replace hp := front2 hp) | (obtain ⟨rfl, hp⟩ := hq; simp only [List.cons_append, List.nil_append] at hp)) | (go_at_call 127; (with_reducible refine (all127_yes od HRG.out _).mono ?_); rintro e w1 ⟨bf, rfl, hf, hb⟩; replace hp := hp.adopt hb hf; clear hb hf) | (go_at_call 89; first | ((with_reducible refine (is89 _).mono ?_); rintro e w' ⟨rfl, rfl⟩) | ((with_reducible refine (is89_no _).mono ?_); rintro e w' ⟨rfl, rfl⟩)) | (go_at_call 128; (with_reducible refine (left_call od HR3.out HR8.out os1 oa oc (HFT.out HOS.out).1 (HFT.out HOS.out).2.1 HRO.out.keptS hp).mono ?_); clear hp; rintro e w1 ⟨fa, fc, fs, Rf, rfl, hfs, hrf, hp⟩; have HFS := Lib.hid hfs; have HRF := Lib.hid hrf; clear hfs hrf) | go_skip | (first | (refine hA1 ?_; clear hp; intro b w1 hp) | refine hL0 ?_ | (refine hS0 ?_; clear hp; intro w1 hp)))
                  have hsm : Hv.Sm ⟨od, oa, os1, oc, nx, t0, t1, t2, t3, fa, fs, fc⟩ (mkHv od os nx l (lfN (pw od) os od.toNat 0)) := ⟨rfl, rfl, HTS.out.1, HTS.out.2.1, HTS.out.2.2.1, HTS.out.2.2.2, HOS.out, by rw [HFS.out]; exact lf_sm HOS.out _ _⟩
                  have HSM := Lib.hid hsm
                  have HSS : RowKit.Hid (Hv.Small ⟨od, oa, os1, oc, nx, t0, t1, t2, t3, fa, fs, fc⟩) := Lib.hid ⟨(HFT.out HOS.out).2.2, by simp only; rw [HFS.out]; have := lf_len (os := os1) HR3.out HR8.out; omega⟩
                  have HIS : RowKit.Hid (Kept (Ro ++ (Rf ++ Mo)) fun w => Hv.Is w ⟨od, oa, os1, oc, nx, t0, t1, t2, t3, fa, fs, fc⟩) := Lib.hid (HvR.kept ⟨HRO.out, HRF.out, HMO.out⟩)
                  obtain ⟨b, hb⟩ : ∃ b, hrightB ⟨od, oa, os1, oc, nx, t0, t1, t2, t3, fa, fs, fc⟩ = b := ⟨_, rfl⟩
                  have HB := Lib.hid hb
                  have HE4 : RowKit.Hid (heapR1 od nx b2 = if b = true then some (mkHv od os nx l (lfN (pw od) os od.toNat 0), b5) else none) := Lib.hid (by rw [HE3.out]; unfold heapR3; rw [HRG.out, if_pos rfl, ← hright_sm hsm, hb])
                  clear hsm hb
                  cases b with
                  | false =>
                    have HR : RowKit.Hid (heapR1 od nx b2 = none) := Lib.hid (by rw [HE4.out, if_neg (by decide)])
                    go_wp2_with (first | (go_at_call 110; (with_reducible refine (check110L od oa os1 oc nx t0 t1 t2 t3 fa fs fc _ HB.out HSS.out _ (HIS.out.at hp (fun p hm => by simp only [List.mem_append, List.mem_cons] at hm ⊢; rcases hm with hm | hm | hm <;> simp [hm]))).mono ?_); rintro e w1 ⟨rfl, hb⟩; replace hp := hp.call hb; clear hb; simp only [errI, if_true, Bool.false_eq_true, if_false]) | (go_at_call 89; first | ((with_reducible refine (is89 _).mono ?_); rintro e w' ⟨rfl, rfl⟩) | ((with_reducible refine (is89_no _).mono ?_); rintro e w' ⟨rfl, rfl⟩)) | go_skip | (first | (refine hA1 ?_; clear hp; intro b w1 hp) | refine hL0 ?_ | (refine hS0 ?_; clear hp; intro w1 hp)))
                    refine ⟨rfl, ?_⟩; show HeapPost w0 br bi (heapR1 od nx b2) L _ _; rw [HR.out]; exact ⟨rfl, hp.kp⟩
                  | true =>
                    have HR : RowKit.Hid (heapR1 od nx b2 = some (mkHv od os nx l (lfN (pw od) os od.toNat 0), b5)) := Lib.hid (by rw [HE4.out, if_pos rfl])
                    go_wp2_with (first | (go_at_call 110; (with_reducible refine (check110L od oa os1 oc nx t0 t1 t2 t3 fa fs fc _ HB.out HSS.out _ (HIS.out.at hp (fun p hm => by simp only [List.mem_append, List.mem_cons] at hm ⊢; rcases hm with hm | hm | hm <;> simp [hm]))).mono ?_); rintro e w1 ⟨rfl, hb⟩; replace hp := hp.call hb; clear hb; simp only [errI, if_true, Bool.false_eq_true, if_false]) | (go_at_call 89; first | ((with_reducible refine (is89 _).mono ?_); rintro e w' ⟨rfl, rfl⟩) | ((with_reducible refine (is89_no _).mono ?_); rintro e w' ⟨rfl, rfl⟩)) | go_skip | (first | (refine hA1 ?_; clear hp; intro b w1 hp) | refine hL0 ?_ | (refine hS0 ?_; clear hp; intro w1 hp)))
                    refine bodyPost_ret (results_one (rs := [.cell 2 83]) Tryz.results104 (.cell rfl (hp.loadAgg agg83 at1 0 _ (by rfl) (by rfl)) .nil)) rfl ?_
                    show HeapPost w0 br bi (heapR1 od nx b2) L _ _
                    rw [HR.out]
                    exact ⟨⟨od, oa, os1, oc, nx, t0, t1, t2, t3, fa, fs, fc⟩, Ro, Rf, Mo, rfl, HSM.out, ⟨HRO.out, HRF.out, HMO.out⟩, RdSt.mk6 HL.out HA.out hp⟩
end Go.Proofs.YtcjbepaclbhjaaaGreat

import Derived.Test.YtaafajaadfgaoaaGreatFp15
import Derived.Test.YtaafajaadfgaoaaGreatFp12
import Derived.Test.YtaafajaadfgaoaaGreatFp16
import Derived.Test.YtaafajaadfgaoaaGreatFp10
set_option linter.unusedSimpArgs false
set_option linter.unusedVariables false
set_option maxRecDepth 100000
set_option maxHeartbeats 60000000
namespace Go.Proofs.YtaafajaadfgaoaaGreat
open Go.RowKit
theorem zbo {ty : TypeId} (h : zB Tryz.prog ty = true := by with_reducible first | exact zq | exact zA | exact za8 | exact zcq | exact Ze) : zB Tryz.prog ty = true := h
theorem znP {l k : List Ob} (h : Z7 l k) : l.map zaE = k.map zaE := by
 apply List.ext_getElem?
 intro i
 rw [List.getElem?_map, List.getElem?_map]
 rcases Nat.lt_or_ge i l.length with hi | hi
 ·have ha := List.getElem?_eq_getElem hi
  have hb := List.getElem?_eq_getElem (l := k) (i := i) (by have := h.1; omega)
  obtain ⟨_, h2, h3, _⟩ := h.2 i _ _ ha hb
  rw [ha, hb]
  simp only [Option.map_some, zaE, h2, h3]
 ·rw [List.getElem?_eq_none hi, List.getElem?_eq_none (by have := h.1; omega)]
theorem zhM (sz : Int) (os : List Ob) (b : Bl) : zjT sz os b = (os.map zaE).any fun x => decide (x.p ≤ sz) && (decide (b.p < x.p + pw x.o) && decide (x.p < b.p + pw b.o)) := by
 unfold zjT; rw [List.any_map]; rfl
theorem zjL {sz : Int} {l k : List Ob} (h : Z7 l k) : ∀ (n : Nat) (p : Int), lfN sz l n p = lfN sz k n p
 | 0, p => by unfold lfN; rw [zhM, zhM, znP h]
 | n + 1, p => by unfold lfN; rw [zhM, zhM, znP h, zjL h n p, zjL h n (p + pw n)]
theorem zjX {bs r : List Nat} {o : Ob} (h : zc8 bs = some (o, r)) : zdi o ∧ o.ws.length ≤ 32 ∧ o.ls.length ≤ 16 := by
 unfold zc8 at h
 split at h
 ·cases h
 ·split at h
  ·cases h
  ·rename_i q2 p b2 h2
   split at h
   ·cases h
   ·rename_i q3 nw b3 h3
    split at h
    ·cases h
    ·rename_i q4 nl b4 h4
     split at h
     ·cases h
     ·rename_i hneg
      split at h
      ·cases h
      ·rename_i q5 ws b5 h5
       split at h
       ·cases h
       ·rename_i q6 ls b6 h6
        injection h with h
        injection h with h _
        subst h
        obtain ⟨v, rfl, hv⟩ := zeH h2
        obtain ⟨vw, rfl, _⟩ := zeH h3
        obtain ⟨vl, rfl, _⟩ := zeH h4
        have hr := zhi vw vl
        have hok := zdu (a := vw) (b := vl) (by omega)
        have l1 := zbp h5
        have l2 := zbp h6
        refine ⟨⟨?_, ?_, ?_, ?_⟩, ?_, ?_⟩ <;> simp only [zn1] <;> omega
theorem zhn {α : Type} {one : List Nat → Option (α × List Nat)} {P : α → Prop} (h1 : ∀ bs x r, one bs = some (x, r) → P x) : ∀ {n : Nat} {bs : List Nat} {l : List α} {r : List Nat}, zal one n bs = some (l, r) → ∀ x ∈ l, P x
 | 0, _, _, _, h, x, hx => by unfold zal at h; injection h with h; injection h with h _; rw [← h] at hx; cases hx
 | n + 1, bs, l, r, h, x, hx => by
  unfold zal at h
  cases hq : zal one n bs with
  | none => rw [hq] at h; cases h
  | some p =>
   obtain ⟨l1, b1⟩ := p
   rw [hq] at h
   simp only at h
   cases h2 : one b1 with
   | none => rw [h2] at h; cases h
   | some q =>
    obtain ⟨y, b2⟩ := q
    rw [h2] at h
    injection h with h; injection h with h _
    rw [← h] at hx
    rcases List.mem_append.1 hx with hx | hx
    ·exact zhn h1 hq x hx
    ·rw [List.mem_singleton.1 hx]; exact h1 _ _ _ h2
theorem zl8 {l k : List Ob} (h : Z7 l k) (hf : ∀ x ∈ k, zdi x ∧ x.ws.length ≤ 32 ∧ x.ls.length ≤ 16) : ∀ x ∈ l, zdi x ∧ x.ws.length ≤ 32 ∧ x.ls.length ≤ 16 := by
 intro x hx
 obtain ⟨i, hi, rfl⟩ := List.getElem_of_mem hx
 have hb := List.getElem?_eq_getElem (l := k) (i := i) (by have := h.1; omega)
 obtain ⟨_, h2, h3, h4, h5⟩ := h.2 i _ _ (List.getElem?_eq_getElem hi) hb
 have := hf _ (List.mem_of_getElem? hb)
 unfold zdi at this ⊢
 rw [h2, h3, h4, h5]
 exact this
def zlh (od : Int) (os : List Ob) (nx : Int) (ts : List Int) (fs : List Bl) : Hv := ⟨od, none, os, 0, nx, ts.getD 0 0, ts.getD 1 0, ts.getD 2 0, ts.getD 3 0, none, fs, 0⟩
noncomputable def zcA (od nx : Int) (ts : List Int) (os : List Ob) (b5 : List Nat) : Option (Hv × List Nat) :=
 if Zg od = true then (if Zk (zlh od os nx ts (lfN (pw od) os od.toNat 0)) = true then some (zlh od os nx ts (lfN (pw od) os od.toNat 0), b5) else none) else none
noncomputable def zc0 (od nx : Int) (ts : List Int) (b3 : List Nat) : Option (Hv × List Nat) := match nR b3 with
 | none => none
 | some (k, b4) => if 256 < k then none else match zal zc8 k.toNat b4 with
  | none => none
  | some (os, b5) => zcA od nx ts os b5
noncomputable def zae (od nx : Int) (b2 : List Nat) : Option (Hv × List Nat) := match zal nR 4 b2 with
 | none => none
 | some (ts, b3) => zc0 od nx ts b3
noncomputable def zba (bs : List Nat) : Option (Hv × List Nat) := match nR bs with
 | none => none
 | some (od, b1) => match nR b1 with
  | none => none
  | some (nx, b2) => zae od nx b2
def zbH (w0 : World) (br bi : Nat) (r : Option (Hv × List Nat)) (L : List Blk) (e : Ending) (w' : World) : Prop :=
 match r with
 | some (x, bs') => ∃ y RO RF M, e = .returned (.agg (hvL y).toArray) ∧ y.Sm x ∧ HvR y RO RF M ∧ ZZ w0 br bi bs' [] (RO ++ (RF ++ (M ++ L))) w'
 | none => e = .panicked zfB ∧ Hp w0.heap.size w0 w' L
theorem znU {l : List Int} {t0 t1 t2 t3 : Int} (hl : l.length = 4) (h : [t0, t1, t2, t3] = (l ++ [0, 0, 0, 0]).take 4) : t0 = l.getD 0 0 ∧ t1 = l.getD 1 0 ∧ t2 = l.getD 2 0 ∧ t3 = l.getD 3 0 := by
 match l, hl with
 | [a, b, c, d], _ => simp at h ⊢; exact h
theorem ZZ.mk6 {w0 w : World} {br bi c : Nat} {a : Option Addr} {bs : List Nat} {x y : Blk} {Ro Rf Mo L : List Blk} (h1 : bs.length ≤ c) (h2 : zaw w0 a bs)
  (hp : Hp w0.heap.size w0 w (x :: y :: ⟨br, [.slice a bs.length c], 210, 1⟩ :: ⟨bi, [.pointer (some ⟨br, 0, none⟩)], 144, 1⟩ :: (Rf ++ (Ro ++ (Mo ++ L))))) : ZZ w0 br bi bs [] (Ro ++ (Rf ++ (Mo ++ L))) w :=
 ⟨a, c, h1, h2, (show Hp w0.heap.size w0 w (x :: y :: Rb br a bs.length c :: Ib bi br :: (Rf ++ (Ro ++ (Mo ++ L)))) from hp).kp⟩
theorem zjt {B : Nat} {w0 w : World} {x y r i : Blk} {Ro Mo L : List Blk} (hp : Hp B w0 w (r :: i :: (Ro ++ (Mo ++ (x :: y :: L))))) : Hp B w0 w (x :: y :: r :: i :: (Ro ++ (Mo ++ L))) := hp.kp
theorem zjH (od : Int) (h3 : 3 ≤ od) (h8 : od ≤ 8) (os : List Ob) (oa : Option Addr) (oc : Nat) (hol : os.length ≤ 600) (hob : ∀ x ∈ os, zdi x) {B : Nat} {w0 w : World} {bf : Nat} {x y r i : Blk} {Ro Mo L : List Blk} (hro : zaG Ro fun w => zr w oa (os.flatMap obV))
  (hp : Hp B w0 w (⟨bf, [.int .i64 0, .int .i64 od], 124, 2⟩ :: x :: y :: r :: i :: (Ro ++ (Mo ++ L)))) :
  Calls Tryz.prog 183 #[.int .i64 od, .slice (some ⟨bf, 0, none⟩) 1 1, .slice oa os.length oc] w fun e w' => ∃ fa fc fs Rf, e = .returned (.slice fa fs.length fc) ∧ fs = lfN (pw od) os od.toNat 0 ∧ zJ 124 2 (.slice fa fs.length fc) fs.length (fs.flatMap blV) Rf ∧ Hp B w0 w' (x :: y :: r :: i :: (Rf ++ (Ro ++ (Mo ++ L)))) := by
 refine (zmC od h3 h8 os oa oc hol hob (.slice (some ⟨bf, 0, none⟩) 1 1) (R := [⟨bf, [.int .i64 0, .int .i64 od], 124, 2⟩]) (L := x :: y :: r :: i :: (Ro ++ (Mo ++ L))) ⟨rfl, .inr ⟨bf, 0, 1, [], rfl, Nat.le_refl _, by decide, rfl, rfl⟩⟩
  (fun w1 L1 hp1 hm => hro.at hp1 (fun p hp2 => hm p (by simp [hp2]))) hp).mono fun e w' h => ?_
 obtain ⟨v, R, he, hr, hp'⟩ := h
 obtain ⟨fa, fc, rfl, _⟩ := hr.kept
 exact ⟨fa, fc, _, R, he, rfl, hr, hp'.kp⟩
def zmd (w0 : World) (br bi b3 b2 : Nat) (od nx : Int) (bs : List Nat) (L : List Blk) (j : Nat) (wr : World) : Prop :=
 ∃ (l : List Int) (b1 : List Nat) (t0 t1 t2 t3 : Int) (a : Option Addr) (c : Nat), Hid (zal nR j bs = some (l, b1)) ∧ Hid ([t0, t1, t2, t3] = (l ++ [0, 0, 0, 0]).take 4) ∧ Hid (b1.length ≤ c) ∧ Hid (zaw w0 a b1) ∧
  Hp w0.heap.size w0 wr (⟨b3, [.int .i64 od, .slice none 0 0, .int .i64 nx, .int .i64 t0, .int .i64 t1, .int .i64 t2, .int .i64 t3, .slice none 0 0], 47, 8⟩ :: ⟨b2, [.int .i64 0, .slice none 0 0, .int .i64 0, .int .i64 0, .int .i64 0, .int .i64 0, .int .i64 0, .slice none 0 0], 47, 8⟩ :: ⟨br, [.slice a b1.length c], 210, 1⟩ :: ⟨bi, [.pointer (some ⟨br, 0, none⟩)], 144, 1⟩ :: L)
theorem zjB (br bi : Nat) (bs : List Nat) {w0 w : World} {L : List Blk} (hs : ZZ w0 br bi bs [] L w) :
  Calls Tryz.prog 112 #[.pointer (some ⟨bi, 0, none⟩)] w (zbH w0 br bi (zba bs) L) := by
 obtain ⟨a, c, hl, ha, hp⟩ := hs
 have HL := z0j hl
 have HA := z0j ha
 clear hl ha
 simp only [z0e, Rb, Ib] at hp
 unfold zba
 cases h1 : nR bs with
 | none => have H1 := z0j h1; clear h1; simp only; go_enter Tryz.func112, Tryz.ntmps112; go_wp2_with (first | (go_at_call 103; refine (Z3 br bi _ (K := [_, _]) (L := L) ⟨_, _, HL.out, HA.out, hp⟩).mono ?_; clear hp HL HA; rintro e w1 hq; (first | rw [H1.out] at hq | rw [H2.out] at hq | rw [HO.out] at hq | rw [H4.out] at hq); (first | (obtain ⟨rfl, a, c, hl, ha, hp⟩ := hq; have HL := z0j hl; have HA := z0j ha; clear hl ha; simp only [z0f, z0e, Rb, Ib] at hp) | (obtain ⟨rfl, hp⟩ := hq; simp only [z0f, z0e] at hp))) | go_skip | ((first | ((refine zg _ rfl ?_); refine lZ hp rfl ZA ?_; clear hp; intro b w1 hp) | ((refine zh _ _ rfl ?_); refine lB hp rfl (za rfl) rfl ?_; clear hp; intro b w1 hp) | ((refine zf _ _ rfl ?_); first | refine lO hp rfl (za rfl) zbo aa5 ?_ | refine lA hp rfl (za rfl) (by with_reducible first | exact zN | exact zak) aa5 ?_) | ((refine zd _ _ _ rfl ?_); (first | refine sO hp rfl (za rfl) zbo aa5 ?_ | refine sA hp rfl (za rfl) (za rfl) (by with_reducible first | exact zN | exact zak) aa5 ?_ | refine sG hp rfl (za rfl) (za rfl) (by with_reducible first | exact zN | exact zak) aa5 ?_); clear hp; intro w1 hp; simp only [spl, z0a, z0b] at hp)); simp only [zc, zb, z0b, z0a])); exact ⟨rfl, rfl, hp.kp⟩
 | some q1 =>
  obtain ⟨od, b1⟩ := q1
  have H1 := z0j h1
  clear h1
  simp only
  cases h2 : nR b1 with
  | none => have H2 := z0j h2; clear h2; simp only; go_enter Tryz.func112, Tryz.ntmps112; go_wp2_with (first | (go_at_call 103; refine (Z3 br bi _ (K := [_, _]) (L := L) ⟨_, _, HL.out, HA.out, hp⟩).mono ?_; clear hp HL HA; rintro e w1 hq; (first | rw [H1.out] at hq | rw [H2.out] at hq | rw [HO.out] at hq | rw [H4.out] at hq); (first | (obtain ⟨rfl, a, c, hl, ha, hp⟩ := hq; have HL := z0j hl; have HA := z0j ha; clear hl ha; simp only [z0f, z0e, Rb, Ib] at hp) | (obtain ⟨rfl, hp⟩ := hq; simp only [z0f, z0e] at hp))) | go_skip | ((first | ((refine zg _ rfl ?_); refine lZ hp rfl ZA ?_; clear hp; intro b w1 hp) | ((refine zh _ _ rfl ?_); refine lB hp rfl (za rfl) rfl ?_; clear hp; intro b w1 hp) | ((refine zf _ _ rfl ?_); first | refine lO hp rfl (za rfl) zbo aa5 ?_ | refine lA hp rfl (za rfl) (by with_reducible first | exact zN | exact zak) aa5 ?_) | ((refine zd _ _ _ rfl ?_); (first | refine sO hp rfl (za rfl) zbo aa5 ?_ | refine sA hp rfl (za rfl) (za rfl) (by with_reducible first | exact zN | exact zak) aa5 ?_ | refine sG hp rfl (za rfl) (za rfl) (by with_reducible first | exact zN | exact zak) aa5 ?_); clear hp; intro w1 hp; simp only [spl, z0a, z0b] at hp)); simp only [zc, zb, z0b, z0a])); exact ⟨rfl, rfl, hp.kp⟩
  | some q2 =>
   obtain ⟨nx, b2⟩ := q2
   have H2 := z0j h2
   clear h2
   simp only
   go_enter Tryz.func112, Tryz.ntmps112; go_wp2_with (first | (go_at_call 103; refine (Z3 br bi _ (K := [_, _]) (L := L) ⟨_, _, HL.out, HA.out, hp⟩).mono ?_; clear hp HL HA; rintro e w1 hq; (first | rw [H1.out] at hq | rw [H2.out] at hq | rw [HO.out] at hq | rw [H4.out] at hq); (first | (obtain ⟨rfl, a, c, hl, ha, hp⟩ := hq; have HL := z0j hl; have HA := z0j ha; clear hl ha; simp only [z0f, z0e, Rb, Ib] at hp) | (obtain ⟨rfl, hp⟩ := hq; simp only [z0f, z0e] at hp))) | go_skip | ((first | ((refine zg _ rfl ?_); refine lZ hp rfl ZA ?_; clear hp; intro b w1 hp) | ((refine zh _ _ rfl ?_); refine lB hp rfl (za rfl) rfl ?_; clear hp; intro b w1 hp) | ((refine zf _ _ rfl ?_); first | refine lO hp rfl (za rfl) zbo aa5 ?_ | refine lA hp rfl (za rfl) (by with_reducible first | exact zN | exact zak) aa5 ?_) | ((refine zd _ _ _ rfl ?_); (first | refine sO hp rfl (za rfl) zbo aa5 ?_ | refine sA hp rfl (za rfl) (za rfl) (by with_reducible first | exact zN | exact zak) aa5 ?_ | refine sG hp rfl (za rfl) (za rfl) (by with_reducible first | exact zN | exact zak) aa5 ?_); clear hp; intro w1 hp; simp only [spl, z0a, z0b] at hp)); simp only [zc, zb, z0b, z0a]))
   obtain ⟨bh, rfl⟩ := hp.id0
   obtain ⟨bz, rfl⟩ := hp.id1
   go_loopg [13] 4 (fun k i wr => ∃ j : Nat, k + j = 4 ∧ i = .int .i64 j ∧ zmd w0 br bi bh bz od nx b2 L j wr)
   case atStart => exact ⟨0, by omega, rfl, [], b2, 0, 0, 0, 0, _, _, z0j rfl, z0j rfl, HL, HA, hp⟩
   case round =>
    clear hp HL HA H1 H2
    obtain ⟨j, hkj, rfl, l, b1, t0, t1, t2, t3, a, c, HQ, HT, HL, HA, hp⟩ := hrel
    by_cases hlt : j < 4
    ·cases ho : nR b1 with
     | none =>
      have HF := zbf HQ.out ho 4 hlt
      have HR : Hid (zae od nx b2 = none) := z0j (by unfold zae; rw [HF])
      have HO := z0j ho
      clear ho HF
      have f1 : (0 : Int) ≤ (j : Int) := by omega
      have f2 : (j : Int) < 4 := by omega
      go_wp2_with (first | (go_at_call 103; refine (Z3 br bi _ (K := [_, _]) (L := L) ⟨_, _, HL.out, HA.out, hp⟩).mono ?_; clear hp HL HA; rintro e w1 hq; (first | rw [H1.out] at hq | rw [H2.out] at hq | rw [HO.out] at hq | rw [H4.out] at hq); (first | (obtain ⟨rfl, a, c, hl, ha, hp⟩ := hq; have HL := z0j hl; have HA := z0j ha; clear hl ha; simp only [z0f, z0e, Rb, Ib] at hp) | (obtain ⟨rfl, hp⟩ := hq; simp only [z0f, z0e] at hp))) | go_skip | ((first | ((refine zg _ rfl ?_); refine lZ hp rfl ZA ?_; clear hp; intro b w1 hp) | ((refine zh _ _ rfl ?_); refine lB hp rfl (za rfl) rfl ?_; clear hp; intro b w1 hp) | ((refine zf _ _ rfl ?_); first | refine lO hp rfl (za rfl) zbo aa5 ?_ | refine lA hp rfl (za rfl) (by with_reducible first | exact zN | exact zak) aa5 ?_) | ((refine zd _ _ _ rfl ?_); (first | refine sO hp rfl (za rfl) zbo aa5 ?_ | refine sA hp rfl (za rfl) (za rfl) (by with_reducible first | exact zN | exact zak) aa5 ?_ | refine sG hp rfl (za rfl) (za rfl) (by with_reducible first | exact zN | exact zak) aa5 ?_); clear hp; intro w1 hp; simp only [spl, z0a, z0b] at hp)); simp only [zc, zb, z0b, z0a]))
      refine ⟨rfl, ?_⟩; show zbH w0 br bi (zae od nx b2) L _ _; rw [HR.out]; exact ⟨rfl, hp.kp⟩
     | some p =>
      obtain ⟨x, b5⟩ := p
      have HO := z0j ho
      have HN := z0j (zbg HQ.out ho)
      have hll := zbp HQ.out
      clear ho
      rcases l with _ | ⟨a0, _ | ⟨a1, _ | ⟨a2, _ | ⟨a3, l⟩⟩⟩⟩
      all_goals simp only [z0g, z0h] at hll
      case cons.cons.cons.cons => omega
      all_goals
       subst hll
       have ht := HT.out
       simp at ht
       obtain ⟨rfl, rfl, rfl, rfl⟩ := ht
       go_wp2_with (first | (go_at_call 103; refine (Z3 br bi _ (K := [_, _]) (L := L) ⟨_, _, HL.out, HA.out, hp⟩).mono ?_; clear hp HL HA; rintro e w1 hq; (first | rw [H1.out] at hq | rw [H2.out] at hq | rw [HO.out] at hq | rw [H4.out] at hq); (first | (obtain ⟨rfl, a, c, hl, ha, hp⟩ := hq; have HL := z0j hl; have HA := z0j ha; clear hl ha; simp only [z0f, z0e, Rb, Ib] at hp) | (obtain ⟨rfl, hp⟩ := hq; simp only [z0f, z0e] at hp))) | go_skip | ((first | ((refine zg _ rfl ?_); refine lZ hp rfl ZA ?_; clear hp; intro b w1 hp) | ((refine zh _ _ rfl ?_); refine lB hp rfl (za rfl) rfl ?_; clear hp; intro b w1 hp) | ((refine zf _ _ rfl ?_); first | refine lO hp rfl (za rfl) zbo aa5 ?_ | refine lA hp rfl (za rfl) (by with_reducible first | exact zN | exact zak) aa5 ?_) | ((refine zd _ _ _ rfl ?_); (first | refine sO hp rfl (za rfl) zbo aa5 ?_ | refine sA hp rfl (za rfl) (za rfl) (by with_reducible first | exact zN | exact zak) aa5 ?_ | refine sG hp rfl (za rfl) (za rfl) (by with_reducible first | exact zN | exact zak) aa5 ?_); clear hp; intro w1 hp; simp only [spl, z0a, z0b] at hp)); simp only [zc, zb, z0b, z0a]))
       go_roundg (gk - 1)
       case measure => omega
       case rel => exact ⟨_, by omega, by go_num, _, b5, _, _, _, _, _, _, HN, z0j rfl, HL, HA, hp⟩
    ·obtain rfl : j = 4 := by omega
     have hll := zbp HQ.out
     obtain ⟨g0, g1, g2, g3⟩ := znU hll HT.out
     have HTS := z0j (show t0 = l.getD 0 0 ∧ t1 = l.getD 1 0 ∧ t2 = l.getD 2 0 ∧ t3 = l.getD 3 0 from ⟨g0, g1, g2, g3⟩)
     have HE1 : Hid (zae od nx b2 = zc0 od nx l b1) := z0j (by unfold zae; rw [HQ.out])
     have f2 : decide (((4 : Nat) : Int) < 4) = false := by decide
     clear hkj hlt g0 g1 g2 g3 hll HT HQ
     cases h4 : nR b1 with
     | none => have H4 := z0j h4; have HR : Hid (zae od nx b2 = none) := z0j (by rw [HE1.out]; unfold zc0; rw [h4]); clear h4; go_wp2_with (first | (go_at_call 103; refine (Z3 br bi _ (K := [_, _]) (L := L) ⟨_, _, HL.out, HA.out, hp⟩).mono ?_; clear hp HL HA; rintro e w1 hq; (first | rw [H1.out] at hq | rw [H2.out] at hq | rw [HO.out] at hq | rw [H4.out] at hq); (first | (obtain ⟨rfl, a, c, hl, ha, hp⟩ := hq; have HL := z0j hl; have HA := z0j ha; clear hl ha; simp only [z0f, z0e, Rb, Ib] at hp) | (obtain ⟨rfl, hp⟩ := hq; simp only [z0f, z0e] at hp))) | go_skip | ((first | ((refine zg _ rfl ?_); refine lZ hp rfl ZA ?_; clear hp; intro b w1 hp) | ((refine zh _ _ rfl ?_); refine lB hp rfl (za rfl) rfl ?_; clear hp; intro b w1 hp) | ((refine zf _ _ rfl ?_); first | refine lO hp rfl (za rfl) zbo aa5 ?_ | refine lA hp rfl (za rfl) (by with_reducible first | exact zN | exact zak) aa5 ?_) | ((refine zd _ _ _ rfl ?_); (first | refine sO hp rfl (za rfl) zbo aa5 ?_ | refine sA hp rfl (za rfl) (za rfl) (by with_reducible first | exact zN | exact zak) aa5 ?_ | refine sG hp rfl (za rfl) (za rfl) (by with_reducible first | exact zN | exact zak) aa5 ?_); clear hp; intro w1 hp; simp only [spl, z0a, z0b] at hp)); simp only [zc, zb, z0b, z0a])); refine ⟨rfl, ?_⟩; show zbH w0 br bi (zae od nx b2) L _ _; rw [HR.out]; exact ⟨rfl, hp.kp⟩
     | some q4 =>
      obtain ⟨k, b4⟩ := q4
      have H4 := z0j h4
      clear h4
      obtain ⟨k, rfl, hk⟩ := zeH H4.out
      by_cases hk2 : (256 : Int) < (k : Int)
      ·have HK := z0j hk2
       have HR : Hid (zae od nx b2 = none) := z0j (by rw [HE1.out]; unfold zc0; rw [H4.out]; simp only; rw [if_pos hk2])
       clear hk2
       go_wp2_with (first | (go_at_call 103; refine (Z3 br bi _ (K := [_, _]) (L := L) ⟨_, _, HL.out, HA.out, hp⟩).mono ?_; clear hp HL HA; rintro e w1 hq; (first | rw [H1.out] at hq | rw [H2.out] at hq | rw [HO.out] at hq | rw [H4.out] at hq); (first | (obtain ⟨rfl, a, c, hl, ha, hp⟩ := hq; have HL := z0j hl; have HA := z0j ha; clear hl ha; simp only [z0f, z0e, Rb, Ib] at hp) | (obtain ⟨rfl, hp⟩ := hq; simp only [z0f, z0e] at hp))) | (go_at_call 181; (with_reducible refine (ziu bi k 256 HK.out _).mono ?_); rintro e w' ⟨rfl, rfl⟩) | go_skip | ((first | ((refine zg _ rfl ?_); refine lZ hp rfl ZA ?_; clear hp; intro b w1 hp) | ((refine zh _ _ rfl ?_); refine lB hp rfl (za rfl) rfl ?_; clear hp; intro b w1 hp) | ((refine zf _ _ rfl ?_); first | refine lO hp rfl (za rfl) zbo aa5 ?_ | refine lA hp rfl (za rfl) (by with_reducible first | exact zN | exact zak) aa5 ?_) | ((refine zd _ _ _ rfl ?_); (first | refine sO hp rfl (za rfl) zbo aa5 ?_ | refine sA hp rfl (za rfl) (za rfl) (by with_reducible first | exact zN | exact zak) aa5 ?_ | refine sG hp rfl (za rfl) (za rfl) (by with_reducible first | exact zN | exact zak) aa5 ?_); clear hp; intro w1 hp; simp only [spl, z0a, z0b] at hp)); simp only [zc, zb, z0b, z0a]))
       refine ⟨rfl, ?_⟩; show zbH w0 br bi (zae od nx b2) L _ _; rw [HR.out]; exact ⟨rfl, hp.kp⟩
      ·have HE2 : Hid (zc0 od nx l b1 = match zal zc8 k b4 with | none => none | some (os, b5) => zcA od nx l os b5) := z0j (by unfold zc0; rw [H4.out]; simp only; rw [if_neg hk2, Int.toNat_natCast])
       have HK1 : Hid ((k : Int) ≤ 256) := z0j (by omega)
       have HK2 : Hid (k ≤ 1000) := z0j (by omega)
       have HK3 : Hid (k ≤ 256) := z0j (by omega)
       clear hk hk2
       cases h5 : zal zc8 k b4 with
       | none => have H5 := z0j h5; have HR : Hid (zae od nx b2 = none) := z0j (by rw [HE1.out, HE2.out, h5]); clear h5; go_wp2_with (first | (go_at_call 103; refine (Z3 br bi _ (K := [_, _]) (L := L) ⟨_, _, HL.out, HA.out, hp⟩).mono ?_; clear hp HL HA; rintro e w1 hq; (first | rw [H1.out] at hq | rw [H2.out] at hq | rw [HO.out] at hq | rw [H4.out] at hq); (first | (obtain ⟨rfl, a, c, hl, ha, hp⟩ := hq; have HL := z0j hl; have HA := z0j ha; clear hl ha; simp only [z0f, z0e, Rb, Ib] at hp) | (obtain ⟨rfl, hp⟩ := hq; simp only [z0f, z0e] at hp))) | (go_at_call 181; have hst : ZZ w0 br bi _ [] _ _ := ZZ.front (K := [_, _]) (L := L) ⟨_, _, HL.out, HA.out, hp⟩; (with_reducible refine (zhc br bi k 256 HK1.out HK2.out _ hst).mono ?_); clear hst; clear hp HL HA; rintro e w1 hq; rw [H5.out] at hq; first | (obtain ⟨vo, os1, Ro, Mo, rfl, hol, hos, hro, hmo, a, c, hl, ha, hp⟩ := hq; subst hol; obtain ⟨oa, oc, rfl, _⟩ := hro.kept; have HL := z0j hl; have HA := z0j ha; have HOS := z0j hos; have HRO := z0j hro; have HMO := z0j hmo; clear hl ha hos hro hmo; simp only [z0f, z0e, Rb, Ib] at hp; replace hp := zjt hp) | (obtain ⟨rfl, hp⟩ := hq; simp only [z0f, z0e] at hp)) | go_skip | ((first | ((refine zg _ rfl ?_); refine lZ hp rfl ZA ?_; clear hp; intro b w1 hp) | ((refine zh _ _ rfl ?_); refine lB hp rfl (za rfl) rfl ?_; clear hp; intro b w1 hp) | ((refine zf _ _ rfl ?_); first | refine lO hp rfl (za rfl) zbo aa5 ?_ | refine lA hp rfl (za rfl) (by with_reducible first | exact zN | exact zak) aa5 ?_) | ((refine zd _ _ _ rfl ?_); (first | refine sO hp rfl (za rfl) zbo aa5 ?_ | refine sA hp rfl (za rfl) (za rfl) (by with_reducible first | exact zN | exact zak) aa5 ?_ | refine sG hp rfl (za rfl) (za rfl) (by with_reducible first | exact zN | exact zak) aa5 ?_); clear hp; intro w1 hp; simp only [spl, z0a, z0b] at hp)); simp only [zc, zb, z0b, z0a])); refine ⟨rfl, ?_⟩; show zbH w0 br bi (zae od nx b2) L _ _; rw [HR.out]; exact ⟨rfl, hp.kp⟩
       | some q5 =>
        obtain ⟨os, b5⟩ := q5
        have H5 := z0j h5
        have hall := zhn (P := fun x => zdi x ∧ x.ws.length ≤ 32 ∧ x.ls.length ≤ 16) (fun _ _ _ h => zjX h) h5
        have hosl := zbp h5
        have HFT : Hid (∀ {l : List Ob}, Z7 l os → l.length ≤ 600 ∧ (∀ x ∈ l, zdi x) ∧ zhv l) := z0j (fun h => by
         have h1 := zl8 h hall
         have h2 := h.1
         have h3 := HK3.out
         exact ⟨by omega, fun x hx => (h1 x hx).1, by omega, fun x hx => ⟨by have := (h1 x hx).2.1; omega, by have := (h1 x hx).2.2; omega⟩⟩)
        have HE3 : Hid (zae od nx b2 = zcA od nx l os b5) := z0j (by rw [HE1.out, HE2.out, h5])
        clear h5 hall hosl
        cases hr : Zg od with
        | false =>
         have HRG := z0j hr
         have HR : Hid (zae od nx b2 = none) := z0j (by rw [HE3.out]; unfold zcA; rw [hr, if_neg (by decide)])
         clear hr
         go_wp2_with (first | (go_at_call 103; refine (Z3 br bi _ (K := [_, _]) (L := L) ⟨_, _, HL.out, HA.out, hp⟩).mono ?_; clear hp HL HA; rintro e w1 hq; (first | rw [H1.out] at hq | rw [H2.out] at hq | rw [HO.out] at hq | rw [H4.out] at hq); (first | (obtain ⟨rfl, a, c, hl, ha, hp⟩ := hq; have HL := z0j hl; have HA := z0j ha; clear hl ha; simp only [z0f, z0e, Rb, Ib] at hp) | (obtain ⟨rfl, hp⟩ := hq; simp only [z0f, z0e] at hp))) | (go_at_call 181; have hst : ZZ w0 br bi _ [] _ _ := ZZ.front (K := [_, _]) (L := L) ⟨_, _, HL.out, HA.out, hp⟩; (with_reducible refine (zhc br bi k 256 HK1.out HK2.out _ hst).mono ?_); clear hst; clear hp HL HA; rintro e w1 hq; rw [H5.out] at hq; first | (obtain ⟨vo, os1, Ro, Mo, rfl, hol, hos, hro, hmo, a, c, hl, ha, hp⟩ := hq; subst hol; obtain ⟨oa, oc, rfl, _⟩ := hro.kept; have HL := z0j hl; have HA := z0j ha; have HOS := z0j hos; have HRO := z0j hro; have HMO := z0j hmo; clear hl ha hos hro hmo; simp only [z0f, z0e, Rb, Ib] at hp; replace hp := zjt hp) | (obtain ⟨rfl, hp⟩ := hq; simp only [z0f, z0e] at hp)) | (go_at_call 157; (with_reducible refine (zf4 od HRG.out _).mono ?_); rintro e w1 ⟨rfl, hb⟩; replace hp := hp.call hb; clear hb) | (go_at_call 105; first | ((with_reducible refine (zbF _).mono ?_); rintro e w' ⟨rfl, rfl⟩) | ((with_reducible refine (ZR _).mono ?_); rintro e w' ⟨rfl, rfl⟩)) | go_skip | ((first | ((refine zg _ rfl ?_); refine lZ hp rfl ZA ?_; clear hp; intro b w1 hp) | ((refine zh _ _ rfl ?_); refine lB hp rfl (za rfl) rfl ?_; clear hp; intro b w1 hp) | ((refine zf _ _ rfl ?_); first | refine lO hp rfl (za rfl) zbo aa5 ?_ | refine lA hp rfl (za rfl) (by with_reducible first | exact zN | exact zak) aa5 ?_) | ((refine zd _ _ _ rfl ?_); (first | refine sO hp rfl (za rfl) zbo aa5 ?_ | refine sA hp rfl (za rfl) (za rfl) (by with_reducible first | exact zN | exact zak) aa5 ?_ | refine sG hp rfl (za rfl) (za rfl) (by with_reducible first | exact zN | exact zak) aa5 ?_); clear hp; intro w1 hp; simp only [spl, z0a, z0b] at hp)); simp only [zc, zb, z0b, z0a]))
         refine ⟨rfl, ?_⟩; show zbH w0 br bi (zae od nx b2) L _ _; rw [HR.out]; exact ⟨rfl, hp.kp⟩
        | true =>
         have HRG := z0j hr
         have hrr : 3 ≤ od ∧ od ≤ 8 := by unfold Zg at hr; simpa using hr
         have HR3 := z0j hrr.1
         have HR8 := z0j hrr.2
         clear hr hrr
         go_wp2_with (first | (go_at_call 103; refine (Z3 br bi _ (K := [_, _]) (L := L) ⟨_, _, HL.out, HA.out, hp⟩).mono ?_; clear hp HL HA; rintro e w1 hq; (first | rw [H1.out] at hq | rw [H2.out] at hq | rw [HO.out] at hq | rw [H4.out] at hq); (first | (obtain ⟨rfl, a, c, hl, ha, hp⟩ := hq; have HL := z0j hl; have HA := z0j ha; clear hl ha; simp only [z0f, z0e, Rb, Ib] at hp) | (obtain ⟨rfl, hp⟩ := hq; simp only [z0f, z0e] at hp))) | (go_at_call 181; have hst : ZZ w0 br bi _ [] _ _ := ZZ.front (K := [_, _]) (L := L) ⟨_, _, HL.out, HA.out, hp⟩; (with_reducible refine (zhc br bi k 256 HK1.out HK2.out _ hst).mono ?_); clear hst; clear hp HL HA; rintro e w1 hq; rw [H5.out] at hq; first | (obtain ⟨vo, os1, Ro, Mo, rfl, hol, hos, hro, hmo, a, c, hl, ha, hp⟩ := hq; subst hol; obtain ⟨oa, oc, rfl, _⟩ := hro.kept; have HL := z0j hl; have HA := z0j ha; have HOS := z0j hos; have HRO := z0j hro; have HMO := z0j hmo; clear hl ha hos hro hmo; simp only [z0f, z0e, Rb, Ib] at hp; replace hp := zjt hp) | (obtain ⟨rfl, hp⟩ := hq; simp only [z0f, z0e] at hp)) | (go_at_call 157; (with_reducible refine (zfa od HRG.out _).mono ?_); rintro e w1 ⟨bf, rfl, hf, hb⟩; replace hp := hp.adopt hb hf; clear hb hf) | (go_at_call 105; first | ((with_reducible refine (zbF _).mono ?_); rintro e w' ⟨rfl, rfl⟩) | ((with_reducible refine (ZR _).mono ?_); rintro e w' ⟨rfl, rfl⟩)) | (go_at_call 183; (with_reducible refine (zjH od HR3.out HR8.out os1 oa oc (HFT.out HOS.out).1 (HFT.out HOS.out).2.1 HRO.out.keptS hp).mono ?_); clear hp; rintro e w1 ⟨fa, fc, fs, Rf, rfl, hfs, hrf, hp⟩; have HFS := z0j hfs; have HRF := z0j hrf; clear hfs hrf) | go_skip | ((first | ((refine zg _ rfl ?_); refine lZ hp rfl ZA ?_; clear hp; intro b w1 hp) | ((refine zh _ _ rfl ?_); refine lB hp rfl (za rfl) rfl ?_; clear hp; intro b w1 hp) | ((refine zf _ _ rfl ?_); first | refine lO hp rfl (za rfl) zbo aa5 ?_ | refine lA hp rfl (za rfl) (by with_reducible first | exact zN | exact zak) aa5 ?_) | ((refine zd _ _ _ rfl ?_); (first | refine sO hp rfl (za rfl) zbo aa5 ?_ | refine sA hp rfl (za rfl) (za rfl) (by with_reducible first | exact zN | exact zak) aa5 ?_ | refine sG hp rfl (za rfl) (za rfl) (by with_reducible first | exact zN | exact zak) aa5 ?_); clear hp; intro w1 hp; simp only [spl, z0a, z0b] at hp)); simp only [zc, zb, z0b, z0a]))
         have hsm : Hv.Sm ⟨od, oa, os1, oc, nx, t0, t1, t2, t3, fa, fs, fc⟩ (zlh od os nx l (lfN (pw od) os od.toNat 0)) := ⟨rfl, rfl, HTS.out.1, HTS.out.2.1, HTS.out.2.2.1, HTS.out.2.2.2, HOS.out, by rw [HFS.out]; exact zjL HOS.out _ _⟩
         have HSM := z0j hsm
         have HSS : Hid (Hv.Small ⟨od, oa, os1, oc, nx, t0, t1, t2, t3, fa, fs, fc⟩) := z0j ⟨(HFT.out HOS.out).2.2, by simp only; rw [HFS.out]; have := zjK (os := os1) HR3.out HR8.out; omega⟩
         have HIS : Hid (zaG (Ro ++ (Rf ++ Mo)) fun w => Hv.Is w ⟨od, oa, os1, oc, nx, t0, t1, t2, t3, fa, fs, fc⟩) := z0j (HvR.kept ⟨HRO.out, HRF.out, HMO.out⟩)
         obtain ⟨b, hb⟩ : ∃ b, Zk ⟨od, oa, os1, oc, nx, t0, t1, t2, t3, fa, fs, fc⟩ = b := ⟨_, rfl⟩
         have HB := z0j hb
         have HE4 : Hid (zae od nx b2 = if b = true then some (zlh od os nx l (lfN (pw od) os od.toNat 0), b5) else none) := z0j (by rw [HE3.out]; unfold zcA; rw [HRG.out, if_pos rfl, ← zcC hsm, hb])
         clear hsm hb
         cases b with
         | false =>
          have HR : Hid (zae od nx b2 = none) := z0j (by rw [HE4.out, if_neg (by decide)])
          go_wp2_with (first | (go_at_call 74; (with_reducible refine (zei od oa os1 oc nx t0 t1 t2 t3 fa fs fc _ HB.out HSS.out _ (HIS.out.at hp (fun p hm => by simp only [List.mem_append, List.mem_cons] at hm ⊢; rcases hm with hm | hm | hm <;> simp [hm]))).mono ?_); rintro e w1 ⟨rfl, hb⟩; replace hp := hp.call hb; clear hb; simp only [ziS, if_true, Bool.false_eq_true, if_false]) | (go_at_call 105; first | ((with_reducible refine (zbF _).mono ?_); rintro e w' ⟨rfl, rfl⟩) | ((with_reducible refine (ZR _).mono ?_); rintro e w' ⟨rfl, rfl⟩)) | go_skip | ((first | ((refine zg _ rfl ?_); refine lZ hp rfl ZA ?_; clear hp; intro b w1 hp) | ((refine zh _ _ rfl ?_); refine lB hp rfl (za rfl) rfl ?_; clear hp; intro b w1 hp) | ((refine zf _ _ rfl ?_); first | refine lO hp rfl (za rfl) zbo aa5 ?_ | refine lA hp rfl (za rfl) (by with_reducible first | exact zN | exact zak) aa5 ?_) | ((refine zd _ _ _ rfl ?_); (first | refine sO hp rfl (za rfl) zbo aa5 ?_ | refine sA hp rfl (za rfl) (za rfl) (by with_reducible first | exact zN | exact zak) aa5 ?_ | refine sG hp rfl (za rfl) (za rfl) (by with_reducible first | exact zN | exact zak) aa5 ?_); clear hp; intro w1 hp; simp only [spl, z0a, z0b] at hp)); simp only [zc, zb, z0b, z0a]))
          refine ⟨rfl, ?_⟩; show zbH w0 br bi (zae od nx b2) L _ _; rw [HR.out]; exact ⟨rfl, hp.kp⟩
         | true =>
          have HR : Hid (zae od nx b2 = some (zlh od os nx l (lfN (pw od) os od.toNat 0), b5)) := z0j (by rw [HE4.out, if_pos rfl])
          go_wp2_with (first | (go_at_call 74; (with_reducible refine (zei od oa os1 oc nx t0 t1 t2 t3 fa fs fc _ HB.out HSS.out _ (HIS.out.at hp (fun p hm => by simp only [List.mem_append, List.mem_cons] at hm ⊢; rcases hm with hm | hm | hm <;> simp [hm]))).mono ?_); rintro e w1 ⟨rfl, hb⟩; replace hp := hp.call hb; clear hb; simp only [ziS, if_true, Bool.false_eq_true, if_false]) | (go_at_call 105; first | ((with_reducible refine (zbF _).mono ?_); rintro e w' ⟨rfl, rfl⟩) | ((with_reducible refine (ZR _).mono ?_); rintro e w' ⟨rfl, rfl⟩)) | go_skip | ((first | ((refine zg _ rfl ?_); refine lZ hp rfl ZA ?_; clear hp; intro b w1 hp) | ((refine zh _ _ rfl ?_); refine lB hp rfl (za rfl) rfl ?_; clear hp; intro b w1 hp) | ((refine zf _ _ rfl ?_); first | refine lO hp rfl (za rfl) zbo aa5 ?_ | refine lA hp rfl (za rfl) (by with_reducible first | exact zN | exact zak) aa5 ?_) | ((refine zd _ _ _ rfl ?_); (first | refine sO hp rfl (za rfl) zbo aa5 ?_ | refine sA hp rfl (za rfl) (za rfl) (by with_reducible first | exact zN | exact zak) aa5 ?_ | refine sG hp rfl (za rfl) (za rfl) (by with_reducible first | exact zN | exact zak) aa5 ?_); clear hp; intro w1 hp; simp only [spl, z0a, z0b] at hp)); simp only [zc, zb, z0b, z0a]))
          refine bodyPost_ret (ZI (rs := [.cell 2 47]) Tryz.results112 (.cell rfl (hp.loadAgg zN at1 0 _ (by rfl) (by rfl)) .nil)) rfl ?_
          show zbH w0 br bi (zae od nx b2) L _ _
          rw [HR.out]
          exact ⟨⟨od, oa, os1, oc, nx, t0, t1, t2, t3, fa, fs, fc⟩, Ro, Rf, Mo, rfl, HSM.out, ⟨HRO.out, HRF.out, HMO.out⟩, ZZ.mk6 HL.out HA.out hp⟩
end Go.Proofs.YtaafajaadfgaoaaGreat

/- Parts of the proof. -/
import Derived.Test.YtcjbepaclbhjaaaGreatKe1
import Derived.Test.YtcjbepaclbhjaaaGreatKe4
open List renaming set_cons_zero → zSet, set_cons_succ → sSet
/- The walks that read numbers, ints and rows of them. -/
set_option linter.unusedSimpArgs false
set_option linter.unusedVariables false
namespace Go.Proofs.YtcjbepaclbhjaaaGreat
open Go.RowKit
def badP : List PanicEntry := [{ v := .iface 137 (.agg #[]), recovered := false }]
theorem got107 (x : Int) (w : World) : Calls Tryz.prog 107 #[.int .i64 x, .int .i64 0] w fun e w' => e = .returned (.int .i64 x) ∧ w = w' := by
  go_enter Tryz.func107, Tryz.ntmps107
  go_wp2
  go_ret
  exact ⟨rfl, rfl⟩
theorem got107_no (x q : Int) (hq : q = 10 ∨ q = 11) (w : World) : Calls Tryz.prog 107 #[.int .i64 x, .int .i64 q] w fun e w' => e = .panicked badP ∧ w = w' := by
  rcases hq with rfl | rfl
  all_goals
    go_enter Tryz.func107, Tryz.ntmps107
    go_wp2
    exact ⟨rfl, rfl, rfl⟩
theorem is89 (w : World) : Calls Tryz.prog 89 #[.bool true] w fun e w' => e = .returned (.tuple #[]) ∧ w = w' := by
  go_enter Tryz.func89, Tryz.ntmps89
  go_wp2
  exact bodyPost_end (results_none Tryz.results89 _ _ _) rfl ⟨rfl, rfl⟩
theorem is89_no (w : World) : Calls Tryz.prog 89 #[.bool false] w fun e w' => e = .panicked badP ∧ w = w' := by
  go_enter Tryz.func89, Tryz.ntmps89
  go_wp2
  exact ⟨rfl, rfl, rfl⟩
theorem Hp.sub {B : Nat} {w0 w : World} {L L' : List Blk} (hp : Hp B w0 w L) (h : L'.Sublist L) : Hp B w0 w L' :=
  ⟨hp.below, hp.size, (h.map _).nodup hp.nodup, fun p hpL => hp.own p (h.subset hpL)⟩
def Ib (bi br : Nat) : Blk := ⟨bi, [.pointer (some ⟨br, 0, none⟩)], 115, 1⟩
def RdSt (w0 : World) (br bi : Nat) (bs : List Nat) (K L : List Blk) (w : World) : Prop := ∃ a c, bs.length ≤ c ∧ RdAt w0 a bs ∧ Hp w0.heap.size w0 w (K ++ (Rb br a bs.length c :: Ib bi br :: L))
theorem RdSt.front {w0 w : World} {br bi : Nat} {bs : List Nat} {K L : List Blk} (h : RdSt w0 br bi bs K L w) : RdSt w0 br bi bs [] (K ++ L) w := by
  obtain ⟨a, c, h1, h2, hp⟩ := h
  exact ⟨a, c, h1, h2, hp.kp⟩
theorem RdSt.back {w0 w : World} {br bi : Nat} {bs : List Nat} {K L : List Blk} (h : RdSt w0 br bi bs [] (K ++ L) w) : RdSt w0 br bi bs K L w := by
  obtain ⟨a, c, h1, h2, hp⟩ := h
  exact ⟨a, c, h1, h2, hp.kp⟩
theorem RdSt.hp {w0 w : World} {br bi : Nat} {bs : List Nat} {K L : List Blk} (h : RdSt w0 br bi bs K L w) : Hp w0.heap.size w0 w (K ++ L) := by
  obtain ⟨a, c, _, _, hp⟩ := h.front
  exact hp.tail.tail
theorem Hp.to {B : Nat} {w0 w : World} {L L' : List Blk} (hp : Hp B w0 w L) (h : L = L') : Hp B w0 w L' := h ▸ hp
def nR (bs : List Nat) : Option (Int × List Nat) := (numR bs).map fun v => ((v : Int), bs.drop 4)
def iR (bs : List Nat) : Option (Int × List Nat) := (intR bs).map fun v => (v, bs.drop 8)
def OnePost (w0 : World) (br bi : Nat) (r : Option (Int × List Nat)) (K L : List Blk) (e : Ending) (w' : World) : Prop :=
  match r with
  | some (x, bs') => e = .returned (.int .i64 x) ∧ RdSt w0 br bi bs' K L w'
  | none => e = .panicked badP ∧ Hp w0.heap.size w0 w' (K ++ L)
set_option maxRecDepth 100000 in
set_option maxHeartbeats 4000000 in
theorem inn87 (br bi : Nat) (bs : List Nat) {w0 w : World} {K L : List Blk} (hs : RdSt w0 br bi bs K L w) :
    Calls Tryz.prog 87 #[.pointer (some ⟨bi, 0, none⟩)] w (OnePost w0 br bi (nR bs) K L) := by
  obtain ⟨a, c, hnc, ha, hp⟩ := hs.front
  simp only [List.nil_append, Ib] at hp
  have HA := Lib.hid ha
  unfold nR
  cases hv : numR bs with
  | some v =>
    have HV := Lib.hid hv
    have hl : (bs.drop 4).length ≤ c - 4 := by rw [List.length_drop]; omega
    have HL := Lib.hid hl
    clear ha hv hs hl
    go_enter Tryz.func87, Tryz.ntmps87
    go_wp2_with (first | (go_at_call 108; (with_reducible refine (number108 br c v a bs HV.out hnc hp HA.out).mono ?_); clear hp; rintro e w1 ⟨rfl, a', ha', hp⟩) | (go_at_call 107; (with_reducible refine (got107 _ _).mono ?_); rintro e w' ⟨rfl, rfl⟩) | (refine hL9 ?_) | go_skip | (first | (refine hA3 ?_; clear hp; intro b w1 hp) | refine hL7 ?_ | (refine hS2 ?_; clear hp; intro w1 hp)))
    go_ret
    exact ⟨rfl, RdSt.back ⟨a', c - 4, HL.out, ha', hp⟩⟩
  | none =>
    have HV := Lib.hid hv
    clear ha hv hs
    go_enter Tryz.func87, Tryz.ntmps87
    go_wp2_with (first | (go_at_call 108; (with_reducible refine (number108_no br c a bs HV.out hnc hp HA.out).mono ?_); rintro e w1 ⟨⟨q, hq, rfl⟩, rfl⟩) | (go_at_call 107; (with_reducible refine (got107_no _ _ hq _).mono ?_); rintro e w' ⟨rfl, rfl⟩) | (refine hL9 ?_) | go_skip | (first | (refine hA3 ?_; clear hp; intro b w1 hp) | refine hL7 ?_ | (refine hS2 ?_; clear hp; intro w1 hp)))
    exact ⟨rfl, rfl, hp.tail.tail⟩
set_option maxRecDepth 100000 in
set_option maxHeartbeats 4000000 in
theorem inig109 (br bi : Nat) (bs : List Nat) {w0 w : World} {K L : List Blk} (hs : RdSt w0 br bi bs K L w) :
    Calls Tryz.prog 109 #[.pointer (some ⟨bi, 0, none⟩)] w (OnePost w0 br bi (iR bs) K L) := by
  obtain ⟨a, c, hnc, ha, hp⟩ := hs.front
  simp only [List.nil_append, Ib] at hp
  have HA := Lib.hid ha
  unfold iR
  cases hv : intR bs with
  | some v =>
    have HV := Lib.hid hv
    have hl : (bs.drop 8).length ≤ c - 8 := by rw [List.length_drop]; omega
    have HL := Lib.hid hl
    clear ha hv hs hl
    go_enter Tryz.func109, Tryz.ntmps109
    go_wp2_with (first | (go_at_call 130; (with_reducible refine (intg130 br c v a bs HV.out hnc hp HA.out).mono ?_); clear hp; rintro e w1 ⟨rfl, a', ha', hp⟩) | (go_at_call 107; (with_reducible refine (got107 _ _).mono ?_); rintro e w' ⟨rfl, rfl⟩) | (refine hL9 ?_) | go_skip | (first | (refine hA3 ?_; clear hp; intro b w1 hp) | refine hL7 ?_ | (refine hS2 ?_; clear hp; intro w1 hp)))
    go_ret
    exact ⟨rfl, RdSt.back ⟨a', c - 8, HL.out, ha', hp⟩⟩
  | none =>
    have HV := Lib.hid hv
    clear ha hv hs
    go_enter Tryz.func109, Tryz.ntmps109
    go_wp2_with (first | (go_at_call 130; (with_reducible refine (intg130_no br c a bs HV.out hp).mono ?_); rintro e w1 ⟨rfl, rfl⟩) | (go_at_call 107; (with_reducible refine (got107_no _ _ (.inl rfl) _).mono ?_); rintro e w' ⟨rfl, rfl⟩) | (refine hL9 ?_) | go_skip | (first | (refine hA3 ?_; clear hp; intro b w1 hp) | refine hL7 ?_ | (refine hS2 ?_; clear hp; intro w1 hp)))
    exact ⟨rfl, rfl, hp.tail.tail⟩
def repR {α : Type} (one : List Nat → Option (α × List Nat)) : Nat → List Nat → Option (List α × List Nat)
  | 0, bs => some ([], bs)
  | n + 1, bs => match repR one n bs with
    | none => none
    | some (l, bs') => match one bs' with
      | none => none
      | some (x, bs'') => some (l ++ [x], bs'')
theorem repR_len {α : Type} {one : List Nat → Option (α × List Nat)} : ∀ {n : Nat} {bs : List Nat} {l : List α} {r : List Nat}, repR one n bs = some (l, r) → l.length = n
  | 0, _, _, _, h => by unfold repR at h; injection h with h; injection h with h _; rw [← h]; rfl
  | n + 1, bs, l, r, h => by
    unfold repR at h
    cases h1 : repR one n bs with
    | none => rw [h1] at h; cases h
    | some p =>
      obtain ⟨l1, b1⟩ := p
      rw [h1] at h
      simp only at h
      cases h2 : one b1 with
      | none => rw [h2] at h; cases h
      | some q =>
        obtain ⟨x, b2⟩ := q
        rw [h2] at h
        injection h with h; injection h with h _
        rw [← h, List.length_append, repR_len h1]; rfl
theorem repR_step {α : Type} {one : List Nat → Option (α × List Nat)} {q : Nat} {bs b1 b2 : List Nat} {l : List α} {x : α} (h : repR one q bs = some (l, b1)) (hx : one b1 = some (x, b2)) : repR one (q + 1) bs = some (l ++ [x], b2) := by
  unfold repR; rw [h]; simp only; rw [hx]
theorem repR_fail {α : Type} {one : List Nat → Option (α × List Nat)} {q : Nat} {bs b1 : List Nat} {l : List α} (h : repR one q bs = some (l, b1)) (hx : one b1 = none) : ∀ n, q < n → repR one n bs = none
  | 0, hn => by omega
  | n + 1, hn => by
    unfold repR
    by_cases hq : q = n
    · subst hq; rw [h]; simp only; rw [hx]
    · rw [repR_fail h hx n (by omega)]
def ManyPost (w0 : World) (br bi n : Nat) (r : Option (List Int × List Nat)) (K L : List Blk) (e : Ending) (w' : World) : Prop :=
  match r with
  | some (l, bs') => ∃ v R, e = .returned v ∧ OwnRow 3 1 v n (l.flatMap iV) R ∧ RdSt w0 br bi bs' K (R ++ L) w'
  | none => e = .panicked badP ∧ Hp w0.heap.size w0 w' (K ++ L)
set_option maxRecDepth 100000 in
set_option maxHeartbeats 4000000 in
theorem many154_n (br bi n : Nat) (most : Int) (hn : (n : Int) ≤ most) (hm : n ≤ 1000) (bs : List Nat) {w0 w : World} {K L : List Blk} (hs : RdSt w0 br bi bs K L w) :
    Calls Tryz.prog 154 #[.int .i64 n, .int .i64 most, .func (.func 87) #[.pointer (some ⟨bi, 0, none⟩)] #[]] w (ManyPost w0 br bi n (repR nR n bs) K L) := by
  obtain ⟨i0, hi0, hz0, hz1, hz2⟩ := info_parts info3
  replace hs := hs.front
  have HB : RowKit.Hid (∀ l b w', RdSt w0 br bi b [] (l ++ (K ++ L)) w' → RdSt w0 br bi b K (l ++ L) w') := Lib.hid (fun l b w' h => RdSt.back (by obtain ⟨a, c, h1, h2, hp⟩ := h; exact ⟨a, c, h1, h2, hp.kp⟩))
  obtain ⟨M, hM⟩ : ∃ M, M = K ++ L := ⟨_, rfl⟩
  have HM := Lib.hid hM
  rw [← hM] at hs HB
  clear hM
  go_enter Tryz.func154, Tryz.ntmps154
  go_wp2_with (first | (go_at_call 89; (with_reducible refine (is89 _).mono ?_); rintro e w' ⟨rfl, rfl⟩) | go_skip)
  go_loopg [7, 13] n (fun k v i wr => ∃ (q : Nat) (l : List Int) (b1 : List Nat) (R : List Blk), k + q = n ∧ i = .int .i64 q ∧ RowKit.Hid (repR nR q bs = some (l, b1)) ∧ RowKit.Hid (OwnRow 3 1 v q (l.flatMap iV) R) ∧ RowKit.Hid (RdSt w0 br bi b1 [] (R ++ M) wr))
  case atStart => exact ⟨0, [], bs, [], by omega, rfl, Lib.hid rfl, Lib.hid (OwnRow.nil _ _), Lib.hid hs⟩
  case round =>
    clear hs
    obtain ⟨q, l, b1, R, hkq, rfl, HQ, HR, HS⟩ := hrel
    by_cases hlt : q < n
    · have f1 : (0 : Int) ≤ (q : Int) := by omega
      have f2 : (q : Int) < (n : Int) := by omega
      cases ho : nR b1 with
      | none =>
        have HO := Lib.hid ho
        have HF := Lib.hid (repR_fail HQ.out ho n hlt)
        clear ho
        go_wp2_with (first | (go_at_call 87; (with_reducible refine (inn87 br bi b1 HS.out).mono ?_); rw [HO.out]; rintro e w1 ⟨rfl, hp⟩) | go_skip)
        refine ⟨rfl, ?_⟩
        rw [HF.out]
        exact ⟨rfl, by rw [← HM.out]; exact hp.sub (List.sublist_append_right _ _)⟩
      | some p =>
        obtain ⟨x, b2⟩ := p
        have HO := Lib.hid ho
        have HT := Lib.hid (repR_step HQ.out ho)
        clear ho
        go_wp2_with (first | (go_at_call 87; (with_reducible refine (inn87 br bi b1 HS.out).mono ?_); rw [HO.out]; rintro e w1 ⟨rfl, hs1⟩; obtain ⟨a, c, hnc, ha, hp⟩ := hs1; have HA := Lib.hid ha; clear ha; simp only [List.nil_append, Rb, Ib] at hp) | (with_reducible refine pre_append _ _ 72 rfl ?_; fail) | ((with_reducible refine pre_append _ _ 72 rfl ?_); refine wpList_appendGrow (K := [_, _]) (R := R) (M := M) hp _ _ _ rfl wy i0 _ 8 Tryz.underlying72 hi0 hz0 hz1 hz2 rfl (by decide) (sTm rfl) HR.out 1 1 (sTm rfl) (by rfl) (by decide) (by rfl) (by unfold maxLen; omega) (by omega) ?_; clear hp HR; intro v' R' w1 hR' hp; have HR' := Lib.hid hR'; clear hR'; simp only [List.cons_append, List.nil_append] at hp; simp only [put_some, put_none, sSet, zSet]) | go_skip | (first | (refine hA3 ?_; clear hp; intro b w1 hp) | refine hL7 ?_ | (refine hS2 ?_; clear hp; intro w1 hp)))
        go_roundg (gk - 1)
        case measure => omega
        case rel => exact ⟨q + 1, l ++ [x], b2, R', by omega, by go_num, HT, Lib.hid (by have := HR'.out; rw [List.flatMap_append]; exact this), Lib.hid ⟨a, c, hnc, HA.out, hp⟩⟩
    · obtain rfl : q = n := by omega
      have f2 : decide ((q : Int) < (q : Int)) = false := by simp
      go_wp2_with (first | go_skip)
      go_ret
      rw [HQ.out]
      exact ⟨_, R, rfl, HR.out, HB.out _ _ _ HS.out⟩
set_option maxRecDepth 100000 in
set_option maxHeartbeats 4000000 in
theorem many154_i (br bi n : Nat) (most : Int) (hn : (n : Int) ≤ most) (hm : n ≤ 1000) (bs : List Nat) {w0 w : World} {K L : List Blk} (hs : RdSt w0 br bi bs K L w) :
    Calls Tryz.prog 154 #[.int .i64 n, .int .i64 most, .func (.func 109) #[.pointer (some ⟨bi, 0, none⟩)] #[]] w (ManyPost w0 br bi n (repR iR n bs) K L) := by
  obtain ⟨i0, hi0, hz0, hz1, hz2⟩ := info_parts info3
  replace hs := hs.front
  have HB : RowKit.Hid (∀ l b w', RdSt w0 br bi b [] (l ++ (K ++ L)) w' → RdSt w0 br bi b K (l ++ L) w') := Lib.hid (fun l b w' h => RdSt.back (by obtain ⟨a, c, h1, h2, hp⟩ := h; exact ⟨a, c, h1, h2, hp.kp⟩))
  obtain ⟨M, hM⟩ : ∃ M, M = K ++ L := ⟨_, rfl⟩
  have HM := Lib.hid hM
  rw [← hM] at hs HB
  clear hM
  go_enter Tryz.func154, Tryz.ntmps154
  go_wp2_with (first | (go_at_call 89; (with_reducible refine (is89 _).mono ?_); rintro e w' ⟨rfl, rfl⟩) | go_skip)
  go_loopg [7, 13] n (fun k v i wr => ∃ (q : Nat) (l : List Int) (b1 : List Nat) (R : List Blk), k + q = n ∧ i = .int .i64 q ∧ RowKit.Hid (repR iR q bs = some (l, b1)) ∧ RowKit.Hid (OwnRow 3 1 v q (l.flatMap iV) R) ∧ RowKit.Hid (RdSt w0 br bi b1 [] (R ++ M) wr))
  case atStart => exact ⟨0, [], bs, [], by omega, rfl, Lib.hid rfl, Lib.hid (OwnRow.nil _ _), Lib.hid hs⟩
  case round =>
    clear hs
    obtain ⟨q, l, b1, R, hkq, rfl, HQ, HR, HS⟩ := hrel
    by_cases hlt : q < n
    · have f1 : (0 : Int) ≤ (q : Int) := by omega
      have f2 : (q : Int) < (n : Int) := by omega
      cases ho : iR b1 with
      | none =>
        have HO := Lib.hid ho
        have HF := Lib.hid (repR_fail HQ.out ho n hlt)
        clear ho
        go_wp2_with (first | (go_at_call 109; (with_reducible refine (inig109 br bi b1 HS.out).mono ?_); rw [HO.out]; rintro e w1 ⟨rfl, hp⟩) | go_skip)
        refine ⟨rfl, ?_⟩
        rw [HF.out]
        exact ⟨rfl, by rw [← HM.out]; exact hp.sub (List.sublist_append_right _ _)⟩
      | some p =>
        obtain ⟨x, b2⟩ := p
        have HO := Lib.hid ho
        have HT := Lib.hid (repR_step HQ.out ho)
        clear ho
        go_wp2_with (first | (go_at_call 109; (with_reducible refine (inig109 br bi b1 HS.out).mono ?_); rw [HO.out]; rintro e w1 ⟨rfl, hs1⟩; obtain ⟨a, c, hnc, ha, hp⟩ := hs1; have HA := Lib.hid ha; clear ha; simp only [List.nil_append, Rb, Ib] at hp) | (with_reducible refine pre_append _ _ 72 rfl ?_; fail) | ((with_reducible refine pre_append _ _ 72 rfl ?_); refine wpList_appendGrow (K := [_, _]) (R := R) (M := M) hp _ _ _ rfl wy i0 _ 8 Tryz.underlying72 hi0 hz0 hz1 hz2 rfl (by decide) (sTm rfl) HR.out 1 1 (sTm rfl) (by rfl) (by decide) (by rfl) (by unfold maxLen; omega) (by omega) ?_; clear hp HR; intro v' R' w1 hR' hp; have HR' := Lib.hid hR'; clear hR'; simp only [List.cons_append, List.nil_append] at hp; simp only [put_some, put_none, sSet, zSet]) | go_skip | (first | (refine hA3 ?_; clear hp; intro b w1 hp) | refine hL7 ?_ | (refine hS2 ?_; clear hp; intro w1 hp)))
        go_roundg (gk - 1)
        case measure => omega
        case rel => exact ⟨q + 1, l ++ [x], b2, R', by omega, by go_num, HT, Lib.hid (by have := HR'.out; rw [List.flatMap_append]; exact this), Lib.hid ⟨a, c, hnc, HA.out, hp⟩⟩
    · obtain rfl : q = n := by omega
      have f2 : decide ((q : Int) < (q : Int)) = false := by simp
      go_wp2_with (first | go_skip)
      go_ret
      rw [HQ.out]
      exact ⟨_, R, rfl, HR.out, HB.out _ _ _ HS.out⟩
end Go.Proofs.YtcjbepaclbhjaaaGreat

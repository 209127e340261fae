/- Parts of the proof. -/
import Derived.Test.YtaafajaadfgaoaaGreatAk26
import Derived.Test.YtaafajaadfgaoaaGreatAk22
open List renaming set_cons_zero → zSet, set_cons_succ → sSet
/- The walk of the law OplogRight. -/
set_option linter.unusedSimpArgs false
set_option linter.unusedVariables false
namespace Go.Proofs.YtaafajaadfgaoaaGreat
open Go.RowKit
theorem ceOMa0 {ty : TypeId} (h : cellB Tryz.prog ty = true := by with_reducible first | exact cell3 | exact cell4 | exact cell22 | exact cell9) : cellB Tryz.prog ty = true := h
def BigP (w : World) (n m p q : Nat) (e : Ending) (w' : World) : Prop := ∃ bb, e = .returned (.bool bb) ∧ (bb = false → n ≤ 300 ∧ m ≤ 300 ∧ p ≤ 100000 ∧ q ≤ 100000) ∧ Below w.heap.size w w'
set_option maxRecDepth 100000 in
theorem big13 (vw nm bs : Int) (im : ByteArray) (ea : Option Addr) (es : List Env) (ec : Nat) (kd rv rf rn : Int) (rim : ByteArray) (nu vi cl sq kk hh ii nn cc vv tt : Int) (ra : Option Addr) (rs : List Env) (rc : Nat) (w : World) : Calls Tryz.prog 13 #[.agg #[.int .i64 vw, .int .i64 nm, .int .i64 bs, .string im, .slice ea es.length ec], .agg #[.int .i64 kd, .int .i64 rv, .int .i64 rf, .int .i64 rn, .string rim, .int .i64 nu, .int .i64 vi, .int .i64 cl, .int .i64 sq, .int .i64 kk, .int .i64 hh, .int .i64 ii, .int .i64 nn, .int .i64 cc, .int .i64 vv, .int .i64 tt, .slice ra rs.length rc]] w (BigP w es.length rs.length im.size rim.size) := by
  have hp := Hp.start w
  by_cases h1 : es.length ≤ 300
  · have e1 : decide ((300 : Int) < (es.length : Int)) = false := by simp; omega
    by_cases h2 : rs.length ≤ 300
    · have e2 : decide ((300 : Int) < (rs.length : Int)) = false := by simp; omega
      by_cases h3 : im.size ≤ 100000
      · have e3 : decide ((100000 : Int) < (im.size : Int)) = false := by simp; omega
        by_cases h4 : rim.size ≤ 100000
        · have e4 : decide ((100000 : Int) < (rim.size : Int)) = false := by simp; omega
          go_enter Tryz.func13, Tryz.ntmps13
          go_wp2_with (first | go_skip | ((first | ((with_reducible refine pre_box _ _ rfl ?_); refine lB hp rfl (sTm rfl) rfl ?_; clear hp; intro b w1 hp) | ((with_reducible refine pre_load _ _ rfl ?_); first | refine lO hp rfl (sTm rfl) ceOMa0 aa5 ?_ | refine lA hp rfl (sTm rfl) (by with_reducible first | exact agg24 | exact agg33) aa5 ?_) | ((with_reducible refine pre_store _ _ _ rfl ?_); (first | refine sO hp rfl (sTm rfl) ceOMa0 aa5 ?_ | refine sA hp rfl (sTm rfl) (sTm rfl) (by with_reducible first | exact agg24 | exact agg33) aa5 ?_ | refine sG hp rfl (sTm rfl) (sTm rfl) (by with_reducible first | exact agg24 | exact agg33) aa5 ?_); clear hp; intro w1 hp; simp only [spl, zSet, sSet] at hp)); simp only [put_some, put_none, sSet, zSet]))
          go_ret
          exact ⟨_, rfl, fun _ => ⟨h1, h2, h3, h4⟩, hp.below⟩
        · have e4 : decide ((100000 : Int) < (rim.size : Int)) = true := by simp; omega
          go_enter Tryz.func13, Tryz.ntmps13
          go_wp2_with (first | go_skip | ((first | ((with_reducible refine pre_box _ _ rfl ?_); refine lB hp rfl (sTm rfl) rfl ?_; clear hp; intro b w1 hp) | ((with_reducible refine pre_load _ _ rfl ?_); first | refine lO hp rfl (sTm rfl) ceOMa0 aa5 ?_ | refine lA hp rfl (sTm rfl) (by with_reducible first | exact agg24 | exact agg33) aa5 ?_) | ((with_reducible refine pre_store _ _ _ rfl ?_); (first | refine sO hp rfl (sTm rfl) ceOMa0 aa5 ?_ | refine sA hp rfl (sTm rfl) (sTm rfl) (by with_reducible first | exact agg24 | exact agg33) aa5 ?_ | refine sG hp rfl (sTm rfl) (sTm rfl) (by with_reducible first | exact agg24 | exact agg33) aa5 ?_); clear hp; intro w1 hp; simp only [spl, zSet, sSet] at hp)); simp only [put_some, put_none, sSet, zSet]))
          go_ret
          exact ⟨true, rfl, fun h => (by cases h), hp.below⟩
      · have e3 : decide ((100000 : Int) < (im.size : Int)) = true := by simp; omega
        go_enter Tryz.func13, Tryz.ntmps13
        go_wp2_with (first | go_skip | ((first | ((with_reducible refine pre_box _ _ rfl ?_); refine lB hp rfl (sTm rfl) rfl ?_; clear hp; intro b w1 hp) | ((with_reducible refine pre_load _ _ rfl ?_); first | refine lO hp rfl (sTm rfl) ceOMa0 aa5 ?_ | refine lA hp rfl (sTm rfl) (by with_reducible first | exact agg24 | exact agg33) aa5 ?_) | ((with_reducible refine pre_store _ _ _ rfl ?_); (first | refine sO hp rfl (sTm rfl) ceOMa0 aa5 ?_ | refine sA hp rfl (sTm rfl) (sTm rfl) (by with_reducible first | exact agg24 | exact agg33) aa5 ?_ | refine sG hp rfl (sTm rfl) (sTm rfl) (by with_reducible first | exact agg24 | exact agg33) aa5 ?_); clear hp; intro w1 hp; simp only [spl, zSet, sSet] at hp)); simp only [put_some, put_none, sSet, zSet]))
        go_ret
        exact ⟨true, rfl, fun h => (by cases h), hp.below⟩
    · have e2 : decide ((300 : Int) < (rs.length : Int)) = true := by simp; omega
      go_enter Tryz.func13, Tryz.ntmps13
      go_wp2_with (first | go_skip | ((first | ((with_reducible refine pre_box _ _ rfl ?_); refine lB hp rfl (sTm rfl) rfl ?_; clear hp; intro b w1 hp) | ((with_reducible refine pre_load _ _ rfl ?_); first | refine lO hp rfl (sTm rfl) ceOMa0 aa5 ?_ | refine lA hp rfl (sTm rfl) (by with_reducible first | exact agg24 | exact agg33) aa5 ?_) | ((with_reducible refine pre_store _ _ _ rfl ?_); (first | refine sO hp rfl (sTm rfl) ceOMa0 aa5 ?_ | refine sA hp rfl (sTm rfl) (sTm rfl) (by with_reducible first | exact agg24 | exact agg33) aa5 ?_ | refine sG hp rfl (sTm rfl) (sTm rfl) (by with_reducible first | exact agg24 | exact agg33) aa5 ?_); clear hp; intro w1 hp; simp only [spl, zSet, sSet] at hp)); simp only [put_some, put_none, sSet, zSet]))
      go_ret
      exact ⟨true, rfl, fun h => (by cases h), hp.below⟩
  · have e1 : decide ((300 : Int) < (es.length : Int)) = true := by simp; omega
    go_enter Tryz.func13, Tryz.ntmps13
    go_wp2_with (first | go_skip | ((first | ((with_reducible refine pre_box _ _ rfl ?_); refine lB hp rfl (sTm rfl) rfl ?_; clear hp; intro b w1 hp) | ((with_reducible refine pre_load _ _ rfl ?_); first | refine lO hp rfl (sTm rfl) ceOMa0 aa5 ?_ | refine lA hp rfl (sTm rfl) (by with_reducible first | exact agg24 | exact agg33) aa5 ?_) | ((with_reducible refine pre_store _ _ _ rfl ?_); (first | refine sO hp rfl (sTm rfl) ceOMa0 aa5 ?_ | refine sA hp rfl (sTm rfl) (sTm rfl) (by with_reducible first | exact agg24 | exact agg33) aa5 ?_ | refine sG hp rfl (sTm rfl) (sTm rfl) (by with_reducible first | exact agg24 | exact agg33) aa5 ?_); clear hp; intro w1 hp; simp only [spl, zSet, sSet] at hp)); simp only [put_some, put_none, sSet, zSet]))
    go_ret
    exact ⟨true, rfl, fun h => (by cases h), hp.below⟩
end Go.Proofs.YtaafajaadfgaoaaGreat
/- State by its ways; the chapter's examples of State; the walk of OplogSteps. -/
namespace Go.Proofs.YtaafajaadfgaoaaGreat
open Go.RowKit
noncomputable def stImg (x : Kv) : Sv := (stateR (strB x.im)).getD zeroSv
noncomputable def stC (x : Kv) (n : Int) : Sv := runP (stImg x) (x.es.take (n - x.bs).toNat)
end Go.Proofs.YtaafajaadfgaoaaGreat
/- The walks of Known, of the examples' kept, and of the examples of Execute. -/
namespace Go.Proofs.YtaafajaadfgaoaaGreat
open Go.RowKit
def kE (n : Nat) : List Env := (List.range n).map fun (j : Nat) => En ((j : Int) + 1)
theorem kE_len (n : Nat) : (kE n).length = n := by simp [kE]
def KeptP (w : World) (n : Nat) (e : Ending) (w' : World) : Prop := ∃ a c R, e = .returned (.agg #[.int .i64 0, .int .i64 0, .int .i64 0, .string im3, .slice a n c]) ∧ n ≤ c ∧ Kept R (fun w => RowIs w a ((kE n).flatMap envL)) ∧ Hp w.heap.size w w' R
theorem kE_ok (n : Nat) (h : n ≤ 3) (a : Option Addr) (c : Nat) : okC ⟨0, 0, 0, im3, a, kE n, c⟩ = true := by
  match n, h with
  | 0, _ => exact okC_im3 (by kernel_rfl) rfl
  | 1, _ => exact okC_im3 (by kernel_rfl) rfl
  | 2, _ => exact okC_im3 (by kernel_rfl) rfl
  | 3, _ => exact okC_im3 (by kernel_rfl) rfl
theorem kE_small (n : Nat) (h : n ≤ 3) (a : Option Addr) (c : Nat) : Kv.Small ⟨0, 0, 0, im3, a, kE n, c⟩ := ⟨by simp only [kE_len]; omega, im3_small⟩
end Go.Proofs.YtaafajaadfgaoaaGreat
/- What Join tells and what it makes when it is saved: the plain laws. No program in sight. -/
namespace Go.Proofs.YtaafajaadfgaoaaGreat
open Go.RowKit
theorem fol_nu64 {fr : Int} (h0 : 0 ≤ fr) (h1 : fr ≤ 2000000000) : ∀ {l : List Env} {q : Nat}, q + l.length ≤ 100000 → (∀ e ∈ l, I64 e.nu) → folB fr q l = true → ∀ (i : Nat) (h : i < l.length), l[i].nu = fr + 1 + (q + i : Nat)
  | [], _, _, _, _, i, h => by simp at h
  | e :: r, q, hq, hn, hf, i, h => by
    unfold folB at hf
    rw [Bool.and_eq_true, decide_eq_true_eq] at hf
    obtain ⟨h2, h3⟩ := hf
    obtain ⟨g1, g2⟩ := hn e (by simp)
    simp only [List.length_cons] at hq
    have e1 : e.nu = fr + 1 + (q : Int) := by unfold wrap64 at h2; omega
    cases i with
    | zero => simp only [List.getElem_cons_zero]; omega
    | succ i =>
      have h4 := fol_nu64 h0 h1 (l := r) (q := q + 1) (by omega) (fun x hx => hn x (by simp [hx])) h3 i (by simpa using h)
      simp only [List.getElem_cons_succ]
      rw [h4]; push_cast; omega
end Go.Proofs.YtaafajaadfgaoaaGreat
/- What Adopt tells and what it makes when it is saved: the plain laws. No program in sight. -/
namespace Go.Proofs.YtaafajaadfgaoaaGreat
open Go.RowKit
noncomputable def adoptB (x : Kv) (cm vw bs : Int) (l : List Env) : Bool := okC x && (inM cm x.bs (lastK x) && (inM vw x.vw 900000000 && (inM bs 0 cm && (folB bs 0 l && decide (cm - bs ≤ (l.length : Int))))))
theorem adoptB_facts {x : Kv} {cm vw bs : Int} {l : List Env} (h : adoptB x cm vw bs l = true) : okC x = true ∧ (x.bs ≤ cm ∧ cm ≤ lastK x) ∧ (x.vw ≤ vw ∧ vw ≤ 900000000) ∧ (0 ≤ bs ∧ bs ≤ cm) ∧ folB bs 0 l = true ∧ cm - bs ≤ (l.length : Int) := by
  unfold adoptB inM at h
  simp only [Bool.and_eq_true, decide_eq_true_eq] at h
  exact ⟨h.1, h.2.1, h.2.2.1, h.2.2.2.1, h.2.2.2.2.1, h.2.2.2.2.2⟩
def adoptL (cm bs : Int) (l : List Env) : List Env := l.drop (cm - bs).toNat
theorem adopt_nu {x : Kv} {cm vw bs : Int} {l : List Env} (h : adoptB x cm vw bs l = true) (hl : l.length ≤ 100000) (hn : ∀ e ∈ l, I64 e.nu) : ∀ (i : Nat) (hi : i < l.length), l[i].nu = bs + 1 + (i : Nat) := by
  obtain ⟨h1, h2, h3, h4, h5, h6⟩ := adoptB_facts h
  have hf := ok_facts h1
  have hk : lastK x ≤ 2000000000 := by unfold lastK; omega
  intro i hi
  have := fol_nu64 h4.1 (by omega) (q := 0) (by omega) hn h5 i hi
  rw [this, Nat.zero_add]
end Go.Proofs.YtaafajaadfgaoaaGreat

/- Parts of the proof. -/
import Derived.Test.YtcjbepaclbhjaaaGreatKd1
import Derived.Test.YtcjbepaclbhjaaaGreatKd41
import Derived.Test.YtcjbepaclbhjaaaGreatKd37
open List renaming set_cons_zero → zSet, set_cons_succ → sSet
/- The walk of change.Vote. -/
set_option linter.unusedSimpArgs false
set_option linter.unusedVariables false
namespace Go.Proofs.YtcjbepaclbhjaaaGreat
open Go.RowKit
def VotePost (w : World) (b : Bool) (id nm bs nu cm : Int) (es : List Env) (e : Ending) (w' : World) : Prop :=
  (b = false ∧ e = .returned (.agg #[.int .i64 0, .int .i64 0, .int .i64 0, .int .i64 0, .int .i64 0, .slice none 0 0]) ∧ Below w.heap.size w w') ∨
  (b = true ∧ ∃ (a : Option Addr) (c : Nat) (R : List Blk), e = .returned (.agg #[.int .i64 id, .int .i64 nm, .int .i64 bs, .int .i64 nu, .int .i64 cm, .slice a es.length c]) ∧ OwnRow 47 11 (.slice a es.length c) es.length (es.flatMap envL) R ∧ Hp w.heap.size w w' R)
set_option maxRecDepth 100000 in
set_option maxHeartbeats 4000000 in
theorem vote10 (id cm vw nm bs : Int) (im : ByteArray) (ea : Option Addr) (es : List Env) (ec : Nat) (hel : es.length ≤ 100000) (b : Bool) (hb : okC ⟨vw, nm, bs, im, ea, es, ec⟩ = b) (hs : Kv.Small ⟨vw, nm, bs, im, ea, es, ec⟩) (w : World) (ha : RowIs w ea (es.flatMap envL)) :
    Calls Tryz.prog 10 #[.int .i64 id, .agg #[.int .i64 vw, .int .i64 nm, .int .i64 bs, .string im, .slice ea es.length ec], .int .i64 cm] w (VotePost w b id nm bs (wrap64 (bs + es.length)) cm es) := by
  have hp := Hp.start w
  have HA := Lib.hid ha
  have HSM := Lib.hid hs
  have HB := Lib.hid hb
  clear ha hs hb
  cases b with
  | false =>
    go_enter Tryz.func10, Tryz.ntmps10
    go_wp2_with (first | (go_at_call 27; (with_reducible refine (check27L vw nm bs im ea es ec _ HB.out HSM.out _ (HA.out.below hp.below)).mono ?_); rintro e w1 ⟨rfl, hb⟩; replace hp := hp.call hb; clear hb; simp only [if_true, Bool.false_eq_true, if_false]) | go_skip | (first | (refine hA1 ?_; clear hp; intro b w1 hp) | refine hL0 ?_ | (refine hS0 ?_; clear hp; intro w1 hp)))
    refine bodyPost_ret (results_one (rs := [.cell 6 27]) Tryz.results10 (.cell rfl (hp.loadAgg agg27 at0 0 _ (by rfl) (by rfl)) .nil)) rfl ?_
    exact Or.inl ⟨rfl, rfl, hp.below⟩
  | true =>
    go_enter Tryz.func10, Tryz.ntmps10
    go_wp2_with (first | (go_at_call 27; (with_reducible refine (check27L vw nm bs im ea es ec _ HB.out HSM.out _ (HA.out.below hp.below)).mono ?_); rintro e w1 ⟨rfl, hb⟩; replace hp := hp.call hb; clear hb; simp only [if_true, Bool.false_eq_true, if_false]) | go_skip | (first | (refine hA1 ?_; clear hp; intro b w1 hp) | refine hL0 ?_ | (refine hS0 ?_; clear hp; intro w1 hp)))
    refine wp_region_keeps [_] (Keeps.one hp.drew at1) [11, 12] [(0, true), (1, true), (2, true), (3, true), (4, true), (5, true), (7, true), (8, true), (9, true), (6, false), (10, true), (11, false), (12, false)] (by kernel_rfl) (by kernel_rfl) rfl (by kernel_rfl) (fun _ _ d _ _ h => by cases d <;> exact h) ?_
    replace hp := hp.drew
    repeat' (with_reducible refine plan_is ?_); first | (with_reducible refine plan_nil ?_) | refine tk22 ?_ | (refine plan_do rfl (fun K hK => ?_); go_wp2_with (first | (go_at_call 29; (with_reducible refine (last29L vw nm bs im ea es ec _ HB.out HSM.out _ (HA.out.below hp.below)).mono ?_); rintro e w1 ⟨rfl, hb⟩; replace hp := hp.call hb; clear hb; simp only [if_true, Bool.false_eq_true, if_false]) | (go_at_call 28; (with_reducible refine (own28 id nm bs _ cm ea es ec hel _ (HA.out.below hp.below)).mono ?_); rintro e w1 ⟨a3, c3, R3, rfl, hk3, hp2⟩; replace hp := hp.join hp2; have HK3 := Lib.hid hk3; clear hp2 hk3; simp only [List.cons_append, List.nil_append, List.append_assoc] at hp) | go_skip | (refine hS0 ?_; clear hp; intro w1 hp)); (first | refine hK.out _ _ (.inl rfl) ?_ | refine hK.out _ _ (.inr (Keeps.one hp aa5)) ?_); clear hK K; try simp only [put_some, put_none, eval_tmp, eval_const, sSet, zSet, List.getD_cons_succ, List.getD_cons_zero, wrap_eq])
    go_wp2_with (first | go_skip | (first | (refine hA1 ?_; clear hp; intro b w1 hp) | refine hL0 ?_ | (refine hS0 ?_; clear hp; intro w1 hp)))
    refine bodyPost_ret (results_one (rs := [.cell 6 27]) Tryz.results10 (.cell rfl (hp.loadAgg agg27 at0 0 _ (by rfl) (by rfl)) .nil)) rfl ?_
    exact Or.inr ⟨rfl, a3, c3, R3, rfl, HK3.out, hp.kp⟩
theorem vote_3 (a : Option Addr) (c : Nat) (w : World) (ha : RowIs w a ((kE 3).flatMap envL)) :
    Calls Tryz.prog 10 #[.int .i64 2, .agg #[.int .i64 0, .int .i64 0, .int .i64 0, .string im3, .slice a 3 c], .int .i64 1] w fun e w' => ∃ (a : Option Addr) (c : Nat) (R : List Blk), e = .returned (.agg #[.int .i64 2, .int .i64 0, .int .i64 0, .int .i64 3, .int .i64 1, .slice a 3 c]) ∧ Kept R (fun w => RowIs w a ((kE 3).flatMap envL)) ∧ Hp w.heap.size w w' R := by
  refine (vote10 2 1 0 0 0 im3 a (kE 3) c (by decide) true (kE_ok 3 (by decide) a c) (kE_small 3 (by decide) a c) w ha).mono fun e w' h => ?_
  rcases h with ⟨h, _⟩ | ⟨_, a, c, R, he, hk, hp⟩
  · cases h
  · obtain ⟨a', k', hv, hk'⟩ := hk.kept
    injection hv with hv _ _
    subst hv
    rw [kE_len, show wrap64 (0 + ((3 : Nat) : Int)) = 3 by kernel_rfl] at he
    exact ⟨a, c, R, he, hk', hp⟩
end Go.Proofs.YtcjbepaclbhjaaaGreat

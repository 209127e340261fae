/- Parts of the proof. -/
import Derived.Test.YtaafajaadfgaoaaGreatRg3
import Derived.Test.YtaafajaadfgaoaaGreatRg14
import Derived.Test.YtaafajaadfgaoaaGreatRg4
import Derived.Test.YtaafajaadfgaoaaGreatRg12
import Derived.Test.YtaafajaadfgaoaaGreatRg13
import Derived.WalkMore
import Derived.ScopeJumps
import Derived.Test.YtaafajaadfgaoaaGreatRg1
import Derived.Test.YtaafajaadfgaoaaGreatRg5
open List renaming set_cons_zero → zSet, set_cons_succ → sSet
/- The walks of the document's reader of bytes. -/
set_option linter.unusedSimpArgs false
set_option linter.unusedVariables false
namespace Go.Proofs.YtaafajaadfgaoaaGreat
open Go.RowKit
theorem agg162 : aggB Tryz.prog 162 2 = true := by kernel_rfl
theorem cell160 : cellB Tryz.prog 160 = true := by kernel_rfl
theorem four_of {α : Type} {l : List α} (h : 4 ≤ l.length) : ∃ b0 b1 b2 b3 r, l = b0 :: b1 :: b2 :: b3 :: r := by
  match l, h with
  | b0 :: b1 :: b2 :: b3 :: r, _ => exact ⟨b0, b1, b2, b3, r, rfl⟩
def RdnPost (w : World) (r : Option Nat) (e : Ending) (w' : World) : Prop := (match r with
  | some v => e = .returned (.tuple #[.int .i64 v, .int .i64 4, .int .i64 0])
  | none => ∃ q : Int, (q = 10 ∨ q = 11) ∧ e = .returned (.tuple #[.int .i64 0, .int .i64 0, .int .i64 q])) ∧ Below w.heap.size w w'
set_option maxRecDepth 100000 in
set_option maxHeartbeats 4000000 in
theorem rdn184 (bs : List Nat) (a : Option Addr) (c : Nat) (hnc : bs.length ≤ c) (w : World) (ha : RdAt w a bs) :
    Calls Tryz.prog 184 #[.slice a bs.length c] w (RdnPost w (numR bs)) := by
  have hp := Hp.start w
  by_cases h4 : 4 ≤ bs.length
  · obtain ⟨b0, b1, b2, b3, r, hbs⟩ := four_of h4
    obtain ⟨b, off, rfl, hx⟩ := ha.1.addr (by rw [flat_len byV 1 byV_len]; omega)
    have hN : numR bs = if b0 ≤ 127 then some (((b0 * 256 + b1) * 256 + b2) * 256 + b3) else none := by
      have hb0 := ha.2 b0 (by rw [hbs]; simp)
      have hb1 := ha.2 b1 (by rw [hbs]; simp)
      have hb2 := ha.2 b2 (by rw [hbs]; simp)
      have hb3 := ha.2 b3 (by rw [hbs]; simp)
      unfold numR
      have hv : beV (bs.take 4) = ((b0 * 256 + b1) * 256 + b2) * 256 + b3 := by rw [hbs]; simp [beV]
      rw [hv]
      by_cases h : b0 ≤ 127
      · rw [if_pos ⟨h4, by omega⟩, if_pos h]
      · rw [if_neg (by omega), if_neg h]
    have hb0 := ha.2 b0 (by rw [hbs]; simp)
    have hb1 := ha.2 b1 (by rw [hbs]; simp)
    have hb2 := ha.2 b2 (by rw [hbs]; simp)
    have hb3 := ha.2 b3 (by rw [hbs]; simp)
    have HX : RowKit.Hid (∀ (j : Nat) v, [Value.int .u8 (b0 : Int), .int .u8 (b1 : Int), .int .u8 (b2 : Int), .int .u8 (b3 : Int)][j]? = some v → w.cell? ⟨b, off + j, none⟩ = some v) := Lib.hid (fun j v hj => by
      have hjl : j < 4 := (List.getElem?_eq_some_iff.1 hj).1
      refine hx j v ?_
      rw [hbs]
      have hc : j = 0 ∨ j = 1 ∨ j = 2 ∨ j = 3 := by omega
      rcases hc with rfl | rfl | rfl | rfl <;> exact hj)
    have e1 : decide ((bs.length : Int) < 4) = false := by simp; omega
    have e2 : (0 : Int) < (bs.length : Int) := by omega
    have e3 : (1 : Int) < (bs.length : Int) := by omega
    have e4 : (2 : Int) < (bs.length : Int) := by omega
    have e5 : (3 : Int) < (bs.length : Int) := by omega
    rw [hN]
    clear hN hx ha
    clear hbs
    obtain ⟨n, hn⟩ : ∃ n, bs.length = n := ⟨_, rfl⟩
    rw [hn] at e1 e2 e3 e4 e5 h4 ⊢
    have g0 : 0 < n := by omega
    have g1 : 1 < n := by omega
    have g2 : 2 < n := by omega
    have g3 : 3 < n := by omega
    clear hn hnc
    by_cases h : b0 ≤ 127
    · rw [if_pos h]
      have e6 : decide ((127 : Int) < (b0 : Int)) = false := by simp; omega
      have HR : RowKit.Hid (wrap64 (wrap64 (wrap64 (wrap64 (16777216 * wrap64 (b0 : Int)) + wrap64 (65536 * wrap64 (b1 : Int))) + wrap64 (256 * wrap64 (b2 : Int))) + wrap64 (b3 : Int)) = ((((b0 * 256 + b1) * 256 + b2) * 256 + b3 : Nat) : Int)) := Lib.hid (by
        have w0 : wrap64 (b0 : Int) = b0 := by unfold wrap64; omega
        have w1 : wrap64 (b1 : Int) = b1 := by unfold wrap64; omega
        have w2 : wrap64 (b2 : Int) = b2 := by unfold wrap64; omega
        have w3 : wrap64 (b3 : Int) = b3 := by unfold wrap64; omega
        rw [w0, w1, w2, w3]
        have v0 : wrap64 (16777216 * (b0 : Int)) = 16777216 * (b0 : Int) := by unfold wrap64; omega
        have v1 : wrap64 (65536 * (b1 : Int)) = 65536 * (b1 : Int) := by unfold wrap64; omega
        have v2 : wrap64 (256 * (b2 : Int)) = 256 * (b2 : Int) := by unfold wrap64; omega
        rw [v0, v1, v2]
        have u0 : wrap64 (16777216 * (b0 : Int) + 65536 * (b1 : Int)) = 16777216 * (b0 : Int) + 65536 * (b1 : Int) := by unfold wrap64; omega
        rw [u0]
        have u1 : wrap64 (16777216 * (b0 : Int) + 65536 * (b1 : Int) + 256 * (b2 : Int)) = 16777216 * (b0 : Int) + 65536 * (b1 : Int) + 256 * (b2 : Int) := by unfold wrap64; omega
        rw [u1]
        unfold wrap64; push_cast; omega)
      go_enter Tryz.func184, Tryz.ntmps184
      go_wp2_with (first | go_skip | ((first | ((with_reducible refine pre_box _ _ rfl ?_); refine lB hp rfl (sTm rfl) rfl ?_; clear hp; intro b w1 hp) | ((with_reducible refine pre_load _ _ rfl ?_); first | refine lO hp rfl (sTm rfl) (by with_reducible first | exact cell3 | exact cell4 | exact cell57 | exact cell5 | exact cell160) aa5 ?_ | refine lRO hp rfl (sTm rfl) (by with_reducible first | exact cell3 | exact cell4 | exact cell57 | exact cell5 | exact cell160) (by first | exact HX.out 0 _ rfl | exact HX.out 1 _ rfl | exact HX.out 2 _ rfl | exact HX.out 3 _ rfl) ?_ | refine lA hp rfl (sTm rfl) agg162 aa5 ?_ | refine lR hp rfl (sTm rfl) agg162 HX.out ?_) | ((with_reducible refine pre_store _ _ _ rfl ?_); (first | refine sO hp rfl (sTm rfl) (by with_reducible first | exact cell3 | exact cell4 | exact cell57 | exact cell5 | exact cell160) aa5 ?_ | refine sA hp rfl (sTm rfl) (sTm rfl) agg162 aa5 ?_ | refine sG hp rfl (sTm rfl) (sTm rfl) agg162 aa5 ?_); clear hp; intro w1 hp; simp only [spl, zSet, sSet] at hp)); simp only [put_some, put_none, sSet, zSet]))
      refine wp_region_keeps [] (Keeps.zero hp.drew) [] [(0, true), (1, true), (2, true), (3, true), (4, true), (5, true), (6, true), (7, true), (8, true), (9, true), (10, true), (11, true), (12, true), (13, true), (14, true), (15, true), (16, true), (17, true), (18, true), (19, true), (20, true), (21, true), (22, false), (23, false), (24, false)] (by kernel_rfl) (by kernel_rfl) rfl (by kernel_rfl) (fun _ _ d _ _ h => by cases d <;> exact h) ?_
      replace hp := hp.drew
      repeat' (with_reducible refine plan_is ?_); first | (with_reducible refine plan_nil ?_) | ((with_reducible refine plan_t ?_); refine plan_tk rfl ?_; (first | ((with_reducible refine tk_mv _ rfl ?_); refine tM rfl ?_) | ((with_reducible refine tk_ld _ _ rfl ?_); first | refine tO rfl (sTm rfl) cell5 aa5 ?_ | refine tRO rfl (sTm rfl) cell5 (HX.out 0 _ rfl) ?_ | refine tRO rfl (sTm rfl) cell5 (HX.out 1 _ rfl) ?_ | refine tRO rfl (sTm rfl) cell5 (HX.out 2 _ rfl) ?_ | refine tRO rfl (sTm rfl) cell5 (HX.out 3 _ rfl) ?_) | refine tG (fun w _ => (by go_simp; try rfl)) ?_); try simp only [put_some, put_none, eval_tmp, eval_const, sSet, zSet, List.getD_cons_succ, List.getD_cons_zero, wrap_eq]) | (refine plan_do rfl (fun K hK => ?_); go_wp2_with (first | go_skip); (refine hK.out _ _ (.inr (Keeps.zero hp)) ?_); clear hK K; try simp only [put_some, put_none, eval_tmp, eval_const, sSet, zSet, List.getD_cons_succ, List.getD_cons_zero, wrap_eq])
      go_wp2_with (first | go_skip | ((first | ((with_reducible refine pre_box _ _ rfl ?_); refine lB hp rfl (sTm rfl) rfl ?_; clear hp; intro b w1 hp) | ((with_reducible refine pre_load _ _ rfl ?_); first | refine lO hp rfl (sTm rfl) (by with_reducible first | exact cell3 | exact cell4 | exact cell57 | exact cell5 | exact cell160) aa5 ?_ | refine lRO hp rfl (sTm rfl) (by with_reducible first | exact cell3 | exact cell4 | exact cell57 | exact cell5 | exact cell160) (by first | exact HX.out 0 _ rfl | exact HX.out 1 _ rfl | exact HX.out 2 _ rfl | exact HX.out 3 _ rfl) ?_ | refine lA hp rfl (sTm rfl) agg162 aa5 ?_ | refine lR hp rfl (sTm rfl) agg162 HX.out ?_) | ((with_reducible refine pre_store _ _ _ rfl ?_); (first | refine sO hp rfl (sTm rfl) (by with_reducible first | exact cell3 | exact cell4 | exact cell57 | exact cell5 | exact cell160) aa5 ?_ | refine sA hp rfl (sTm rfl) (sTm rfl) agg162 aa5 ?_ | refine sG hp rfl (sTm rfl) (sTm rfl) agg162 aa5 ?_); clear hp; intro w1 hp; simp only [spl, zSet, sSet] at hp)); simp only [put_some, put_none, sSet, zSet]))
      refine bodyPost_ret (results_many (rs := [.tmp 2, .tmp 3, .tmp 4]) Tryz.results184 (.tmp rfl (.tmp rfl (.tmp rfl .nil)))) rfl ?_
      refine ⟨?_, hp.below⟩
      show Ending.returned (.tuple #[.int .i64 (wrap64 (wrap64 (wrap64 (wrap64 (16777216 * wrap64 (b0 : Int)) + wrap64 (65536 * wrap64 (b1 : Int))) + wrap64 (256 * wrap64 (b2 : Int))) + wrap64 (b3 : Int))), .int .i64 4, .int .i64 0]) = Ending.returned (.tuple #[.int .i64 ((((b0 * 256 + b1) * 256 + b2) * 256 + b3 : Nat) : Int), .int .i64 4, .int .i64 0])
      rw [HR.out]
    · rw [if_neg h]
      have e6 : decide ((127 : Int) < (b0 : Int)) = true := by simp; omega
      go_enter Tryz.func184, Tryz.ntmps184
      go_wp2_with (first | go_skip | ((first | ((with_reducible refine pre_box _ _ rfl ?_); refine lB hp rfl (sTm rfl) rfl ?_; clear hp; intro b w1 hp) | ((with_reducible refine pre_load _ _ rfl ?_); first | refine lO hp rfl (sTm rfl) (by with_reducible first | exact cell3 | exact cell4 | exact cell57 | exact cell5 | exact cell160) aa5 ?_ | refine lRO hp rfl (sTm rfl) (by with_reducible first | exact cell3 | exact cell4 | exact cell57 | exact cell5 | exact cell160) (by first | exact HX.out 0 _ rfl | exact HX.out 1 _ rfl | exact HX.out 2 _ rfl | exact HX.out 3 _ rfl) ?_ | refine lA hp rfl (sTm rfl) agg162 aa5 ?_ | refine lR hp rfl (sTm rfl) agg162 HX.out ?_) | ((with_reducible refine pre_store _ _ _ rfl ?_); (first | refine sO hp rfl (sTm rfl) (by with_reducible first | exact cell3 | exact cell4 | exact cell57 | exact cell5 | exact cell160) aa5 ?_ | refine sA hp rfl (sTm rfl) (sTm rfl) agg162 aa5 ?_ | refine sG hp rfl (sTm rfl) (sTm rfl) agg162 aa5 ?_); clear hp; intro w1 hp; simp only [spl, zSet, sSet] at hp)); simp only [put_some, put_none, sSet, zSet]))
      refine bodyPost_ret (results_many (rs := [.tmp 2, .tmp 3, .tmp 4]) Tryz.results184 (.tmp rfl (.tmp rfl (.tmp rfl .nil)))) rfl ?_
      exact ⟨⟨11, .inr rfl, rfl⟩, hp.below⟩
  · have hN : numR bs = none := by unfold numR; rw [if_neg (by omega)]
    rw [hN]
    have e1 : decide ((bs.length : Int) < 4) = true := by simp; omega
    clear hN h4 ha
    go_enter Tryz.func184, Tryz.ntmps184
    go_wp2_with (first | go_skip | ((first | ((with_reducible refine pre_box _ _ rfl ?_); refine lB hp rfl (sTm rfl) rfl ?_; clear hp; intro b w1 hp) | ((with_reducible refine pre_load _ _ rfl ?_); first | refine lO hp rfl (sTm rfl) (by with_reducible first | exact cell3 | exact cell4 | exact cell57 | exact cell5 | exact cell160) aa5 ?_ | refine lA hp rfl (sTm rfl) agg162 aa5 ?_) | ((with_reducible refine pre_store _ _ _ rfl ?_); (first | refine sO hp rfl (sTm rfl) (by with_reducible first | exact cell3 | exact cell4 | exact cell57 | exact cell5 | exact cell160) aa5 ?_ | refine sA hp rfl (sTm rfl) (sTm rfl) agg162 aa5 ?_ | refine sG hp rfl (sTm rfl) (sTm rfl) agg162 aa5 ?_); clear hp; intro w1 hp; simp only [spl, zSet, sSet] at hp)); simp only [put_some, put_none, sSet, zSet]))
    refine bodyPost_ret (results_many (rs := [.tmp 2, .tmp 3, .tmp 4]) Tryz.results184 (.tmp rfl (.tmp rfl (.tmp rfl .nil)))) rfl ?_
    exact ⟨⟨10, .inl rfl, rfl⟩, hp.below⟩
def RdiPost (w : World) (r : Option Int) (e : Ending) (w' : World) : Prop := (match r with
  | some v => e = .returned (.tuple #[.int .i64 v, .int .i64 8, .int .i64 0])
  | none => e = .returned (.tuple #[.int .i64 0, .int .i64 0, .int .i64 10])) ∧ Below w.heap.size w w'
set_option maxRecDepth 100000 in
set_option maxHeartbeats 4000000 in
theorem rdi110 (bs : List Nat) (a : Option Addr) (c : Nat) (hnc : bs.length ≤ c) (w : World) (ha : RdAt w a bs) :
    Calls Tryz.prog 110 #[.slice a bs.length c] w (RdiPost w (intR bs)) := by
  by_cases h8 : 8 ≤ bs.length
  · have hN : intR bs = some (wrap64 ((beV (bs.take 8) : Nat) : Int)) := by unfold intR; rw [if_pos h8]
    rw [hN]
    obtain ⟨b, off, rfl, hx⟩ := ha.1.elems 1 byV_len (by omega) (by decide)
    have HE := Lib.hid hx
    have HB := Lib.hid ha.2
    have e1 : decide ((bs.length : Int) < 8) = false := by simp; omega
    clear hN hx ha
    go_enter Tryz.func110, Tryz.ntmps110
    go_wp2_with (first | go_skip | ((first | ((with_reducible refine pre_box _ _ rfl ?_); refine lB hp rfl (sTm rfl) rfl ?_; clear hp; intro b w1 hp) | ((with_reducible refine pre_load _ _ rfl ?_); first | refine lO hp rfl (sTm rfl) (by with_reducible first | exact cell3 | exact cell4 | exact cell57 | exact cell5 | exact cell160) aa5 ?_ | refine lA hp rfl (sTm rfl) agg162 aa5 ?_) | ((with_reducible refine pre_store _ _ _ rfl ?_); (first | refine sO hp rfl (sTm rfl) (by with_reducible first | exact cell3 | exact cell4 | exact cell57 | exact cell5 | exact cell160) aa5 ?_ | refine sA hp rfl (sTm rfl) (sTm rfl) agg162 aa5 ?_ | refine sG hp rfl (sTm rfl) (sTm rfl) agg162 aa5 ?_); clear hp; intro w1 hp; simp only [spl, zSet, sSet] at hp)); simp only [put_some, put_none, sSet, zSet]))
    go_loopg [5, 6] 8 (fun m v i wr => ∃ j : Nat, m + j = 8 ∧ i = .int .i64 j ∧ v = .int .u64 ((beV (bs.take j) : Nat) : Int) ∧ wr = w)
    case atStart => exact ⟨0, by omega, rfl, rfl, rfl⟩
    case round =>
      obtain ⟨j, hkj, rfl, rfl, rfl⟩ := hrel
      by_cases hlt : j < 8
      · have hj := List.getElem?_eq_getElem (l := bs) (i := j) (by omega)
        have hX := HE.out j _ hj 0 _ rfl
        have hbt := beV_take hj
        have hd := beV_lt64 HB.out (k := j + 1) (by omega)
        have hx256 := HB.out _ (List.getElem_mem (l := bs) (n := j) (by omega))
        clear hj
        generalize bs[j]'(by omega) = x at hX hx256 hbt
        rw [hbt] at hd
        have HD : RowKit.Hid (beV (bs.take (j + 1)) = beV (bs.take j) * 256 + x) := Lib.hid hbt
        simp only [Nat.mul_one, Nat.add_zero] at hX
        have HX := Lib.hid hX
        generalize beV (bs.take j) = d at hd HD
        clear hX hbt
        have g1 : IntKind.u64.wrap ((d : Int) * 256) = (d : Int) * 256 := by rw [wrapU]; unfold uN; omega
        have g2 : IntKind.u64.wrap ((d : Int) * 256 + (x : Int)) = (d : Int) * 256 + (x : Int) := by rw [wrapU]; unfold uN; omega
        have f1 : (0 : Int) ≤ (j : Int) := by omega
        have f2 : (j : Int) < (bs.length : Int) := by omega
        have f3 : (j : Int) < 8 := by omega
        go_wp2_with (first | ((with_reducible refine pre_load 5 _ rfl ?_); refine wpList_loadRowOne_hp (Hp.start _) _ _ rfl wy _ _ (sTm rfl) cell5 _ HX.out ?_; simp only [put_some, put_none, sSet, zSet]) | go_skip | ((first | ((with_reducible refine pre_box _ _ rfl ?_); refine lB hp rfl (sTm rfl) rfl ?_; clear hp; intro b w1 hp) | ((with_reducible refine pre_load _ _ rfl ?_); first | refine lO hp rfl (sTm rfl) (by with_reducible first | exact cell3 | exact cell4 | exact cell57 | exact cell5 | exact cell160) aa5 ?_ | refine lA hp rfl (sTm rfl) agg162 aa5 ?_) | ((with_reducible refine pre_store _ _ _ rfl ?_); (first | refine sO hp rfl (sTm rfl) (by with_reducible first | exact cell3 | exact cell4 | exact cell57 | exact cell5 | exact cell160) aa5 ?_ | refine sA hp rfl (sTm rfl) (sTm rfl) agg162 aa5 ?_ | refine sG hp rfl (sTm rfl) (sTm rfl) agg162 aa5 ?_); clear hp; intro w1 hp; simp only [spl, zSet, sSet] at hp)); simp only [put_some, put_none, sSet, zSet]))
        go_roundg (gk - 1)
        case measure => omega
        case rel => exact ⟨j + 1, by omega, by go_num, by rw [HD.out]; push_cast; rfl, rfl⟩
      · obtain rfl : j = 8 := by omega
        have f2 : decide (((8 : Nat) : Int) < 8) = false := by simp
        go_wp2_with (first | go_skip | ((first | ((with_reducible refine pre_box _ _ rfl ?_); refine lB hp rfl (sTm rfl) rfl ?_; clear hp; intro b w1 hp) | ((with_reducible refine pre_load _ _ rfl ?_); first | refine lO hp rfl (sTm rfl) (by with_reducible first | exact cell3 | exact cell4 | exact cell57 | exact cell5 | exact cell160) aa5 ?_ | refine lA hp rfl (sTm rfl) agg162 aa5 ?_) | ((with_reducible refine pre_store _ _ _ rfl ?_); (first | refine sO hp rfl (sTm rfl) (by with_reducible first | exact cell3 | exact cell4 | exact cell57 | exact cell5 | exact cell160) aa5 ?_ | refine sA hp rfl (sTm rfl) (sTm rfl) agg162 aa5 ?_ | refine sG hp rfl (sTm rfl) (sTm rfl) agg162 aa5 ?_); clear hp; intro w1 hp; simp only [spl, zSet, sSet] at hp)); simp only [put_some, put_none, sSet, zSet]))
        refine bodyPost_ret (results_many (rs := [.tmp 2, .tmp 3, .tmp 4]) Tryz.results110 (.tmp rfl (.tmp rfl (.tmp rfl .nil)))) rfl ?_
        exact ⟨rfl, Below.refl _ _⟩
  · have hN : intR bs = none := by unfold intR; rw [if_neg h8]
    rw [hN]
    have e1 : decide ((bs.length : Int) < 8) = true := by simp; omega
    clear hN h8 ha
    go_enter Tryz.func110, Tryz.ntmps110
    go_wp2_with (first | go_skip | ((first | ((with_reducible refine pre_box _ _ rfl ?_); refine lB hp rfl (sTm rfl) rfl ?_; clear hp; intro b w1 hp) | ((with_reducible refine pre_load _ _ rfl ?_); first | refine lO hp rfl (sTm rfl) (by with_reducible first | exact cell3 | exact cell4 | exact cell57 | exact cell5 | exact cell160) aa5 ?_ | refine lA hp rfl (sTm rfl) agg162 aa5 ?_) | ((with_reducible refine pre_store _ _ _ rfl ?_); (first | refine sO hp rfl (sTm rfl) (by with_reducible first | exact cell3 | exact cell4 | exact cell57 | exact cell5 | exact cell160) aa5 ?_ | refine sA hp rfl (sTm rfl) (sTm rfl) agg162 aa5 ?_ | refine sG hp rfl (sTm rfl) (sTm rfl) agg162 aa5 ?_); clear hp; intro w1 hp; simp only [spl, zSet, sSet] at hp)); simp only [put_some, put_none, sSet, zSet]))
    refine bodyPost_ret (results_many (rs := [.tmp 2, .tmp 3, .tmp 4]) Tryz.results110 (.tmp rfl (.tmp rfl (.tmp rfl .nil)))) rfl ?_
    exact ⟨rfl, Below.refl _ _⟩
def NIs (st : Option (List Nat)) (bs : List Nat) (bad : Bool) : Prop := match st with
  | some b => bad = false ∧ bs = b
  | none => bad = true
def NSt (w0 : World) (br : Nat) (st : Option (List Nat)) (L : List Blk) (w : World) : Prop := ∃ a bs c bad, bs.length ≤ c ∧ RdAt w0 a bs ∧ NIs st bs bad ∧ Hp w0.heap.size w0 w (⟨br, [.slice a bs.length c, .bool bad], 162, 2⟩ :: L)
def NRel {α : Type} (one : List Nat → Option (α × List Nat)) (st : Option (List Nat)) (x : α) (st' : Option (List Nat)) : Prop := match st.bind one with
  | some (y, b1) => x = y ∧ st' = some b1
  | none => st' = none
theorem NRel.none_ {α : Type} {one : List Nat → Option (α × List Nat)} {x : α} {st' : Option (List Nat)} (h : NRel one none x st') : st' = none := h
theorem NRel.bad {α : Type} {one : List Nat → Option (α × List Nat)} {b : List Nat} {x : α} {st' : Option (List Nat)} (h : NRel one (some b) x st') (hn : one b = none) : st' = none := by
  unfold NRel at h
  rw [show (some b).bind one = none from hn] at h
  exact h
theorem NRel.good {α : Type} {one : List Nat → Option (α × List Nat)} {b b1 : List Nat} {x y : α} {st' : Option (List Nat)} (h : NRel one (some b) x st') (hn : one b = some (y, b1)) : x = y ∧ st' = some b1 := by
  unfold NRel at h
  rw [show (some b).bind one = some (y, b1) from hn] at h
  exact h
def NumPost (w0 : World) (br : Nat) (st : Option (List Nat)) (L : List Blk) (e : Ending) (w' : World) : Prop := ∃ (v : Nat) (st' : Option (List Nat)), v ≤ 2147483647 ∧ e = .returned (.int .i64 v) ∧ NRel nR st (v : Int) st' ∧ NSt w0 br st' L w'
def IntPost (w0 : World) (br : Nat) (st : Option (List Nat)) (L : List Blk) (e : Ending) (w' : World) : Prop := ∃ (v : Int) (st' : Option (List Nat)), e = .returned (.int .i64 v) ∧ NRel iR st v st' ∧ NSt w0 br st' L w'
set_option maxRecDepth 100000 in
set_option maxHeartbeats 4000000 in
theorem num113 (br : Nat) (st : Option (List Nat)) {w0 w : World} {L : List Blk} (hs : NSt w0 br st L w) :
    Calls Tryz.prog 113 #[.pointer (some ⟨br, 0, none⟩)] w (NumPost w0 br st L) := by
  obtain ⟨a, bs, c, bad, hnc, ha, hst, hp⟩ := hs
  have HA := Lib.hid ha
  cases hv : numR bs with
  | none =>
    have HV := Lib.hid hv
    have hr : st.bind nR = none := by
      cases st with
      | none => rfl
      | some b =>
        obtain ⟨_, rfl⟩ := hst
        show nR bs = none
        unfold nR; rw [hv]; rfl
    have HPO : RowKit.Hid (NRel nR st ((0 : Nat) : Int) none) := Lib.hid (by unfold NRel; rw [hr])
    clear hv ha hr hst
    go_enter Tryz.func113, Tryz.ntmps113
    go_wp2_with (first | (go_at_call 184; (with_reducible refine (rdn184 bs _ _ hnc _ (HA.out.below hp.below)).mono ?_); rintro e w1 ⟨hq, hb⟩; replace hp := hp.call hb; clear hb; rw [HV.out] at hq; simp only at hq; first | subst hq | (obtain ⟨q, hq, rfl⟩ := hq)) | go_skip | ((first | ((with_reducible refine pre_box _ _ rfl ?_); refine lB hp rfl (sTm rfl) rfl ?_; clear hp; intro b w1 hp) | ((with_reducible refine pre_load _ _ rfl ?_); first | refine lO hp rfl (sTm rfl) (by with_reducible first | exact cell3 | exact cell4 | exact cell57 | exact cell5 | exact cell160) aa5 ?_ | refine lA hp rfl (sTm rfl) agg162 aa5 ?_) | ((with_reducible refine pre_store _ _ _ rfl ?_); (first | refine sO hp rfl (sTm rfl) (by with_reducible first | exact cell3 | exact cell4 | exact cell57 | exact cell5 | exact cell160) aa5 ?_ | refine sA hp rfl (sTm rfl) (sTm rfl) agg162 aa5 ?_ | refine sG hp rfl (sTm rfl) (sTm rfl) agg162 aa5 ?_); clear hp; intro w1 hp; simp only [spl, zSet, sSet] at hp)); simp only [put_some, put_none, sSet, zSet]))
    have e1 : (q == 0) = false := by rcases hq with rfl | rfl <;> rfl
    clear hq
    go_wp2_with (first | go_skip | ((first | ((with_reducible refine pre_box _ _ rfl ?_); refine lB hp rfl (sTm rfl) rfl ?_; clear hp; intro b w1 hp) | ((with_reducible refine pre_load _ _ rfl ?_); first | refine lO hp rfl (sTm rfl) (by with_reducible first | exact cell3 | exact cell4 | exact cell57 | exact cell5 | exact cell160) aa5 ?_ | refine lA hp rfl (sTm rfl) agg162 aa5 ?_) | ((with_reducible refine pre_store _ _ _ rfl ?_); (first | refine sO hp rfl (sTm rfl) (by with_reducible first | exact cell3 | exact cell4 | exact cell57 | exact cell5 | exact cell160) aa5 ?_ | refine sA hp rfl (sTm rfl) (sTm rfl) agg162 aa5 ?_ | refine sG hp rfl (sTm rfl) (sTm rfl) agg162 aa5 ?_); clear hp; intro w1 hp; simp only [spl, zSet, sSet] at hp)); simp only [put_some, put_none, sSet, zSet]))
    go_ret
    exact ⟨0, none, by decide, rfl, HPO.out, a, bs, c, true, hnc, HA.out, rfl, hp⟩
  | some v =>
    have HV := Lib.hid hv
    obtain ⟨hn, _, hm⟩ := numR_len hv
    obtain ⟨b, off, rfl, _⟩ := ha.1.addr (by rw [flat_len byV 1 byV_len]; omega)
    have HDR := Lib.hid (ha.drop 4)
    have hlen : (bs.drop 4).length = bs.length - 4 := List.length_drop ..
    have HPO : RowKit.Hid (NRel nR st (v : Int) (if bad = true then none else some (bs.drop 4))) := Lib.hid (by
      cases st with
      | none =>
        have hb : bad = true := hst
        subst hb; rfl
      | some b' =>
        obtain ⟨hb, rfl⟩ := hst
        subst hb
        have hr : (some bs).bind nR = some ((v : Int), bs.drop 4) := by
          show nR bs = _
          unfold nR; rw [hv]; rfl
        unfold NRel
        rw [hr]
        exact ⟨rfl, rfl⟩)
    have HIS : RowKit.Hid (NIs (if bad = true then none else some (bs.drop 4)) (bs.drop 4) bad) := Lib.hid (by cases bad <;> simp [NIs])
    have e1 : (4 : Int) ≤ (bs.length : Int) := by omega
    have e2 : (4 : Int) ≤ (c : Int) := by omega
    have e3 : (bs.length : Int) ≤ (c : Int) := by omega
    clear hv ha hst
    by_cases h : c = 4
    · subst h
      have HBL : RowKit.Hid (bs.length = 4) := Lib.hid (by omega)
      go_enter Tryz.func113, Tryz.ntmps113
      go_wp2_with (first | (go_at_call 184; (with_reducible refine (rdn184 bs _ _ hnc _ (HA.out.below hp.below)).mono ?_); rintro e w1 ⟨hq, hb⟩; replace hp := hp.call hb; clear hb; rw [HV.out] at hq; simp only at hq; first | subst hq | (obtain ⟨q, hq, rfl⟩ := hq)) | go_skip | ((first | ((with_reducible refine pre_box _ _ rfl ?_); refine lB hp rfl (sTm rfl) rfl ?_; clear hp; intro b w1 hp) | ((with_reducible refine pre_load _ _ rfl ?_); first | refine lO hp rfl (sTm rfl) (by with_reducible first | exact cell3 | exact cell4 | exact cell57 | exact cell5 | exact cell160) aa5 ?_ | refine lA hp rfl (sTm rfl) agg162 aa5 ?_) | ((with_reducible refine pre_store _ _ _ rfl ?_); (first | refine sO hp rfl (sTm rfl) (by with_reducible first | exact cell3 | exact cell4 | exact cell57 | exact cell5 | exact cell160) aa5 ?_ | refine sA hp rfl (sTm rfl) (sTm rfl) agg162 aa5 ?_ | refine sG hp rfl (sTm rfl) (sTm rfl) agg162 aa5 ?_); clear hp; intro w1 hp; simp only [spl, zSet, sSet] at hp)); simp only [put_some, put_none, sSet, zSet]))
      go_ret
      have hbl := HBL.out
      have hnil : bs.drop 4 = [] := List.drop_eq_nil_of_le (by omega)
      refine ⟨v, _, hm, rfl, HPO.out, some ⟨b, off, none⟩, bs.drop 4, 0, bad, by rw [hlen]; omega, by rw [hnil]; exact RdAt.none_ _ _, HIS.out, ?_⟩
      rw [hlen]
      simpa [hbl] using hp
    · go_enter Tryz.func113, Tryz.ntmps113
      go_wp2_with (first | (go_at_call 184; (with_reducible refine (rdn184 bs _ _ hnc _ (HA.out.below hp.below)).mono ?_); rintro e w1 ⟨hq, hb⟩; replace hp := hp.call hb; clear hb; rw [HV.out] at hq; simp only at hq; first | subst hq | (obtain ⟨q, hq, rfl⟩ := hq)) | go_skip | ((first | ((with_reducible refine pre_box _ _ rfl ?_); refine lB hp rfl (sTm rfl) rfl ?_; clear hp; intro b w1 hp) | ((with_reducible refine pre_load _ _ rfl ?_); first | refine lO hp rfl (sTm rfl) (by with_reducible first | exact cell3 | exact cell4 | exact cell57 | exact cell5 | exact cell160) aa5 ?_ | refine lA hp rfl (sTm rfl) agg162 aa5 ?_) | ((with_reducible refine pre_store _ _ _ rfl ?_); (first | refine sO hp rfl (sTm rfl) (by with_reducible first | exact cell3 | exact cell4 | exact cell57 | exact cell5 | exact cell160) aa5 ?_ | refine sA hp rfl (sTm rfl) (sTm rfl) agg162 aa5 ?_ | refine sG hp rfl (sTm rfl) (sTm rfl) agg162 aa5 ?_); clear hp; intro w1 hp; simp only [spl, zSet, sSet] at hp)); simp only [put_some, put_none, sSet, zSet]))
      go_ret
      refine ⟨v, _, hm, rfl, HPO.out, some ⟨b, off + 4, none⟩, bs.drop 4, c - 4, bad, by rw [hlen]; omega, HDR.out, HIS.out, ?_⟩
      rw [hlen]
      simpa [h] using hp
set_option maxRecDepth 100000 in
set_option maxHeartbeats 4000000 in
theorem int118 (br : Nat) (st : Option (List Nat)) {w0 w : World} {L : List Blk} (hs : NSt w0 br st L w) :
    Calls Tryz.prog 118 #[.pointer (some ⟨br, 0, none⟩)] w (IntPost w0 br st L) := by
  obtain ⟨a, bs, c, bad, hnc, ha, hst, hp⟩ := hs
  have HA := Lib.hid ha
  cases hv : intR bs with
  | none =>
    have HV := Lib.hid hv
    have hr : st.bind iR = none := by
      cases st with
      | none => rfl
      | some b =>
        obtain ⟨_, rfl⟩ := hst
        show iR bs = none
        unfold iR; rw [hv]; rfl
    have HPO : RowKit.Hid (NRel iR st 0 none) := Lib.hid (by unfold NRel; rw [hr])
    clear hv ha hr hst
    go_enter Tryz.func118, Tryz.ntmps118
    go_wp2_with (first | (go_at_call 110; (with_reducible refine (rdi110 bs _ _ hnc _ (HA.out.below hp.below)).mono ?_); rintro e w1 ⟨hq, hb⟩; replace hp := hp.call hb; clear hb; rw [HV.out] at hq; simp only at hq; subst hq) | go_skip | ((first | ((with_reducible refine pre_box _ _ rfl ?_); refine lB hp rfl (sTm rfl) rfl ?_; clear hp; intro b w1 hp) | ((with_reducible refine pre_load _ _ rfl ?_); first | refine lO hp rfl (sTm rfl) (by with_reducible first | exact cell3 | exact cell4 | exact cell57 | exact cell5 | exact cell160) aa5 ?_ | refine lA hp rfl (sTm rfl) agg162 aa5 ?_) | ((with_reducible refine pre_store _ _ _ rfl ?_); (first | refine sO hp rfl (sTm rfl) (by with_reducible first | exact cell3 | exact cell4 | exact cell57 | exact cell5 | exact cell160) aa5 ?_ | refine sA hp rfl (sTm rfl) (sTm rfl) agg162 aa5 ?_ | refine sG hp rfl (sTm rfl) (sTm rfl) agg162 aa5 ?_); clear hp; intro w1 hp; simp only [spl, zSet, sSet] at hp)); simp only [put_some, put_none, sSet, zSet]))
    go_ret
    exact ⟨0, none, rfl, HPO.out, a, bs, c, true, hnc, HA.out, rfl, hp⟩
  | some v =>
    have HV := Lib.hid hv
    have hn : 8 ≤ bs.length := by
      unfold intR at hv
      split at hv
      · assumption
      · cases hv
    obtain ⟨b, off, rfl, _⟩ := ha.1.addr (by rw [flat_len byV 1 byV_len]; omega)
    have HDR := Lib.hid (ha.drop 8)
    have hlen : (bs.drop 8).length = bs.length - 8 := List.length_drop ..
    have HPO : RowKit.Hid (NRel iR st v (if bad = true then none else some (bs.drop 8))) := Lib.hid (by
      cases st with
      | none =>
        have hb : bad = true := hst
        subst hb; rfl
      | some b' =>
        obtain ⟨hb, rfl⟩ := hst
        subst hb
        have hr : (some bs).bind iR = some (v, bs.drop 8) := by
          show iR bs = _
          unfold iR; rw [hv]; rfl
        unfold NRel
        rw [hr]
        exact ⟨rfl, rfl⟩)
    have HIS : RowKit.Hid (NIs (if bad = true then none else some (bs.drop 8)) (bs.drop 8) bad) := Lib.hid (by cases bad <;> simp [NIs])
    have e1 : (8 : Int) ≤ (bs.length : Int) := by omega
    have e2 : (8 : Int) ≤ (c : Int) := by omega
    have e3 : (bs.length : Int) ≤ (c : Int) := by omega
    clear hv ha hst
    by_cases h : c = 8
    · subst h
      have HBL : RowKit.Hid (bs.length = 8) := Lib.hid (by omega)
      go_enter Tryz.func118, Tryz.ntmps118
      go_wp2_with (first | (go_at_call 110; (with_reducible refine (rdi110 bs _ _ hnc _ (HA.out.below hp.below)).mono ?_); rintro e w1 ⟨hq, hb⟩; replace hp := hp.call hb; clear hb; rw [HV.out] at hq; simp only at hq; subst hq) | go_skip | ((first | ((with_reducible refine pre_box _ _ rfl ?_); refine lB hp rfl (sTm rfl) rfl ?_; clear hp; intro b w1 hp) | ((with_reducible refine pre_load _ _ rfl ?_); first | refine lO hp rfl (sTm rfl) (by with_reducible first | exact cell3 | exact cell4 | exact cell57 | exact cell5 | exact cell160) aa5 ?_ | refine lA hp rfl (sTm rfl) agg162 aa5 ?_) | ((with_reducible refine pre_store _ _ _ rfl ?_); (first | refine sO hp rfl (sTm rfl) (by with_reducible first | exact cell3 | exact cell4 | exact cell57 | exact cell5 | exact cell160) aa5 ?_ | refine sA hp rfl (sTm rfl) (sTm rfl) agg162 aa5 ?_ | refine sG hp rfl (sTm rfl) (sTm rfl) agg162 aa5 ?_); clear hp; intro w1 hp; simp only [spl, zSet, sSet] at hp)); simp only [put_some, put_none, sSet, zSet]))
      go_ret
      have hbl := HBL.out
      have hnil : bs.drop 8 = [] := List.drop_eq_nil_of_le (by omega)
      refine ⟨v, _, rfl, HPO.out, some ⟨b, off, none⟩, bs.drop 8, 0, bad, by rw [hlen]; omega, by rw [hnil]; exact RdAt.none_ _ _, HIS.out, ?_⟩
      rw [hlen]
      simpa [hbl] using hp
    · go_enter Tryz.func118, Tryz.ntmps118
      go_wp2_with (first | (go_at_call 110; (with_reducible refine (rdi110 bs _ _ hnc _ (HA.out.below hp.below)).mono ?_); rintro e w1 ⟨hq, hb⟩; replace hp := hp.call hb; clear hb; rw [HV.out] at hq; simp only at hq; subst hq) | go_skip | ((first | ((with_reducible refine pre_box _ _ rfl ?_); refine lB hp rfl (sTm rfl) rfl ?_; clear hp; intro b w1 hp) | ((with_reducible refine pre_load _ _ rfl ?_); first | refine lO hp rfl (sTm rfl) (by with_reducible first | exact cell3 | exact cell4 | exact cell57 | exact cell5 | exact cell160) aa5 ?_ | refine lA hp rfl (sTm rfl) agg162 aa5 ?_) | ((with_reducible refine pre_store _ _ _ rfl ?_); (first | refine sO hp rfl (sTm rfl) (by with_reducible first | exact cell3 | exact cell4 | exact cell57 | exact cell5 | exact cell160) aa5 ?_ | refine sA hp rfl (sTm rfl) (sTm rfl) agg162 aa5 ?_ | refine sG hp rfl (sTm rfl) (sTm rfl) agg162 aa5 ?_); clear hp; intro w1 hp; simp only [spl, zSet, sSet] at hp)); simp only [put_some, put_none, sSet, zSet]))
      go_ret
      refine ⟨v, _, rfl, HPO.out, some ⟨b, off + 8, none⟩, bs.drop 8, c - 8, bad, by rw [hlen]; omega, HDR.out, HIS.out, ?_⟩
      rw [hlen]
      simpa [h] using hp
end Go.Proofs.YtaafajaadfgaoaaGreat
/- The walk of the document's GetOp, of any bytes. -/
namespace Go.Proofs.YtaafajaadfgaoaaGreat
open Go.RowKit
theorem ceGOb0 {ty : TypeId} (h : cellB Tryz.prog ty = true := by with_reducible first | exact cell3 | exact cell4 | exact cell37 | exact cell57) : cellB Tryz.prog ty = true := h
theorem zero154 : zeroL Tryz.prog 154 = some ([.int .i64 0, .int .i64 0, .int .i64 0, .int .i64 0, .int .i64 0, .int .i64 0, .int .i64 0], 7) := by kernel_rfl
theorem zero29 : zeroL Tryz.prog 29 = some ([.int .i64 0, .int .i64 0, .int .i64 0, .int .i64 0, .int .i64 0, .int .i64 0, .int .i64 0], 7) := by kernel_rfl
theorem rdi_at (bs : List Nat) (q k8 : Nat) (hk : 8 * q = k8) (hq : q < 7) (hl : bs.length = 56) (x : Int) (hx : intAt bs q = x) (b off c : Nat) (hc : 56 ≤ c) (w : World) (ha : RdAt w (some ⟨b, off, none⟩) bs) :
    Calls Tryz.prog 110 #[.slice (some ⟨b, off + k8, none⟩) (bs.length - k8) (c - k8)] w fun e w' => e = .returned (.tuple #[.int .i64 x, .int .i64 8, .int .i64 0]) ∧ Below w.heap.size w w' := by
  have h := rdi110 (bs.drop k8) (some ⟨b, off + k8, none⟩) (c - k8) (by rw [List.length_drop]; omega) w (ha.drop k8)
  rw [List.length_drop] at h
  refine h.mono fun e w' h2 => ?_
  have hr : intR (bs.drop k8) = some x := by
    unfold intR
    rw [if_pos (by rw [List.length_drop]; omega), ← hk]
    exact congrArg some hx
  unfold RdiPost at h2
  rw [hr] at h2
  exact h2
set_option maxRecDepth 100000 in
set_option maxHeartbeats 8000000 in
theorem getOp06_no (bs : List Nat) (hl : bs.length ≠ 56) (a : Option Addr) (c : Nat) (w : World) :
    Calls Tryz.prog 40 #[.slice a bs.length c] w fun e w' => e = .returned (.tuple #[.agg #[.int .i64 0, .int .i64 0, .int .i64 0, .int .i64 0, .int .i64 0, .int .i64 0, .int .i64 0], .int .i64 60]) ∧ Below w.heap.size w w' := by
  have hp := Hp.start w
  have e1 : ((bs.length : Int) != 56) = true := by simp; omega
  clear hl
  go_enter Tryz.func40, Tryz.ntmps40
  go_wp2_with (first | go_skip | ((first | ((with_reducible refine pre_alloc _ rfl ?_); refine lZ hp rfl (by with_reducible first | exact zero29 | exact zero154) ?_; clear hp; intro b w1 hp) | ((with_reducible refine pre_box _ _ rfl ?_); refine lB hp rfl (sTm rfl) rfl ?_; clear hp; intro b w1 hp) | ((with_reducible refine pre_load _ _ rfl ?_); first | refine lO hp rfl (sTm rfl) ceGOb0 aa5 ?_ | refine lA hp rfl (sTm rfl) agg29 aa5 ?_) | ((with_reducible refine pre_store _ _ _ rfl ?_); (first | refine sO hp rfl (sTm rfl) ceGOb0 aa5 ?_ | refine sA hp rfl (sTm rfl) (sTm rfl) agg29 aa5 ?_ | refine sG hp rfl (sTm rfl) (sTm rfl) agg29 aa5 ?_); clear hp; intro w1 hp; simp only [spl, zSet, sSet] at hp) | ((with_reducible refine pre_build _ _ _ rfl ?_); refine lS hp rfl (by intro w; go_simp; rfl) ?_; clear hp; intro b w1 hp; simp only [List.length_cons, List.length_nil, Nat.reduceAdd] at hp)); simp only [put_some, put_none, sSet, zSet]))
  exact bodyPost_ret (results_many (rs := [.cell 2 29, .tmp 3]) Tryz.results40 (.cell rfl (hp.loadAgg agg29 at0 0 _ (by rfl) (by rfl)) (.tmp rfl .nil))) rfl ⟨rfl, hp.below⟩
set_option maxRecDepth 100000 in
set_option maxHeartbeats 8000000 in
theorem getOp06_yes (bs : List Nat) (hl : bs.length = 56) (k h i n m v t : Int) (hr : (List.range 7).map (intAt bs) = [k, h, i, n, m, v, t]) (a : Option Addr) (c : Nat) (hnc : bs.length ≤ c) (w : World) (ha : RdAt w a bs) :
    Calls Tryz.prog 40 #[.slice a bs.length c] w fun e w' => e = .returned (.tuple #[.agg #[.int .i64 k, .int .i64 h, .int .i64 i, .int .i64 n, .int .i64 m, .int .i64 v, .int .i64 t], .int .i64 0]) ∧ Below w.heap.size w w' := by
  have hp := Hp.start w
  obtain ⟨b, off, rfl, _⟩ := ha.1.elems 1 byV_len (by omega) (by decide)
  have HA := Lib.hid ha
  have HL := Lib.hid hl
  have HC : RowKit.Hid (56 ≤ c) := Lib.hid (by omega)
  have HR := Lib.hid hr
  have e1 : ((bs.length : Int) != 56) = false := by simp; omega
  clear ha hl hnc hr
  go_enter Tryz.func40, Tryz.ntmps40
  go_wp2_with (first | go_skip | ((first | ((with_reducible refine pre_alloc _ rfl ?_); refine lZ hp rfl (by with_reducible first | exact zero29 | exact zero154) ?_; clear hp; intro b w1 hp) | ((with_reducible refine pre_box _ _ rfl ?_); refine lB hp rfl (sTm rfl) rfl ?_; clear hp; intro b w1 hp) | ((with_reducible refine pre_load _ _ rfl ?_); first | refine lO hp rfl (sTm rfl) ceGOb0 aa5 ?_ | refine lA hp rfl (sTm rfl) agg29 aa5 ?_) | ((with_reducible refine pre_store _ _ _ rfl ?_); (first | refine sO hp rfl (sTm rfl) ceGOb0 aa5 ?_ | refine sA hp rfl (sTm rfl) (sTm rfl) agg29 aa5 ?_ | refine sG hp rfl (sTm rfl) (sTm rfl) agg29 aa5 ?_); clear hp; intro w1 hp; simp only [spl, zSet, sSet] at hp) | ((with_reducible refine pre_build _ _ _ rfl ?_); refine lS hp rfl (by intro w; go_simp; rfl) ?_; clear hp; intro b w1 hp; simp only [List.length_cons, List.length_nil, Nat.reduceAdd] at hp)); simp only [put_some, put_none, sSet, zSet]))
  obtain ⟨b4, rfl⟩ := hp.id0
  obtain ⟨b2, rfl⟩ := hp.id1
  go_loopg [5] 7 (fun kq iv wr => ∃ (q : Nat) (cells : List Value), kq + q = 7 ∧ iv = .int .i64 q ∧ RowKit.Hid (cells.length = 7) ∧ RowKit.Hid (∀ j, j < q → cells[j]? = some (.int .i64 (intAt bs j))) ∧ Hp w.heap.size w wr [⟨b4, cells, 154, 7⟩, ⟨b2, [.int .i64 0, .int .i64 0, .int .i64 0, .int .i64 0, .int .i64 0, .int .i64 0, .int .i64 0], 29, 7⟩])
  case atStart => exact ⟨0, _, by omega, rfl, Lib.hid rfl, Lib.hid (fun j hj => by omega), hp⟩
  case round =>
    clear hp
    obtain ⟨q, cells, hkq, rfl, HCL, HCE, hp⟩ := hrel
    by_cases hlt : q < 7
    · have HQ7 := Lib.hid hlt
      have HQL : RowKit.Hid (q < cells.length) := Lib.hid (by rw [HCL.out]; exact hlt)
      have e3 : decide ((q : Int) < 7) = true := by simp; omega
      have hcl := HL.out
      have hcc := HC.out
      have f1 : (0 : Int) ≤ 8 * (q : Int) := by omega
      have f2 : 8 * (q : Int) ≤ (bs.length : Int) := by omega
      have f3 : ¬ c = 8 * q := by omega
      have f4 : (0 : Int) ≤ (q : Int) := by omega
      have f5 : (q : Int) < 7 := by omega
      have HCN : RowKit.Hid ((cells.set q (.int .i64 (intAt bs q))).length = 7) := Lib.hid (by rw [List.length_set]; exact HCL.out)
      have HCM : RowKit.Hid (∀ j, j < q + 1 → (cells.set q (.int .i64 (intAt bs q)))[j]? = some (.int .i64 (intAt bs j))) := Lib.hid (fun j hj => by
        by_cases h : j = q
        · subst h; rw [List.getElem?_set_self HQL.out]
        · rw [List.getElem?_set_ne (by omega)]; exact HCE.out j (by omega))
      clear hcl hcc
      go_wp2_with (first | (go_at_call 110; (with_reducible refine (rdi_at bs q (8 * q) rfl HQ7.out HL.out _ rfl b off c HC.out _ (HA.out.below hp.below)).mono ?_); rintro e w1 ⟨rfl, hb⟩; replace hp := hp.call hb; clear hb) | ((with_reducible refine pre_store 3 _ _ rfl ?_); refine sO hp rfl (sTm rfl) cell3 at0 ?_ (hlen := HQL.out); clear hp; intro w1 hp; simp only [sSet, zSet] at hp; simp only [put_some, put_none, sSet, zSet]) | go_skip | ((first | ((with_reducible refine pre_alloc _ rfl ?_); refine lZ hp rfl (by with_reducible first | exact zero29 | exact zero154) ?_; clear hp; intro b w1 hp) | ((with_reducible refine pre_box _ _ rfl ?_); refine lB hp rfl (sTm rfl) rfl ?_; clear hp; intro b w1 hp) | ((with_reducible refine pre_load _ _ rfl ?_); first | refine lO hp rfl (sTm rfl) ceGOb0 aa5 ?_ | refine lA hp rfl (sTm rfl) agg29 aa5 ?_) | ((with_reducible refine pre_store _ _ _ rfl ?_); (first | refine sO hp rfl (sTm rfl) ceGOb0 aa5 ?_ | refine sA hp rfl (sTm rfl) (sTm rfl) agg29 aa5 ?_ | refine sG hp rfl (sTm rfl) (sTm rfl) agg29 aa5 ?_); clear hp; intro w1 hp; simp only [spl, zSet, sSet] at hp) | ((with_reducible refine pre_build _ _ _ rfl ?_); refine lS hp rfl (by intro w; go_simp; rfl) ?_; clear hp; intro b w1 hp; simp only [List.length_cons, List.length_nil, Nat.reduceAdd] at hp)); simp only [put_some, put_none, sSet, zSet]))
      go_roundg (gk - 1)
      case measure => omega
      case rel => exact ⟨q + 1, _, by omega, by go_num, HCN, HCM, hp⟩
    · obtain rfl : q = 7 := by omega
      have hcs : cells = [.int .i64 k, .int .i64 h, .int .i64 i, .int .i64 n, .int .i64 m, .int .i64 v, .int .i64 t] := by
        have hm := HR.out
        have h1 : cells = ((List.range 7).map (intAt bs)).map (Value.int .i64) := by
          apply List.ext_getElem?
          intro j
          rcases Nat.lt_or_ge j 7 with hj | hj
          · rw [HCE.out j hj, List.map_map, List.getElem?_map, List.getElem?_range hj]; rfl
          · rw [List.getElem?_eq_none (by rw [HCL.out]; exact hj), List.getElem?_eq_none (by simp; exact hj)]
        rw [h1, hm]; rfl
      subst hcs
      clear HCL HCE hkq hlt
      go_wp2_with (first | go_skip | ((first | ((with_reducible refine pre_alloc _ rfl ?_); refine lZ hp rfl (by with_reducible first | exact zero29 | exact zero154) ?_; clear hp; intro b w1 hp) | ((with_reducible refine pre_box _ _ rfl ?_); refine lB hp rfl (sTm rfl) rfl ?_; clear hp; intro b w1 hp) | ((with_reducible refine pre_load _ _ rfl ?_); first | refine lO hp rfl (sTm rfl) ceGOb0 aa5 ?_ | refine lA hp rfl (sTm rfl) agg29 aa5 ?_) | ((with_reducible refine pre_store _ _ _ rfl ?_); (first | refine sO hp rfl (sTm rfl) ceGOb0 aa5 ?_ | refine sA hp rfl (sTm rfl) (sTm rfl) agg29 aa5 ?_ | refine sG hp rfl (sTm rfl) (sTm rfl) agg29 aa5 ?_); clear hp; intro w1 hp; simp only [spl, zSet, sSet] at hp) | ((with_reducible refine pre_build _ _ _ rfl ?_); refine lS hp rfl (by intro w; go_simp; rfl) ?_; clear hp; intro b w1 hp; simp only [List.length_cons, List.length_nil, Nat.reduceAdd] at hp)); simp only [put_some, put_none, sSet, zSet]))
      exact bodyPost_ret (results_many (rs := [.cell 2 29, .tmp 3]) Tryz.results40 (.cell rfl (hp.loadAgg agg29 at1 0 _ (by rfl) (by rfl)) (.tmp rfl .nil))) rfl ⟨rfl, hp.below⟩
end Go.Proofs.YtaafajaadfgaoaaGreat
/- The walks of Lent and Kept. -/
namespace Go.Proofs.YtaafajaadfgaoaaGreat
open Go.RowKit
theorem ceLEa0 {ty : TypeId} (h : cellB Tryz.prog ty = true := by with_reducible first | exact cell3 | exact cell4 | exact cell5 | exact cell57) : cellB Tryz.prog ty = true := h
def lentX (bs : List Nat) (q : Nat) : List Value := bs.flatMap byV ++ List.replicate q (Value.int .u8 157)
theorem lentX_succ (bs : List Nat) (q : Nat) : lentX bs q ++ [Value.int .u8 157] = lentX bs (q + 1) := by
  unfold lentX
  rw [List.append_assoc, List.replicate_succ']
theorem lent_in {B : Nat} {w0 w : World} {p : Blk} {R : List Blk} (hp : Hp B w0 w (p :: R)) : Hp B w0 w ([p] ++ (R ++ [])) := hp.kp
theorem lent_out {B : Nat} {w0 w : World} {p : Blk} {R : List Blk} (hp : Hp B w0 w ([p] ++ (R ++ []))) : Hp B w0 w R := hp.kp
set_option maxRecDepth 100000 in
set_option maxHeartbeats 8000000 in
theorem lentG (bs : List Nat) (n : Nat) (hn : bs.length = n) (hl : n ≤ 100000) (a : Option Addr) (c : Nat) (w : World) (ha : RowIs w a (bs.flatMap byV)) :
    Calls Tryz.prog 38 #[.slice a n c] w fun e w' => ∃ g off cap R, e = .returned (.slice (some ⟨g, off, none⟩) n cap) ∧ n + 6 ≤ cap ∧ Kept R (fun w => RowIs w (some ⟨g, off, none⟩) (lentX bs 6)) ∧ Hp w.heap.size w w' R := by
  obtain ⟨i0, hi0, hz0, hz1, hz2⟩ := info_parts info5
  have hp := Hp.start w
  have HA := Lib.hid ha
  have HF1 : RowKit.Hid ((bs.flatMap byV).length = n * 1) := Lib.hid (by rw [flat_len byV 1 byV_len, hn])
  have HS1 : RowKit.Hid (0 + n ≤ maxLen) := Lib.hid (by unfold maxLen; omega)
  have HS2 : RowKit.Hid ((0 + n) * 1 ≤ 140737488355328) := Lib.hid (by omega)
  have HL := Lib.hid hl
  clear ha hn hl
  go_enter Tryz.func38, Tryz.ntmps38
  go_wp2_with (first | ((with_reducible refine pre_append2 _ _ 57 57 rfl ?_); refine wpList_appendSub (K := []) (R := []) (M := []) hp _ _ _ _ rfl wy 5 i0 _ 1 1 Tryz.underlying57 hi0 hz0 hz1 hz2 rfl _ _ _ (sTm rfl) (SubRow.nil _ _ none) _ (sTm rfl) n (bs.flatMap byV) (Src.ofRow Tryz.underlying57 (by decide) a n c _ HF1.out (HA.out.below hp.below) (by_one bs)) HS1.out HS2.out ?_; clear hp; intro v1 R1 w1 hR1 hp; rw [Nat.zero_add, List.nil_append] at hR1; obtain ⟨a1, c1, rfl, _⟩ := hR1.kept; have HR1 := Lib.hid hR1; clear hR1; simp only [List.nil_append, List.append_nil] at hp; simp only [put_some, put_none, sSet, zSet]) | go_skip | ((first | ((with_reducible refine pre_box _ _ rfl ?_); refine lB hp rfl (sTm rfl) rfl ?_; clear hp; intro b w1 hp) | ((with_reducible refine pre_load _ _ rfl ?_); refine lO hp rfl (sTm rfl) ceLEa0 aa5 ?_) | ((with_reducible refine pre_store _ _ _ rfl ?_); (refine sO hp rfl (sTm rfl) ceLEa0 aa5 ?_); clear hp; intro w1 hp; simp only [spl, zSet, sSet] at hp) | ((with_reducible refine pre_build _ _ _ rfl ?_); refine lS hp rfl (by intro w; go_simp; rfl) ?_; clear hp; intro b w1 hp; simp only [List.length_cons, List.length_nil, Nat.reduceAdd] at hp)); simp only [put_some, put_none, sSet, zSet]))
  go_loopg [3, 4] 6 (fun k v i wr => ∃ (q m : Nat) (a1 : Option Addr) (c1 : Nat) (R : List Blk), k + q = 6 ∧ RowKit.Hid (n + q = m) ∧ v = .slice a1 m c1 ∧ i = .int .i64 q ∧ RowKit.Hid (SubRow 5 1 (.slice a1 m c1) m (lentX bs q) R) ∧ Hp w.heap.size w wr R)
  case atStart => exact ⟨0, n, a1, c1, R1, by omega, Lib.hid rfl, rfl, rfl, Lib.hid (by unfold lentX; rw [List.replicate_zero, List.append_nil]; exact HR1.out), hp⟩
  case round =>
    clear hp HR1
    obtain ⟨q, m, a1, c1, R, hkq, HM, rfl, rfl, HR, hp⟩ := hrel
    by_cases hlt : q < 6
    · have e2 : decide ((q : Int) < 6) = true := by simp; omega
      have HX := Lib.hid (lentX_succ bs q)
      have HS3 : RowKit.Hid (m + 1 ≤ maxLen) := Lib.hid (by have := HM.out; have := HL.out; unfold maxLen; omega)
      have HS4 : RowKit.Hid ((m + 1) * 1 ≤ 140737488355328) := Lib.hid (by have := HM.out; have := HL.out; omega)
      go_wp2_with (first | ((with_reducible refine pre_append2 _ _ 57 57 rfl ?_); refine wpList_appendSub (K := [_]) (R := R) (M := []) (lent_in hp) _ _ _ _ rfl wy 5 i0 _ 1 1 Tryz.underlying57 hi0 hz0 hz1 hz2 rfl _ m (lentX bs q) (sTm rfl) HR.out _ (sTm rfl) 1 [.int .u8 157] (Src.ofRow Tryz.underlying57 (by decide) _ 1 1 [.int .u8 157] rfl (hp.rowIs at0) rfl) HS3.out HS4.out ?_; clear hp HR; intro v2 R2 w1 hR2 hp; rw [HX.out] at hR2; obtain ⟨a2, c2, rfl, _⟩ := hR2.kept; have HR2 := Lib.hid hR2; clear hR2; replace hp := lent_out hp; simp only [put_some, put_none, sSet, zSet]) | go_skip | ((first | ((with_reducible refine pre_box _ _ rfl ?_); refine lB hp rfl (sTm rfl) rfl ?_; clear hp; intro b w1 hp) | ((with_reducible refine pre_load _ _ rfl ?_); refine lO hp rfl (sTm rfl) ceLEa0 aa5 ?_) | ((with_reducible refine pre_store _ _ _ rfl ?_); (refine sO hp rfl (sTm rfl) ceLEa0 aa5 ?_); clear hp; intro w1 hp; simp only [spl, zSet, sSet] at hp) | ((with_reducible refine pre_build _ _ _ rfl ?_); refine lS hp rfl (by intro w; go_simp; rfl) ?_; clear hp; intro b w1 hp; simp only [List.length_cons, List.length_nil, Nat.reduceAdd] at hp)); simp only [put_some, put_none, sSet, zSet]))
      go_roundg (gk - 1)
      case measure => omega
      case rel => exact ⟨q + 1, m + 1, a2, c2, R2, by omega, Lib.hid (by have := HM.out; omega), rfl, by go_num, HR2, hp⟩
    · obtain rfl : q = 6 := by omega
      have e2 : decide (((6 : Nat) : Int) < 6) = false := by simp
      have hm := HM.out
      obtain ⟨hxl, ⟨h0, _⟩ | ⟨g, off, cap, pre, hv, h1, _, _, _⟩⟩ := HR.out
      · omega
      injection hv with v1 v2 v3
      subst v1
      have HK := Lib.hid HR.out.keptS
      have HC : RowKit.Hid (n + 6 ≤ c1) := Lib.hid (by omega)
      have f1 : (0 : Int) ≤ (n : Int) := by omega
      have f2 : (n : Int) ≤ (c1 : Int) := by omega
      clear hm hxl h1 v3 hkq hlt
      go_wp2_with (first | go_skip | ((first | ((with_reducible refine pre_box _ _ rfl ?_); refine lB hp rfl (sTm rfl) rfl ?_; clear hp; intro b w1 hp) | ((with_reducible refine pre_load _ _ rfl ?_); refine lO hp rfl (sTm rfl) ceLEa0 aa5 ?_) | ((with_reducible refine pre_store _ _ _ rfl ?_); (refine sO hp rfl (sTm rfl) ceLEa0 aa5 ?_); clear hp; intro w1 hp; simp only [spl, zSet, sSet] at hp) | ((with_reducible refine pre_build _ _ _ rfl ?_); refine lS hp rfl (by intro w; go_simp; rfl) ?_; clear hp; intro b w1 hp; simp only [List.length_cons, List.length_nil, Nat.reduceAdd] at hp)); simp only [put_some, put_none, sSet, zSet]))
      go_ret
      exact ⟨g, off, c1, rfl, HC.out, R, HK.out, hp⟩
theorem RowIs.frontX {w : World} {a : Option Addr} {xs ys : List Value} (h : RowIs w a (xs ++ ys)) : RowIs w a xs := fun j v hj => h j v (by
  have : j < xs.length := (List.getElem?_eq_some_iff.1 hj).1
  rw [List.getElem?_append_left this]; exact hj)
set_option maxRecDepth 100000 in
set_option maxHeartbeats 8000000 in
theorem keptG (bs : List Nat) (n : Nat) (hn : bs.length = n) (hl : n ≤ 100000) (g off cap : Nat) (hcap : n + 6 ≤ cap) (a : Option Addr) (c : Nat) (w : World) (hx : RowIs w (some ⟨g, off, none⟩) (lentX bs 6)) (ha : RowIs w a (bs.flatMap byV)) :
    Calls Tryz.prog 46 #[.slice (some ⟨g, off, none⟩) n cap, .slice a n c] w fun e w' => e = .returned (.bool true) ∧ w = w' := by
  have HA := Lib.hid ha
  have HXF : RowKit.Hid (RowIs w (some ⟨g, off, none⟩) (bs.flatMap byV)) := Lib.hid (RowIs.frontX hx)
  have HNI : RowKit.Hid ((nI bs).length = n) := Lib.hid (by rw [nI_len]; exact hn)
  have HL := Lib.hid hl
  have hcell : ∀ x : Nat, n ≤ x → x < n + 6 → w.cell? ⟨g, off + x, none⟩ = some (.int .u8 157) := fun x h1 h2 => by
    obtain ⟨b', off', he, hc⟩ := hx x (.int .u8 157) (by
      unfold lentX
      rw [List.getElem?_append_right (by rw [flat_len byV 1 byV_len, hn]; omega), flat_len byV 1 byV_len, hn]
      rw [List.getElem?_replicate, if_pos (by omega)])
    injection he with he
    injection he with h3 h4
    subst h3; subst h4
    exact hc
  have HCL := Lib.hid hcell
  obtain ⟨ix, hix⟩ : ∃ ix, strOfNums (nI bs) = ix := ⟨_, rfl⟩
  have HIX := Lib.hid hix
  have e9 : (ix.toList == ix.toList) = true := beq_self_eq_true _
  obtain ⟨n6, hn6⟩ : ∃ k, n + 6 = k := ⟨_, rfl⟩
  have HN6 := Lib.hid hn6
  have e1 : wrap64 ((n : Int) + 6) = (n6 : Int) := by unfold wrap64; omega
  have f1 : (0 : Int) ≤ (n6 : Int) := by omega
  have f2 : (n6 : Int) ≤ (cap : Int) := by omega
  clear ha hx hn hl hcap hcell hix hn6
  go_enter Tryz.func46, Tryz.ntmps46
  go_wp2_with (first | ((with_reducible refine pre_convert _ _ _ rfl ?_); refine wpList_conv_row 57 9 5 _ rfl wy Tryz.underlying57 Tryz.underlying5 Tryz.underlying9 (some ⟨g, off, none⟩) n cap (sTm rfl) (nI bs) HNI.out (by rw [nI_cells]; exact HXF.out) ?_; rw [HIX.out]; simp only [put_some, put_none, sSet, zSet]) | ((with_reducible refine pre_convert _ _ _ rfl ?_); refine wpList_conv_row 57 9 5 _ rfl wy Tryz.underlying57 Tryz.underlying5 Tryz.underlying9 a n c (sTm rfl) (nI bs) HNI.out (by rw [nI_cells]; exact HA.out) ?_; rw [HIX.out]; simp only [put_some, put_none, sSet, zSet]) | go_skip)
  go_loopg [6] 6 (fun k i wr => ∃ x : Nat, RowKit.Hid (k + x = n6) ∧ RowKit.Hid (n ≤ x) ∧ i = .int .i64 x ∧ w = wr)
  case atStart => exact ⟨n, Lib.hid (by have := HN6.out; omega), Lib.hid (Nat.le_refl _), rfl, rfl⟩
  case round =>
    obtain ⟨x, HK, HNX, rfl, rfl⟩ := hrel
    by_cases hlt : x < n6
    · have HCE := Lib.hid (HCL.out x HNX.out (by have := HN6.out; omega))
      have g1 : (0 : Int) ≤ (x : Int) := by omega
      have g2 : (x : Int) < (n6 : Int) := by omega
      go_wp2_with (first | ((with_reducible refine pre_load 5 _ rfl ?_); refine lRO (Hp.start _) rfl (sTm rfl) cell5 HCE.out ?_; simp only [put_some, put_none, sSet, zSet]) | go_skip)
      go_roundg (gk - 1)
      case measure => have := HK.out; omega
      case rel => exact ⟨x + 1, Lib.hid (by have := HK.out; omega), Lib.hid (by have := HNX.out; omega), by (have h1 := HL.out; have h2 := HN6.out; rw [show wrap64 ((x : Int) + 1) = ((x + 1 : Nat) : Int) by unfold wrap64; omega]), rfl⟩
    · have g2 : decide ((x : Int) < (n6 : Int)) = false := by simp; omega
      go_wp2_with (first | go_skip)
      go_ret
      exact ⟨rfl, rfl⟩
end Go.Proofs.YtaafajaadfgaoaaGreat
/- What is kept, by its cells; the walks of within, follows and last. -/
namespace Go.Proofs.YtaafajaadfgaoaaGreat
open Go.RowKit
structure Kv where
  vw : Int
  nm : Int
  bs : Int
  im : ByteArray
  ea : Option Addr
  es : List Env
  ec : Nat
def Kv.Is (w : World) (x : Kv) : Prop := RowIs w x.ea (x.es.flatMap envL)
structure Kv.Sm (x y : Kv) : Prop where
  vw : x.vw = y.vw
  nm : x.nm = y.nm
  bs : x.bs = y.bs
  im : x.im = y.im
  es : x.es = y.es
end Go.Proofs.YtaafajaadfgaoaaGreat
/- The walk of Check of what is kept. -/
namespace Go.Proofs.YtaafajaadfgaoaaGreat
open Go.RowKit
def Kv.Small (x : Kv) : Prop := x.es.length ≤ 100000 ∧ x.im.size ≤ 1000000
end Go.Proofs.YtaafajaadfgaoaaGreat
/- Own rows cut short; the walks of Last and Above. -/
namespace Go.Proofs.YtaafajaadfgaoaaGreat
open Go.RowKit
theorem SubRow.drop {e : TypeId} {c n cap off g k : Nat} {xs : List Value} {R : List Blk} (h : SubRow e c (.slice (some ⟨g, off, none⟩) n cap) n xs R) (hk : k ≤ n) (hn : 0 < n) :
    SubRow e c (.slice (some ⟨g, off + k * c, none⟩) (n - k) (cap - k)) (n - k) (xs.drop (k * c)) R := by
  obtain ⟨hl, ⟨h0, _, _⟩ | ⟨g', off', cap', pre, hv, h1, h2, h3, h4⟩⟩ := h
  · omega
  · injection hv with hv _ hc
    injection hv with hv
    injection hv with hg ho _
    subst hg ho hc
    have hm := Nat.mul_le_mul_right c hk
    refine ⟨by rw [List.length_drop, hl, Nat.sub_mul], .inr ⟨g, off + k * c, cap - k, pre ++ xs.take (k * c), rfl, by omega, by omega, by rw [List.length_append, List.length_take, h3, hl]; omega, ?_⟩⟩
    rw [h4, List.append_assoc, List.take_append_drop]
    have hm2 := Nat.mul_le_mul_right c (show k ≤ cap by omega)
    rw [Nat.sub_mul, show off + k * c + (cap * c - k * c) = off + cap * c by omega]
theorem SubRow.take {e : TypeId} {c n cap off g k : Nat} {xs : List Value} {R : List Blk} (h : SubRow e c (.slice (some ⟨g, off, none⟩) n cap) n xs R) (hk : k ≤ n) (hn : 0 < n) :
    ∃ R', SubRow e c (.slice (some ⟨g, off, none⟩) k cap) k (xs.take (k * c)) R' ∧ ∀ {B : Nat} {w0 w : World} {M : List Blk}, Hp B w0 w (R ++ M) → Hp B w0 w (R' ++ M) := by
  obtain ⟨hl, ⟨h0, _, _⟩ | ⟨g', off', cap', pre, hv, h1, h2, h3, h4⟩⟩ := h
  · omega
  · injection hv with hv _ hc
    injection hv with hv
    injection hv with hg ho _
    subst hg ho hc
    have hm := Nat.mul_le_mul_right c hk
    refine ⟨[⟨g, pre ++ xs.take (k * c), e, off + cap * c⟩], ⟨by rw [List.length_take, hl]; omega, .inr ⟨g, off, cap, pre, rfl, by omega, h2, h3, rfl⟩⟩, fun {B w0 w M} hp => ?_⟩
    subst h4
    refine Hp.less (l2 := xs.drop (k * c)) ?_
    rw [List.append_assoc, List.take_append_drop]; exact hp
theorem OwnRow.cap {e : TypeId} {c n m : Nat} {a : Option Addr} {k : Nat} {xs : List Value} {R : List Blk} (h : OwnRow e c (.slice a n k) m xs R) : m ≤ k := by
  obtain ⟨_, ⟨h0, hv, _, _⟩ | ⟨g, cap, hv, h1, h2, _⟩⟩ := h
  · omega
  · injection hv with _ _ hk
    omega
end Go.Proofs.YtaafajaadfgaoaaGreat
/- The walk of fold: another log is taken. -/
namespace Go.Proofs.YtaafajaadfgaoaaGreat
open Go.RowKit
theorem SubRow.cut {e : TypeId} {c n cap k : Nat} {a : Option Addr} {xs : List Value} {R : List Blk} (h : SubRow e c (.slice a n cap) n xs R) (hk : k ≤ n) :
    ∃ R', SubRow e c (.slice a k cap) k (xs.take (k * c)) R' ∧ ∀ (B : Nat) (w0 w : World) (M : List Blk), Hp B w0 w (R ++ M) → Hp B w0 w (R' ++ M) := by
  obtain ⟨hl, ⟨h0, ⟨a', hv⟩, hr⟩ | ⟨g', off', cap', pre, hv, h1, h2, h3, h4⟩⟩ := h
  · injection hv with _ _ hc
    subst h0 hc hr
    obtain rfl : k = 0 := by omega
    have hx : xs = [] := List.eq_nil_of_length_eq_zero (by simpa using hl)
    subst hx
    exact ⟨[], by simpa using SubRow.nil e c a, fun _ _ _ _ hp => hp⟩
  · injection hv with hv _ hc
    subst hv hc
    have hm := Nat.mul_le_mul_right c hk
    refine ⟨[⟨g', pre ++ xs.take (k * c), e, off' + cap * c⟩], ⟨by rw [List.length_take, hl]; omega, .inr ⟨g', off', cap, pre, rfl, by omega, h2, h3, rfl⟩⟩, fun B w0 w M hp => ?_⟩
    subst h4
    refine Hp.less (l2 := xs.drop (k * c)) ?_
    rw [List.append_assoc, List.take_append_drop]; exact hp
end Go.Proofs.YtaafajaadfgaoaaGreat

/- Parts of the proof. -/
import Derived.Test.YtcjbepaclbhjaaaGreatKe1
import Derived.Test.YtcjbepaclbhjaaaGreatKe5
open List renaming set_cons_zero → zSet, set_cons_succ → sSet
/- The walks of the document's reader of bytes. -/
set_option linter.unusedSimpArgs false
set_option linter.unusedVariables false
namespace Go.Proofs.YtcjbepaclbhjaaaGreat
open Go.RowKit
theorem four_of {α : Type} {l : List α} (h : 4 ≤ l.length) : ∃ b0 b1 b2 b3 r, l = b0 :: b1 :: b2 :: b3 :: r := by
  match l, h with
  | b0 :: b1 :: b2 :: b3 :: r, _ => exact ⟨b0, b1, b2, b3, r, rfl⟩
def RdnPost (w : World) (r : Option Nat) (e : Ending) (w' : World) : Prop := (match r with
  | some v => e = .returned (.tuple #[.int .i64 v, .int .i64 4, .int .i64 0])
  | none => ∃ q : Int, (q = 10 ∨ q = 11) ∧ e = .returned (.tuple #[.int .i64 0, .int .i64 0, .int .i64 q])) ∧ Below w.heap.size w w'
set_option maxRecDepth 100000 in
set_option maxHeartbeats 4000000 in
theorem rdn111 (bs : List Nat) (a : Option Addr) (c : Nat) (hnc : bs.length ≤ c) (w : World) (ha : RdAt w a bs) :
    Calls Tryz.prog 111 #[.slice a bs.length c] w (RdnPost w (numR bs)) := by
  have hp := Hp.start w
  by_cases h4 : 4 ≤ bs.length
  · obtain ⟨b0, b1, b2, b3, r, hbs⟩ := four_of h4
    obtain ⟨b, off, rfl, hx⟩ := ha.1.addr (by rw [flat_len byV 1 byV_len]; omega)
    have hN : numR bs = if b0 ≤ 127 then some (((b0 * 256 + b1) * 256 + b2) * 256 + b3) else none := by
      have hb0 := ha.2 b0 (by rw [hbs]; simp)
      have hb1 := ha.2 b1 (by rw [hbs]; simp)
      have hb2 := ha.2 b2 (by rw [hbs]; simp)
      have hb3 := ha.2 b3 (by rw [hbs]; simp)
      unfold numR
      have hv : beV (bs.take 4) = ((b0 * 256 + b1) * 256 + b2) * 256 + b3 := by rw [hbs]; simp [beV]
      rw [hv]
      by_cases h : b0 ≤ 127
      · rw [if_pos ⟨h4, by omega⟩, if_pos h]
      · rw [if_neg (by omega), if_neg h]
    have hb0 := ha.2 b0 (by rw [hbs]; simp)
    have hb1 := ha.2 b1 (by rw [hbs]; simp)
    have hb2 := ha.2 b2 (by rw [hbs]; simp)
    have hb3 := ha.2 b3 (by rw [hbs]; simp)
    have HX : RowKit.Hid (∀ (j : Nat) v, [Value.int .u8 (b0 : Int), .int .u8 (b1 : Int), .int .u8 (b2 : Int), .int .u8 (b3 : Int)][j]? = some v → w.cell? ⟨b, off + j, none⟩ = some v) := Lib.hid (fun j v hj => by
      have hjl : j < 4 := (List.getElem?_eq_some_iff.1 hj).1
      refine hx j v ?_
      rw [hbs]
      have hc : j = 0 ∨ j = 1 ∨ j = 2 ∨ j = 3 := by omega
      rcases hc with rfl | rfl | rfl | rfl <;> exact hj)
    have e1 : decide ((bs.length : Int) < 4) = false := by simp; omega
    have e2 : (0 : Int) < (bs.length : Int) := by omega
    have e3 : (1 : Int) < (bs.length : Int) := by omega
    have e4 : (2 : Int) < (bs.length : Int) := by omega
    have e5 : (3 : Int) < (bs.length : Int) := by omega
    rw [hN]
    clear hN hx ha
    clear hbs
    obtain ⟨n, hn⟩ : ∃ n, bs.length = n := ⟨_, rfl⟩
    rw [hn] at e1 e2 e3 e4 e5 h4 ⊢
    have g0 : 0 < n := by omega
    have g1 : 1 < n := by omega
    have g2 : 2 < n := by omega
    have g3 : 3 < n := by omega
    clear hn hnc
    by_cases h : b0 ≤ 127
    · rw [if_pos h]
      have e6 : decide ((127 : Int) < (b0 : Int)) = false := by simp; omega
      have HR : RowKit.Hid (wrap64 (wrap64 (wrap64 (wrap64 (16777216 * wrap64 (b0 : Int)) + wrap64 (65536 * wrap64 (b1 : Int))) + wrap64 (256 * wrap64 (b2 : Int))) + wrap64 (b3 : Int)) = ((((b0 * 256 + b1) * 256 + b2) * 256 + b3 : Nat) : Int)) := Lib.hid (by
        have w0 : wrap64 (b0 : Int) = b0 := by unfold wrap64; omega
        have w1 : wrap64 (b1 : Int) = b1 := by unfold wrap64; omega
        have w2 : wrap64 (b2 : Int) = b2 := by unfold wrap64; omega
        have w3 : wrap64 (b3 : Int) = b3 := by unfold wrap64; omega
        rw [w0, w1, w2, w3]
        have v0 : wrap64 (16777216 * (b0 : Int)) = 16777216 * (b0 : Int) := by unfold wrap64; omega
        have v1 : wrap64 (65536 * (b1 : Int)) = 65536 * (b1 : Int) := by unfold wrap64; omega
        have v2 : wrap64 (256 * (b2 : Int)) = 256 * (b2 : Int) := by unfold wrap64; omega
        rw [v0, v1, v2]
        have u0 : wrap64 (16777216 * (b0 : Int) + 65536 * (b1 : Int)) = 16777216 * (b0 : Int) + 65536 * (b1 : Int) := by unfold wrap64; omega
        rw [u0]
        have u1 : wrap64 (16777216 * (b0 : Int) + 65536 * (b1 : Int) + 256 * (b2 : Int)) = 16777216 * (b0 : Int) + 65536 * (b1 : Int) + 256 * (b2 : Int) := by unfold wrap64; omega
        rw [u1]
        unfold wrap64; push_cast; omega)
      go_enter Tryz.func111, Tryz.ntmps111
      go_wp2_with (first | go_skip | (first | (refine hA2 ?_; clear hp; intro b w1 hp) | refine hL15 ?_ | (refine hS0 ?_; clear hp; intro w1 hp)))
      refine wp_region_keeps [] (Keeps.zero hp.drew) [] [(0, true), (1, true), (2, true), (3, true), (4, true), (5, true), (6, true), (7, true), (8, true), (9, true), (10, true), (11, true), (12, true), (13, true), (14, true), (15, true), (16, true), (17, true), (18, true), (19, true), (20, true), (21, true), (22, false), (23, false), (24, false)] (by kernel_rfl) (by kernel_rfl) rfl (by kernel_rfl) (fun _ _ d _ _ h => by cases d <;> exact h) ?_
      replace hp := hp.drew
      repeat' (with_reducible refine plan_is ?_); first | (with_reducible refine plan_nil ?_) | refine tk9 ?_ | (refine plan_do rfl (fun K hK => ?_); go_wp2_with (first | go_skip); (refine hK.out _ _ (.inr (Keeps.zero hp)) ?_); clear hK K; try simp only [put_some, put_none, eval_tmp, eval_const, sSet, zSet, List.getD_cons_succ, List.getD_cons_zero, wrap_eq])
      go_wp2_with (first | go_skip | (first | (refine hA2 ?_; clear hp; intro b w1 hp) | refine hL15 ?_ | (refine hS0 ?_; clear hp; intro w1 hp)))
      refine bodyPost_ret (results_many (rs := [.tmp 2, .tmp 3, .tmp 4]) Tryz.results111 (.tmp rfl (.tmp rfl (.tmp rfl .nil)))) rfl ?_
      refine ⟨?_, hp.below⟩
      show Ending.returned (.tuple #[.int .i64 (wrap64 (wrap64 (wrap64 (wrap64 (16777216 * wrap64 (b0 : Int)) + wrap64 (65536 * wrap64 (b1 : Int))) + wrap64 (256 * wrap64 (b2 : Int))) + wrap64 (b3 : Int))), .int .i64 4, .int .i64 0]) = Ending.returned (.tuple #[.int .i64 ((((b0 * 256 + b1) * 256 + b2) * 256 + b3 : Nat) : Int), .int .i64 4, .int .i64 0])
      rw [HR.out]
    · rw [if_neg h]
      have e6 : decide ((127 : Int) < (b0 : Int)) = true := by simp; omega
      go_enter Tryz.func111, Tryz.ntmps111
      go_wp2_with (first | go_skip | (first | (refine hA2 ?_; clear hp; intro b w1 hp) | refine hL15 ?_ | (refine hS0 ?_; clear hp; intro w1 hp)))
      refine bodyPost_ret (results_many (rs := [.tmp 2, .tmp 3, .tmp 4]) Tryz.results111 (.tmp rfl (.tmp rfl (.tmp rfl .nil)))) rfl ?_
      exact ⟨⟨11, .inr rfl, rfl⟩, hp.below⟩
  · have hN : numR bs = none := by unfold numR; rw [if_neg (by omega)]
    rw [hN]
    have e1 : decide ((bs.length : Int) < 4) = true := by simp; omega
    clear hN h4 ha
    go_enter Tryz.func111, Tryz.ntmps111
    go_wp2_with (first | go_skip | (first | (refine hA2 ?_; clear hp; intro b w1 hp) | refine hL0 ?_ | (refine hS0 ?_; clear hp; intro w1 hp)))
    refine bodyPost_ret (results_many (rs := [.tmp 2, .tmp 3, .tmp 4]) Tryz.results111 (.tmp rfl (.tmp rfl (.tmp rfl .nil)))) rfl ?_
    exact ⟨⟨10, .inl rfl, rfl⟩, hp.below⟩
def RdiPost (w : World) (r : Option Int) (e : Ending) (w' : World) : Prop := (match r with
  | some v => e = .returned (.tuple #[.int .i64 v, .int .i64 8, .int .i64 0])
  | none => e = .returned (.tuple #[.int .i64 0, .int .i64 0, .int .i64 10])) ∧ Below w.heap.size w w'
set_option maxRecDepth 100000 in
set_option maxHeartbeats 4000000 in
theorem rdi116 (bs : List Nat) (a : Option Addr) (c : Nat) (hnc : bs.length ≤ c) (w : World) (ha : RdAt w a bs) :
    Calls Tryz.prog 116 #[.slice a bs.length c] w (RdiPost w (intR bs)) := by
  by_cases h8 : 8 ≤ bs.length
  · have hN : intR bs = some (wrap64 ((beV (bs.take 8) : Nat) : Int)) := by unfold intR; rw [if_pos h8]
    rw [hN]
    obtain ⟨b, off, rfl, hx⟩ := ha.1.elems 1 byV_len (by omega) (by decide)
    have HE := Lib.hid hx
    have HB := Lib.hid ha.2
    have e1 : decide ((bs.length : Int) < 8) = false := by simp; omega
    clear hN hx ha
    go_enter Tryz.func116, Tryz.ntmps116
    go_wp2_with (first | go_skip | (first | (refine hA2 ?_; clear hp; intro b w1 hp) | refine hL0 ?_ | (refine hS0 ?_; clear hp; intro w1 hp)))
    go_loopg [5, 6] 8 (fun m v i wr => ∃ j : Nat, m + j = 8 ∧ i = .int .i64 j ∧ v = .int .u64 ((beV (bs.take j) : Nat) : Int) ∧ wr = w)
    case atStart => exact ⟨0, by omega, rfl, rfl, rfl⟩
    case round =>
      obtain ⟨j, hkj, rfl, rfl, rfl⟩ := hrel
      by_cases hlt : j < 8
      · have hj := List.getElem?_eq_getElem (l := bs) (i := j) (by omega)
        have hX := HE.out j _ hj 0 _ rfl
        have hbt := beV_take hj
        have hd := beV_lt64 HB.out (k := j + 1) (by omega)
        have hx256 := HB.out _ (List.getElem_mem (l := bs) (n := j) (by omega))
        clear hj
        generalize bs[j]'(by omega) = x at hX hx256 hbt
        rw [hbt] at hd
        have HD : RowKit.Hid (beV (bs.take (j + 1)) = beV (bs.take j) * 256 + x) := Lib.hid hbt
        simp only [Nat.mul_one, Nat.add_zero] at hX
        have HX := Lib.hid hX
        generalize beV (bs.take j) = d at hd HD
        clear hX hbt
        have g1 : IntKind.u64.wrap ((d : Int) * 256) = (d : Int) * 256 := by rw [wrapU]; unfold uN; omega
        have g2 : IntKind.u64.wrap ((d : Int) * 256 + (x : Int)) = (d : Int) * 256 + (x : Int) := by rw [wrapU]; unfold uN; omega
        have f1 : (0 : Int) ≤ (j : Int) := by omega
        have f2 : (j : Int) < (bs.length : Int) := by omega
        have f3 : (j : Int) < 8 := by omega
        go_wp2_with (first | (refine hL8 ?_) | go_skip | (first | (refine hA2 ?_; clear hp; intro b w1 hp) | refine hL0 ?_ | (refine hS0 ?_; clear hp; intro w1 hp)))
        go_roundg (gk - 1)
        case measure => omega
        case rel => exact ⟨j + 1, by omega, by go_num, by rw [HD.out]; push_cast; rfl, rfl⟩
      · obtain rfl : j = 8 := by omega
        have f2 : decide (((8 : Nat) : Int) < 8) = false := by simp
        go_wp2_with (first | go_skip | (first | (refine hA2 ?_; clear hp; intro b w1 hp) | refine hL0 ?_ | (refine hS0 ?_; clear hp; intro w1 hp)))
        refine bodyPost_ret (results_many (rs := [.tmp 2, .tmp 3, .tmp 4]) Tryz.results116 (.tmp rfl (.tmp rfl (.tmp rfl .nil)))) rfl ?_
        exact ⟨rfl, Below.refl _ _⟩
  · have hN : intR bs = none := by unfold intR; rw [if_neg h8]
    rw [hN]
    have e1 : decide ((bs.length : Int) < 8) = true := by simp; omega
    clear hN h8 ha
    go_enter Tryz.func116, Tryz.ntmps116
    go_wp2_with (first | go_skip | (first | (refine hA2 ?_; clear hp; intro b w1 hp) | refine hL0 ?_ | (refine hS0 ?_; clear hp; intro w1 hp)))
    refine bodyPost_ret (results_many (rs := [.tmp 2, .tmp 3, .tmp 4]) Tryz.results116 (.tmp rfl (.tmp rfl (.tmp rfl .nil)))) rfl ?_
    exact ⟨rfl, Below.refl _ _⟩
def NIs (st : Option (List Nat)) (bs : List Nat) (bad : Bool) : Prop := match st with
  | some b => bad = false ∧ bs = b
  | none => bad = true
def NSt (w0 : World) (br : Nat) (st : Option (List Nat)) (L : List Blk) (w : World) : Prop := ∃ a bs c bad, bs.length ≤ c ∧ RdAt w0 a bs ∧ NIs st bs bad ∧ Hp w0.heap.size w0 w (⟨br, [.slice a bs.length c, .bool bad], 130, 2⟩ :: L)
def NRel {α : Type} (one : List Nat → Option (α × List Nat)) (st : Option (List Nat)) (x : α) (st' : Option (List Nat)) : Prop := match st.bind one with
  | some (y, b1) => x = y ∧ st' = some b1
  | none => st' = none
theorem NRel.none_ {α : Type} {one : List Nat → Option (α × List Nat)} {x : α} {st' : Option (List Nat)} (h : NRel one none x st') : st' = none := h
theorem NRel.bad {α : Type} {one : List Nat → Option (α × List Nat)} {b : List Nat} {x : α} {st' : Option (List Nat)} (h : NRel one (some b) x st') (hn : one b = none) : st' = none := by
  unfold NRel at h
  rw [show (some b).bind one = none from hn] at h
  exact h
theorem NRel.good {α : Type} {one : List Nat → Option (α × List Nat)} {b b1 : List Nat} {x y : α} {st' : Option (List Nat)} (h : NRel one (some b) x st') (hn : one b = some (y, b1)) : x = y ∧ st' = some b1 := by
  unfold NRel at h
  rw [show (some b).bind one = some (y, b1) from hn] at h
  exact h
def NumPost (w0 : World) (br : Nat) (st : Option (List Nat)) (L : List Blk) (e : Ending) (w' : World) : Prop := ∃ (v : Nat) (st' : Option (List Nat)), v ≤ 2147483647 ∧ e = .returned (.int .i64 v) ∧ NRel nR st (v : Int) st' ∧ NSt w0 br st' L w'
def IntPost (w0 : World) (br : Nat) (st : Option (List Nat)) (L : List Blk) (e : Ending) (w' : World) : Prop := ∃ (v : Int) (st' : Option (List Nat)), e = .returned (.int .i64 v) ∧ NRel iR st v st' ∧ NSt w0 br st' L w'
set_option maxRecDepth 100000 in
set_option maxHeartbeats 4000000 in
theorem num93 (br : Nat) (st : Option (List Nat)) {w0 w : World} {L : List Blk} (hs : NSt w0 br st L w) :
    Calls Tryz.prog 93 #[.pointer (some ⟨br, 0, none⟩)] w (NumPost w0 br st L) := by
  obtain ⟨a, bs, c, bad, hnc, ha, hst, hp⟩ := hs
  have HA := Lib.hid ha
  cases hv : numR bs with
  | none =>
    have HV := Lib.hid hv
    have hr : st.bind nR = none := by
      cases st with
      | none => rfl
      | some b =>
        obtain ⟨_, rfl⟩ := hst
        show nR bs = none
        unfold nR; rw [hv]; rfl
    have HPO : RowKit.Hid (NRel nR st ((0 : Nat) : Int) none) := Lib.hid (by unfold NRel; rw [hr])
    clear hv ha hr hst
    go_enter Tryz.func93, Tryz.ntmps93
    go_wp2_with (first | (go_at_call 111; (with_reducible refine (rdn111 bs _ _ hnc _ (HA.out.below hp.below)).mono ?_); rintro e w1 ⟨hq, hb⟩; replace hp := hp.call hb; clear hb; rw [HV.out] at hq; simp only at hq; first | subst hq | (obtain ⟨q, hq, rfl⟩ := hq)) | go_skip | (first | (refine hA2 ?_; clear hp; intro b w1 hp) | refine hL0 ?_ | (refine hS0 ?_; clear hp; intro w1 hp)))
    have e1 : (q == 0) = false := by rcases hq with rfl | rfl <;> rfl
    clear hq
    go_wp2_with (first | go_skip | (first | (refine hA2 ?_; clear hp; intro b w1 hp) | refine hL0 ?_ | (refine hS0 ?_; clear hp; intro w1 hp)))
    go_ret
    exact ⟨0, none, by decide, rfl, HPO.out, a, bs, c, true, hnc, HA.out, rfl, hp⟩
  | some v =>
    have HV := Lib.hid hv
    obtain ⟨hn, _, hm⟩ := numR_len hv
    obtain ⟨b, off, rfl, _⟩ := ha.1.addr (by rw [flat_len byV 1 byV_len]; omega)
    have HDR := Lib.hid (ha.drop 4)
    have hlen : (bs.drop 4).length = bs.length - 4 := List.length_drop ..
    have HPO : RowKit.Hid (NRel nR st (v : Int) (if bad = true then none else some (bs.drop 4))) := Lib.hid (by
      cases st with
      | none =>
        have hb : bad = true := hst
        subst hb; rfl
      | some b' =>
        obtain ⟨hb, rfl⟩ := hst
        subst hb
        have hr : (some bs).bind nR = some ((v : Int), bs.drop 4) := by
          show nR bs = _
          unfold nR; rw [hv]; rfl
        unfold NRel
        rw [hr]
        exact ⟨rfl, rfl⟩)
    have HIS : RowKit.Hid (NIs (if bad = true then none else some (bs.drop 4)) (bs.drop 4) bad) := Lib.hid (by cases bad <;> simp [NIs])
    have e1 : (4 : Int) ≤ (bs.length : Int) := by omega
    have e2 : (4 : Int) ≤ (c : Int) := by omega
    have e3 : (bs.length : Int) ≤ (c : Int) := by omega
    clear hv ha hst
    by_cases h : c = 4
    · subst h
      have HBL : RowKit.Hid (bs.length = 4) := Lib.hid (by omega)
      go_enter Tryz.func93, Tryz.ntmps93
      go_wp2_with (first | (go_at_call 111; (with_reducible refine (rdn111 bs _ _ hnc _ (HA.out.below hp.below)).mono ?_); rintro e w1 ⟨hq, hb⟩; replace hp := hp.call hb; clear hb; rw [HV.out] at hq; simp only at hq; first | subst hq | (obtain ⟨q, hq, rfl⟩ := hq)) | go_skip | (first | (refine hA2 ?_; clear hp; intro b w1 hp) | refine hL0 ?_ | (refine hS0 ?_; clear hp; intro w1 hp)))
      go_ret
      have hbl := HBL.out
      have hnil : bs.drop 4 = [] := List.drop_eq_nil_of_le (by omega)
      refine ⟨v, _, hm, rfl, HPO.out, some ⟨b, off, none⟩, bs.drop 4, 0, bad, by rw [hlen]; omega, by rw [hnil]; exact RdAt.none_ _ _, HIS.out, ?_⟩
      rw [hlen]
      simpa [hbl] using hp
    · go_enter Tryz.func93, Tryz.ntmps93
      go_wp2_with (first | (go_at_call 111; (with_reducible refine (rdn111 bs _ _ hnc _ (HA.out.below hp.below)).mono ?_); rintro e w1 ⟨hq, hb⟩; replace hp := hp.call hb; clear hb; rw [HV.out] at hq; simp only at hq; first | subst hq | (obtain ⟨q, hq, rfl⟩ := hq)) | go_skip | (first | (refine hA2 ?_; clear hp; intro b w1 hp) | refine hL0 ?_ | (refine hS0 ?_; clear hp; intro w1 hp)))
      go_ret
      refine ⟨v, _, hm, rfl, HPO.out, some ⟨b, off + 4, none⟩, bs.drop 4, c - 4, bad, by rw [hlen]; omega, HDR.out, HIS.out, ?_⟩
      rw [hlen]
      simpa [h] using hp
set_option maxRecDepth 100000 in
set_option maxHeartbeats 4000000 in
theorem int94 (br : Nat) (st : Option (List Nat)) {w0 w : World} {L : List Blk} (hs : NSt w0 br st L w) :
    Calls Tryz.prog 94 #[.pointer (some ⟨br, 0, none⟩)] w (IntPost w0 br st L) := by
  obtain ⟨a, bs, c, bad, hnc, ha, hst, hp⟩ := hs
  have HA := Lib.hid ha
  cases hv : intR bs with
  | none =>
    have HV := Lib.hid hv
    have hr : st.bind iR = none := by
      cases st with
      | none => rfl
      | some b =>
        obtain ⟨_, rfl⟩ := hst
        show iR bs = none
        unfold iR; rw [hv]; rfl
    have HPO : RowKit.Hid (NRel iR st 0 none) := Lib.hid (by unfold NRel; rw [hr])
    clear hv ha hr hst
    go_enter Tryz.func94, Tryz.ntmps94
    go_wp2_with (first | (go_at_call 116; (with_reducible refine (rdi116 bs _ _ hnc _ (HA.out.below hp.below)).mono ?_); rintro e w1 ⟨hq, hb⟩; replace hp := hp.call hb; clear hb; rw [HV.out] at hq; simp only at hq; subst hq) | go_skip | (first | (refine hA2 ?_; clear hp; intro b w1 hp) | refine hL0 ?_ | (refine hS0 ?_; clear hp; intro w1 hp)))
    go_ret
    exact ⟨0, none, rfl, HPO.out, a, bs, c, true, hnc, HA.out, rfl, hp⟩
  | some v =>
    have HV := Lib.hid hv
    have hn : 8 ≤ bs.length := by
      unfold intR at hv
      split at hv
      · assumption
      · cases hv
    obtain ⟨b, off, rfl, _⟩ := ha.1.addr (by rw [flat_len byV 1 byV_len]; omega)
    have HDR := Lib.hid (ha.drop 8)
    have hlen : (bs.drop 8).length = bs.length - 8 := List.length_drop ..
    have HPO : RowKit.Hid (NRel iR st v (if bad = true then none else some (bs.drop 8))) := Lib.hid (by
      cases st with
      | none =>
        have hb : bad = true := hst
        subst hb; rfl
      | some b' =>
        obtain ⟨hb, rfl⟩ := hst
        subst hb
        have hr : (some bs).bind iR = some (v, bs.drop 8) := by
          show iR bs = _
          unfold iR; rw [hv]; rfl
        unfold NRel
        rw [hr]
        exact ⟨rfl, rfl⟩)
    have HIS : RowKit.Hid (NIs (if bad = true then none else some (bs.drop 8)) (bs.drop 8) bad) := Lib.hid (by cases bad <;> simp [NIs])
    have e1 : (8 : Int) ≤ (bs.length : Int) := by omega
    have e2 : (8 : Int) ≤ (c : Int) := by omega
    have e3 : (bs.length : Int) ≤ (c : Int) := by omega
    clear hv ha hst
    by_cases h : c = 8
    · subst h
      have HBL : RowKit.Hid (bs.length = 8) := Lib.hid (by omega)
      go_enter Tryz.func94, Tryz.ntmps94
      go_wp2_with (first | (go_at_call 116; (with_reducible refine (rdi116 bs _ _ hnc _ (HA.out.below hp.below)).mono ?_); rintro e w1 ⟨hq, hb⟩; replace hp := hp.call hb; clear hb; rw [HV.out] at hq; simp only at hq; subst hq) | go_skip | (first | (refine hA2 ?_; clear hp; intro b w1 hp) | refine hL0 ?_ | (refine hS0 ?_; clear hp; intro w1 hp)))
      go_ret
      have hbl := HBL.out
      have hnil : bs.drop 8 = [] := List.drop_eq_nil_of_le (by omega)
      refine ⟨v, _, rfl, HPO.out, some ⟨b, off, none⟩, bs.drop 8, 0, bad, by rw [hlen]; omega, by rw [hnil]; exact RdAt.none_ _ _, HIS.out, ?_⟩
      rw [hlen]
      simpa [hbl] using hp
    · go_enter Tryz.func94, Tryz.ntmps94
      go_wp2_with (first | (go_at_call 116; (with_reducible refine (rdi116 bs _ _ hnc _ (HA.out.below hp.below)).mono ?_); rintro e w1 ⟨hq, hb⟩; replace hp := hp.call hb; clear hb; rw [HV.out] at hq; simp only at hq; subst hq) | go_skip | (first | (refine hA2 ?_; clear hp; intro b w1 hp) | refine hL0 ?_ | (refine hS0 ?_; clear hp; intro w1 hp)))
      go_ret
      refine ⟨v, _, rfl, HPO.out, some ⟨b, off + 8, none⟩, bs.drop 8, c - 8, bad, by rw [hlen]; omega, HDR.out, HIS.out, ?_⟩
      rw [hlen]
      simpa [h] using hp
end Go.Proofs.YtcjbepaclbhjaaaGreat

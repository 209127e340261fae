/- Parts of the proof. -/
import Derived.Test.YtaafajaadfgaoaaGreatTy1
import Derived.Test.YtaafajaadfgaoaaGreatTy25
import Derived.Test.YtaafajaadfgaoaaGreatTy26
import Derived.Test.YtaafajaadfgaoaaGreatTy5
import Derived.Test.YtaafajaadfgaoaaGreatTy7
import Derived.Test.YtaafajaadfgaoaaGreatTy2
/- The walk of slices.Clone of entries. -/
set_option linter.unusedSimpArgs false
set_option linter.unusedVariables false
namespace Go.Proofs.YtaafajaadfgaoaaGreat
open Go.RowKit
theorem eqn_nilEntries (d : Nat) (n c : Nat) (w : World) : (Op.equalIn (d + 1) 22 (.slice none n c) (.slice none 0 0)).run Tryz.prog w = .ok true w := by
  rw [Op.equalIn]; simp [Sem.run_bind, run_underlying Tryz.underlying22]
theorem eqn_someEntries (d : Nat) (a : Addr) (n c : Nat) (w : World) : (Op.equalIn (d + 1) 22 (.slice (some a) n c) (.slice none 0 0)).run Tryz.prog w = .ok false w := by
  rw [Op.equalIn]; simp [Sem.run_bind, run_underlying Tryz.underlying22]
theorem nil_eq22 (n c : Nat) (w : World) : (binOp .eql 22 (.slice none n c) (.slice none 0 0)).run Tryz.prog w = .ok (.bool true) w := by
  have h : (Op.equalIn 10000 22 (.slice none n c) (.slice none 0 0)).run Tryz.prog w = .ok true w := eqn_nilEntries 9999 n c w
  simp only [binOp]
  simp [Op.equal, Op.maxDepth, h]
theorem some_eq22 (a : Addr) (n c : Nat) (w : World) : (binOp .eql 22 (.slice (some a) n c) (.slice none 0 0)).run Tryz.prog w = .ok (.bool false) w := by
  have h : (Op.equalIn 10000 22 (.slice (some a) n c) (.slice none 0 0)).run Tryz.prog w = .ok false w := eqn_someEntries 9999 a n c w
  simp only [binOp]
  simp [Op.equal, Op.maxDepth, h]
def ClonePostEntries (w : World) (n : Nat) (xs : List Value) (e : Ending) (w' : World) : Prop := ∃ v R, e = .returned v ∧ OwnRow 31 11 v n xs R ∧ Hp w.heap.size w w' R
set_option maxRecDepth 100000 in
set_option maxHeartbeats 4000000 in
theorem clone67 (a : Option Addr) (n c : Nat) (hn : n ≤ 100000) (xs : List Value) (hl : xs.length = n * 11) (h1 : xs.all (·.oneCell') = true) (w : World) (ha : RowIs w a xs) :
    Calls Tryz.prog 67 #[.slice a n c] w (ClonePostEntries w n xs) := by
  obtain ⟨i0, hi0, hz0, hz1, hz2⟩ := info_parts info31
  have hp := Hp.start w
  cases a with
  | none =>
    have hn0 : n = 0 := by
      rcases Nat.eq_zero_or_pos n with h | h
      · exact h
      · obtain ⟨b, off, he, _⟩ := ha.addr (by omega)
        cases he
    subst hn0
    have hx : xs = [] := List.eq_nil_of_length_eq_zero (by simpa using hl)
    subst hx
    clear ha hl h1
    have hq := nil_eq22
    go_enter Tryz.func67, Tryz.ntmps67
    go_wp2
    go_ret
    exact ⟨_, [], rfl, OwnRow.nil _ _, hp⟩
  | some a =>
    have HA := Lib.hid ha
    have HL := Lib.hid hl
    have H1 := Lib.hid h1
    have sm1 : 0 + n ≤ maxLen := by unfold maxLen; omega
    have sm2 : (0 + n) * 88 ≤ 140737488355328 := by omega
    clear ha hl h1
    have hq := some_eq22
    go_enter Tryz.func67, Tryz.ntmps67
    go_wp2_with (first | ((with_reducible refine pre_build _ _ _ rfl ?_); refine wpList_buildSlice_hp hp _ _ _ rfl wy [] 31 (by intro w; go_simp; try rfl) ?_; clear hp; intro b w1 hp; simp only [put_some, put_none, List.set_cons_succ, List.set_cons_zero]) | ((with_reducible refine pre_append _ _ 22 rfl ?_); refine wpList_appendGrowRow (K := []) (R := [⟨b, [], 31, 0 * 11⟩]) (M := []) hp _ _ _ rfl wy i0 _ 88 Tryz.underlying22 hi0 hz0 hz1 hz2 rfl (by decide) (slot_tmp rfl) ⟨rfl, .inr ⟨b, 0, rfl, Nat.le_refl _, Nat.zero_le _, rfl⟩⟩ (some a) n c (slot_tmp rfl) xs HL.out (HA.out.below hp.below) H1.out sm1 sm2 ?_; clear hp; intro v' R' w1 hR' hp; have HR' := Lib.hid hR'; clear hR'; simp only [put_some, put_none, List.set_cons_succ, List.set_cons_zero]) | go_skip)
    go_ret
    exact ⟨v', R', rfl, by simpa using HR'.out, by simpa using hp⟩
end Go.Proofs.YtaafajaadfgaoaaGreat
/- Own rows cut short; the walks of Last and Above. -/
set_option linter.unusedSimpArgs false
set_option linter.unusedVariables false
namespace Go.Proofs.YtaafajaadfgaoaaGreat
open Go.RowKit
theorem ceOC0 {ty : TypeId} (h : cellB Tryz.prog ty = true := by with_reducible first | exact cell3 | exact cell4 | exact cell22 | exact cell9 | exact cell37) : cellB Tryz.prog ty = true := h
theorem SubRow.drop {e : TypeId} {c n cap off g k : Nat} {xs : List Value} {R : List Blk} (h : SubRow e c (.slice (some ⟨g, off, none⟩) n cap) n xs R) (hk : k ≤ n) (hn : 0 < n) :
    SubRow e c (.slice (some ⟨g, off + k * c, none⟩) (n - k) (cap - k)) (n - k) (xs.drop (k * c)) R := by
  obtain ⟨hl, ⟨h0, _, _⟩ | ⟨g', off', cap', pre, hv, h1, h2, h3, h4⟩⟩ := h
  · omega
  · injection hv with hv _ hc
    injection hv with hv
    injection hv with hg ho _
    subst hg ho hc
    have hm := Nat.mul_le_mul_right c hk
    refine ⟨by rw [List.length_drop, hl, Nat.sub_mul], .inr ⟨g, off + k * c, cap - k, pre ++ xs.take (k * c), rfl, by omega, by omega, by rw [List.length_append, List.length_take, h3, hl]; omega, ?_⟩⟩
    rw [h4, List.append_assoc, List.take_append_drop]
    have hm2 := Nat.mul_le_mul_right c (show k ≤ cap by omega)
    rw [Nat.sub_mul, show off + k * c + (cap * c - k * c) = off + cap * c by omega]
theorem SubRow.take {e : TypeId} {c n cap off g k : Nat} {xs : List Value} {R : List Blk} (h : SubRow e c (.slice (some ⟨g, off, none⟩) n cap) n xs R) (hk : k ≤ n) (hn : 0 < n) :
    ∃ R', SubRow e c (.slice (some ⟨g, off, none⟩) k cap) k (xs.take (k * c)) R' ∧ ∀ {B : Nat} {w0 w : World} {M : List Blk}, Hp B w0 w (R ++ M) → Hp B w0 w (R' ++ M) := by
  obtain ⟨hl, ⟨h0, _, _⟩ | ⟨g', off', cap', pre, hv, h1, h2, h3, h4⟩⟩ := h
  · omega
  · injection hv with hv _ hc
    injection hv with hv
    injection hv with hg ho _
    subst hg ho hc
    have hm := Nat.mul_le_mul_right c hk
    refine ⟨[⟨g, pre ++ xs.take (k * c), e, off + cap * c⟩], ⟨by rw [List.length_take, hl]; omega, .inr ⟨g, off, cap, pre, rfl, by omega, h2, h3, rfl⟩⟩, fun {B w0 w M} hp => ?_⟩
    subst h4
    refine Hp.less (l2 := xs.drop (k * c)) ?_
    rw [List.append_assoc, List.take_append_drop]; exact hp
theorem ent_drop (es : List Env) (k : Nat) : (es.flatMap envL).drop (k * 11) = (es.drop k).flatMap envL := by
  induction k generalizing es with
  | zero => simp
  | succ k ih =>
    cases es with
    | nil => simp
    | cons e es =>
      rw [List.flatMap_cons, List.drop_succ_cons, ← ih es, show (k + 1) * 11 = 11 + k * 11 by omega, ← List.drop_drop, List.drop_left' (envL_len11 e)]
theorem ent_take (es : List Env) (k : Nat) : (es.flatMap envL).take (k * 11) = (es.take k).flatMap envL := by
  have h1 := ent_drop es k
  have h2 := List.take_append_drop (k * 11) (es.flatMap envL)
  conv at h2 => rhs; rw [← List.take_append_drop k es, List.flatMap_append]
  rw [h1] at h2
  exact List.append_cancel_right h2
theorem check64N (vw nm bs : Int) (im : ByteArray) (ea : Option Addr) (es : List Env) (n ec : Nat) (hn : es.length = n) (b : Bool) (hb : okC ⟨vw, nm, bs, im, ea, es, ec⟩ = b) (hs : Kv.Small ⟨vw, nm, bs, im, ea, es, ec⟩) (w : World) (ha : RowIs w ea (es.flatMap envL)) :
    Calls Tryz.prog 64 #[.agg #[.int .i64 vw, .int .i64 nm, .int .i64 bs, .string im, .slice ea n ec]] w fun e w' => e = .returned (.int .i64 (if b = true then 0 else 1)) ∧ Below w.heap.size w w' := by
  subst hn
  exact check64L vw nm bs im ea es ec b hb hs w ha
theorem last18L (vw nm bs : Int) (im : ByteArray) (ea : Option Addr) (es : List Env) (ec : Nat) (b : Bool) (hb : okC ⟨vw, nm, bs, im, ea, es, ec⟩ = b) (hs : Kv.Small ⟨vw, nm, bs, im, ea, es, ec⟩) (w : World) (ha : RowIs w ea (es.flatMap envL)) :
    Calls Tryz.prog 18 #[.agg #[.int .i64 vw, .int .i64 nm, .int .i64 bs, .string im, .slice ea es.length ec]] w fun e w' => e = .returned (.int .i64 (if b = true then wrap64 (bs + es.length) else 0)) ∧ Below w.heap.size w w' := by
  have hp := Hp.start w
  have HB := Lib.hid hb
  have HSS := Lib.hid hs
  have HA := Lib.hid ha
  have HN : RowKit.Hid (es.length = es.length) := Lib.hid rfl
  clear hb hs ha
  cases b
  all_goals
    go_enter Tryz.func18, Tryz.ntmps18
    go_wp2_with (first | (go_at_call 64; (with_reducible refine (check64N vw nm bs im _ _ _ ec HN.out _ HB.out HSS.out _ (HA.out.below hp.below)).mono ?_); rintro e w1 ⟨rfl, hb⟩; replace hp := hp.call hb; clear hb; simp only [if_true, Bool.false_eq_true, if_false]) | (go_at_call 71; (with_reducible refine (last71 vw nm bs im _ _ ec _).mono ?_); rintro e w1 ⟨rfl, hb⟩; replace hp := hp.call hb; clear hb) | go_skip | ((first | ((with_reducible refine pre_box _ _ rfl ?_); refine lB hp rfl (slot_tmp rfl) rfl ?_; clear hp; intro b w1 hp) | ((with_reducible refine pre_load _ _ rfl ?_); first | refine lO hp rfl (slot_tmp rfl) ceOC0 aa5 ?_ | refine lA hp rfl (slot_tmp rfl) agg24 aa5 ?_) | ((with_reducible refine pre_store _ _ _ rfl ?_); (first | refine sO hp rfl (slot_tmp rfl) ceOC0 aa5 ?_ | refine sA hp rfl (slot_tmp rfl) (slot_tmp rfl) agg24 aa5 ?_ | refine sG hp rfl (slot_tmp rfl) (slot_tmp rfl) agg24 aa5 ?_); clear hp; intro w1 hp; simp only [spl, List.set_cons_zero, List.set_cons_succ] at hp)); simp only [put_some, put_none, List.set_cons_succ, List.set_cons_zero]))
    go_ret
    exact ⟨rfl, hp.below⟩
def abvC (x : Kv) (n m : Int) : List Env := if m < 1 ∨ x.bs + x.es.length ≤ n then [] else (x.es.drop (n - x.bs).toNat).take (min m.toNat (x.es.length - (n - x.bs).toNat))
def AbvPost (w : World) (l : List Env) (e : Ending) (w' : World) : Prop := ∃ a c R, e = .returned (.slice a l.length c) ∧ l.length ≤ c ∧ OwnRow 31 11 (.slice a l.length c) l.length (l.flatMap envL) R ∧ Hp w.heap.size w w' R
theorem OwnRow.cap {e : TypeId} {c n m : Nat} {a : Option Addr} {k : Nat} {xs : List Value} {R : List Blk} (h : OwnRow e c (.slice a n k) m xs R) : m ≤ k := by
  obtain ⟨_, ⟨h0, hv, _, _⟩ | ⟨g, cap, hv, h1, h2, _⟩⟩ := h
  · omega
  · injection hv with _ _ hk
    omega
theorem clone_ents (l : List Env) (a : Option Addr) (n c : Nat) (hn : l.length = n) (hl : n ≤ 100000) (w : World) (ha : RowIs w a (l.flatMap envL)) : Calls Tryz.prog 67 #[.slice a n c] w fun e w' => ∃ a c R, e = .returned (.slice a n c) ∧ n ≤ c ∧ OwnRow 31 11 (.slice a n c) n (l.flatMap envL) R ∧ Hp w.heap.size w w' R := by
  subst hn
  refine (clone67 a l.length c hl (l.flatMap envL) (flat_len envL 11 envL_len11 l) (by rw [List.all_flatMap]; exact List.all_eq_true.2 fun x _ => rfl) w ha).mono fun e w' h => ?_
  obtain ⟨v, R, h1, h2, h3⟩ := h
  obtain ⟨a', c', rfl, _⟩ := h2.kept
  exact ⟨a', c', R, h1, h2.cap, h2, h3⟩
theorem ents_row {w : World} {b off : Nat} {es : List Env} (ha : RowIs w (some ⟨b, off, none⟩) (es.flatMap envL)) (k j : Nat) : RowIs w (some ⟨b, off + k * 11, none⟩) (((es.drop k).take j).flatMap envL) := by
  rw [← ent_take, ← ent_drop]
  intro i v hi
  rw [List.getElem?_take] at hi
  split at hi
  · rw [List.getElem?_drop] at hi
    obtain ⟨b', off', he, hc⟩ := ha _ _ hi
    injection he with he; injection he with e1 e2; subst e1 e2
    exact ⟨b, off + k * 11, rfl, by rw [Nat.add_assoc]; exact hc⟩
  · cases hi
theorem above17_t (vw nm bs : Int) (im : ByteArray) (ea : Option Addr) (es : List Env) (ec : Nat) (n m : Int) (hb : okC ⟨vw, nm, bs, im, ea, es, ec⟩ = true) (hs : Kv.Small ⟨vw, nm, bs, im, ea, es, ec⟩) (hec : es.length ≤ ec) (h1 : 1 ≤ m) (h2 : n < bs + es.length) (h3 : -1000000000 ≤ n) (w : World) (ha : RowIs w ea (es.flatMap envL)) :
    Calls Tryz.prog 17 #[.agg #[.int .i64 vw, .int .i64 nm, .int .i64 bs, .string im, .slice ea es.length ec], .int .i64 n, .int .i64 m] w (AbvPost w (abvC ⟨vw, nm, bs, im, ea, es, ec⟩ n m)) := by
  have hp := Hp.start w
  have hbs : 0 ≤ bs ∧ bs ≤ 900000000 := by
    unfold okC at hb
    simp only [Bool.and_eq_true, inM, decide_eq_true_eq] at hb
    exact hb.2.2.1
  have hl : es.length ≤ 100000 := hs.1
  obtain ⟨k, hk⟩ : ∃ k : Nat, max 0 (n - bs) = k := ⟨(n - bs).toNat, by omega⟩
  rcases Nat.eq_zero_or_pos es.length with hz | hpos
  · obtain rfl : es = [] := List.eq_nil_of_length_eq_zero hz
    have habv : abvC ⟨vw, nm, bs, im, ea, [], ec⟩ n m = [] := by
      unfold abvC
      simp only
      split <;> simp
    rw [habv]
    have HB := Lib.hid hb
    have HSS := Lib.hid hs
    have HA := Lib.hid ha
    have HN : RowKit.Hid (([] : List Env).length = 0) := Lib.hid rfl
    have hk0 : max 0 (n - bs) = 0 := by simp only [List.length_nil] at h2; omega
    have hm0 : min m 0 = 0 := by omega
    have e0 : wrap64 bs = bs := by unfold wrap64; omega
    have e1 : decide (bs ≤ n) = false := by simp only [List.length_nil] at h2; simp; omega
    have e2 : decide (m < 1) = false := by simp; omega
    have e3 : wrap64 (n - bs) = n - bs := by unfold wrap64; omega
    have f5 : (0 : Int) ≤ (ec : Int) := by omega
    clear hb hs ha habv h1 h2 h3 hbs hk hl hec hz
    go_enter Tryz.func17, Tryz.ntmps17
    go_wp2_with (first | (go_at_call 64; (with_reducible refine (check64N vw nm bs im _ _ _ ec HN.out _ HB.out HSS.out _ (HA.out.below hp.below)).mono ?_); rintro e w1 ⟨rfl, hb⟩; replace hp := hp.call hb; clear hb; simp only [if_true, Bool.false_eq_true, if_false]) | (go_at_call 71; (with_reducible refine (last71 vw nm bs im _ _ ec _).mono ?_); rintro e w1 ⟨rfl, hb⟩; replace hp := hp.call hb; clear hb) | (go_at_call 67; (with_reducible refine (clone_ents [] _ 0 _ rfl (by decide) _ (RowIs.nil _ _)).mono ?_); rintro e w1 ⟨ad, cd, RD, rfl, hcd, hrd, hpn⟩; replace hp := hp.join hpn; have HCD := Lib.hid hcd; have HRD := Lib.hid hrd; clear hpn hcd hrd; simp only [List.cons_append, List.nil_append] at hp) | go_skip | ((first | ((with_reducible refine pre_box _ _ rfl ?_); refine lB hp rfl (slot_tmp rfl) rfl ?_; clear hp; intro b w1 hp) | ((with_reducible refine pre_load _ _ rfl ?_); first | refine lO hp rfl (slot_tmp rfl) ceOC0 aa5 ?_ | refine lA hp rfl (slot_tmp rfl) agg24 aa5 ?_) | ((with_reducible refine pre_store _ _ _ rfl ?_); (first | refine sO hp rfl (slot_tmp rfl) ceOC0 aa5 ?_ | refine sA hp rfl (slot_tmp rfl) (slot_tmp rfl) agg24 aa5 ?_ | refine sG hp rfl (slot_tmp rfl) (slot_tmp rfl) agg24 aa5 ?_); clear hp; intro w1 hp; simp only [spl, List.set_cons_zero, List.set_cons_succ] at hp)); simp only [put_some, put_none, List.set_cons_succ, List.set_cons_zero]))
    go_ret
    exact ⟨ad, cd, RD, rfl, HCD.out, HRD.out, hp.tail⟩
  have hkl : k < es.length := by omega
  obtain ⟨j, hj⟩ : ∃ j : Nat, min m ((es.length - k : Nat) : Int) = j := ⟨(min m ((es.length - k : Nat) : Int)).toNat, by omega⟩
  have habv : abvC ⟨vw, nm, bs, im, ea, es, ec⟩ n m = (es.drop k).take j := by
    unfold abvC
    simp only
    rw [if_neg (by omega), show (n - bs).toNat = k by omega, show min m.toNat (es.length - k) = j by omega]
  rw [habv]
  have htl : ((es.drop k).take j).length = j := by rw [List.length_take, List.length_drop]; omega
  obtain ⟨bq, off, rfl, _⟩ := ha.elems 11 envL_len11 (by omega) (by omega)
  have HB := Lib.hid hb
  have HSS := Lib.hid hs
  have HA := Lib.hid ha
  have HN : RowKit.Hid (es.length = es.length) := Lib.hid rfl
  have HAJ := Lib.hid (ents_row ha k j)
  have HTL := Lib.hid htl
  have HJL : RowKit.Hid (j ≤ 100000) := Lib.hid (by omega)
  have e0 : wrap64 (bs + es.length) = bs + es.length := by unfold wrap64; omega
  have e1 : decide (bs + (es.length : Int) ≤ n) = false := by simp; omega
  have e2 : decide (m < 1) = false := by simp; omega
  have e3 : wrap64 (n - bs) = n - bs := by unfold wrap64; omega
  have f1 : (0 : Int) ≤ (k : Int) := by omega
  have f2 : (k : Int) ≤ (es.length : Int) := by omega
  have f3 : ¬ ec = k := by omega
  have f4 : (0 : Int) ≤ (j : Int) := by omega
  have f5 : (j : Int) ≤ ((ec - k : Nat) : Int) := by omega
  clear hb hs ha habv htl h1 h2 h3 hbs hkl
  go_enter Tryz.func17, Tryz.ntmps17
  go_wp2_with (first | (go_at_call 64; (with_reducible refine (check64N vw nm bs im _ _ _ ec HN.out _ HB.out HSS.out _ (HA.out.below hp.below)).mono ?_); rintro e w1 ⟨rfl, hb⟩; replace hp := hp.call hb; clear hb; simp only [if_true, Bool.false_eq_true, if_false]) | (go_at_call 71; (with_reducible refine (last71 vw nm bs im _ _ ec _).mono ?_); rintro e w1 ⟨rfl, hb⟩; replace hp := hp.call hb; clear hb) | (go_at_call 67; (with_reducible refine (clone_ents ((es.drop k).take j) _ j (ec - k) HTL.out HJL.out _ (HAJ.out.below hp.below)).mono ?_); rintro e w1 ⟨ad, cd, RD, rfl, hcd, hrd, hpn⟩; replace hp := hp.join hpn; have HCD := Lib.hid hcd; have HRD := Lib.hid hrd; clear hpn hcd hrd; simp only [List.cons_append, List.nil_append] at hp) | go_skip | ((first | ((with_reducible refine pre_box _ _ rfl ?_); refine lB hp rfl (slot_tmp rfl) rfl ?_; clear hp; intro b w1 hp) | ((with_reducible refine pre_load _ _ rfl ?_); first | refine lO hp rfl (slot_tmp rfl) ceOC0 aa5 ?_ | refine lA hp rfl (slot_tmp rfl) agg24 aa5 ?_) | ((with_reducible refine pre_store _ _ _ rfl ?_); (first | refine sO hp rfl (slot_tmp rfl) ceOC0 aa5 ?_ | refine sA hp rfl (slot_tmp rfl) (slot_tmp rfl) agg24 aa5 ?_ | refine sG hp rfl (slot_tmp rfl) (slot_tmp rfl) agg24 aa5 ?_); clear hp; intro w1 hp; simp only [spl, List.set_cons_zero, List.set_cons_succ] at hp)); simp only [put_some, put_none, List.set_cons_succ, List.set_cons_zero]))
  go_ret
  exact ⟨ad, cd, RD, by rw [HTL.out]; rfl, by rw [HTL.out]; exact HCD.out, by rw [HTL.out]; exact HRD.out, hp.tail⟩
theorem above_nil (w : World) : ∀ w', Below w.heap.size w w' → AbvPost w [] (.returned (.slice none 0 0)) w' := fun w' hb => ⟨none, 0, [], rfl, Nat.le_refl _, OwnRow.nil _ _, (Hp.start w).call hb⟩
theorem above17_m (vw nm bs : Int) (im : ByteArray) (ea : Option Addr) (es : List Env) (ec : Nat) (n m : Int) (h : okC ⟨vw, nm, bs, im, ea, es, ec⟩ = true) (hm : m < 1 ∨ bs + es.length ≤ n) (hs : Kv.Small ⟨vw, nm, bs, im, ea, es, ec⟩) (w : World) (ha : RowIs w ea (es.flatMap envL)) :
    Calls Tryz.prog 17 #[.agg #[.int .i64 vw, .int .i64 nm, .int .i64 bs, .string im, .slice ea es.length ec], .int .i64 n, .int .i64 m] w (AbvPost w []) := by
  have hp := Hp.start w
  have hbs : 0 ≤ bs ∧ bs ≤ 900000000 := by
    unfold okC at h
    simp only [Bool.and_eq_true, inM, decide_eq_true_eq] at h
    exact h.2.2.1
  have hl : es.length ≤ 100000 := hs.1
  have HB := Lib.hid h
  have HSS := Lib.hid hs
  have HA := Lib.hid ha
  have HN : RowKit.Hid (es.length = es.length) := Lib.hid rfl
  have e0 : wrap64 (bs + es.length) = bs + es.length := by unfold wrap64; omega
  clear h hs ha
  by_cases h1 : m < 1
  · have e2 : decide (m < 1) = true := by simpa using h1
    clear hm h1 hbs hl
    go_enter Tryz.func17, Tryz.ntmps17
    go_wp2_with (first | (go_at_call 64; (with_reducible refine (check64N vw nm bs im _ _ _ ec HN.out _ HB.out HSS.out _ (HA.out.below hp.below)).mono ?_); rintro e w1 ⟨rfl, hb⟩; replace hp := hp.call hb; clear hb; simp only [if_true, Bool.false_eq_true, if_false]) | (go_at_call 71; (with_reducible refine (last71 vw nm bs im _ _ ec _).mono ?_); rintro e w1 ⟨rfl, hb⟩; replace hp := hp.call hb; clear hb) | go_skip | ((first | ((with_reducible refine pre_box _ _ rfl ?_); refine lB hp rfl (slot_tmp rfl) rfl ?_; clear hp; intro b w1 hp) | ((with_reducible refine pre_load _ _ rfl ?_); first | refine lO hp rfl (slot_tmp rfl) ceOC0 aa5 ?_ | refine lA hp rfl (slot_tmp rfl) agg24 aa5 ?_) | ((with_reducible refine pre_store _ _ _ rfl ?_); (first | refine sO hp rfl (slot_tmp rfl) ceOC0 aa5 ?_ | refine sA hp rfl (slot_tmp rfl) (slot_tmp rfl) agg24 aa5 ?_ | refine sG hp rfl (slot_tmp rfl) (slot_tmp rfl) agg24 aa5 ?_); clear hp; intro w1 hp; simp only [spl, List.set_cons_zero, List.set_cons_succ] at hp)); simp only [put_some, put_none, List.set_cons_succ, List.set_cons_zero]))
    go_ret
    exact above_nil w _ hp.below
  · have e2 : decide (m < 1) = false := by simpa using h1
    have e1 : decide (bs + (es.length : Int) ≤ n) = true := by simp; omega
    clear hm h1 hbs hl
    go_enter Tryz.func17, Tryz.ntmps17
    go_wp2_with (first | (go_at_call 64; (with_reducible refine (check64N vw nm bs im _ _ _ ec HN.out _ HB.out HSS.out _ (HA.out.below hp.below)).mono ?_); rintro e w1 ⟨rfl, hb⟩; replace hp := hp.call hb; clear hb; simp only [if_true, Bool.false_eq_true, if_false]) | (go_at_call 71; (with_reducible refine (last71 vw nm bs im _ _ ec _).mono ?_); rintro e w1 ⟨rfl, hb⟩; replace hp := hp.call hb; clear hb) | go_skip | ((first | ((with_reducible refine pre_box _ _ rfl ?_); refine lB hp rfl (slot_tmp rfl) rfl ?_; clear hp; intro b w1 hp) | ((with_reducible refine pre_load _ _ rfl ?_); first | refine lO hp rfl (slot_tmp rfl) ceOC0 aa5 ?_ | refine lA hp rfl (slot_tmp rfl) agg24 aa5 ?_) | ((with_reducible refine pre_store _ _ _ rfl ?_); (first | refine sO hp rfl (slot_tmp rfl) ceOC0 aa5 ?_ | refine sA hp rfl (slot_tmp rfl) (slot_tmp rfl) agg24 aa5 ?_ | refine sG hp rfl (slot_tmp rfl) (slot_tmp rfl) agg24 aa5 ?_); clear hp; intro w1 hp; simp only [spl, List.set_cons_zero, List.set_cons_succ] at hp)); simp only [put_some, put_none, List.set_cons_succ, List.set_cons_zero]))
    go_ret
    exact above_nil w _ hp.below
theorem above17L (vw nm bs : Int) (im : ByteArray) (ea : Option Addr) (es : List Env) (ec : Nat) (n m : Int) (l : List Env) (hb : okC ⟨vw, nm, bs, im, ea, es, ec⟩ = true) (hl : abvC ⟨vw, nm, bs, im, ea, es, ec⟩ n m = l) (hs : Kv.Small ⟨vw, nm, bs, im, ea, es, ec⟩) (hec : es.length ≤ ec) (h3 : -1000000000 ≤ n) (w : World) (ha : RowIs w ea (es.flatMap envL)) :
    Calls Tryz.prog 17 #[.agg #[.int .i64 vw, .int .i64 nm, .int .i64 bs, .string im, .slice ea es.length ec], .int .i64 n, .int .i64 m] w (AbvPost w l) := by
  subst hl
  by_cases h : m < 1 ∨ bs + es.length ≤ n
  · have e : abvC ⟨vw, nm, bs, im, ea, es, ec⟩ n m = [] := by unfold abvC; rw [if_pos h]
    rw [e]
    exact above17_m vw nm bs im ea es ec n m hb h hs w ha
  · exact above17_t vw nm bs im ea es ec n m hb hs hec (by omega) (by omega) h3 w ha
end Go.Proofs.YtaafajaadfgaoaaGreat
/- Heaps that are laid and read, by their parts; the chapter's examples of heaps. -/
set_option linter.unusedSimpArgs false
set_option linter.unusedVariables false
namespace Go.Proofs.YtaafajaadfgaoaaGreat
open Go.RowKit
theorem RowIs.fixC {w : World} {b off : Nat} {xs : List Value} (h : RowIs w (some ⟨b, off, none⟩) xs) : ∀ j v, xs[j]? = some v → w.cell? ⟨b, off + j, none⟩ = some v := fun j v hj => by
  obtain ⟨b', off', he, hc⟩ := h j v hj
  injection he with he; injection he with e1 e2; subst e1; subst e2; exact hc
theorem obsB_sm {l k : List Ob} (h : ObsSm l k) : l.flatMap obB = k.flatMap obB := by
  have : l.map obB = k.map obB := by
    apply List.ext_getElem?
    intro i
    rw [List.getElem?_map, List.getElem?_map]
    rcases Nat.lt_or_ge i l.length with hi | hi
    · have ha := List.getElem?_eq_getElem hi
      have hb := List.getElem?_eq_getElem (l := k) (i := i) (by have := h.1; omega)
      obtain ⟨h1, h2, h3, h4, h5⟩ := h.2 i _ _ ha hb
      rw [ha, hb]
      simp only [Option.map_some, obB, h1, h2, h4, h5]
    · rw [List.getElem?_eq_none hi, List.getElem?_eq_none (by have := h.1; omega)]
  rw [List.flatMap_def, List.flatMap_def, this]
theorem heapB_sm {x y : Hv} (h : x.Sm y) : heapB x = heapB y := by
  unfold heapB headB
  rw [h.od, h.nx, h.t0, h.t1, h.t2, h.t3, obsB_sm h.os, h.os.1]
theorem stateB_sm {x y : Sv} (h : x.Sm y) : stateB x = stateB y := by
  unfold stateB; rw [heapB_sm h.1, h.2]
theorem HvO.kept {y : Hv} {R : List Blk} (h : HvO y R) : Kept R fun w => y.Is w := by
  obtain ⟨RO, RF, M, rfl, h⟩ := h
  exact h.kept
theorem SubRow.cap {e : TypeId} {c n m : Nat} {a : Option Addr} {k : Nat} {xs : List Value} {R : List Blk} (h : SubRow e c (.slice a n k) m xs R) (hn : n = m) : m ≤ k := by
  obtain ⟨a', k', hv, hk, _⟩ := h.kept
  injection hv with _ _ hk'
  omega
def b28 : List Nat := [0, 0, 0, 3, 0, 0, 0, 1, 0, 0, 0, 0, 0, 0, 0, 0, 0, 0, 0, 0, 0, 0, 0, 0, 0, 0, 0, 0]
theorem right_one3 : hrightB (oneHv 3) = true := hright_one (by decide) (by decide)
end Go.Proofs.YtaafajaadfgaoaaGreat

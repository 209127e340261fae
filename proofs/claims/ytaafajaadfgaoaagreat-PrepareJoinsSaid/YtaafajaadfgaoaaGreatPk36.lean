/- Parts of the proof. -/
import Derived.Test.YtaafajaadfgaoaaGreatPk1
import Derived.Test.YtaafajaadfgaoaaGreatPk24
import Derived.Test.YtaafajaadfgaoaaGreatPk35
import Derived.Test.YtaafajaadfgaoaaGreatPk5
import Derived.Test.YtaafajaadfgaoaaGreatPk7
import Derived.Test.YtaafajaadfgaoaaGreatPk22
open List renaming set_cons_zero → zSet, set_cons_succ → sSet
/- The walk of slices.Clone of entries. -/
set_option linter.unusedSimpArgs false
set_option linter.unusedVariables false
namespace Go.Proofs.YtaafajaadfgaoaaGreat
open Go.RowKit
theorem eqn_nilEntries (d : Nat) (n c : Nat) (w : World) : (Op.equalIn (d + 1) 22 (.slice none n c) (.slice none 0 0)).run Tryz.prog w = .ok true w := by
  rw [Op.equalIn]; simp [Sem.run_bind, run_underlying Tryz.underlying22]
theorem eqn_someEntries (d : Nat) (a : Addr) (n c : Nat) (w : World) : (Op.equalIn (d + 1) 22 (.slice (some a) n c) (.slice none 0 0)).run Tryz.prog w = .ok false w := by
  rw [Op.equalIn]; simp [Sem.run_bind, run_underlying Tryz.underlying22]
theorem nil_eq22 (n c : Nat) (w : World) : (binOp .eql 22 (.slice none n c) (.slice none 0 0)).run Tryz.prog w = .ok (.bool true) w := by
  have h : (Op.equalIn 10000 22 (.slice none n c) (.slice none 0 0)).run Tryz.prog w = .ok true w := eqn_nilEntries 9999 n c w
  simp only [binOp]
  simp [Op.equal, Op.maxDepth, h]
theorem some_eq22 (a : Addr) (n c : Nat) (w : World) : (binOp .eql 22 (.slice (some a) n c) (.slice none 0 0)).run Tryz.prog w = .ok (.bool false) w := by
  have h : (Op.equalIn 10000 22 (.slice (some a) n c) (.slice none 0 0)).run Tryz.prog w = .ok false w := eqn_someEntries 9999 a n c w
  simp only [binOp]
  simp [Op.equal, Op.maxDepth, h]
def ClonePostEntries (w : World) (n : Nat) (xs : List Value) (e : Ending) (w' : World) : Prop := ∃ v R, e = .returned v ∧ OwnRow 31 11 v n xs R ∧ Hp w.heap.size w w' R
set_option maxRecDepth 100000 in
set_option maxHeartbeats 4000000 in
theorem clone67 (a : Option Addr) (n c : Nat) (hn : n ≤ 100000) (xs : List Value) (hl : xs.length = n * 11) (h1 : xs.all (·.oneCell') = true) (w : World) (ha : RowIs w a xs) :
    Calls Tryz.prog 67 #[.slice a n c] w (ClonePostEntries w n xs) := by
  obtain ⟨i0, hi0, hz0, hz1, hz2⟩ := info_parts info31
  have hp := Hp.start w
  cases a with
  | none =>
    have hn0 : n = 0 := by
      rcases Nat.eq_zero_or_pos n with h | h
      · exact h
      · obtain ⟨b, off, he, _⟩ := ha.addr (by omega)
        cases he
    subst hn0
    have hx : xs = [] := List.eq_nil_of_length_eq_zero (by simpa using hl)
    subst hx
    clear ha hl h1
    have hq := nil_eq22
    go_enter Tryz.func67, Tryz.ntmps67
    go_wp2
    go_ret
    exact ⟨_, [], rfl, OwnRow.nil _ _, hp⟩
  | some a =>
    have HA := Lib.hid ha
    have HL := Lib.hid hl
    have H1 := Lib.hid h1
    have sm1 : 0 + n ≤ maxLen := by unfold maxLen; omega
    have sm2 : (0 + n) * 88 ≤ 140737488355328 := by omega
    clear ha hl h1
    have hq := some_eq22
    go_enter Tryz.func67, Tryz.ntmps67
    go_wp2_with (first | ((with_reducible refine pre_build _ _ _ rfl ?_); refine wpList_buildSlice_hp hp _ _ _ rfl wy [] 31 (by intro w; go_simp; try rfl) ?_; clear hp; intro b w1 hp; simp only [put_some, put_none, sSet, zSet]) | ((with_reducible refine pre_append _ _ 22 rfl ?_); refine wpList_appendGrowRow (K := []) (R := [⟨b, [], 31, 0 * 11⟩]) (M := []) hp _ _ _ rfl wy i0 _ 88 Tryz.underlying22 hi0 hz0 hz1 hz2 rfl (by decide) (sTm rfl) ⟨rfl, .inr ⟨b, 0, rfl, Nat.le_refl _, Nat.zero_le _, rfl⟩⟩ (some a) n c (sTm rfl) xs HL.out (HA.out.below hp.below) H1.out sm1 sm2 ?_; clear hp; intro v' R' w1 hR' hp; have HR' := Lib.hid hR'; clear hR'; simp only [put_some, put_none, sSet, zSet]) | go_skip)
    go_ret
    exact ⟨v', R', rfl, by simpa using HR'.out, by simpa using hp⟩
end Go.Proofs.YtaafajaadfgaoaaGreat
/- Own rows cut short; the walks of Last and Above. -/
namespace Go.Proofs.YtaafajaadfgaoaaGreat
open Go.RowKit
theorem ceOC0 {ty : TypeId} (h : cellB Tryz.prog ty = true := by with_reducible first | exact cell3 | exact cell4 | exact cell22 | exact cell9 | exact cell37) : cellB Tryz.prog ty = true := h
theorem SubRow.drop {e : TypeId} {c n cap off g k : Nat} {xs : List Value} {R : List Blk} (h : SubRow e c (.slice (some ⟨g, off, none⟩) n cap) n xs R) (hk : k ≤ n) (hn : 0 < n) :
    SubRow e c (.slice (some ⟨g, off + k * c, none⟩) (n - k) (cap - k)) (n - k) (xs.drop (k * c)) R := by
  obtain ⟨hl, ⟨h0, _, _⟩ | ⟨g', off', cap', pre, hv, h1, h2, h3, h4⟩⟩ := h
  · omega
  · injection hv with hv _ hc
    injection hv with hv
    injection hv with hg ho _
    subst hg ho hc
    have hm := Nat.mul_le_mul_right c hk
    refine ⟨by rw [List.length_drop, hl, Nat.sub_mul], .inr ⟨g, off + k * c, cap - k, pre ++ xs.take (k * c), rfl, by omega, by omega, by rw [List.length_append, List.length_take, h3, hl]; omega, ?_⟩⟩
    rw [h4, List.append_assoc, List.take_append_drop]
    have hm2 := Nat.mul_le_mul_right c (show k ≤ cap by omega)
    rw [Nat.sub_mul, show off + k * c + (cap * c - k * c) = off + cap * c by omega]
theorem SubRow.take {e : TypeId} {c n cap off g k : Nat} {xs : List Value} {R : List Blk} (h : SubRow e c (.slice (some ⟨g, off, none⟩) n cap) n xs R) (hk : k ≤ n) (hn : 0 < n) :
    ∃ R', SubRow e c (.slice (some ⟨g, off, none⟩) k cap) k (xs.take (k * c)) R' ∧ ∀ {B : Nat} {w0 w : World} {M : List Blk}, Hp B w0 w (R ++ M) → Hp B w0 w (R' ++ M) := by
  obtain ⟨hl, ⟨h0, _, _⟩ | ⟨g', off', cap', pre, hv, h1, h2, h3, h4⟩⟩ := h
  · omega
  · injection hv with hv _ hc
    injection hv with hv
    injection hv with hg ho _
    subst hg ho hc
    have hm := Nat.mul_le_mul_right c hk
    refine ⟨[⟨g, pre ++ xs.take (k * c), e, off + cap * c⟩], ⟨by rw [List.length_take, hl]; omega, .inr ⟨g, off, cap, pre, rfl, by omega, h2, h3, rfl⟩⟩, fun {B w0 w M} hp => ?_⟩
    subst h4
    refine Hp.less (l2 := xs.drop (k * c)) ?_
    rw [List.append_assoc, List.take_append_drop]; exact hp
theorem ent_drop (es : List Env) (k : Nat) : (es.flatMap envL).drop (k * 11) = (es.drop k).flatMap envL := by
  induction k generalizing es with
  | zero => simp
  | succ k ih =>
    cases es with
    | nil => simp
    | cons e es =>
      rw [List.flatMap_cons, List.drop_succ_cons, ← ih es, show (k + 1) * 11 = 11 + k * 11 by omega, ← List.drop_drop, List.drop_left' (envL_len11 e)]
theorem ent_take (es : List Env) (k : Nat) : (es.flatMap envL).take (k * 11) = (es.take k).flatMap envL := by
  have h1 := ent_drop es k
  have h2 := List.take_append_drop (k * 11) (es.flatMap envL)
  conv at h2 => rhs; rw [← List.take_append_drop k es, List.flatMap_append]
  rw [h1] at h2
  exact List.append_cancel_right h2
theorem check64N (vw nm bs : Int) (im : ByteArray) (ea : Option Addr) (es : List Env) (n ec : Nat) (hn : es.length = n) (b : Bool) (hb : okC ⟨vw, nm, bs, im, ea, es, ec⟩ = b) (hs : Kv.Small ⟨vw, nm, bs, im, ea, es, ec⟩) (w : World) (ha : RowIs w ea (es.flatMap envL)) :
    Calls Tryz.prog 64 #[.agg #[.int .i64 vw, .int .i64 nm, .int .i64 bs, .string im, .slice ea n ec]] w fun e w' => e = .returned (.int .i64 (if b = true then 0 else 1)) ∧ Below w.heap.size w w' := by
  subst hn
  exact check64L vw nm bs im ea es ec b hb hs w ha
theorem last18L (vw nm bs : Int) (im : ByteArray) (ea : Option Addr) (es : List Env) (ec : Nat) (b : Bool) (hb : okC ⟨vw, nm, bs, im, ea, es, ec⟩ = b) (hs : Kv.Small ⟨vw, nm, bs, im, ea, es, ec⟩) (w : World) (ha : RowIs w ea (es.flatMap envL)) :
    Calls Tryz.prog 18 #[.agg #[.int .i64 vw, .int .i64 nm, .int .i64 bs, .string im, .slice ea es.length ec]] w fun e w' => e = .returned (.int .i64 (if b = true then wrap64 (bs + es.length) else 0)) ∧ Below w.heap.size w w' := by
  have hp := Hp.start w
  have HB := Lib.hid hb
  have HSS := Lib.hid hs
  have HA := Lib.hid ha
  have HN : RowKit.Hid (es.length = es.length) := Lib.hid rfl
  clear hb hs ha
  cases b
  all_goals
    go_enter Tryz.func18, Tryz.ntmps18
    go_wp2_with (first | (go_at_call 64; (with_reducible refine (check64N vw nm bs im _ _ _ ec HN.out _ HB.out HSS.out _ (HA.out.below hp.below)).mono ?_); rintro e w1 ⟨rfl, hb⟩; replace hp := hp.call hb; clear hb; simp only [if_true, Bool.false_eq_true, if_false]) | (go_at_call 71; (with_reducible refine (last71 vw nm bs im _ _ ec _).mono ?_); rintro e w1 ⟨rfl, hb⟩; replace hp := hp.call hb; clear hb) | go_skip | ((first | ((with_reducible refine pre_box _ _ rfl ?_); refine lB hp rfl (sTm rfl) rfl ?_; clear hp; intro b w1 hp) | ((with_reducible refine pre_load _ _ rfl ?_); first | refine lO hp rfl (sTm rfl) ceOC0 aa5 ?_ | refine lA hp rfl (sTm rfl) agg24 aa5 ?_) | ((with_reducible refine pre_store _ _ _ rfl ?_); (first | refine sO hp rfl (sTm rfl) ceOC0 aa5 ?_ | refine sA hp rfl (sTm rfl) (sTm rfl) agg24 aa5 ?_ | refine sG hp rfl (sTm rfl) (sTm rfl) agg24 aa5 ?_); clear hp; intro w1 hp; simp only [spl, zSet, sSet] at hp)); simp only [put_some, put_none, sSet, zSet]))
    go_ret
    exact ⟨rfl, hp.below⟩
theorem OwnRow.cap {e : TypeId} {c n m : Nat} {a : Option Addr} {k : Nat} {xs : List Value} {R : List Blk} (h : OwnRow e c (.slice a n k) m xs R) : m ≤ k := by
  obtain ⟨_, ⟨h0, hv, _, _⟩ | ⟨g, cap, hv, h1, h2, _⟩⟩ := h
  · omega
  · injection hv with _ _ hk
    omega
theorem clone_ents (l : List Env) (a : Option Addr) (n c : Nat) (hn : l.length = n) (hl : n ≤ 100000) (w : World) (ha : RowIs w a (l.flatMap envL)) : Calls Tryz.prog 67 #[.slice a n c] w fun e w' => ∃ a c R, e = .returned (.slice a n c) ∧ n ≤ c ∧ OwnRow 31 11 (.slice a n c) n (l.flatMap envL) R ∧ Hp w.heap.size w w' R := by
  subst hn
  refine (clone67 a l.length c hl (l.flatMap envL) (flat_len envL 11 envL_len11 l) (by rw [List.all_flatMap]; exact List.all_eq_true.2 fun x _ => rfl) w ha).mono fun e w' h => ?_
  obtain ⟨v, R, h1, h2, h3⟩ := h
  obtain ⟨a', c', rfl, _⟩ := h2.kept
  exact ⟨a', c', R, h1, h2.cap, h2, h3⟩
end Go.Proofs.YtaafajaadfgaoaaGreat
/- What comes of an entry that comes again, of a client's next one, and of many: the plain laws. No program in sight. -/
namespace Go.Proofs.YtaafajaadfgaoaaGreat
theorem mayE_facts {e : Env} (h : mayE e = true) : 1 ≤ e.nu ∧ e.nu ≤ 900000000 ∧ 0 ≤ e.vi ∧ e.vi ≤ 900000000 ∧ ((e.cl = 0 ∧ e.sq = 0) ∨ (e.cl ≠ 0 ∧ 1 ≤ e.cl ∧ e.cl ≤ 4 ∧ 1 ≤ e.sq ∧ e.sq ≤ 1000000)) := by
  unfold mayE inM at h
  by_cases hc : e.cl = 0
  · simp only [hc, if_true] at h; simp at h; omega
  · simp only [hc, if_false] at h; simp at h; omega
end Go.Proofs.YtaafajaadfgaoaaGreat

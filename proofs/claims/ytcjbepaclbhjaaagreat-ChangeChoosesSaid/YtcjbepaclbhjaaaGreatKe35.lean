/- Parts of the proof. -/
import Derived.Test.YtcjbepaclbhjaaaGreatKe1
import Derived.Test.YtcjbepaclbhjaaaGreatKe34
import Derived.Test.YtcjbepaclbhjaaaGreatKe24
import Derived.Test.YtcjbepaclbhjaaaGreatKe6
import Derived.Test.YtcjbepaclbhjaaaGreatKe8
import Derived.Test.YtcjbepaclbhjaaaGreatKe22
open List renaming set_cons_zero → zSet, set_cons_succ → sSet
/- Own rows cut short; the walks of Last and Above. -/
set_option linter.unusedSimpArgs false
set_option linter.unusedVariables false
namespace Go.Proofs.YtcjbepaclbhjaaaGreat
open Go.RowKit
theorem SubRow.drop {e : TypeId} {c n cap off g k : Nat} {xs : List Value} {R : List Blk} (h : SubRow e c (.slice (some ⟨g, off, none⟩) n cap) n xs R) (hk : k ≤ n) (hn : 0 < n) :
    SubRow e c (.slice (some ⟨g, off + k * c, none⟩) (n - k) (cap - k)) (n - k) (xs.drop (k * c)) R := by
  obtain ⟨hl, ⟨h0, _, _⟩ | ⟨g', off', cap', pre, hv, h1, h2, h3, h4⟩⟩ := h
  · omega
  · injection hv with hv _ hc
    injection hv with hv
    injection hv with hg ho _
    subst hg ho hc
    have hm := Nat.mul_le_mul_right c hk
    refine ⟨by rw [List.length_drop, hl, Nat.sub_mul], .inr ⟨g, off + k * c, cap - k, pre ++ xs.take (k * c), rfl, by omega, by omega, by rw [List.length_append, List.length_take, h3, hl]; omega, ?_⟩⟩
    rw [h4, List.append_assoc, List.take_append_drop]
    have hm2 := Nat.mul_le_mul_right c (show k ≤ cap by omega)
    rw [Nat.sub_mul, show off + k * c + (cap * c - k * c) = off + cap * c by omega]
theorem SubRow.take {e : TypeId} {c n cap off g k : Nat} {xs : List Value} {R : List Blk} (h : SubRow e c (.slice (some ⟨g, off, none⟩) n cap) n xs R) (hk : k ≤ n) (hn : 0 < n) :
    ∃ R', SubRow e c (.slice (some ⟨g, off, none⟩) k cap) k (xs.take (k * c)) R' ∧ ∀ {B : Nat} {w0 w : World} {M : List Blk}, Hp B w0 w (R ++ M) → Hp B w0 w (R' ++ M) := by
  obtain ⟨hl, ⟨h0, _, _⟩ | ⟨g', off', cap', pre, hv, h1, h2, h3, h4⟩⟩ := h
  · omega
  · injection hv with hv _ hc
    injection hv with hv
    injection hv with hg ho _
    subst hg ho hc
    have hm := Nat.mul_le_mul_right c hk
    refine ⟨[⟨g, pre ++ xs.take (k * c), e, off + cap * c⟩], ⟨by rw [List.length_take, hl]; omega, .inr ⟨g, off, cap, pre, rfl, by omega, h2, h3, rfl⟩⟩, fun {B w0 w M} hp => ?_⟩
    subst h4
    refine Hp.less (l2 := xs.drop (k * c)) ?_
    rw [List.append_assoc, List.take_append_drop]; exact hp
theorem ent_drop (es : List Env) (k : Nat) : (es.flatMap envL).drop (k * 11) = (es.drop k).flatMap envL := by
  induction k generalizing es with
  | zero => simp
  | succ k ih =>
    cases es with
    | nil => simp
    | cons e es =>
      rw [List.flatMap_cons, List.drop_succ_cons, ← ih es, show (k + 1) * 11 = 11 + k * 11 by omega, ← List.drop_drop, List.drop_left' (envL_len11 e)]
theorem ent_take (es : List Env) (k : Nat) : (es.flatMap envL).take (k * 11) = (es.take k).flatMap envL := by
  have h1 := ent_drop es k
  have h2 := List.take_append_drop (k * 11) (es.flatMap envL)
  conv at h2 => rhs; rw [← List.take_append_drop k es, List.flatMap_append]
  rw [h1] at h2
  exact List.append_cancel_right h2
theorem check27N (vw nm bs : Int) (im : ByteArray) (ea : Option Addr) (es : List Env) (n ec : Nat) (hn : es.length = n) (b : Bool) (hb : okC ⟨vw, nm, bs, im, ea, es, ec⟩ = b) (hs : Kv.Small ⟨vw, nm, bs, im, ea, es, ec⟩) (w : World) (ha : RowIs w ea (es.flatMap envL)) :
    Calls Tryz.prog 27 #[.agg #[.int .i64 vw, .int .i64 nm, .int .i64 bs, .string im, .slice ea n ec]] w fun e w' => e = .returned (.int .i64 (if b = true then 0 else 1)) ∧ Below w.heap.size w w' := by
  subst hn
  exact check27L vw nm bs im ea es ec b hb hs w ha
theorem last29L (vw nm bs : Int) (im : ByteArray) (ea : Option Addr) (es : List Env) (ec : Nat) (b : Bool) (hb : okC ⟨vw, nm, bs, im, ea, es, ec⟩ = b) (hs : Kv.Small ⟨vw, nm, bs, im, ea, es, ec⟩) (w : World) (ha : RowIs w ea (es.flatMap envL)) :
    Calls Tryz.prog 29 #[.agg #[.int .i64 vw, .int .i64 nm, .int .i64 bs, .string im, .slice ea es.length ec]] w fun e w' => e = .returned (.int .i64 (if b = true then wrap64 (bs + es.length) else 0)) ∧ Below w.heap.size w w' := by
  have hp := Hp.start w
  have HB := Lib.hid hb
  have HSS := Lib.hid hs
  have HA := Lib.hid ha
  have HN : RowKit.Hid (es.length = es.length) := Lib.hid rfl
  clear hb hs ha
  cases b
  all_goals
    go_enter Tryz.func29, Tryz.ntmps29
    go_wp2_with (first | (go_at_call 27; (with_reducible refine (check27N vw nm bs im _ _ _ ec HN.out _ HB.out HSS.out _ (HA.out.below hp.below)).mono ?_); rintro e w1 ⟨rfl, hb⟩; replace hp := hp.call hb; clear hb; simp only [if_true, Bool.false_eq_true, if_false]) | (go_at_call 61; (with_reducible refine (last61 vw nm bs im _ _ ec _).mono ?_); rintro e w1 ⟨rfl, hb⟩; replace hp := hp.call hb; clear hb) | go_skip | (first | (refine hA2 ?_; clear hp; intro b w1 hp) | refine hL0 ?_ | (refine hS0 ?_; clear hp; intro w1 hp)))
    go_ret
    exact ⟨rfl, hp.below⟩
theorem OwnRow.cap {e : TypeId} {c n m : Nat} {a : Option Addr} {k : Nat} {xs : List Value} {R : List Blk} (h : OwnRow e c (.slice a n k) m xs R) : m ≤ k := by
  obtain ⟨_, ⟨h0, hv, _, _⟩ | ⟨g, cap, hv, h1, h2, _⟩⟩ := h
  · omega
  · injection hv with _ _ hk
    omega
theorem clone_ents (l : List Env) (a : Option Addr) (n c : Nat) (hn : l.length = n) (hl : n ≤ 100000) (w : World) (ha : RowIs w a (l.flatMap envL)) : Calls Tryz.prog 60 #[.slice a n c] w fun e w' => ∃ a c R, e = .returned (.slice a n c) ∧ n ≤ c ∧ OwnRow 47 11 (.slice a n c) n (l.flatMap envL) R ∧ Hp w.heap.size w w' R := by
  subst hn
  refine (clone60 a l.length c hl (l.flatMap envL) (flat_len envL 11 envL_len11 l) (by rw [List.all_flatMap]; exact List.all_eq_true.2 fun x _ => rfl) w ha).mono fun e w' h => ?_
  obtain ⟨v, R, h1, h2, h3⟩ := h
  obtain ⟨a', c', rfl, _⟩ := h2.kept
  exact ⟨a', c', R, h1, h2.cap, h2, h3⟩
theorem ents_row {w : World} {b off : Nat} {es : List Env} (ha : RowIs w (some ⟨b, off, none⟩) (es.flatMap envL)) (k j : Nat) : RowIs w (some ⟨b, off + k * 11, none⟩) (((es.drop k).take j).flatMap envL) := by
  rw [← ent_take, ← ent_drop]
  intro i v hi
  rw [List.getElem?_take] at hi
  split at hi
  · rw [List.getElem?_drop] at hi
    obtain ⟨b', off', he, hc⟩ := ha _ _ hi
    injection he with he; injection he with e1 e2; subst e1 e2
    exact ⟨b, off + k * 11, rfl, by rw [Nat.add_assoc]; exact hc⟩
  · cases hi
end Go.Proofs.YtcjbepaclbhjaaaGreat
/- What comes of an entry that comes again, of a client's next one, and of many: the plain laws. No program in sight. -/
namespace Go.Proofs.YtcjbepaclbhjaaaGreat
theorem mayE_facts {e : Env} (h : mayE e = true) : 1 ≤ e.nu ∧ e.nu ≤ 900000000 ∧ 0 ≤ e.vi ∧ e.vi ≤ 900000000 ∧ ((e.cl = 0 ∧ e.sq = 0) ∨ (e.cl ≠ 0 ∧ 1 ≤ e.cl ∧ e.cl ≤ 4 ∧ 1 ≤ e.sq ∧ e.sq ≤ 1000000)) := by
  unfold mayE inM at h
  by_cases hc : e.cl = 0
  · simp only [hc, if_true] at h; simp at h; omega
  · simp only [hc, if_false] at h; simp at h; omega
end Go.Proofs.YtcjbepaclbhjaaaGreat

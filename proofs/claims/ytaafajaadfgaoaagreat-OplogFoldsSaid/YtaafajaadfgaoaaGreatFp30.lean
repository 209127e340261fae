import Derived.Test.YtaafajaadfgaoaaGreatFp29
import Derived.Test.YtaafajaadfgaoaaGreatFp4
import Derived.Test.YtaafajaadfgaoaaGreatFp6
import Derived.Test.YtaafajaadfgaoaaGreatFp18
set_option linter.unusedSimpArgs false
set_option linter.unusedVariables false
set_option maxRecDepth 100000
set_option maxHeartbeats 60000000
namespace Go.Proofs.YtaafajaadfgaoaaGreat
open Go.RowKit
theorem znl {ty : TypeId} (h : zB Tryz.prog ty = true := by with_reducible first | exact zq | exact zA | exact zO | exact ZL | exact Ze) : zB Tryz.prog ty = true := h
theorem zD.drop {e : TypeId} {c n cap off g k : Nat} {xs : List Value} {R : List Blk} (h : zD e c (.slice (some ⟨g, off, none⟩) n cap) n xs R) (hk : k ≤ n) (hn : 0 < n) :
  zD e c (.slice (some ⟨g, off + k * c, none⟩) (n - k) (cap - k)) (n - k) (xs.drop (k * c)) R := by
 obtain ⟨hl, ⟨h0, _, _⟩ | ⟨g', off', cap', pre, hv, h1, h2, h3, h4⟩⟩ := h
 ·omega
 ·injection hv with hv _ hc
  injection hv with hv
  injection hv with hg ho _
  subst hg ho hc
  have hm := Nat.mul_le_mul_right c hk
  refine ⟨by rw [List.length_drop, hl, Nat.sub_mul], .inr ⟨g, off + k * c, cap - k, pre ++ xs.take (k * c), rfl, by omega, by omega, by rw [List.length_append, List.length_take, h3, hl]; omega, ?_⟩⟩
  rw [h4, List.append_assoc, List.take_append_drop]
  have hm2 := Nat.mul_le_mul_right c (show k ≤ cap by omega)
  rw [Nat.sub_mul, show off + k * c + (cap * c - k * c) = off + cap * c by omega]
theorem zD.take {e : TypeId} {c n cap off g k : Nat} {xs : List Value} {R : List Blk} (h : zD e c (.slice (some ⟨g, off, none⟩) n cap) n xs R) (hk : k ≤ n) (hn : 0 < n) :
  ∃ R', zD e c (.slice (some ⟨g, off, none⟩) k cap) k (xs.take (k * c)) R' ∧ ∀ {B : Nat} {w0 w : World} {M : List Blk}, Hp B w0 w (R ++ M) → Hp B w0 w (R' ++ M) := by
 obtain ⟨hl, ⟨h0, _, _⟩ | ⟨g', off', cap', pre, hv, h1, h2, h3, h4⟩⟩ := h
 ·omega
 ·injection hv with hv _ hc
  injection hv with hv
  injection hv with hg ho _
  subst hg ho hc
  have hm := Nat.mul_le_mul_right c hk
  refine ⟨[⟨g, pre ++ xs.take (k * c), e, off + cap * c⟩], ⟨by rw [List.length_take, hl]; omega, .inr ⟨g, off, cap, pre, rfl, by omega, h2, h3, rfl⟩⟩, fun {B w0 w M} hp => ?_⟩
  subst h4
  refine Hp.less (l2 := xs.drop (k * c)) ?_
  rw [List.append_assoc, List.take_append_drop]; exact hp
theorem zfE (es : List Env) (k : Nat) : (es.flatMap Zi).drop (k * 11) = (es.drop k).flatMap Zi := by
 induction k generalizing es with
 | zero => simp
 | succ k ih =>
  cases es with
  | nil => simp
  | cons e es =>
   rw [List.flatMap_cons, List.drop_succ_cons, ← ih es, show (k + 1) * 11 = 11 + k * 11 by omega, ← List.drop_drop, List.drop_left' (ZM e)]
theorem zfF (es : List Env) (k : Nat) : (es.flatMap Zi).take (k * 11) = (es.take k).flatMap Zi := by
 have h1 := zfE es k
 have h2 := List.take_append_drop (k * 11) (es.flatMap Zi)
 conv at h2 => rhs; rw [← List.take_append_drop k es, List.flatMap_append]
 rw [h1] at h2
 exact List.append_cancel_right h2
theorem zdn (vw nm bs : Int) (im : ByteArray) (ea : Option Addr) (es : List Env) (n ec : Nat) (hn : es.length = n) (b : Bool) (hb : okC ⟨vw, nm, bs, im, ea, es, ec⟩ = b) (hs : Kv.Small ⟨vw, nm, bs, im, ea, es, ec⟩) (w : World) (ha : zr w ea (es.flatMap Zi)) :
  Calls Tryz.prog 64 #[.agg #[.int .i64 vw, .int .i64 nm, .int .i64 bs, .string im, .slice ea n ec]] w fun e w' => e = .returned (.int .i64 (if b = true then 0 else 1)) ∧ Below w.heap.size w w' := by
 subst hn
 exact zch vw nm bs im ea es ec b hb hs w ha
theorem zg8 (vw nm bs : Int) (im : ByteArray) (ea : Option Addr) (es : List Env) (ec : Nat) (b : Bool) (hb : okC ⟨vw, nm, bs, im, ea, es, ec⟩ = b) (hs : Kv.Small ⟨vw, nm, bs, im, ea, es, ec⟩) (w : World) (ha : zr w ea (es.flatMap Zi)) :
  Calls Tryz.prog 18 #[.agg #[.int .i64 vw, .int .i64 nm, .int .i64 bs, .string im, .slice ea es.length ec]] w fun e w' => e = .returned (.int .i64 (if b = true then wrap64 (bs + es.length) else 0)) ∧ Below w.heap.size w w' := by
 have hp := Hp.start w
 have HB := z0j hb
 have HSS := z0j hs
 have HA := z0j ha
 have HN : Hid (es.length = es.length) := z0j rfl
 clear hb hs ha
 cases b
 all_goals
  go_enter Tryz.func18, Tryz.ntmps18
  go_wp2_with (first | (go_at_call 64; (with_reducible refine (zdn vw nm bs im _ _ _ ec HN.out _ HB.out HSS.out _ (HA.out.below hp.below)).mono ?_); rintro e w1 ⟨rfl, hb⟩; replace hp := hp.call hb; clear hb; simp only [if_true, Bool.false_eq_true, if_false]) | (go_at_call 71; (with_reducible refine (ZK vw nm bs im _ _ ec _).mono ?_); rintro e w1 ⟨rfl, hb⟩; replace hp := hp.call hb; clear hb) | go_skip | ((first | ((refine zh _ _ rfl ?_); refine lB hp rfl (za rfl) rfl ?_; clear hp; intro b w1 hp) | ((refine zf _ _ rfl ?_); first | refine lO hp rfl (za rfl) znl aa5 ?_ | refine lA hp rfl (za rfl) zF aa5 ?_) | ((refine zd _ _ _ rfl ?_); (first | refine sO hp rfl (za rfl) znl aa5 ?_ | refine sA hp rfl (za rfl) (za rfl) zF aa5 ?_ | refine sG hp rfl (za rfl) (za rfl) zF aa5 ?_); clear hp; intro w1 hp; simp only [spl, z0a, z0b] at hp)); simp only [zc, zb, z0b, z0a]))
  go_ret
  exact ⟨rfl, hp.below⟩
theorem zJ.cap {e : TypeId} {c n m : Nat} {a : Option Addr} {k : Nat} {xs : List Value} {R : List Blk} (h : zJ e c (.slice a n k) m xs R) : m ≤ k := by
 obtain ⟨_, ⟨h0, hv, _, _⟩ | ⟨g, cap, hv, h1, h2, _⟩⟩ := h
 ·omega
 ·injection hv with _ _ hk
  omega
theorem zdP (l : List Env) (a : Option Addr) (n c : Nat) (hn : l.length = n) (hl : n ≤ 100000) (w : World) (ha : zr w a (l.flatMap Zi)) : Calls Tryz.prog 67 #[.slice a n c] w fun e w' => ∃ a c R, e = .returned (.slice a n c) ∧ n ≤ c ∧ zJ 31 11 (.slice a n c) n (l.flatMap Zi) R ∧ Hp w.heap.size w w' R := by
 subst hn
 refine (zmo a l.length c hl (l.flatMap Zi) (ZH Zi 11 ZM l) (by rw [List.all_flatMap]; exact List.all_eq_true.2 fun x _ => rfl) w ha).mono fun e w' h => ?_
 obtain ⟨v, R, h1, h2, h3⟩ := h
 obtain ⟨a', c', rfl, _⟩ := h2.kept
 exact ⟨a', c', R, h1, h2.cap, h2, h3⟩
theorem zkW {w : World} {b off : Nat} {es : List Env} (ha : zr w (some ⟨b, off, none⟩) (es.flatMap Zi)) (k j : Nat) : zr w (some ⟨b, off + k * 11, none⟩) (((es.drop k).take j).flatMap Zi) := by
 rw [← zfF, ← zfE]
 intro i v hi
 rw [List.getElem?_take] at hi
 split at hi
 ·rw [List.getElem?_drop] at hi
  obtain ⟨b', off', he, hc⟩ := ha _ _ hi
  injection he with he; injection he with e1 e2; subst e1 e2
  exact ⟨b, off + k * 11, rfl, by rw [Nat.add_assoc]; exact hc⟩
 ·cases hi
theorem ziv {e : Env} (h : zdR e = true) : 1 ≤ e.nu ∧ e.nu ≤ 900000000 ∧ 0 ≤ e.vi ∧ e.vi ≤ 900000000 ∧ ((e.cl = 0 ∧ e.sq = 0) ∨ (e.cl ≠ 0 ∧ 1 ≤ e.cl ∧ e.cl ≤ 4 ∧ 1 ≤ e.sq ∧ e.sq ≤ 1000000)) := by
 unfold zdR inM at h
 by_cases hc : e.cl = 0
 ·simp only [hc, if_true] at h; simp at h; omega
 ·simp only [hc, if_false] at h; simp at h; omega
end Go.Proofs.YtaafajaadfgaoaaGreat

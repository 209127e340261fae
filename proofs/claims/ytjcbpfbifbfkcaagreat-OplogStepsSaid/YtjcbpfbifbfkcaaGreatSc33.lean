import Derived.Test.YtjcbpfbifbfkcaaGreatSc32
import Derived.Test.YtjcbpfbifbfkcaaGreatSc4
import Derived.Test.YtjcbpfbifbfkcaaGreatSc5
import Derived.Test.YtjcbpfbifbfkcaaGreatSc29
import Derived.Test.YtjcbpfbifbfkcaaGreatSc31
import Derived.Test.YtjcbpfbifbfkcaaGreatSc2
set_option linter.unusedSimpArgs false
set_option linter.unusedVariables false
set_option maxRecDepth 100000
set_option maxHeartbeats 60000000
namespace Go.Proofs.YtjcbpfbifbfkcaaGreat
open Go.RowKit
theorem znu {ty : TypeId} (h : zF Tryz.prog ty = true := by with_reducible first | exact zm | exact Zv | exact Zh | exact zaX | exact z7) : zF Tryz.prog ty = true := h
theorem zI.drop {e : TypeId} {c n cap off g k : Nat} {xs : List Value} {R : List Blk} (h : zI e c (.slice (some ⟨g, off, none⟩) n cap) n xs R) (hk : k ≤ n) (hn : 0 < n) :
  zI e c (.slice (some ⟨g, off + k * c, none⟩) (n - k) (cap - k)) (n - k) (xs.drop (k * c)) R := by
 obtain ⟨hl, ⟨h0, _, _⟩ | ⟨g', off', cap', pre, hv, h1, h2, h3, h4⟩⟩ := h
 ·omega
 ·injection hv with hv _ hc
  injection hv with hv
  injection hv with hg ho _
  subst hg ho hc
  have hm := Nat.mul_le_mul_right c hk
  refine ⟨by rw [List.length_drop, hl, Nat.sub_mul], .inr ⟨g, off + k * c, cap - k, pre ++ xs.take (k * c), rfl, by omega, by omega, by rw [List.length_append, List.length_take, h3, hl]; omega, ?_⟩⟩
  rw [h4, List.append_assoc, List.take_append_drop]
  have hm2 := Nat.mul_le_mul_right c (show k ≤ cap by omega)
  rw [Nat.sub_mul, show off + k * c + (cap * c - k * c) = off + cap * c by omega]
theorem zI.take {e : TypeId} {c n cap off g k : Nat} {xs : List Value} {R : List Blk} (h : zI e c (.slice (some ⟨g, off, none⟩) n cap) n xs R) (hk : k ≤ n) (hn : 0 < n) :
  ∃ R', zI e c (.slice (some ⟨g, off, none⟩) k cap) k (xs.take (k * c)) R' ∧ ∀ {B : Nat} {w0 w : World} {M : List Blk}, Hp B w0 w (R ++ M) → Hp B w0 w (R' ++ M) := by
 obtain ⟨hl, ⟨h0, _, _⟩ | ⟨g', off', cap', pre, hv, h1, h2, h3, h4⟩⟩ := h
 ·omega
 ·injection hv with hv _ hc
  injection hv with hv
  injection hv with hg ho _
  subst hg ho hc
  have hm := Nat.mul_le_mul_right c hk
  refine ⟨[⟨g, pre ++ xs.take (k * c), e, off + cap * c⟩], ⟨by rw [List.length_take, hl]; omega, .inr ⟨g, off, cap, pre, rfl, by omega, h2, h3, rfl⟩⟩, fun {B w0 w M} hp => ?_⟩
  subst h4
  refine Hp.less (l2 := xs.drop (k * c)) ?_
  rw [List.append_assoc, List.take_append_drop]; exact hp
theorem zgj (es : List Env) (k : Nat) : (es.flatMap Z1).drop (k * 11) = (es.drop k).flatMap Z1 := by
 induction k generalizing es with
 | zero => simp
 | succ k ih =>
  cases es with
  | nil => simp
  | cons e es =>
   rw [List.flatMap_cons, List.drop_succ_cons, ← ih es, show (k + 1) * 11 = 11 + k * 11 by omega, ← List.drop_drop, List.drop_left' (zaB e)]
theorem zjh (es : List Env) (k : Nat) : (es.flatMap Z1).take (k * 11) = (es.take k).flatMap Z1 := by
 have h1 := zgj es k
 have h2 := List.take_append_drop (k * 11) (es.flatMap Z1)
 conv at h2 => rhs; rw [← List.take_append_drop k es, List.flatMap_append]
 rw [h1] at h2
 exact List.append_cancel_right h2
theorem zbE (vw nm bs : Int) (im : ByteArray) (ea : Option Addr) (es : List Env) (n ec : Nat) (hn : es.length = n) (b : Bool) (hb : okC ⟨vw, nm, bs, im, ea, es, ec⟩ = b) (hs : Kv.Small ⟨vw, nm, bs, im, ea, es, ec⟩) (w : World) (ha : zt w ea (es.flatMap Z1)) :
  Calls Tryz.prog 21 #[.agg #[.int .i64 vw, .int .i64 nm, .int .i64 bs, .string im, .slice ea n ec]] w fun e w' => e = .returned (.int .i64 (if b = true then 0 else 1)) ∧ Below w.heap.size w w' := by
 subst hn
 exact za1 vw nm bs im ea es ec b hb hs w ha
def zlL (x : Kv) (n m : Int) : List Env := if m < 1 ∨ x.bs + x.es.length ≤ n then [] else (x.es.drop (n - x.bs).toNat).take (min m.toNat (x.es.length - (n - x.bs).toNat))
def zf1 (w : World) (l : List Env) (e : Ending) (w' : World) : Prop := ∃ a c R, e = .returned (.slice a l.length c) ∧ l.length ≤ c ∧ zA 38 11 (.slice a l.length c) l.length (l.flatMap Z1) R ∧ Hp w.heap.size w w' R
theorem zA.cap {e : TypeId} {c n m : Nat} {a : Option Addr} {k : Nat} {xs : List Value} {R : List Blk} (h : zA e c (.slice a n k) m xs R) : m ≤ k := by
 obtain ⟨_, ⟨h0, hv, _, _⟩ | ⟨g, cap, hv, h1, h2, _⟩⟩ := h
 ·omega
 ·injection hv with _ _ hk
  omega
theorem zbU (l : List Env) (a : Option Addr) (n c : Nat) (hn : l.length = n) (hl : n ≤ 100000) (w : World) (ha : zt w a (l.flatMap Z1)) : Calls Tryz.prog 62 #[.slice a n c] w fun e w' => ∃ a c R, e = .returned (.slice a n c) ∧ n ≤ c ∧ zA 38 11 (.slice a n c) n (l.flatMap Z1) R ∧ Hp w.heap.size w w' R := by
 subst hn
 refine (zql a l.length c hl (l.flatMap Z1) (Zb Z1 11 zaB l) (by rw [List.all_flatMap]; exact List.all_eq_true.2 fun x _ => rfl) w ha).mono fun e w' h => ?_
 obtain ⟨v, R, h1, h2, h3⟩ := h
 obtain ⟨a', c', rfl, _⟩ := h2.kept
 exact ⟨a', c', R, h1, h2.cap, h2, h3⟩
theorem znv {w : World} {b off : Nat} {es : List Env} (ha : zt w (some ⟨b, off, none⟩) (es.flatMap Z1)) (k j : Nat) : zt w (some ⟨b, off + k * 11, none⟩) (((es.drop k).take j).flatMap Z1) := by
 rw [← zjh, ← zgj]
 intro i v hi
 rw [List.getElem?_take] at hi
 split at hi
 ·rw [List.getElem?_drop] at hi
  obtain ⟨b', off', he, hc⟩ := ha _ _ hi
  injection he with he; injection he with e1 e2; subst e1 e2
  exact ⟨b, off + k * 11, rfl, by rw [Nat.add_assoc]; exact hc⟩
 ·cases hi
theorem zmu (vw nm bs : Int) (im : ByteArray) (ea : Option Addr) (es : List Env) (ec : Nat) (n m : Int) (hb : okC ⟨vw, nm, bs, im, ea, es, ec⟩ = true) (hs : Kv.Small ⟨vw, nm, bs, im, ea, es, ec⟩) (hec : es.length ≤ ec) (h1 : 1 ≤ m) (h2 : n < bs + es.length) (h3 : -1000000000 ≤ n) (w : World) (ha : zt w ea (es.flatMap Z1)) :
  Calls Tryz.prog 23 #[.agg #[.int .i64 vw, .int .i64 nm, .int .i64 bs, .string im, .slice ea es.length ec], .int .i64 n, .int .i64 m] w (zf1 w (zlL ⟨vw, nm, bs, im, ea, es, ec⟩ n m)) := by
 have hp := Hp.start w
 have hbs : 0 ≤ bs ∧ bs ≤ 900000000 := by
  unfold okC at hb
  simp only [Bool.and_eq_true, inM, decide_eq_true_eq] at hb
  exact hb.2.2.1
 have hl : es.length ≤ 100000 := hs.1
 obtain ⟨k, hk⟩ : ∃ k : Nat, max 0 (n - bs) = k := ⟨(n - bs).toNat, by omega⟩
 rcases Nat.eq_zero_or_pos es.length with hz | hpos
 ·obtain rfl : es = [] := List.eq_nil_of_length_eq_zero hz
  have habv : zlL ⟨vw, nm, bs, im, ea, [], ec⟩ n m = [] := by
   unfold zlL
   simp only
   split <;> simp
  rw [habv]
  have HB := z0j hb
  have HSS := z0j hs
  have HA := z0j ha
  have HN : Hid (([] : List Env).length = 0) := z0j rfl
  have hk0 : max 0 (n - bs) = 0 := by simp only [z0h] at h2; omega
  have hm0 : min m 0 = 0 := by omega
  have e0 : wrap64 bs = bs := by unfold wrap64; omega
  have e1 : decide (bs ≤ n) = false := by simp only [z0h] at h2; simp; omega
  have e2 : decide (m < 1) = false := by simp; omega
  have e3 : wrap64 (n - bs) = n - bs := by unfold wrap64; omega
  have f5 : (0 : Int) ≤ (ec : Int) := by omega
  clear hb hs ha habv h1 h2 h3 hbs hk hl hec hz
  go_enter Tryz.func23, Tryz.ntmps23
  go_wp2_with (first | (go_at_call 21; (with_reducible refine (zbE vw nm bs im _ _ _ ec HN.out _ HB.out HSS.out _ (HA.out.below hp.below)).mono ?_); rintro e w1 ⟨rfl, hb⟩; replace hp := hp.call hb; clear hb; simp only [if_true, Bool.false_eq_true, if_false]) | (go_at_call 71; (with_reducible refine (Zc vw nm bs im _ _ ec _).mono ?_); rintro e w1 ⟨rfl, hb⟩; replace hp := hp.call hb; clear hb) | (go_at_call 62; (with_reducible refine (zbU [] _ 0 _ rfl (by decide) _ (zt.nil _ _)).mono ?_); rintro e w1 ⟨ad, cd, RD, rfl, hcd, hrd, hpn⟩; replace hp := hp.join hpn; have HCD := z0j hcd; have HRD := z0j hrd; clear hpn hcd hrd; simp only [z0f, z0e] at hp) | go_skip | ((first | ((refine zi _ _ rfl ?_); refine lB hp rfl (za rfl) rfl ?_; clear hp; intro b w1 hp) | ((refine ze _ _ rfl ?_); first | refine lO hp rfl (za rfl) znu aa5 ?_ | refine lA hp rfl (za rfl) zH aa5 ?_)); simp only [zc, zb, z0b, z0a]))
  go_ret
  exact ⟨ad, cd, RD, rfl, HCD.out, HRD.out, hp.tail⟩
 have hkl : k < es.length := by omega
 obtain ⟨j, hj⟩ : ∃ j : Nat, min m ((es.length - k : Nat) : Int) = j := ⟨(min m ((es.length - k : Nat) : Int)).toNat, by omega⟩
 have habv : zlL ⟨vw, nm, bs, im, ea, es, ec⟩ n m = (es.drop k).take j := by
  unfold zlL
  simp only
  rw [if_neg (by omega), show (n - bs).toNat = k by omega, show min m.toNat (es.length - k) = j by omega]
 rw [habv]
 have htl : ((es.drop k).take j).length = j := by rw [List.length_take, List.length_drop]; omega
 obtain ⟨bq, off, rfl, _⟩ := ha.elems 11 zaB (by omega) (by omega)
 have HB := z0j hb
 have HSS := z0j hs
 have HA := z0j ha
 have HN : Hid (es.length = es.length) := z0j rfl
 have HAJ := z0j (znv ha k j)
 have HTL := z0j htl
 have HJL : Hid (j ≤ 100000) := z0j (by omega)
 have e0 : wrap64 (bs + es.length) = bs + es.length := by unfold wrap64; omega
 have e1 : decide (bs + (es.length : Int) ≤ n) = false := by simp; omega
 have e2 : decide (m < 1) = false := by simp; omega
 have e3 : wrap64 (n - bs) = n - bs := by unfold wrap64; omega
 have f1 : (0 : Int) ≤ (k : Int) := by omega
 have f2 : (k : Int) ≤ (es.length : Int) := by omega
 have f3 : ¬ ec = k := by omega
 have f4 : (0 : Int) ≤ (j : Int) := by omega
 have f5 : (j : Int) ≤ ((ec - k : Nat) : Int) := by omega
 clear hb hs ha habv htl h1 h2 h3 hbs hkl
 go_enter Tryz.func23, Tryz.ntmps23
 go_wp2_with (first | (go_at_call 21; (with_reducible refine (zbE vw nm bs im _ _ _ ec HN.out _ HB.out HSS.out _ (HA.out.below hp.below)).mono ?_); rintro e w1 ⟨rfl, hb⟩; replace hp := hp.call hb; clear hb; simp only [if_true, Bool.false_eq_true, if_false]) | (go_at_call 71; (with_reducible refine (Zc vw nm bs im _ _ ec _).mono ?_); rintro e w1 ⟨rfl, hb⟩; replace hp := hp.call hb; clear hb) | (go_at_call 62; (with_reducible refine (zbU ((es.drop k).take j) _ j (ec - k) HTL.out HJL.out _ (HAJ.out.below hp.below)).mono ?_); rintro e w1 ⟨ad, cd, RD, rfl, hcd, hrd, hpn⟩; replace hp := hp.join hpn; have HCD := z0j hcd; have HRD := z0j hrd; clear hpn hcd hrd; simp only [z0f, z0e] at hp) | go_skip | ((first | ((refine zi _ _ rfl ?_); refine lB hp rfl (za rfl) rfl ?_; clear hp; intro b w1 hp) | ((refine ze _ _ rfl ?_); first | refine lO hp rfl (za rfl) znu aa5 ?_ | refine lA hp rfl (za rfl) zH aa5 ?_)); simp only [zc, zb, z0b, z0a]))
 go_ret
 exact ⟨ad, cd, RD, by rw [HTL.out]; rfl, by rw [HTL.out]; exact HCD.out, by rw [HTL.out]; exact HRD.out, hp.tail⟩
theorem zgQ (w : World) : ∀ w', Below w.heap.size w w' → zf1 w [] (.returned (.slice none 0 0)) w' := fun w' hb => ⟨none, 0, [], rfl, Nat.le_refl _, zA.nil _ _, (Hp.start w).call hb⟩
theorem zly (vw nm bs : Int) (im : ByteArray) (ea : Option Addr) (es : List Env) (ec : Nat) (n m : Int) (h : okC ⟨vw, nm, bs, im, ea, es, ec⟩ = true) (hm : m < 1 ∨ bs + es.length ≤ n) (hs : Kv.Small ⟨vw, nm, bs, im, ea, es, ec⟩) (w : World) (ha : zt w ea (es.flatMap Z1)) :
  Calls Tryz.prog 23 #[.agg #[.int .i64 vw, .int .i64 nm, .int .i64 bs, .string im, .slice ea es.length ec], .int .i64 n, .int .i64 m] w (zf1 w []) := by
 have hp := Hp.start w
 have hbs : 0 ≤ bs ∧ bs ≤ 900000000 := by
  unfold okC at h
  simp only [Bool.and_eq_true, inM, decide_eq_true_eq] at h
  exact h.2.2.1
 have hl : es.length ≤ 100000 := hs.1
 have HB := z0j h
 have HSS := z0j hs
 have HA := z0j ha
 have HN : Hid (es.length = es.length) := z0j rfl
 have e0 : wrap64 (bs + es.length) = bs + es.length := by unfold wrap64; omega
 clear h hs ha
 by_cases h1 : m < 1
 ·have e2 : decide (m < 1) = true := by simpa using h1
  clear hm h1 hbs hl
  go_enter Tryz.func23, Tryz.ntmps23
  go_wp2_with (first | (go_at_call 21; (with_reducible refine (zbE vw nm bs im _ _ _ ec HN.out _ HB.out HSS.out _ (HA.out.below hp.below)).mono ?_); rintro e w1 ⟨rfl, hb⟩; replace hp := hp.call hb; clear hb; simp only [if_true, Bool.false_eq_true, if_false]) | (go_at_call 71; (with_reducible refine (Zc vw nm bs im _ _ ec _).mono ?_); rintro e w1 ⟨rfl, hb⟩; replace hp := hp.call hb; clear hb) | go_skip | ((first | ((refine zi _ _ rfl ?_); refine lB hp rfl (za rfl) rfl ?_; clear hp; intro b w1 hp) | ((refine ze _ _ rfl ?_); first | refine lO hp rfl (za rfl) znu aa5 ?_ | refine lA hp rfl (za rfl) zH aa5 ?_)); simp only [zc, zb, z0b, z0a]))
  go_ret
  exact zgQ w _ hp.below
 ·have e2 : decide (m < 1) = false := by simpa using h1
  have e1 : decide (bs + (es.length : Int) ≤ n) = true := by simp; omega
  clear hm h1 hbs hl
  go_enter Tryz.func23, Tryz.ntmps23
  go_wp2_with (first | (go_at_call 21; (with_reducible refine (zbE vw nm bs im _ _ _ ec HN.out _ HB.out HSS.out _ (HA.out.below hp.below)).mono ?_); rintro e w1 ⟨rfl, hb⟩; replace hp := hp.call hb; clear hb; simp only [if_true, Bool.false_eq_true, if_false]) | (go_at_call 71; (with_reducible refine (Zc vw nm bs im _ _ ec _).mono ?_); rintro e w1 ⟨rfl, hb⟩; replace hp := hp.call hb; clear hb) | go_skip | ((first | ((refine zi _ _ rfl ?_); refine lB hp rfl (za rfl) rfl ?_; clear hp; intro b w1 hp) | ((refine ze _ _ rfl ?_); first | refine lO hp rfl (za rfl) znu aa5 ?_ | refine lA hp rfl (za rfl) zH aa5 ?_)); simp only [zc, zb, z0b, z0a]))
  go_ret
  exact zgQ w _ hp.below
theorem zoz (vw nm bs : Int) (im : ByteArray) (ea : Option Addr) (es : List Env) (ec : Nat) (n m : Int) (l : List Env) (hb : okC ⟨vw, nm, bs, im, ea, es, ec⟩ = true) (hl : zlL ⟨vw, nm, bs, im, ea, es, ec⟩ n m = l) (hs : Kv.Small ⟨vw, nm, bs, im, ea, es, ec⟩) (hec : es.length ≤ ec) (h3 : -1000000000 ≤ n) (w : World) (ha : zt w ea (es.flatMap Z1)) :
  Calls Tryz.prog 23 #[.agg #[.int .i64 vw, .int .i64 nm, .int .i64 bs, .string im, .slice ea es.length ec], .int .i64 n, .int .i64 m] w (zf1 w l) := by
 subst hl
 by_cases h : m < 1 ∨ bs + es.length ≤ n
 ·have e : zlL ⟨vw, nm, bs, im, ea, es, ec⟩ n m = [] := by unfold zlL; rw [if_pos h]
  rw [e]
  exact zly vw nm bs im ea es ec n m hb h hs w ha
 ·exact zmu vw nm bs im ea es ec n m hb hs hec (by omega) (by omega) h3 w ha
open Go.RowKit
theorem zjq (od : Int) (oa : Option Addr) (os : List Ob) (oc : Nat) (nx t0 t1 t2 t3 : Int) (fa : Option Addr) (fs : List Bl) (fc : Nat) (ra : Option Addr) (rs : List Rw) (rc : Nat) (nu vi cl sq kk hh ii nn cc vv tt : Int) (r : Sv × Int × Int)
  (hr : Z4 ⟨⟨od, oa, os, oc, nx, t0, t1, t2, t3, fa, fs, fc⟩, ra, rs, rc⟩ ⟨nu, vi, cl, sq, ⟨kk, hh, ii, nn, cc, vv, tt⟩⟩ = r) (hs : Sv.Small ⟨⟨od, oa, os, oc, nx, t0, t1, t2, t3, fa, fs, fc⟩, ra, rs, rc⟩) (w : World) (hx0 : Sv.Is w ⟨⟨od, oa, os, oc, nx, t0, t1, t2, t3, fa, fs, fc⟩, ra, rs, rc⟩) : Calls Tryz.prog 47 #[.agg #[.int .i64 od, .slice oa os.length oc, .int .i64 nx, .int .i64 t0, .int .i64 t1, .int .i64 t2, .int .i64 t3, .slice fa fs.length fc, .slice ra rs.length rc], .agg #[.int .i64 nu, .int .i64 vi, .int .i64 cl, .int .i64 sq, .int .i64 kk, .int .i64 hh, .int .i64 ii, .int .i64 nn, .int .i64 cc, .int .i64 vv, .int .i64 tt]] w (zcj w r) := by
 subst hr
 cases h1 : stB ⟨⟨od, oa, os, oc, nx, t0, t1, t2, t3, fa, fs, fc⟩, ra, rs, rc⟩ with
 | false =>
  have e : Z4 ⟨⟨od, oa, os, oc, nx, t0, t1, t2, t3, fa, fs, fc⟩, ra, rs, rc⟩ ⟨nu, vi, cl, sq, ⟨kk, hh, ii, nn, cc, vv, tt⟩⟩ = (zcu, 1, 0) := by unfold Z4; rw [if_neg (by rw [h1]; simp)]
  rw [e]
  exact zfO od oa os oc nx t0 t1 t2 t3 fa fs fc ra rs rc nu vi cl sq kk hh ii nn cc vv tt hs w hx0 (.inl h1)
 | true =>
  cases h2 : zdE ⟨nu, vi, cl, sq, ⟨kk, hh, ii, nn, cc, vv, tt⟩⟩ with
  | false =>
   have e : Z4 ⟨⟨od, oa, os, oc, nx, t0, t1, t2, t3, fa, fs, fc⟩, ra, rs, rc⟩ ⟨nu, vi, cl, sq, ⟨kk, hh, ii, nn, cc, vv, tt⟩⟩ = (zcu, 1, 0) := by unfold Z4; rw [if_neg (by rw [h2]; simp)]
   rw [e]
   exact zfO od oa os oc nx t0 t1 t2 t3 fa fs fc ra rs rc nu vi cl sq kk hh ii nn cc vv tt hs w hx0 (.inr ⟨h1, h2⟩)
  | true =>
   have e : Z4 ⟨⟨od, oa, os, oc, nx, t0, t1, t2, t3, fa, fs, fc⟩, ra, rs, rc⟩ ⟨nu, vi, cl, sq, ⟨kk, hh, ii, nn, cc, vv, tt⟩⟩ = zcx ⟨⟨od, oa, os, oc, nx, t0, t1, t2, t3, fa, fs, fc⟩, ra, rs, rc⟩ cl sq ⟨kk, hh, ii, nn, cc, vv, tt⟩ := by unfold Z4; rw [if_pos ⟨h1, h2⟩]
   rw [e]
   have hst := zfw h1
   obtain ⟨⟨⟨r1, r2, r3, r4⟩, b⟩, hf⟩ : ∃ q, zdk rs cl = q := ⟨_, rfl⟩
   unfold zcx
   simp only [hf]
   by_cases hA : sq < r2
   ·rw [if_pos hA]
    exact zcB od oa os oc nx t0 t1 t2 t3 fa fs fc ra rs rc nu vi cl sq kk hh ii nn cc vv tt hs w hx0 h1 h2 r1 r2 r3 r4 b hf 0 130 0 (.inl ⟨decide_eq_true hA, rfl, rfl⟩)
   ·rw [if_neg hA]
    by_cases hC : cl = 0
    ·rw [if_pos (.inl hC)]
     exact zcB od oa os oc nx t0 t1 t2 t3 fa fs fc ra rs rc nu vi cl sq kk hh ii nn cc vv tt hs w hx0 h1 h2 r1 r2 r3 r4 b hf 0 r3 r4 (.inr (.inl ⟨decide_eq_false hA, by simp [hC], rfl, rfl⟩))
    ·by_cases hE : r2 = sq
     ·rw [if_pos (.inr hE)]
      exact zcB od oa os oc nx t0 t1 t2 t3 fa fs fc ra rs rc nu vi cl sq kk hh ii nn cc vv tt hs w hx0 h1 h2 r1 r2 r3 r4 b hf 0 r3 r4 (.inr (.inr ⟨decide_eq_false hA, by simp [hC], by simp [hE], rfl, rfl⟩))
     ·rw [if_neg (by intro h; rcases h with h | h; exact hC h; exact hE h)]
      obtain ⟨⟨s, c, v⟩, hd⟩ : ∃ q, doC ⟨od, oa, os, oc, nx, t0, t1, t2, t3, fa, fs, fc⟩ ⟨kk, hh, ii, nn, cc, vv, tt⟩ = q := ⟨_, rfl⟩
      have hd' : doP ⟨od, oa, os, oc, nx, t0, t1, t2, t3, fa, fs, fc⟩ ⟨kk, hh, ii, nn, cc, vv, tt⟩ = (s, c, v) := by rw [ziC hst.hv]; exact hd
      rw [hd]
      obtain ⟨k, hat⟩ := zrs (zdx hst.rows) cl
      cases hb : zbS rs cl k with
      | true => exact zh5 od oa os oc nx t0 t1 t2 t3 fa fs fc ra rs rc nu vi cl sq kk hh ii nn cc vv tt hs w hx0 h1 h2 r1 r2 r3 r4 b hf s c v (decide_eq_false hA) (by simp [hC]) (by simp [hE]) hd' k hat hb
      | false => exact zil od oa os oc nx t0 t1 t2 t3 fa fs fc ra rs rc nu vi cl sq kk hh ii nn cc vv tt hs w hx0 h1 h2 r1 r2 r3 r4 b hf s c v (decide_eq_false hA) (by simp [hC]) (by simp [hE]) hd' k hat hb
theorem zpz (odx : Int) (oax : Option Addr) (osx : List Ob) (ocx : Nat) (nxx t0x t1x t2x t3x : Int) (fax : Option Addr) (fsx : List Bl) (fcx : Nat) (rax : Option Addr) (rsx : List Rw) (rcx : Nat) (ody : Int) (oay : Option Addr) (osy : List Ob) (ocy : Nat) (nxy t0y t1y t2y t3y : Int) (fay : Option Addr) (fsy : List Bl) (fcy : Nat) (ray : Option Addr) (rsy : List Rw) (rcy : Nat) (hs : Sv.Small ⟨⟨odx, oax, osx, ocx, nxx, t0x, t1x, t2x, t3x, fax, fsx, fcx⟩, rax, rsx, rcx⟩) (hxy : Sv.Sm ⟨⟨odx, oax, osx, ocx, nxx, t0x, t1x, t2x, t3x, fax, fsx, fcx⟩, rax, rsx, rcx⟩ ⟨⟨ody, oay, osy, ocy, nxy, t0y, t1y, t2y, t3y, fay, fsy, fcy⟩, ray, rsy, rcy⟩) (w : World) (hx0 : Sv.Is w ⟨⟨odx, oax, osx, ocx, nxx, t0x, t1x, t2x, t3x, fax, fsx, fcx⟩, rax, rsx, rcx⟩) (hy0 : Sv.Is w ⟨⟨ody, oay, osy, ocy, nxy, t0y, t1y, t2y, t3y, fay, fsy, fcy⟩, ray, rsy, rcy⟩) :
  Calls Tryz.prog 39 #[.agg #[.int .i64 odx, .slice oax osx.length ocx, .int .i64 nxx, .int .i64 t0x, .int .i64 t1x, .int .i64 t2x, .int .i64 t3x, .slice fax fsx.length fcx, .slice rax rsx.length rcx], .agg #[.int .i64 ody, .slice oay osy.length ocy, .int .i64 nxy, .int .i64 t0y, .int .i64 t1y, .int .i64 t2y, .int .i64 t3y, .slice fay fsy.length fcy, .slice ray rsy.length rcy]] w fun e w' => e = .returned (.bool true) ∧ Below w.heap.size w w' := zrh _ _ hs hxy w hx0 hy0
theorem zfJ {x : Sv} (hx : StR x) {e : Env} (he : zdE e = true) : Z4 x e = zcx x e.cl e.sq ⟨e.op.k, e.op.h, e.op.i, e.op.n, e.op.m, e.op.v, e.op.t⟩ := by unfold Z4; rw [if_pos ⟨zmO hx, he⟩]
theorem zhg {x y : Sv} (h : x.Sm y) (e : Env) : (Z4 x e).2 = (Z4 y e).2 ∧ (Z4 x e).1.Sm (Z4 y e).1 := by
 unfold Z4
 rw [zje h]
 split
 ·exact zmJ h _ _ _
 ·exact ⟨rfl, Hv.Sm.refl _, rfl⟩
theorem zkx {e : Env} (h : zdE e = true) : 1 ≤ e.nu ∧ e.nu ≤ 900000000 ∧ 0 ≤ e.vi ∧ e.vi ≤ 900000000 ∧ ((e.cl = 0 ∧ e.sq = 0) ∨ (e.cl ≠ 0 ∧ 1 ≤ e.cl ∧ e.cl ≤ 4 ∧ 1 ≤ e.sq ∧ e.sq ≤ 1000000)) := by
 unfold zdE inM at h
 by_cases hc : e.cl = 0
 ·simp only [hc, if_true] at h; simp at h; omega
 ·simp only [hc, if_false] at h; simp at h; omega
theorem zhq {x : Sv} (hx : StR x) {e : Env} (he : zdE e = true) : StR (Z4 x e).1 := by
 rw [zfJ hx he]
 refine ziS hx _ ?_
 have := zkx he
 omega
noncomputable def zm0 (s : Sv) : List Env → Sv
 | [] => s
 | e :: r => zm0 (Z4 s e).1 r
theorem zfb (e : Env) : ∀ (l : List Env) (s : Sv), zm0 s (l ++ [e]) = (Z4 (zm0 s l) e).1
 | [], s => rfl
 | x :: l, s => zfb e l (Z4 s x).1
theorem zeD {s : Sv} (hs : StR s) : ∀ {l : List Env}, (∀ e ∈ l, zdE e = true) → StR (zm0 s l)
 | [], _ => hs
 | e :: l, h => by
  unfold zm0
  exact zeD (s := (Z4 s e).1) (zhq hs (h e (by simp))) (fun x hx => h x (by simp [hx]))
open Go.RowKit
theorem zpg {l k : List Ob} (h : Z0 l k) : l.flatMap obB = k.flatMap obB := by
 have : l.map obB = k.map obB := by
  apply List.ext_getElem?
  intro i
  rw [List.getElem?_map, List.getElem?_map]
  rcases Nat.lt_or_ge i l.length with hi | hi
  ·have ha := List.getElem?_eq_getElem hi
   have hb := List.getElem?_eq_getElem (l := k) (i := i) (by have := h.1; omega)
   obtain ⟨h1, h2, h3, h4, h5⟩ := h.2 i _ _ ha hb
   rw [ha, hb]
   simp only [Option.map_some, obB, h1, h2, h4, h5]
  ·rw [List.getElem?_eq_none hi, List.getElem?_eq_none (by have := h.1; omega)]
 rw [List.flatMap_def, List.flatMap_def, this]
theorem znK {x y : Hv} (h : x.Sm y) : zcV x = zcV y := by
 unfold zcV zhI
 rw [h.od, h.nx, h.t0, h.t1, h.t2, h.t3, zpg h.os, h.os.1]
theorem zmN {x y : Sv} (h : x.Sm y) : zdN x = zdN y := by
 unfold zdN; rw [znK h.1, h.2]
theorem HvO.kept {y : Hv} {R : List Blk} (h : HvO y R) : ZF R fun w => y.Is w := by
 obtain ⟨RO, RF, M, rfl, h⟩ := h
 exact h.kept
theorem zI.cap {e : TypeId} {c n m : Nat} {a : Option Addr} {k : Nat} {xs : List Value} {R : List Blk} (h : zI e c (.slice a n k) m xs R) (hn : n = m) : m ≤ k := by
 obtain ⟨a', k', hv, hk, _⟩ := h.kept
 injection hv with _ _ hk'
 omega
def b28 : List Nat := [0, 0, 0, 3, 0, 0, 0, 1, 0, 0, 0, 0, 0, 0, 0, 0, 0, 0, 0, 0, 0, 0, 0, 0, 0, 0, 0, 0]
theorem zj6 : Zl (zcW 3) = true := zku (by decide) (by decide)
end Go.Proofs.YtjcbpfbifbfkcaaGreat

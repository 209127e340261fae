import Derived.Test.YtaafajaadfgaoaaGreatFp0
import Derived.LoopTactic
import Derived.Lib.Hide
import Derived.Test.YtaafajaadfgaoaaGreatRows
import Derived.Deep.LoopGhost
set_option linter.unusedSimpArgs false
set_option linter.unusedVariables false
set_option maxRecDepth 100000
set_option maxHeartbeats 60000000
namespace Go.Proofs.YtaafajaadfgaoaaGreat
structure Bl where
  p : Int
  o : Int
  deriving DecidableEq
def blV (x : Bl) : List Value := [.int .i64 x.p, .int .i64 x.o]
theorem zbv (x : Bl) : (blV x).length = 2 := rfl
def pw (o : Int) : Int := (2 : Int) ^ o.toNat
theorem zP (o : Int) : 1 ≤ pw o := by
  unfold pw
  have := Int.pow_pos (n := 2) (m := o.toNat) (by omega)
  omega
theorem zck {o : Int} (h0 : 0 ≤ o) (h8 : o ≤ 8) : o = 0 ∨ o = 1 ∨ o = 2 ∨ o = 3 ∨ o = 4 ∨ o = 5 ∨ o = 6 ∨ o = 7 ∨ o = 8 := by omega
theorem zb5 {o : Int} (h8 : o ≤ 8) : pw o ≤ 256 := by
  rcases Int.le_total 0 o with h | h
  · rcases zck h h8 with rfl | rfl | rfl | rfl | rfl | rfl | rfl | rfl | rfl <;> decide
  · have : o.toNat = 0 := by omega
    unfold pw; rw [this]; decide
theorem zbk {o : Int} (h : 0 ≤ o) : pw (o + 1) = 2 * pw o := by
  unfold pw
  have : (o + 1).toNat = o.toNat + 1 := by omega
  rw [this, Int.pow_succ]; omega
theorem znO {o : Int} (h : o ≤ 0) : pw o = 1 := by
  have : o.toNat = 0 := by omega
  unfold pw; rw [this]; decide
def zbI (order : Int) (x : Bl) : Prop := 0 ≤ x.o ∧ x.o ≤ order ∧ 0 ≤ x.p ∧ x.p ≤ pw order - pw x.o ∧ x.p % pw x.o = 0
instance (order : Int) (x : Bl) : Decidable (zbI order x) := by unfold zbI; infer_instance
def zaF (x : Bl) : Bl := if x.p % (2 * pw x.o) = 0 then ⟨x.p + pw x.o, x.o⟩ else ⟨x.p - pw x.o, x.o⟩
def zkv (order : Int) (x y : Bl) : Prop := x.p + pw x.o ≤ y.p ∧ ¬ (y.o < order ∧ zaF y = x)
def zcu (order : Int) (l : List Bl) : Prop := ∀ i y, l[i]? = some y → zbI order y ∧ ∀ (k : Nat) x, k < i → l[k]? = some x → zkv order x y
def Zg (order : Int) : Bool := decide (3 ≤ order ∧ order ≤ 8)
open Classical in
noncomputable def Zv (order : Int) (l : List Bl) : Bool := Zg order && decide (zcu order l)
theorem zcu.take {order : Int} {l : List Bl} (h : zcu order l) (n : Nat) : zcu order (l.take n) := by
  intro i y hi
  rw [List.getElem?_take] at hi
  split at hi
  · obtain ⟨h1, h2⟩ := h i y hi
    refine ⟨h1, fun k x hk hx => ?_⟩
    rw [List.getElem?_take, if_pos (by omega)] at hx
    exact h2 k x hk hx
  · cases hi
theorem zcu.nil (order : Int) : zcu order [] := by intro i y h; simp at h
theorem zcu.snoc {order : Int} {l : List Bl} {n : Nat} {y : Bl} (hy : l[n]? = some y) : zcu order (l.take (n + 1)) ↔ zcu order (l.take n) ∧ zbI order y ∧ ∀ (k : Nat) x, k < n → l[k]? = some x → zkv order x y := by
  constructor
  · intro h
    refine ⟨?_, ?_⟩
    · have := h.take n
      rw [List.take_take, Nat.min_eq_left (by omega)] at this
      exact this
    · obtain ⟨h1, h2⟩ := h n y (by rw [List.getElem?_take, if_pos (by omega)]; exact hy)
      exact ⟨h1, fun k x hk hx => h2 k x hk (by rw [List.getElem?_take, if_pos (by omega)]; exact hx)⟩
  · rintro ⟨h1, h2, h3⟩ i z hi
    rw [List.getElem?_take] at hi
    split at hi
    · by_cases hin : i = n
      · subst hin
        rw [hy] at hi
        cases hi
        refine ⟨h2, fun k x hk hx => ?_⟩
        rw [List.getElem?_take] at hx
        split at hx
        · exact h3 k x hk hx
        · cases hx
      · obtain ⟨h4, h5⟩ := h1 i z (by rw [List.getElem?_take, if_pos (by omega)]; exact hi)
        refine ⟨h4, fun k x hk hx => h5 k x hk ?_⟩
        rw [List.getElem?_take] at hx ⊢
        rw [if_pos (by omega)] at hx
        rw [if_pos (by omega)]; exact hx
    · cases hi
theorem zbI.end_le {order : Int} {x : Bl} (h : zbI order x) : x.p + pw x.o ≤ pw order := by have := h.2.2.2.1; omega
theorem zcu.long {order : Int} {l : List Bl} (h : zcu order l) : ∀ (i : Nat) y, l[i]? = some y → (i : Int) ≤ y.p := by
  intro i
  induction i with
  | zero => intro y hy; have := (h 0 y hy).1.2.2.1; omega
  | succ i ih =>
    intro y hy
    have hlt : i + 1 < l.length := (List.getElem?_eq_some_iff.1 hy).1
    have hx : l[i]? = some l[i] := List.getElem?_eq_getElem (by omega)
    have h1 := ih _ hx
    have h2 := ((h (i + 1) y hy).2 i _ (by omega) hx).1
    have h3 := zP l[i].o
    omega
theorem zcu.len {order : Int} {l : List Bl} (h : zcu order l) (h0 : 3 ≤ order) : (l.length : Int) ≤ pw order := by
  rcases Nat.eq_zero_or_pos l.length with hl | hl
  · have := zP order; omega
  · have hx : l[l.length - 1]? = some l[l.length - 1] := List.getElem?_eq_getElem (by omega)
    have h1 := h.long _ _ hx
    have h2 := (h _ _ hx).1.end_le
    have h3 := zP l[l.length - 1].o
    omega
theorem zcu.step {order : Int} {l : List Bl} {n : Nat} {y z : Bl} (hg : zcu order (l.take (n + 1))) (hz : l[n]? = some z) (hm : zbI order y) (he : z.p + pw z.o ≤ y.p) (ht : ¬ (y.o < order ∧ zaF y = z)) :
    ∀ (k : Nat) x, k < n + 1 → l[k]? = some x → zkv order x y := by
  obtain ⟨_, _, h3⟩ := (zcu.snoc hz).1 hg
  intro k x hk hx
  by_cases hkn : k = n
  · subst hkn
    rw [hz] at hx; cases hx
    exact ⟨he, ht⟩
  · have h4 := (h3 k x (by omega) hx).1
    have h5 := zP z.o
    have h7 := zP y.o
    refine ⟨by omega, ?_⟩
    rintro ⟨_, h6⟩
    subst h6
    unfold zaF at h4
    split at h4 <;> simp only at h4 <;> omega
open Go.RowKit
theorem zt : zac Tryz.prog 124 2 = true := by kernel_rfl
theorem zq : zB Tryz.prog 3 = true := by kernel_rfl
theorem zA : zB Tryz.prog 4 = true := by kernel_rfl
theorem Ze : zB Tryz.prog 37 = true := by kernel_rfl
theorem zI : zcW Tryz.prog 124 = some ([.int .i64 0, .int .i64 0], 2) := by kernel_rfl
theorem zcD : (Tryz.prog.info? 124).map (fun i => (i.zero, i.size, i.bytes)) = some (some (.agg #[.int .i64 0, .int .i64 0]), 2, 16) := by kernel_rfl
theorem zL {a b : Bool} (h : a = b) : Ending.returned (.bool a) = .returned (.bool b) := by rw [h]
theorem zcI {k : IntKind} {a b : Int} (h : a = b) : Ending.returned (.int k a) = .returned (.int k b) := by rw [h]
theorem pw8 : pw 8 = 256 := by decide
theorem zdx (o : Int) (w : World) : Calls Tryz.prog 195 #[.int .i64 o] w fun e w' => e = .returned (.bool (Zg o)) ∧ w = w' := by
  go_enter Tryz.func195, Tryz.ntmps195
  go_wp2
  all_goals go_ret
  all_goals refine ⟨zL ?_, rfl⟩
  all_goals simp [Zg]
  all_goals omega
theorem zeK (o : Int) (w : World) : Calls Tryz.prog 115 #[.int .i64 o] w fun e w' => e = .returned (.bool (Zg o)) ∧ w = w' := by
  go_enter Tryz.func115, Tryz.ntmps115
  go_wp2
  all_goals go_ret
  all_goals refine ⟨zL ?_, rfl⟩
  all_goals simp [Zg]
  all_goals omega
theorem zab (o : Int) (h0 : 0 ≤ o) (h8 : o ≤ 8) (w : World) : Calls Tryz.prog 141 #[.int .i64 o] w fun e w' => e = .returned (.int .i64 (pw o)) ∧ w = w' := by
  rcases zck h0 h8 with rfl | rfl | rfl | rfl | rfl | rfl | rfl | rfl | rfl
  all_goals
    clear h0 h8
    go_enter Tryz.func141, Tryz.ntmps141
    go_wp2
    go_ret
    exact ⟨zcI (by decide), rfl⟩
theorem zao (o : Int) (h8 : o ≤ 8) (w : World) : Calls Tryz.prog 170 #[.int .i64 o] w fun e w' => e = .returned (.int .i64 (pw o)) ∧ w = w' := by
  go_enter Tryz.func170, Tryz.ntmps170
  go_wp2
  go_loop [3, 4] (fun n i => ∃ k : Int, 0 ≤ k ∧ (k ≤ o ∨ k = 0) ∧ i = .int .i64 k ∧ n = .int .i64 (pw k)) (fun _ i => (o - intOf i).toNat)
  case atStart => exact ⟨0, by omega, by omega, rfl, rfl⟩
  case round =>
    obtain ⟨k, h0, hk, rfl, rfl⟩ := hrel
    have h1 := zP k
    have h2 := zb5 (o := k) (by omega)
    by_cases hlt : k < o
    · have hs := z0j (zbk h0)
      go_wp2
      go_round
      case rel => exact ⟨k + 1, by omega, by omega, rfl, by rw [hs.out]⟩
      case measure => simp [intOf]; omega
    · have he := z0j (show pw k = pw o by
        rcases hk with hk | hk
        · rw [show k = o by omega]
        · subst hk; rw [znO (show o ≤ 0 by omega)]; decide)
      go_wp2
      go_ret
      exact ⟨zcI he.out, rfl⟩
open Go.RowKit
theorem zhB {ty : TypeId} (h : zB Tryz.prog ty = true := by with_reducible first | exact zq | exact zA | exact Ze) : zB Tryz.prog ty = true := h
theorem zjM (l : List Bl) : (l.flatMap blV).length = l.length * 2 := ZH blV 2 zbv l
def zmb (w : World) (order : Int) (e : Ending) (w' : World) : Prop := ∃ b, e = .returned (.tuple #[.slice (some ⟨b, 0, none⟩) 1 1, .int .i64 0]) ∧ zmc w w' ⟨b, [.int .i64 0, .int .i64 order], 124, 2⟩ ∧ Below w.heap.size w w'
theorem zf4 (o : Int) (h : Zg o = false) (w : World) : Calls Tryz.prog 157 #[.int .i64 o] w fun e w' => e = .returned (.tuple #[.slice none 0 0, .int .i64 1]) ∧ Below w.heap.size w w' := by
  have k := zdx o
  rw [h] at k
  have K := z0j k
  clear k h
  go_enter Tryz.func157, Tryz.ntmps157
  go_wp2_with (go_at_call 195; refine (K.out _).mono ?_; rintro e w' ⟨rfl, rfl⟩)
  go_ret2
  exact ⟨rfl, Below.refl _ _⟩
theorem zfa (o : Int) (h : Zg o = true) (w : World) : Calls Tryz.prog 157 #[.int .i64 o] w (zmb w o) := by
  have k := zdx o
  rw [h] at k
  have K := z0j k
  clear k h
  have hp := Hp.start w
  go_enter Tryz.func157, Tryz.ntmps157
  go_wp2_with (first | (go_at_call 195; refine (K.out _).mono ?_; rintro e w' ⟨rfl, rfl⟩) | go_skip | ((first | ((refine zg _ rfl ?_); refine lZ hp rfl zI ?_; clear hp; intro b w1 hp) | ((refine zh _ _ rfl ?_); refine lB hp rfl (za rfl) rfl ?_; clear hp; intro b w1 hp) | ((refine zf _ _ rfl ?_); first | refine lO hp rfl (za rfl) zhB aa5 ?_ | refine lA hp rfl (za rfl) zt aa5 ?_) | ((refine zd _ _ _ rfl ?_); (first | refine sO hp rfl (za rfl) zhB aa5 ?_ | refine sA hp rfl (za rfl) (za rfl) zt aa5 ?_ | refine sG hp rfl (za rfl) (za rfl) zt aa5 ?_); clear hp; intro w1 hp; simp only [spl, z0a, z0b] at hp) | ((refine zi _ _ _ rfl ?_); refine lS hp rfl (by intro w; go_simp; rfl) ?_; clear hp; intro b w1 hp; simp only [z0g, z0h, Nat.reduceAdd] at hp)); simp only [zc, zb, z0b, z0a]))
  go_ret2
  exact ⟨_, rfl, hp.fresh at0, hp.below⟩
open Go.RowKit
theorem zjb {ty : TypeId} (h : zB Tryz.prog ty = true := by with_reducible first | exact zq | exact zA | exact Ze) : zB Tryz.prog ty = true := h
theorem znf {p o : Int} (h0 : 0 ≤ p) (h1 : p ≤ 256) (h2 : 0 ≤ o) (h3 : o ≤ 8) : bits .and .i64 p (pw o - 1) = p % pw o := by
  have : ∀ (a : Fin 257) (b : Fin 9), bits .and .i64 (a.val : Int) (pw (b.val : Int) - 1) = (a.val : Int) % pw (b.val : Int) := by decide +kernel
  have := this ⟨p.toNat, by omega⟩ ⟨o.toNat, by omega⟩
  simpa [Int.toNat_of_nonneg h0, Int.toNat_of_nonneg h2] using this
def zcs (order p o : Int) : Bool := decide (zbI order ⟨p, o⟩)
theorem zov (order p o : Int) (h8 : order ≤ 8) :
    (decide (0 ≤ o) = false ∧ zcs order p o = false) ∨ (0 ≤ o ∧ decide (o ≤ order) = false ∧ zcs order p o = false) ∨
    (0 ≤ o ∧ o ≤ order ∧ decide (0 ≤ p) = false ∧ zcs order p o = false) ∨
    (0 ≤ o ∧ o ≤ order ∧ 0 ≤ p ∧ decide (p ≤ pw order - pw o) = false ∧ wrap64 (pw order - pw o) = pw order - pw o ∧ zcs order p o = false) ∨
    (0 ≤ o ∧ o ≤ order ∧ 0 ≤ p ∧ p ≤ pw order - pw o ∧ wrap64 (pw order - pw o) = pw order - pw o ∧ wrap64 (pw o - 1) = pw o - 1 ∧ bits .and .i64 p (pw o - 1) = p % pw o ∧ zcs order p o = (p % pw o == 0)) := by
  have l1 := zb5 (o := order) h8
  have l2 := zP o
  have l3 := zP order
  by_cases g1 : 0 ≤ o
  · by_cases g2 : o ≤ order
    · have l4 := zb5 (o := o) (by omega)
      have w1 : wrap64 (pw order - pw o) = pw order - pw o := by unfold wrap64; omega
      have w2 : wrap64 (pw o - 1) = pw o - 1 := by unfold wrap64; omega
      by_cases g3 : 0 ≤ p
      · by_cases g4 : p ≤ pw order - pw o
        · refine .inr (.inr (.inr (.inr ⟨g1, g2, g3, g4, w1, w2, znf g3 (by omega) g1 (by omega), ?_⟩)))
          rw [Bool.eq_iff_iff]; simp [zcs, zbI, g1, g2, g3, g4]
        · exact .inr (.inr (.inr (.inl ⟨g1, g2, g3, by simp [g4], w1, by simp [zcs, zbI, g4]⟩)))
      · exact .inr (.inr (.inl ⟨g1, g2, by simp [g3], by simp [zcs, zbI, g3]⟩))
    · exact .inr (.inl ⟨g1, by simp [g2], by simp [zcs, zbI, g2]⟩)
  · exact .inl ⟨by simp [g1], by simp [zcs, zbI, g1]⟩
theorem znw (order : Int) (h3 : 3 ≤ order) (h8 : order ≤ 8) (p o : Int) (w : World) :
    Calls Tryz.prog 196 #[.int .i64 order, .agg #[.int .i64 p, .int .i64 o]] w fun e w' => e = .returned (.bool (zcs order p o)) ∧ Below w.heap.size w w' := by
  have hp := Hp.start w
  have W9 := z0j (zov order p o h8)
  go_enter Tryz.func196, Tryz.ntmps196
  go_wp2_with (first | go_skip | ((first | ((refine zg _ rfl ?_); refine lZ hp rfl zI ?_; clear hp; intro b w1 hp) | ((refine zh _ _ rfl ?_); refine lB hp rfl (za rfl) rfl ?_; clear hp; intro b w1 hp) | ((refine zf _ _ rfl ?_); first | refine lO hp rfl (za rfl) zjb aa5 ?_ | refine lA hp rfl (za rfl) zt aa5 ?_) | ((refine zd _ _ _ rfl ?_); (first | refine sO hp rfl (za rfl) zjb aa5 ?_ | refine sA hp rfl (za rfl) (za rfl) zt aa5 ?_ | refine sG hp rfl (za rfl) (za rfl) zt aa5 ?_); clear hp; intro w1 hp; simp only [spl, z0a, z0b] at hp)); simp only [zc, zb, z0b, z0a]))
  refine zk _ (zE.all hp.drew) [] [(0, true), (1, true), (2, true), (3, true), (4, true), (5, true), (6, true), (7, true), (8, true), (9, true), (10, true), (11, true), (12, true), (13, true), (14, true), (15, true), (16, true), (17, true), (19, true), (20, true), (18, false), (21, false), (22, true), (23, true), (24, true), (25, true), (26, true), (27, true), (28, true), (29, true), (30, false), (31, true), (32, true), (33, true), (34, true), (35, false)] (by kernel_rfl) (by kernel_rfl) rfl (by kernel_rfl) (fun _ _ d _ _ h => by cases d <;> exact h) ?_
  replace hp := hp.drew
  rcases W9.out with ⟨d1, r⟩ | ⟨d1, d2, r⟩ | ⟨d1, d2, d3, r⟩ | ⟨d1, d2, d3, d4, w1, r⟩ | ⟨d1, d2, d3, d4, w1, w2, w3, r⟩
  all_goals have R := z0j r
  all_goals clear r W9
  all_goals
    repeat' (with_reducible refine zG ?_); first | (with_reducible refine zw ?_) | ((with_reducible refine zR ?_); refine zy rfl ?_; (first | ((with_reducible refine za0 _ _ rfl ?_); refine tS (by first | exact Zc rfl rfl rfl rfl | exact Zm rfl rfl rfl rfl) ?_) | ((with_reducible refine Zy _ rfl ?_); refine tM rfl ?_) | ((with_reducible refine Zt _ _ rfl ?_); refine tO rfl (za rfl) zq aa5 ?_) | refine tG (fun w _ => (by go_simp; try rfl)) ?_); try simp only [zc, zb, zm, zj, z0b, z0a, z0d, z0c, zn]) | (refine zQ rfl (fun K hK => ?_); go_wp2_with (first | (go_at_call 141; refine (zab _ (by omega) (by omega) _).mono ?_; rintro e w' ⟨rfl, rfl⟩) | go_skip); (refine hK.out _ _ (.inr (zdp hp)) ?_); clear hK K; try simp only [zc, zb, zm, zj, z0b, z0a, z0d, z0c, zn])
  all_goals (go_wp2_with fail; go_ret; exact ⟨zL (by rw [R.out]; try rfl), hp.below⟩)
open Go.RowKit
theorem zhA {ty : TypeId} (h : zB Tryz.prog ty = true := by with_reducible first | exact zq | exact zA | exact Ze) : zB Tryz.prog ty = true := h
theorem zop (order p o : Int) (h8 : order ≤ 8) :
    (decide (o < 0) = true ∧ zcs order p o = false) ∨ (decide (o < 0) = false ∧ decide (order < o) = true ∧ zcs order p o = false) ∨
    (decide (o < 0) = false ∧ decide (order < o) = false ∧ decide (p < 0) = true ∧ zcs order p o = false) ∨
    (decide (o < 0) = false ∧ decide (order < o) = false ∧ decide (p < 0) = false ∧ decide (pw order - pw o < p) = true ∧ wrap64 (pw order - pw o) = pw order - pw o ∧ o ≤ 8 ∧ zcs order p o = false) ∨
    (decide (o < 0) = false ∧ decide (order < o) = false ∧ decide (p < 0) = false ∧ decide (pw order - pw o < p) = false ∧ wrap64 (pw order - pw o) = pw order - pw o ∧ o ≤ 8 ∧ p.tmod (pw o) = p % pw o ∧ pw o ≠ 0 ∧ zcs order p o = (p % pw o == 0)) := by
  rcases zov order p o h8 with ⟨d1, r⟩ | ⟨d1, d2, r⟩ | ⟨d1, d2, d3, r⟩ | ⟨d1, d2, d3, d4, w1, r⟩ | ⟨d1, d2, d3, d4, w1, w2, w3, r⟩
  · left; simp at d1; exact ⟨by simp; omega, r⟩
  · right; left; simp at d2; exact ⟨by simp; omega, by simp; omega, r⟩
  · right; right; left; simp at d3; exact ⟨by simp; omega, by simp; omega, by simp; omega, r⟩
  · right; right; right; left; simp at d4; exact ⟨by simp; omega, by simp; omega, by simp; omega, by simp; omega, w1, by omega, r⟩
  · have := zP o
    right; right; right; right; exact ⟨by simp; omega, by simp; omega, by simp; omega, by simp; omega, w1, by omega, Int.tmod_eq_emod_of_nonneg d3, by omega, r⟩
theorem zhJ (order : Int) (h8 : order ≤ 8) (p o : Int) (w : World) :
    Calls Tryz.prog 165 #[.int .i64 order, .agg #[.int .i64 p, .int .i64 o]] w fun e w' => e = .returned (.bool (zcs order p o)) ∧ Below w.heap.size w w' := by
  have hp := Hp.start w
  have W9 := z0j (zop order p o h8)
  go_enter Tryz.func165, Tryz.ntmps165
  go_wp2_with (first | go_skip | ((first | ((refine zg _ rfl ?_); refine lZ hp rfl zI ?_; clear hp; intro b w1 hp) | ((refine zh _ _ rfl ?_); refine lB hp rfl (za rfl) rfl ?_; clear hp; intro b w1 hp) | ((refine zf _ _ rfl ?_); first | refine lO hp rfl (za rfl) zhA aa5 ?_ | refine lA hp rfl (za rfl) zt aa5 ?_) | ((refine zd _ _ _ rfl ?_); (first | refine sO hp rfl (za rfl) zhA aa5 ?_ | refine sA hp rfl (za rfl) (za rfl) zt aa5 ?_ | refine sG hp rfl (za rfl) (za rfl) zt aa5 ?_); clear hp; intro w1 hp; simp only [spl, z0a, z0b] at hp)); simp only [zc, zb, z0b, z0a]))
  refine zk _ (zE.all hp.drew) [] [(0, true), (1, true), (2, true), (3, true), (4, true), (5, true), (6, true), (7, true), (8, true), (9, true), (10, true), (11, true), (12, true), (13, true), (14, true), (15, true), (16, true), (17, true), (19, true), (20, true), (18, false), (21, false), (22, true), (23, true), (24, true)] (by kernel_rfl) (by kernel_rfl) rfl (by kernel_rfl) (fun _ _ d _ _ h => by cases d <;> exact h) ?_
  replace hp := hp.drew
  rcases W9.out with ⟨d1, r⟩ | ⟨d1, d2, r⟩ | ⟨d1, d2, d3, r⟩ | ⟨d1, d2, d3, d4, w1, h1, r⟩ | ⟨d1, d2, d3, d4, w1, h1, w2, w3, r⟩
  all_goals have R := z0j r
  all_goals clear r W9
  all_goals
    repeat' (with_reducible refine zG ?_); first | (with_reducible refine zw ?_) | ((with_reducible refine zR ?_); refine zy rfl ?_; (first | ((with_reducible refine za0 _ _ rfl ?_); refine tS (by first | exact Zc rfl rfl rfl rfl | exact Zm rfl rfl rfl rfl) ?_) | ((with_reducible refine Zy _ rfl ?_); refine tM rfl ?_) | ((with_reducible refine Zt _ _ rfl ?_); refine tO rfl (za rfl) zq aa5 ?_) | refine tG (fun w _ => (by go_simp; try rfl)) ?_); try simp only [zc, zb, zm, zj, z0b, z0a, z0d, z0c, zn]) | (refine zQ rfl (fun K hK => ?_); go_wp2_with (first | (go_at_call 170; refine (zao _ (by omega) _).mono ?_; rintro e w' ⟨rfl, rfl⟩) | go_skip); (refine hK.out _ _ (.inr (zdp hp)) ?_); clear hK K; try simp only [zc, zb, zm, zj, z0b, z0a, z0d, z0c, zn])
  case inr.inr.inr.inr =>
    go_wp2_with fail
    refine zk _ (zE.all hp.drew) [] [(0, true), (1, true), (2, true), (3, true), (4, false), (5, true), (6, true), (7, false)] (by kernel_rfl) (by kernel_rfl) rfl (by kernel_rfl) (fun _ _ d _ _ h => by cases d <;> exact h) ?_
    replace hp := hp.drew
    repeat' (with_reducible refine zG ?_); first | (with_reducible refine zw ?_) | ((with_reducible refine zR ?_); refine zy rfl ?_; (first | ((with_reducible refine Zt _ _ rfl ?_); refine tO rfl (za rfl) zq aa5 ?_) | refine tG (fun w _ => (by go_simp; try rfl)) ?_); try simp only [zc, zb, zm, zj, z0b, z0a, z0d, z0c, zn]) | (refine zQ rfl (fun K hK => ?_); go_wp2_with (first | (go_at_call 170; refine (zao _ (by omega) _).mono ?_; rintro e w' ⟨rfl, rfl⟩) | go_skip); (refine hK.out _ _ (.inr (zdp hp)) ?_); clear hK K; try simp only [zc, zb, zm, zj, z0b, z0a, z0d, z0c, zn])
    go_wp2_with fail
    go_ret
    exact ⟨zL (by rw [R.out]; try rfl), hp.below⟩
  all_goals (go_wp2_with fail; go_ret; exact ⟨zL (by rw [R.out]; try rfl), hp.below⟩)
open Go.RowKit
theorem zbn {ty : TypeId} (h : zB Tryz.prog ty = true := by with_reducible first | exact zq | exact zA | exact Ze) : zB Tryz.prog ty = true := h
def twP (p o : Int) : Int := (zaF ⟨p, o⟩).p
theorem zes (p o : Int) : zaF ⟨p, o⟩ = ⟨twP p o, o⟩ := by unfold twP zaF; split <;> rfl
theorem zkp (p o : Int) : twP p o = if p % (2 * pw o) = 0 then p + pw o else p - pw o := by unfold twP zaF; split <;> rfl
theorem znY {p o : Int} (h0 : 0 ≤ p) (h1 : p ≤ 256) (h2 : 0 ≤ o) (h3 : o ≤ 8) (h4 : p % pw o = 0) : bits .xor .i64 p (pw o) = twP p o := by
  have : ∀ (a : Fin 257) (b : Fin 9), (a.val : Int) % pw (b.val : Int) = 0 → bits .xor .i64 (a.val : Int) (pw (b.val : Int)) = twP (a.val : Int) (b.val : Int) := by decide +kernel
  have := this ⟨p.toNat, by omega⟩ ⟨o.toNat, by omega⟩
  simp only [Int.toNat_of_nonneg h0, Int.toNat_of_nonneg h2] at this
  exact this h4
theorem zmY (p o : Int) (h0 : 0 ≤ p) (h1 : p ≤ 256) (h2 : 0 ≤ o) (h3 : o ≤ 8) (h4 : p % pw o = 0) (w : World) :
    Calls Tryz.prog 197 #[.agg #[.int .i64 p, .int .i64 o]] w fun e w' => e = .returned (.agg #[.int .i64 (twP p o), .int .i64 o]) ∧ Below w.heap.size w w' := by
  have hp := Hp.start w
  have hx := znY h0 h1 h2 h3 h4
  clear h4
  go_enter Tryz.func197, Tryz.ntmps197
  go_wp2_with (first | go_skip | ((first | ((refine zg _ rfl ?_); refine lZ hp rfl zI ?_; clear hp; intro b w1 hp) | ((refine zh _ _ rfl ?_); refine lB hp rfl (za rfl) rfl ?_; clear hp; intro b w1 hp) | ((refine zf _ _ rfl ?_); first | refine lO hp rfl (za rfl) zbn aa5 ?_ | refine lA hp rfl (za rfl) zt aa5 ?_) | ((refine zd _ _ _ rfl ?_); (first | refine sO hp rfl (za rfl) zbn aa5 ?_ | refine sA hp rfl (za rfl) (za rfl) zt aa5 ?_ | refine sG hp rfl (za rfl) (za rfl) zt aa5 ?_); clear hp; intro w1 hp; simp only [spl, z0a, z0b] at hp)); simp only [zc, zb, z0b, z0a]))
  refine zk [_] (zE.one hp.drew at1) [9] [(0, true), (1, true), (2, true), (3, true), (6, true), (7, true), (4, false), (5, true), (8, true), (9, false)] (by kernel_rfl) (by kernel_rfl) rfl (by kernel_rfl) (fun _ _ d _ _ h => by cases d <;> exact h) ?_
  replace hp := hp.drew
  repeat' (with_reducible refine zG ?_); first | (with_reducible refine zw ?_) | ((with_reducible refine zR ?_); refine zy rfl ?_; (first | ((with_reducible refine Zt _ _ rfl ?_); refine tO rfl (za rfl) zq aa5 ?_) | refine tG (fun w _ => (by go_simp; try rfl)) ?_); try simp only [zc, zb, zm, zj, z0b, z0a, z0d, z0c, zn]) | (refine zQ rfl (fun K hK => ?_); go_wp2_with (first | (go_at_call 141; refine (zab _ (by omega) (by omega) _).mono ?_; rintro e w' ⟨rfl, rfl⟩) | go_skip | (((refine zd _ _ _ rfl ?_); (first | refine sO hp rfl (za rfl) zbn aa5 ?_ | refine sA hp rfl (za rfl) (za rfl) zt aa5 ?_ | refine sG hp rfl (za rfl) (za rfl) zt aa5 ?_); clear hp; intro w1 hp; simp only [spl, z0a, z0b] at hp); simp only [zc, zb, z0b, z0a])); (first | refine hK.out _ _ (.inl rfl) ?_ | refine hK.out _ _ (.inr (zE.one hp aa5)) ?_); clear hK K; try simp only [zc, zb, zm, zj, z0b, z0a, z0d, z0c, zn])
  go_wp2_with fail
  exact bodyPost_ret (ZI (rs := [.cell 2 124]) Tryz.results197 (.cell rfl (hp.loadAgg zt at0 0 _ (by rfl) (by rfl)) .nil)) rfl ⟨rfl, hp.below⟩
theorem zmZ (p o : Int) (h0 : 0 ≤ p) (h1 : p ≤ 256) (h3 : o ≤ 8) (w : World) :
    Calls Tryz.prog 208 #[.agg #[.int .i64 p, .int .i64 o]] w fun e w' => e = .returned (.agg #[.int .i64 (twP p o), .int .i64 o]) ∧ Below w.heap.size w w' := by
  have hp := Hp.start w
  have l1 := zP o
  have l2 := zb5 h3
  by_cases hq : p % (2 * pw o) = 0
  · have R : Hid (twP p o = p + pw o) := z0j (by rw [zkp, if_pos hq])
    go_enter Tryz.func208, Tryz.ntmps208
    go_wp2_with (first | (go_at_call 170; refine (zao _ (by omega) _).mono ?_; rintro e w' ⟨rfl, rfl⟩) | go_skip | ((first | ((refine zg _ rfl ?_); refine lZ hp rfl zI ?_; clear hp; intro b w1 hp) | ((refine zh _ _ rfl ?_); refine lB hp rfl (za rfl) rfl ?_; clear hp; intro b w1 hp) | ((refine zf _ _ rfl ?_); first | refine lO hp rfl (za rfl) zbn aa5 ?_ | refine lA hp rfl (za rfl) zt aa5 ?_) | ((refine zd _ _ _ rfl ?_); (first | refine sO hp rfl (za rfl) zbn aa5 ?_ | refine sA hp rfl (za rfl) (za rfl) zt aa5 ?_ | refine sG hp rfl (za rfl) (za rfl) zt aa5 ?_); clear hp; intro w1 hp; simp only [spl, z0a, z0b] at hp)); simp only [zc, zb, z0b, z0a]))
    rw [R.out]
    exact bodyPost_ret (ZI (rs := [.cell 2 124]) Tryz.results208 (.cell rfl (hp.loadAgg zt at0 0 _ (by rfl) (by rfl)) .nil)) rfl ⟨rfl, hp.below⟩
  · have R : Hid (twP p o = p - pw o) := z0j (by rw [zkp, if_neg hq])
    go_enter Tryz.func208, Tryz.ntmps208
    go_wp2_with (first | (go_at_call 170; refine (zao _ (by omega) _).mono ?_; rintro e w' ⟨rfl, rfl⟩) | go_skip | ((first | ((refine zg _ rfl ?_); refine lZ hp rfl zI ?_; clear hp; intro b w1 hp) | ((refine zh _ _ rfl ?_); refine lB hp rfl (za rfl) rfl ?_; clear hp; intro b w1 hp) | ((refine zf _ _ rfl ?_); first | refine lO hp rfl (za rfl) zbn aa5 ?_ | refine lA hp rfl (za rfl) zt aa5 ?_) | ((refine zd _ _ _ rfl ?_); (first | refine sO hp rfl (za rfl) zbn aa5 ?_ | refine sA hp rfl (za rfl) (za rfl) zt aa5 ?_ | refine sG hp rfl (za rfl) (za rfl) zt aa5 ?_); clear hp; intro w1 hp; simp only [spl, z0a, z0b] at hp)); simp only [zc, zb, z0b, z0a]))
    rw [R.out]
    exact bodyPost_ret (ZI (rs := [.cell 2 124]) Tryz.results208 (.cell rfl (hp.loadAgg zt at0 0 _ (by rfl) (by rfl)) .nil)) rfl ⟨rfl, hp.below⟩
def zbe (p o q r : Int) : Bool := decide (p < q + pw r) && decide (q < p + pw o)
theorem zoq (p o q r : Int) (h0 : 0 ≤ p) (h1 : p ≤ 256) (h2 : 0 ≤ q) (h3 : q ≤ 256) (h4 : o ≤ 8) (h5 : r ≤ 8) :
    wrap64 (q + pw r) = q + pw r ∧ wrap64 (p + pw o) = p + pw o ∧ ((decide (p < q + pw r) = false ∧ zbe p o q r = false) ∨ (decide (p < q + pw r) = true ∧ zbe p o q r = decide (q < p + pw o))) := by
  have l1 := zP o
  have l2 := zb5 h4
  have l3 := zP r
  have l4 := zb5 h5
  refine ⟨by unfold wrap64; omega, by unfold wrap64; omega, ?_⟩
  unfold zbe
  cases decide (p < q + pw r) <;> simp
theorem zhe (p o q r : Int) (h0 : 0 ≤ p) (h1 : p ≤ 256) (h2 : 0 ≤ q) (h3 : q ≤ 256) (h4 : o ≤ 8) (h5 : r ≤ 8) (w : World) :
    Calls Tryz.prog 168 #[.agg #[.int .i64 p, .int .i64 o], .agg #[.int .i64 q, .int .i64 r]] w fun e w' => e = .returned (.bool (zbe p o q r)) ∧ Below w.heap.size w w' := by
  have hp := Hp.start w
  have W9 := z0j (zoq p o q r h0 h1 h2 h3 h4 h5)
  go_enter Tryz.func168, Tryz.ntmps168
  go_wp2_with (first | go_skip | ((first | ((refine zg _ rfl ?_); refine lZ hp rfl zI ?_; clear hp; intro b w1 hp) | ((refine zh _ _ rfl ?_); refine lB hp rfl (za rfl) rfl ?_; clear hp; intro b w1 hp) | ((refine zf _ _ rfl ?_); first | refine lO hp rfl (za rfl) zbn aa5 ?_ | refine lA hp rfl (za rfl) zt aa5 ?_) | ((refine zd _ _ _ rfl ?_); (first | refine sO hp rfl (za rfl) zbn aa5 ?_ | refine sA hp rfl (za rfl) (za rfl) zt aa5 ?_ | refine sG hp rfl (za rfl) (za rfl) zt aa5 ?_); clear hp; intro w1 hp; simp only [spl, z0a, z0b] at hp)); simp only [zc, zb, z0b, z0a]))
  refine zk _ (zE.all hp.drew) [] [(0, true), (1, true), (2, true), (3, true), (4, true), (5, true), (6, false), (7, true), (8, true), (9, true), (10, true), (11, true), (12, true), (13, true), (14, true), (15, true), (16, false), (17, true), (18, true), (19, true), (20, false)] (by kernel_rfl) (by kernel_rfl) rfl (by kernel_rfl) (fun _ _ d _ _ h => by cases d <;> exact h) ?_
  replace hp := hp.drew
  obtain ⟨w1, w2, W⟩ := W9.out
  rcases W with ⟨d1, r⟩ | ⟨d1, r⟩
  all_goals have R := z0j r
  all_goals clear r W9
  all_goals
    repeat' (with_reducible refine zG ?_); first | (with_reducible refine zw ?_) | ((with_reducible refine zR ?_); refine zy rfl ?_; (first | ((with_reducible refine za0 _ _ rfl ?_); refine tS (by first | exact Zc rfl rfl rfl rfl | exact Zm rfl rfl rfl rfl) ?_) | ((with_reducible refine Zy _ rfl ?_); refine tM rfl ?_) | ((with_reducible refine Zt _ _ rfl ?_); refine tO rfl (za rfl) zq aa5 ?_) | refine tG (fun w _ => (by go_simp; try rfl)) ?_); try simp only [zc, zb, zm, zj, z0b, z0a, z0d, z0c, zn]) | (refine zQ rfl (fun K hK => ?_); go_wp2_with (first | (go_at_call 170; refine (zao _ (by omega) _).mono ?_; rintro e w' ⟨rfl, rfl⟩) | go_skip); (refine hK.out _ _ (.inr (zdp hp)) ?_); clear hK K; try simp only [zc, zb, zm, zj, z0b, z0a, z0d, z0c, zn])
  all_goals (go_wp2_with fail; go_ret; exact ⟨zL (by rw [R.out]; try rfl), hp.below⟩)
open Go.RowKit
theorem za6 {ty : TypeId} (h : zB Tryz.prog ty = true := by with_reducible first | exact zq | exact zA | exact Ze) : zB Tryz.prog ty = true := h
def zh4 (order : Int) (l : List Bl) (j : Nat) (e p o : Int) : Prop := zcu order (l.take j) ∧ ((j = 0 ∧ e = 0 ∧ p = -1 ∧ o = 0) ∨ ∃ i z, j = i + 1 ∧ l[i]? = some z ∧ z.p = p ∧ z.o = o ∧ e = p + pw o)
def ziS (b : Bool) : Int := if b then 0 else 1
theorem zdY {order : Int} {l : List Bl} (hr : Zg order = true) (h : zcu order l) : Zv order l = true := by simp [Zv, hr, h]
theorem zb8 {order : Int} {l : List Bl} (h : ¬ zcu order l) : Zv order l = false := by simp [Zv, h]
theorem zfn {order : Int} {l : List Bl} (h : Zg order = false) : Zv order l = false := by simp [Zv, h]
theorem zds {order p o : Int} (h : zcs order p o = true) : zbI order ⟨p, o⟩ := by simpa [zcs] using h
theorem zeF {order p o : Int} (h8 : order ≤ 8) (h : zbI order ⟨p, o⟩) : 0 ≤ p ∧ p ≤ 256 ∧ 0 ≤ o ∧ o ≤ 8 ∧ p % pw o = 0 ∧ p + pw o ≤ 256 := by
  obtain ⟨a, b, c, d, e⟩ := h
  simp only at a b c d e
  have := zb5 h8
  have := zP o
  exact ⟨c, by omega, a, by omega, e, by omega⟩
theorem zfs {p o : Int} (h0 : 0 ≤ p) (h : p % pw o = 0) : 0 ≤ twP p o := by
  have := zP o
  rw [zkp]
  split
  · omega
  · rename_i hn
    by_cases hlt : p < pw o
    · rw [Int.emod_eq_of_lt h0 hlt] at h
      subst h
      exact absurd (by simp) hn
    · omega
theorem zkR {order : Int} {l : List Bl} {j : Nat} {e lp lo p o : Int} (hr : Zg order = true) (h8 : order ≤ 8) (h : zh4 order l j e lp lo) (hx : l[j]? = some ⟨p, o⟩) :
    (zcs order p o = false ∧ Zv order l = false) ∨
    (zcs order p o = true ∧ decide (p < e) = true ∧ Zv order l = false) ∨
    (zcs order p o = true ∧ decide (p < e) = false ∧ decide (o < order) = false ∧ 0 ≤ o ∧ o ≤ 8 ∧ wrap64 (p + pw o) = p + pw o ∧ zh4 order l (j + 1) (p + pw o) p o) ∨
    (zcs order p o = true ∧ decide (p < e) = false ∧ decide (o < order) = true ∧ (0 ≤ p ∧ p ≤ 256 ∧ 0 ≤ o ∧ o ≤ 8 ∧ Hid (p % pw o = 0)) ∧ (lp == twP p o) = false ∧ wrap64 (p + pw o) = p + pw o ∧ zh4 order l (j + 1) (p + pw o) p o) ∨
    (zcs order p o = true ∧ decide (p < e) = false ∧ decide (o < order) = true ∧ (0 ≤ p ∧ p ≤ 256 ∧ 0 ≤ o ∧ o ≤ 8 ∧ Hid (p % pw o = 0)) ∧ (lp == twP p o) = true ∧ (lo == o) = false ∧ wrap64 (p + pw o) = p + pw o ∧ zh4 order l (j + 1) (p + pw o) p o) ∨
    (zcs order p o = true ∧ decide (p < e) = false ∧ decide (o < order) = true ∧ (0 ≤ p ∧ p ≤ 256 ∧ 0 ≤ o ∧ o ≤ 8 ∧ Hid (p % pw o = 0)) ∧ (lp == twP p o) = true ∧ (lo == o) = true ∧ decide (0 ≤ lp) = true ∧ Zv order l = false) := by
  obtain ⟨hg, hs⟩ := h
  cases hm : zcs order p o
  · left
    refine ⟨rfl, zb8 fun hG => ?_⟩
    have := (hG j _ hx).1
    simp [zcs, this] at hm
  right
  have hmay := zds hm
  obtain ⟨f1, f2, f3, f4, f5, f6⟩ := zeF h8 hmay
  have f7 := zP o
  have hw : wrap64 (p + pw o) = p + pw o := by unfold wrap64; omega
  by_cases he : p < e
  · left
    refine ⟨rfl, by simp [he], zb8 fun hG => ?_⟩
    rcases hs with ⟨rfl, rfl, _⟩ | ⟨i, z, rfl, hz, rfl, rfl, rfl⟩
    · omega
    · have := ((hG (i + 1) _ hx).2 i z (by omega) hz).1
      simp only at this
      omega
  right
  have hnext : ¬ (o < order ∧ lp = twP p o ∧ lo = o) → zh4 order l (j + 1) (p + pw o) p o := by
    intro hno
    refine ⟨(zcu.snoc hx).2 ⟨hg, hmay, ?_⟩, .inr ⟨j, _, rfl, hx, rfl, rfl, rfl⟩⟩
    rcases hs with ⟨rfl, _⟩ | ⟨i, z, rfl, hz, rfl, rfl, rfl⟩
    · intro k x hk; omega
    · refine zcu.step hg hz hmay (by simp only; omega) ?_
      rintro ⟨h1, h2⟩
      rw [zes] at h2
      refine hno ⟨h1, ?_, ?_⟩ <;> rw [← h2]
  by_cases ho : o < order
  · by_cases h1 : lp = twP p o
    · by_cases h2 : lo = o
      · right; right; right
        refine ⟨rfl, by simp; omega, by simp [ho], ⟨f1, f2, f3, f4, z0j f5⟩, by simp [h1], by simp [h2], ?_, zb8 fun hG => ?_⟩
        · have := zfs f1 f5
          simp [h1, this]
        · rcases hs with ⟨rfl, _, h3, _⟩ | ⟨i, z, rfl, hz, rfl, rfl, rfl⟩
          · have := zfs f1 f5
            omega
          · refine ((hG (i + 1) _ hx).2 i z (by omega) hz).2 ⟨ho, ?_⟩
            rw [zes, ← h1]
            obtain ⟨zp, zo⟩ := z
            simp only at h2
            rw [h2]
      · right; right; left
        exact ⟨rfl, by simp; omega, by simp [ho], ⟨f1, f2, f3, f4, z0j f5⟩, by simp [h1], by simp [h2], hw, hnext fun h => h2 h.2.2⟩
    · right; left
      exact ⟨rfl, by simp; omega, by simp [ho], ⟨f1, f2, f3, f4, z0j f5⟩, by simp [h1], hw, hnext fun h => h1 h.2.1⟩
  · left
    exact ⟨rfl, by simp; omega, by simp; omega, f3, f4, hw, hnext fun h => ho h.1⟩
def zm6 (order : Int) (l : List Bl) (w : World) (b6 k : Nat) (e i : Value) (wr : World) : Prop :=
  ∃ (j : Nat) (en lp lo : Int), k + j = l.length ∧ i = .int .i64 j ∧ e = .int .i64 en ∧ zh4 order l j en lp lo ∧ Hp w.heap.size w wr [⟨b6, [.int .i64 lp, .int .i64 lo], 124, 2⟩]
theorem zf8 (order : Int) (h3 : 3 ≤ order) (h8 : order ≤ 8) (l : List Bl) (a : Option Addr) (c : Nat) (hl : l.length ≤ 600) (w : World) (ha : zr w a (l.flatMap blV)) :
    Calls Tryz.prog 139 #[.int .i64 order, .slice a l.length c] w fun e w' => e = .returned (.int .i64 (ziS (Zv order l))) ∧ Below w.heap.size w w' := by
  have hr : Zg order = true := by simp [Zg]; omega
  have K36 := z0j (zdx order)
  rw [hr] at K36
  have HR := z0j hr
  clear hr
  have hp := Hp.start w
  have HA := z0j ha
  clear ha
  go_enter Tryz.func139, Tryz.ntmps139
  go_wp2_with (first | (go_at_call 195; refine (K36.out _).mono ?_; rintro e w' ⟨rfl, rfl⟩) | go_skip | ((first | ((refine zg _ rfl ?_); refine lZ hp rfl zI ?_; clear hp; intro b w1 hp) | ((refine zh _ _ rfl ?_); refine lB hp rfl (za rfl) rfl ?_; clear hp; intro b w1 hp) | ((refine zf _ _ rfl ?_); first | refine lO hp rfl (za rfl) za6 aa5 ?_ | refine lA hp rfl (za rfl) zt aa5 ?_) | ((refine zd _ _ _ rfl ?_); (first | refine sO hp rfl (za rfl) za6 aa5 ?_ | refine sA hp rfl (za rfl) (za rfl) zt aa5 ?_ | refine sG hp rfl (za rfl) (za rfl) zt aa5 ?_); clear hp; intro w1 hp; simp only [spl, z0a, z0b] at hp)); simp only [zc, zb, z0b, z0a]))
  go_loopg [5, 15] l.length (fun k e i wr => zm6 order l w b k e i wr)
  case atStart => exact ⟨0, 0, -1, 0, by omega, rfl, rfl, ⟨by simpa using zcu.nil order, .inl ⟨rfl, rfl, rfl, rfl⟩⟩, hp⟩
  case round =>
    clear hp
    obtain ⟨j, en, lp, lo, hkj, rfl, rfl, hat, hp⟩ := hrel
    by_cases hlt : j < l.length
    · obtain ⟨bq, off, rfl, hx⟩ := HA.out.elems 2 zbv (by omega) (by omega)
      have hj := List.getElem?_eq_getElem hlt
      replace hx := hx j _ hj
      generalize l[j] = x at hx hj
      obtain ⟨p, o⟩ := x
      simp only [blV] at hx
      have HX := z0j hx
      have W9 := z0j (zkR HR.out h8 hat hj)
      clear hx hj hat
      have e1 : (0 : Int) ≤ (j : Int) := by omega
      have e2 : (j : Int) < (l.length : Int) := by omega
      go_wp2_with (first | go_skip | ((first | ((refine zg _ rfl ?_); refine lZ hp rfl zI ?_; clear hp; intro b w1 hp) | ((refine zh _ _ rfl ?_); refine lB hp rfl (za rfl) rfl ?_; clear hp; intro b w1 hp) | ((refine zf _ _ rfl ?_); first | refine lO hp rfl (za rfl) za6 aa5 ?_ | refine lRO hp rfl (za rfl) za6 (by first | exact HX.out 0 _ rfl | exact HX.out 1 _ rfl) ?_ | refine lA hp rfl (za rfl) zt aa5 ?_ | refine lR hp rfl (za rfl) zt HX.out ?_) | ((refine zd _ _ _ rfl ?_); (first | refine sO hp rfl (za rfl) za6 aa5 ?_ | refine sA hp rfl (za rfl) (za rfl) zt aa5 ?_ | refine sG hp rfl (za rfl) (za rfl) zt aa5 ?_); clear hp; intro w1 hp; simp only [spl, z0a, z0b] at hp)); simp only [zc, zb, z0b, z0a]))
      refine zk _ (zE.all hp.drew) [] [(0, true), (1, true), (2, false), (3, true), (4, true), (5, true), (6, true), (7, true), (8, true), (9, true), (10, true), (11, true), (12, true), (13, true), (14, true), (15, true), (16, true), (17, true), (18, false), (19, true), (20, true), (21, true), (22, true), (23, true), (24, true), (25, true), (26, true)] (by kernel_rfl) (by kernel_rfl) rfl (by kernel_rfl) (fun _ _ d _ _ h => by cases d <;> exact h) ?_
      replace hp := hp.drew
      rcases W9.out with ⟨d1, r⟩ | ⟨d1, d2, r⟩ | ⟨d1, d2, d3, f0, f1, fw, r⟩ | ⟨d1, d2, d3, f, d4, fw, r⟩ | ⟨d1, d2, d3, f, d4, d5, fw, r⟩ | ⟨d1, d2, d3, f, d4, d5, d6, r⟩
      all_goals have R := z0j r
      all_goals clear r W9
      all_goals
        repeat' (with_reducible refine zG ?_); first | (with_reducible refine zw ?_) | ((with_reducible refine zR ?_); refine zy rfl ?_; (first | ((with_reducible refine za0 _ _ rfl ?_); refine tS (by first | exact Zc rfl rfl rfl rfl | exact Zm rfl rfl rfl rfl) ?_) | ((with_reducible refine Zy _ rfl ?_); refine tM rfl ?_) | ((with_reducible refine Zt _ _ rfl ?_); first | refine tA rfl (za rfl) zt aa5 ?_ | refine tO rfl (za rfl) zq aa5 ?_) | refine tG (fun w _ => (by go_simp; try rfl)) ?_); try simp only [zc, zb, zm, zj, z0b, z0a, z0d, z0c, zn]) | (refine zQ rfl (fun K hK => ?_); go_wp2_with (first | (go_at_call 196; refine (znw _ h3 h8 _ _ _).mono ?_; rintro e w1 ⟨rfl, hb⟩; rw [d1]; replace hp := hp.call hb; clear hb) | (go_at_call 197; refine (zmY _ _ f.1 f.2.1 f.2.2.1 f.2.2.2.1 f.2.2.2.2.out _).mono ?_; rintro e w1 ⟨rfl, hb⟩; replace hp := hp.call hb; clear hb) | go_skip); (refine hK.out _ _ (.inr (zdp hp)) ?_); clear hK K; try simp only [zc, zb, zm, zj, z0b, z0a, z0d, z0c, zn])
      all_goals first
        | (go_wp2_with fail
           go_ret
           exact ⟨zcI (by rw [R.out]; rfl), hp.below⟩)
        | (try obtain ⟨_, _, f0, f1, _⟩ := f
           go_wp2_with (first | go_skip | ((first | ((refine zg _ rfl ?_); refine lZ hp rfl zI ?_; clear hp; intro b w1 hp) | ((refine zh _ _ rfl ?_); refine lB hp rfl (za rfl) rfl ?_; clear hp; intro b w1 hp) | ((refine zf _ _ rfl ?_); first | refine lO hp rfl (za rfl) za6 aa5 ?_ | refine lA hp rfl (za rfl) zt aa5 ?_) | ((refine zd _ _ _ rfl ?_); (first | refine sO hp rfl (za rfl) za6 aa5 ?_ | refine sA hp rfl (za rfl) (za rfl) zt aa5 ?_ | refine sG hp rfl (za rfl) (za rfl) zt aa5 ?_); clear hp; intro w1 hp; simp only [spl, z0a, z0b] at hp)); simp only [zc, zb, z0b, z0a]))
           refine zk [_, _] (zE.two hp.drew at0 at1) [8] [(0, true), (1, true), (2, true), (3, true), (6, true), (4, false), (5, true), (7, false), (8, false)] (by kernel_rfl) (by kernel_rfl) rfl (by kernel_rfl) (fun _ _ d _ _ h => by cases d <;> exact h) ?_
           replace hp := hp.drew
           repeat' (with_reducible refine zG ?_); first | (with_reducible refine zw ?_) | ((with_reducible refine zR ?_); refine zy rfl ?_; (first | ((with_reducible refine Zt _ _ rfl ?_); first | refine tA rfl (za rfl) zt aa5 ?_ | refine tO rfl (za rfl) zq aa5 ?_) | refine tG (fun w _ => (by go_simp; try rfl)) ?_); try simp only [zc, zb, zm, zj, z0b, z0a, z0d, z0c, zn]) | (refine zQ rfl (fun K hK => ?_); go_wp2_with (first | (go_at_call 141; refine (zab _ (by omega) (by omega) _).mono ?_; rintro e w' ⟨rfl, rfl⟩) | go_skip | (((refine zd _ _ _ rfl ?_); (first | refine sO hp rfl (za rfl) za6 aa5 ?_ | refine sA hp rfl (za rfl) (za rfl) zt aa5 ?_ | refine sG hp rfl (za rfl) (za rfl) zt aa5 ?_); clear hp; intro w1 hp; simp only [spl, z0a, z0b] at hp); simp only [zc, zb, z0b, z0a])); (first | refine hK.out _ _ (.inl rfl) ?_ | refine hK.out _ _ (.inr (zE.two hp aa5 aa5)) ?_); clear hK K; try simp only [zc, zb, zm, zj, z0b, z0a, z0d, z0c, zn])
           go_wp2_with fail
           go_roundg (gk - 1)
           case measure => omega
           case rel => exact ⟨j + 1, p + pw o, p, o, by omega, by go_num, by rw [fw], R.out, hp.tail⟩)
    · have e2 : decide ((j : Int) < (l.length : Int)) = false := by simp; omega
      have HG : Hid (Zv order l = true) := z0j (zdY HR.out (by have := hat.1; rwa [List.take_of_length_le (by omega)] at this))
      clear hat
      go_wp2_with fail
      go_ret
      exact ⟨zcI (by rw [HG.out]; rfl), hp.below⟩
theorem zkK (order : Int) (l : List Bl) (a : Option Addr) (c : Nat) (hl : l.length ≤ 600) (w : World) (ha : zr w a (l.flatMap blV)) :
    Calls Tryz.prog 139 #[.int .i64 order, .slice a l.length c] w fun e w' => e = .returned (.int .i64 (ziS (Zv order l))) ∧ Below w.heap.size w w' := by
  cases hr : Zg order
  · rw [zfn hr]
    have K36 := z0j (zdx order)
    rw [hr] at K36
    clear hr ha
    go_enter Tryz.func139, Tryz.ntmps139
    go_wp2_with (go_at_call 195; refine (K36.out _).mono ?_; rintro e w' ⟨rfl, rfl⟩)
    go_ret
    exact ⟨rfl, Below.refl _ _⟩
  · have := hr
    simp only [Zg, decide_eq_true_eq] at this
    exact zf8 order this.1 this.2 l a c hl w ha
open Go.RowKit
def zgl (l : List Bl) (want : Int) : Bool := l.any fun x => decide (want ≤ x.o)
theorem zjw {l : List Bl} {want : Int} {j : Nat} {x : Bl} (h : l[j]? = some x) (hw : want ≤ x.o) : zgl l want = true := by
  unfold zgl
  exact List.any_eq_true.2 ⟨x, List.mem_of_getElem? h, by simp [hw]⟩
open Go.RowKit
theorem zlR (l : List Bl) : (l.flatMap blV).all (·.oneCell') = true := by
  rw [List.all_eq_true]; intro u hu; obtain ⟨x, _, hx⟩ := List.mem_flatMap.1 hu; simp [blV] at hx; rcases hx with rfl | rfl <;> rfl
theorem znz (a : Int) (w : World) : Calls Tryz.prog 189 #[.int .i64 a] w fun e w' => e = .returned (.bool false) ∧ w = w' := by
  go_enter Tryz.func189, Tryz.ntmps189
  go_wp2
  go_ret
  exact ⟨rfl, rfl⟩
theorem zlT (a b : Int) (w : World) : Calls Tryz.prog 124 #[.int .i64 a, .int .i64 b] w fun e w' => e = .returned (.int .i64 (zgQ a b)) ∧ w = w' := by
  go_enter Tryz.func124, Tryz.ntmps124
  go_wp2_with (go_at_call 189; (with_reducible refine (znz _ _).mono ?_); rintro e w' ⟨rfl, rfl⟩)
  all_goals go_ret
  all_goals refine ⟨zcI ?_, rfl⟩
  all_goals (simp [zgQ, *])
  all_goals omega
theorem zjl (d : Nat) (n c : Nat) (w : World) : (Op.equalIn (d + 1) 45 (.slice none n c) (.slice none 0 0)).run Tryz.prog w = .ok true w := by
  rw [Op.equalIn]; simp [Sem.run_bind, run_underlying Tryz.underlying45]
theorem zic (d : Nat) (a : Addr) (n c : Nat) (w : World) : (Op.equalIn (d + 1) 45 (.slice (some a) n c) (.slice none 0 0)).run Tryz.prog w = .ok false w := by
  rw [Op.equalIn]; simp [Sem.run_bind, run_underlying Tryz.underlying45]
theorem zlm (n c : Nat) (w : World) : (binOp .eql 45 (.slice none n c) (.slice none 0 0)).run Tryz.prog w = .ok (.bool true) w := by
  have h : (Op.equalIn 10000 45 (.slice none n c) (.slice none 0 0)).run Tryz.prog w = .ok true w := zjl 9999 n c w
  simp only [binOp]
  simp [Op.equal, Op.maxDepth, h]
theorem zkh (a : Addr) (n c : Nat) (w : World) : (binOp .eql 45 (.slice (some a) n c) (.slice none 0 0)).run Tryz.prog w = .ok (.bool false) w := by
  have h : (Op.equalIn 10000 45 (.slice (some a) n c) (.slice none 0 0)).run Tryz.prog w = .ok false w := zic 9999 a n c w
  simp only [binOp]
  simp [Op.equal, Op.maxDepth, h]
def zgT (w : World) (n : Nat) (xs : List Value) (e : Ending) (w' : World) : Prop := ∃ v R, e = .returned v ∧ zJ 124 2 v n xs R ∧ Hp w.heap.size w w' R
theorem zkS (a : Option Addr) (n c : Nat) (hn : n ≤ 2000) (xs : List Value) (hl : xs.length = n * 2) (h1 : xs.all (·.oneCell') = true) (w : World) (ha : zr w a xs) :
    Calls Tryz.prog 142 #[.slice a n c] w (zgT w n xs) := by
  obtain ⟨i0, hi0, hz0, hz1, hz2⟩ := info_parts zcD
  have hp := Hp.start w
  cases a with
  | none =>
    have hn0 : n = 0 := by
      rcases Nat.eq_zero_or_pos n with h | h
      · exact h
      · obtain ⟨b, off, he, _⟩ := ha.addr (by omega)
        cases he
    subst hn0
    have hx : xs = [] := List.eq_nil_of_length_eq_zero (by simpa using hl)
    subst hx
    clear ha hl h1
    have hq := zlm
    go_enter Tryz.func142, Tryz.ntmps142
    go_wp2
    go_ret
    exact ⟨_, [], rfl, zJ.nil _ _, hp⟩
  | some a =>
    have HA := z0j ha
    have HL := z0j hl
    have H1 := z0j h1
    have sm1 : 0 + n ≤ maxLen := by unfold maxLen; omega
    have sm2 : (0 + n) * 16 ≤ 140737488355328 := by omega
    clear ha hl h1
    have hq := zkh
    go_enter Tryz.func142, Tryz.ntmps142
    go_wp2_with (first | ((refine zi _ _ _ rfl ?_); refine zav hp _ _ _ rfl wy [] 124 (by intro w; go_simp; try rfl) ?_; clear hp; intro b w1 hp; simp only [zc, zb, z0b, z0a]) | ((refine Zb _ _ 45 rfl ?_); refine ZJ (K := []) (R := [⟨b, [], 124, 0 * 2⟩]) (M := []) hp _ _ _ rfl wy i0 _ 16 Tryz.underlying45 hi0 hz0 hz1 hz2 rfl (by decide) (za rfl) ⟨rfl, .inr ⟨b, 0, rfl, Nat.le_refl _, Nat.zero_le _, rfl⟩⟩ (some a) n c (za rfl) xs HL.out (HA.out.below hp.below) H1.out sm1 sm2 ?_; clear hp; intro v' R' w1 hR' hp; have HR' := z0j hR'; clear hR'; simp only [zc, zb, z0b, z0a]) | go_skip)
    go_ret
    exact ⟨v', R', rfl, by simpa using HR'.out, by simpa using hp⟩
open Go.RowKit
def AtB (l : List Bl) (t : Int) (k : Nat) : Prop := k ≤ l.length ∧ (∀ (j : Nat) y, l[j]? = some y → j < k → y.p < t) ∧ (∀ (j : Nat) y, l[j]? = some y → k ≤ j → t ≤ y.p)
def zgV (l : List Bl) : Prop := ∀ (i j : Nat) x y, i < j → l[i]? = some x → l[j]? = some y → x.p < y.p
open Go.RowKit
theorem zax {ty : TypeId} (h : zB Tryz.prog ty = true := by with_reducible first | exact zq | exact zA | exact Ze) : zB Tryz.prog ty = true := h
theorem zlA {order : Int} {l : List Bl} {i k : Nat} {p o q r : Int} (h8 : order ≤ 8) (hy : l[i]? = some ⟨p, o⟩) (hx : l[k]? = some ⟨q, r⟩) (hki : k < i) (hm : zbI order ⟨p, o⟩) (hn : zbI order ⟨q, r⟩) (hg : ∀ (k' : Nat) x, k' < k → l[k']? = some x → zkv order x ⟨p, o⟩) :
    (0 ≤ p ∧ p ≤ 256 ∧ o ≤ 8 ∧ 0 ≤ q ∧ q ≤ 256 ∧ r ≤ 8) ∧
    ((decide (p ≤ q) = true ∧ Zv order l = false) ∨
     (decide (p ≤ q) = false ∧ zbe p o q r = true ∧ Zv order l = false) ∨
     (decide (p ≤ q) = false ∧ zbe p o q r = false ∧ decide (o < order) = false ∧ ∀ (k' : Nat) x, k' < k + 1 → l[k']? = some x → zkv order x ⟨p, o⟩) ∨
     (decide (p ≤ q) = false ∧ zbe p o q r = false ∧ decide (o < order) = true ∧ (twP p o == q) = false ∧ ∀ (k' : Nat) x, k' < k + 1 → l[k']? = some x → zkv order x ⟨p, o⟩) ∨
     (decide (p ≤ q) = false ∧ zbe p o q r = false ∧ decide (o < order) = true ∧ (twP p o == q) = true ∧ (o == r) = false ∧ ∀ (k' : Nat) x, k' < k + 1 → l[k']? = some x → zkv order x ⟨p, o⟩) ∨
     (decide (p ≤ q) = false ∧ zbe p o q r = false ∧ decide (o < order) = true ∧ (twP p o == q) = true ∧ (o == r) = true ∧ Zv order l = false)) := by
  obtain ⟨f1, f2, f3, f4, f5, f6⟩ := zeF h8 hm
  obtain ⟨g1, g2, g3, g4, g5, g6⟩ := zeF h8 hn
  have e1 := zP o
  have e2 := zP r
  refine ⟨⟨f1, f2, f4, g1, g2, g4⟩, ?_⟩
  have hno : ¬ zkv order ⟨q, r⟩ ⟨p, o⟩ → Zv order l = false := fun h => zb8 fun hG => h ((hG i _ hy).2 k _ hki hx)
  by_cases h1 : p ≤ q
  · left
    refine ⟨by simp [h1], hno fun h => ?_⟩
    have := h.1
    simp only at this
    omega
  right
  cases h2 : zbe p o q r
  case true =>
    left
    refine ⟨by simp; omega, rfl, hno fun h => ?_⟩
    have := h.1
    simp only at this
    simp [zbe] at h2
    omega
  right
  have h3 : q + pw r ≤ p := by simp [zbe] at h2; omega
  have hyes : ¬ (o < order ∧ twP p o = q ∧ o = r) → ∀ (k' : Nat) x, k' < k + 1 → l[k']? = some x → zkv order x ⟨p, o⟩ := by
    intro hnot k' x hk hx'
    by_cases hkk : k' = k
    · subst hkk
      rw [hx] at hx'
      cases hx'
      refine ⟨h3, ?_⟩
      rintro ⟨h4, h5⟩
      rw [zes] at h5
      injection h5 with h5 h6
      exact hnot ⟨h4, h5, h6⟩
    · exact hg k' x (by omega) hx'
  by_cases h4 : o < order
  · by_cases h5 : twP p o = q
    · by_cases h6 : o = r
      · right; right; right
        refine ⟨by simp; omega, rfl, by simp [h4], by simp [h5], by simp [h6], hno fun h => h.2 ⟨h4, ?_⟩⟩
        rw [zes, h5, h6]
      · right; right; left
        exact ⟨by simp; omega, rfl, by simp [h4], by simp [h5], by simp [h6], hyes fun h => h6 h.2.2⟩
    · right; left
      exact ⟨by simp; omega, rfl, by simp [h4], by simp [h5], hyes fun h => h5 h.2.1⟩
  · left
    exact ⟨by simp; omega, rfl, by simp; omega, hyes fun h => h4 h.1⟩
theorem zmF {order : Int} {l : List Bl} {i : Nat} {p o : Int} (hy : l[i]? = some ⟨p, o⟩) (h : zcs order p o = false) : Zv order l = false := zb8 fun hG => by
  have := (hG i _ hy).1
  simp [zcs, this] at h
theorem zgG (order : Int) (h3 : 3 ≤ order) (h8 : order ≤ 8) (l : List Bl) (a : Option Addr) (c : Nat) (hl : l.length ≤ 600) (hlen : (l.length : Int) ≤ pw order) (w : World) (ha : zr w a (l.flatMap blV)) :
    Calls Tryz.prog 163 #[.int .i64 order, .slice a l.length c] w fun e w' => e = .returned (.bool (Zv order l)) ∧ Below w.heap.size w w' := by
  have hr : Zg order = true := by simp [Zg]; omega
  have K11 := z0j (zeK order)
  rw [hr] at K11
  have HR := z0j hr
  clear hr
  have hp := Hp.start w
  have HA := z0j ha
  clear ha
  have hd : decide (pw order < (l.length : Int)) = false := by simp; omega
  go_enter Tryz.func163, Tryz.ntmps163
  go_wp2_with (first | (go_at_call 115; refine (K11.out _).mono ?_; rintro e w' ⟨rfl, rfl⟩) | (go_at_call 170; refine (zao _ (by omega) _).mono ?_; rintro e w' ⟨rfl, rfl⟩) | go_skip | ((first | ((refine zg _ rfl ?_); refine lZ hp rfl zI ?_; clear hp; intro b w1 hp) | ((refine zh _ _ rfl ?_); refine lB hp rfl (za rfl) rfl ?_; clear hp; intro b w1 hp) | ((refine zf _ _ rfl ?_); first | refine lO hp rfl (za rfl) zax aa5 ?_ | refine lA hp rfl (za rfl) zt aa5 ?_) | ((refine zd _ _ _ rfl ?_); (first | refine sO hp rfl (za rfl) zax aa5 ?_ | refine sA hp rfl (za rfl) (za rfl) zt aa5 ?_ | refine sG hp rfl (za rfl) (za rfl) zt aa5 ?_); clear hp; intro w1 hp; simp only [spl, z0a, z0b] at hp)); simp only [zc, zb, z0b, z0a]))
  clear hd hlen
  go_loopg [5] l.length (fun k i wr => ∃ j : Nat, k + j = l.length ∧ i = .int .i64 j ∧ zcu order (l.take j) ∧ Hp w.heap.size w wr [])
  case atStart => exact ⟨0, by omega, rfl, by simpa using zcu.nil order, hp⟩
  case round =>
    clear hp
    obtain ⟨j, hkj, rfl, hg, hp⟩ := hrel
    have HG := z0j hg
    clear hg
    by_cases hlt : j < l.length
    · obtain ⟨bq, off, rfl, hx⟩ := HA.out.elems 2 zbv (by omega) (by omega)
      have HE := z0j hx
      have hj := List.getElem?_eq_getElem hlt
      replace hx := hx j _ hj
      generalize l[j] = x at hx hj
      obtain ⟨p, o⟩ := x
      simp only [blV] at hx
      have HX := z0j hx
      have HJ := z0j hj
      clear hx hj
      have e1 : (0 : Int) ≤ (j : Int) := by omega
      have e2 : (j : Int) < (l.length : Int) := by omega
      cases dm : zcs order p o
      · go_wp2_with (first | (go_at_call 165; refine (zhJ _ h8 _ _ _).mono ?_; rintro e w1 ⟨rfl, hb⟩; rw [dm]; replace hp := hp.call hb; clear hb) | go_skip | ((first | ((refine zg _ rfl ?_); refine lZ hp rfl zI ?_; clear hp; intro b w1 hp) | ((refine zh _ _ rfl ?_); refine lB hp rfl (za rfl) rfl ?_; clear hp; intro b w1 hp) | ((refine zf _ _ rfl ?_); first | refine lO hp rfl (za rfl) zax aa5 ?_ | refine lRO hp rfl (za rfl) zax (by first | exact HX.out 0 _ rfl | exact HX.out 1 _ rfl) ?_ | refine lA hp rfl (za rfl) zt aa5 ?_ | refine lR hp rfl (za rfl) zt HX.out ?_) | ((refine zd _ _ _ rfl ?_); (first | refine sO hp rfl (za rfl) zax aa5 ?_ | refine sA hp rfl (za rfl) (za rfl) zt aa5 ?_ | refine sG hp rfl (za rfl) (za rfl) zt aa5 ?_); clear hp; intro w1 hp; simp only [spl, z0a, z0b] at hp)); simp only [zc, zb, z0b, z0a]))
        go_ret
        exact ⟨zL (zmF HJ.out dm).symm, hp.below⟩
      · go_wp2_with (first | (go_at_call 165; refine (zhJ _ h8 _ _ _).mono ?_; rintro e w1 ⟨rfl, hb⟩; rw [dm]; replace hp := hp.call hb; clear hb) | go_skip | ((first | ((refine zg _ rfl ?_); refine lZ hp rfl zI ?_; clear hp; intro b w1 hp) | ((refine zh _ _ rfl ?_); refine lB hp rfl (za rfl) rfl ?_; clear hp; intro b w1 hp) | ((refine zf _ _ rfl ?_); first | refine lO hp rfl (za rfl) zax aa5 ?_ | refine lRO hp rfl (za rfl) zax (by first | exact HX.out 0 _ rfl | exact HX.out 1 _ rfl) ?_ | refine lA hp rfl (za rfl) zt aa5 ?_ | refine lR hp rfl (za rfl) zt HX.out ?_) | ((refine zd _ _ _ rfl ?_); (first | refine sO hp rfl (za rfl) zax aa5 ?_ | refine sA hp rfl (za rfl) (za rfl) zt aa5 ?_ | refine sG hp rfl (za rfl) (za rfl) zt aa5 ?_); clear hp; intro w1 hp; simp only [spl, z0a, z0b] at hp)); simp only [zc, zb, z0b, z0a]))
        have DM := z0j dm
        clear dm
        go_loopg [6] j (fun k i wr => ∃ m : Nat, k + m = j ∧ i = .int .i64 m ∧ (∀ (k' : Nat) x, k' < m → l[k']? = some x → zkv order x ⟨p, o⟩) ∧ Hp w.heap.size w wr [])
        case atStart => exact ⟨0, by omega, rfl, fun k' x h => by omega, hp⟩
        case round =>
          clear hp
          obtain ⟨m, hkm, rfl, hpr, hp⟩ := hrel
          have HPR := z0j hpr
          clear hpr
          by_cases hlm : m < j
          · have hm := List.getElem?_eq_getElem (show m < l.length by omega)
            have hy := HE.out m _ hm
            generalize l[m] = y at hy hm
            obtain ⟨q, r⟩ := y
            simp only [blV] at hy
            have HY := z0j hy
            have hmay := zds DM.out
            have hmay2 := (HG.out m _ (by rw [List.getElem?_take, if_pos hlm]; exact hm)).1
            have W9 := z0j (zlA h8 HJ.out hm hlm hmay hmay2 HPR.out)
            clear hm hy hmay hmay2
            have e3 : (0 : Int) ≤ (m : Int) := by omega
            have e4 : (m : Int) < (l.length : Int) := by omega
            have e5 : (m : Int) < (j : Int) := by omega
            go_wp2_with (first | go_skip | ((first | ((refine zg _ rfl ?_); refine lZ hp rfl zI ?_; clear hp; intro b w1 hp) | ((refine zh _ _ rfl ?_); refine lB hp rfl (za rfl) rfl ?_; clear hp; intro b w1 hp) | ((refine zf _ _ rfl ?_); first | refine lO hp rfl (za rfl) zax aa5 ?_ | refine lA hp rfl (za rfl) zt aa5 ?_) | ((refine zd _ _ _ rfl ?_); (first | refine sO hp rfl (za rfl) zax aa5 ?_ | refine sA hp rfl (za rfl) (za rfl) zt aa5 ?_ | refine sG hp rfl (za rfl) (za rfl) zt aa5 ?_); clear hp; intro w1 hp; simp only [spl, z0a, z0b] at hp)); simp only [zc, zb, z0b, z0a]))
            refine zk _ (zE.all hp.drew) [] [(0, true), (1, true), (2, true), (3, true), (4, true), (5, true), (6, true), (7, true), (8, true), (9, true), (10, true), (11, true), (12, true), (13, true), (14, true), (15, true), (16, true), (17, true), (18, true), (19, true), (20, false), (21, true), (22, true), (23, true), (24, true), (25, true), (26, true), (27, true), (28, true), (29, true), (30, true), (31, true), (32, true), (33, true), (34, true), (36, true), (37, true), (38, true), (39, true), (35, false), (40, true), (41, true), (42, true)] (by kernel_rfl) (by kernel_rfl) rfl (by kernel_rfl) (fun _ _ d _ _ h => by cases d <;> exact h) ?_
            replace hp := hp.drew
            obtain ⟨f, W⟩ := W9.out
            rcases W with ⟨d1, r⟩ | ⟨d1, d2, r⟩ | ⟨d1, d2, d3, r⟩ | ⟨d1, d2, d3, d4, r⟩ | ⟨d1, d2, d3, d4, d5, r⟩ | ⟨d1, d2, d3, d4, d5, r⟩
            all_goals have R := z0j r
            all_goals clear r W9
            all_goals
              repeat' (with_reducible refine zG ?_); first | (with_reducible refine zw ?_) | ((with_reducible refine zR ?_); refine zy rfl ?_; (first | ((with_reducible refine za0 _ _ rfl ?_); refine tS (by first | exact Zc rfl rfl rfl rfl | exact Zm rfl rfl rfl rfl) ?_) | ((with_reducible refine Zy _ rfl ?_); refine tM rfl ?_) | ((with_reducible refine Zt _ _ rfl ?_); first | refine tA rfl (za rfl) zt aa5 ?_ | refine tO rfl (za rfl) zq aa5 ?_ | refine tR rfl (za rfl) zt HX.out ?_ | refine tRO rfl (za rfl) zq (HX.out 0 _ rfl) ?_ | refine tRO rfl (za rfl) zq (HX.out 1 _ rfl) ?_ | refine tR rfl (za rfl) zt HY.out ?_ | refine tRO rfl (za rfl) zq (HY.out 0 _ rfl) ?_ | refine tRO rfl (za rfl) zq (HY.out 1 _ rfl) ?_) | refine tG (fun w _ => (by go_simp; try rfl)) ?_); try simp only [zc, zb, zm, zj, z0b, z0a, z0d, z0c, zn]) | (refine zQ rfl (fun K hK => ?_); go_wp2_with (first | (go_at_call 168; refine (zhe _ _ _ _ f.1 f.2.1 f.2.2.2.1 f.2.2.2.2.1 f.2.2.1 f.2.2.2.2.2 _).mono ?_; rintro e w1 ⟨rfl, hb⟩; rw [d2]; replace hp := hp.call hb; clear hb) | (go_at_call 208; refine (zmZ _ _ f.1 f.2.1 f.2.2.1 _).mono ?_; rintro e w1 ⟨rfl, hb⟩; replace hp := hp.call hb; clear hb) | go_skip); (refine hK.out _ _ (.inr (zdp hp)) ?_); clear hK K; try simp only [zc, zb, zm, zj, z0b, z0a, z0d, z0c, zn])
            all_goals first
              | (go_wp2_with fail
                 go_ret
                 exact ⟨zL R.out.symm, hp.below⟩)
              | (go_wp2_with fail
                 go_roundg (gk - 1)
                 case measure => omega
                 case rel => exact ⟨m + 1, by omega, by go_num, R.out, hp⟩)
          · have e5 : decide ((m : Int) < (j : Int)) = false := by simp; omega
            have HG2 : Hid (zcu order (l.take (j + 1))) := z0j ((zcu.snoc HJ.out).2 ⟨HG.out, zds DM.out, fun k' x hk hx => HPR.out k' x (by omega) hx⟩)
            go_wp2_with fail
            go_roundg (l.length - (j + 1))
            case measure => omega
            case rel => exact ⟨j + 1, by omega, by go_num, HG2.out, hp⟩
    · have e2 : decide ((j : Int) < (l.length : Int)) = false := by simp; omega
      have HG2 : Hid (Zv order l = true) := z0j (zdY HR.out (by have := HG.out; rwa [List.take_of_length_le (by omega)] at this))
      go_wp2_with fail
      go_ret
      exact ⟨zL HG2.out.symm, hp.below⟩
theorem zlB (order : Int) (l : List Bl) (a : Option Addr) (c : Nat) (hl : l.length ≤ 600) (w : World) (ha : zr w a (l.flatMap blV)) :
    Calls Tryz.prog 163 #[.int .i64 order, .slice a l.length c] w fun e w' => e = .returned (.bool (Zv order l)) ∧ Below w.heap.size w w' := by
  have K11 := z0j (zeK order)
  cases hr : Zg order
  · rw [zfn hr]
    rw [hr] at K11
    clear hr ha
    go_enter Tryz.func163, Tryz.ntmps163
    go_wp2_with (go_at_call 115; refine (K11.out _).mono ?_; rintro e w' ⟨rfl, rfl⟩)
    go_ret
    exact ⟨rfl, Below.refl _ _⟩
  · have := hr
    simp only [Zg, decide_eq_true_eq] at this
    obtain ⟨h3, h8⟩ := this
    by_cases hlen : (l.length : Int) ≤ pw order
    · exact zgG order h3 h8 l a c hl hlen w ha
    · rw [zb8 fun hG => hlen (hG.len h3)]
      rw [hr] at K11
      clear hr ha
      have hd : decide (pw order < (l.length : Int)) = true := by simp; omega
      go_enter Tryz.func163, Tryz.ntmps163
      go_wp2_with (first | (go_at_call 115; refine (K11.out _).mono ?_; rintro e w' ⟨rfl, rfl⟩) | (go_at_call 170; refine (zao _ (by omega) _).mono ?_; rintro e w' ⟨rfl, rfl⟩))
      go_ret
      exact ⟨rfl, Below.refl _ _⟩
open Go.RowKit
def zlM (l : List Bl) (want : Int) (n : Nat) (i : Int) : Prop :=
  (i = -1 ∧ ∀ (k : Nat) x, k < n → l[k]? = some x → ¬ want ≤ x.o) ∨
  ∃ (k : Nat) (z : Bl), i = (k : Int) ∧ k < n ∧ l[k]? = some z ∧ want ≤ z.o ∧ ∀ (k' : Nat) x, k' < n → l[k']? = some x → want ≤ x.o → z.o ≤ x.o ∧ (x.o = z.o → k ≤ k')
theorem zlM.great {l : List Bl} {want i : Int} (h : zlM l want l.length i) : decide (0 ≤ i) = zgl l want := by
  rcases h with ⟨rfl, h⟩ | ⟨k, z, rfl, hk, hz, hw, h⟩
  · have : zgl l want = false := by
      unfold zgl
      rw [List.any_eq_false]
      intro x hx
      obtain ⟨k, hk, rfl⟩ := List.getElem_of_mem hx
      have := h k _ hk (List.getElem?_eq_getElem hk)
      simpa using this
    rw [this]; decide
  · rw [zjw hz hw]; simp
open Go.RowKit
end Go.Proofs.YtaafajaadfgaoaaGreat

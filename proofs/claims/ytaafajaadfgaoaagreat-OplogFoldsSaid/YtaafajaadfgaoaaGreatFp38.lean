import Derived.Test.YtaafajaadfgaoaaGreatFp31
import Derived.Test.YtaafajaadfgaoaaGreatFp37
import Derived.Test.YtaafajaadfgaoaaGreatFp35
set_option linter.unusedSimpArgs false
set_option linter.unusedVariables false
set_option maxRecDepth 100000
set_option maxHeartbeats 60000000
namespace Go.Proofs.YtaafajaadfgaoaaGreat
open Go.RowKit
theorem zby {ty : TypeId} {k : Nat} (h : zac Tryz.prog ty k = true := by with_reducible first | exact zF | exact Zq | exact Zr) : zac Tryz.prog ty k = true := h
theorem zcZ {ty : TypeId} (h : zB Tryz.prog ty = true := by with_reducible first | exact zq | exact zA | exact zO | exact ZL | exact zaz) : zB Tryz.prog ty = true := h
theorem zhC {ty : TypeId} (h : zB Tryz.prog ty = true := by with_reducible first | exact zq | exact zA | exact zO) : zB Tryz.prog ty = true := h
theorem zfe (l : List Env) (a a' : Option Addr) (n n' c c' : Nat) (hn : l.length = n) (hn' : l.length = n') (hl : l.length ≤ 100000) (w : World) (ha : zr w a (l.flatMap Zi)) (ha' : zr w a' (l.flatMap Zi)) :
  Calls Tryz.prog 61 #[.slice a n c, .slice a' n' c'] w fun e w' => e = .returned (.bool true) ∧ Below w.heap.size w w' := by
 subst hn hn'
 have HA := z0j ha
 have HB := z0j ha'
 clear ha ha'
 have hp := Hp.start w
 go_enter Tryz.func61, Tryz.ntmps61
 go_wp2_with (first | go_skip | ((first | ((refine zg _ rfl ?_); refine lZ hp rfl (by with_reducible first | exact zW | exact zbD) ?_; clear hp; intro b w1 hp) | ((refine zh _ _ rfl ?_); refine lB hp rfl (za rfl) rfl ?_; clear hp; intro b w1 hp) | ((refine zf _ _ rfl ?_); first | refine lO hp rfl (za rfl) zcZ aa5 ?_ | refine lA hp rfl (za rfl) zby aa5 ?_) | ((refine zd _ _ _ rfl ?_); (first | refine sO hp rfl (za rfl) zcZ aa5 ?_ | refine sA hp rfl (za rfl) (za rfl) zby aa5 ?_ | refine sG hp rfl (za rfl) (za rfl) zby aa5 ?_); clear hp; intro w1 hp; simp only [spl, z0a, z0b] at hp)); simp only [zc, zb, z0b, z0a]))
 go_loopg [5] l.length (fun k i wr => ∃ q : Nat, k + q = l.length ∧ i = .int .i64 q ∧ Hp w.heap.size w wr [])
 case atStart => exact ⟨0, by omega, rfl, hp⟩
 case round =>
  clear hp
  obtain ⟨q, hkq, rfl, hp⟩ := hrel
  by_cases hlt : q < l.length
  ·obtain ⟨bq, off, rfl, hx⟩ := HA.out.elems 11 ZM (by omega) (by omega)
   obtain ⟨br, ofr, rfl, hy⟩ := HB.out.elems 11 ZM (by omega) (by omega)
   have hj := List.getElem?_eq_getElem hlt
   replace hx := hx q _ hj
   replace hy := hy q _ hj
   clear hj
   generalize l[q] = en at hx hy
   obtain ⟨nu, vi, cl, sq, ⟨kk, hh, ii, nn, cc, vv, tt⟩⟩ := en
   simp only [Zi, opL, z0f, z0e] at hx hy
   have HX := z0j hx
   have HY := z0j hy
   have f1 : (0 : Int) ≤ (q : Int) := by omega
   have f2 : (q : Int) < (l.length : Int) := by omega
   clear hx hy
   go_wp2_with (first | go_skip | ((first | ((refine zh _ _ rfl ?_); refine lB hp rfl (za rfl) rfl ?_; clear hp; intro b w1 hp) | ((refine zf _ _ rfl ?_); first | refine lO hp rfl (za rfl) zhC aa5 ?_ | refine lA hp rfl (za rfl) Zq aa5 ?_ | refine lR hp rfl (za rfl) Zq HX.out ?_ | refine lR hp rfl (za rfl) Zq HY.out ?_) | ((refine zd _ _ _ rfl ?_); (first | refine sO hp rfl (za rfl) zhC aa5 ?_ | refine sA hp rfl (za rfl) (za rfl) Zq aa5 ?_ | refine sG hp rfl (za rfl) (za rfl) Zq aa5 ?_); clear hp; intro w1 hp; simp only [spl, z0a, z0b] at hp)); simp only [zc, zb, z0b, z0a]))
   refine zk _ (zE.all hp.drew) [] [(0, true), (1, true), (2, true), (3, true), (4, true), (5, true), (6, true), (7, true), (8, true)] (by kernel_rfl) (by kernel_rfl) rfl (by kernel_rfl) (fun _ _ d _ _ h => by cases d <;> exact h) ?_
   replace hp := hp.drew
   repeat' (with_reducible refine zG ?_); first | (with_reducible refine zw ?_) | ((with_reducible refine zR ?_); refine zy rfl ?_; (first | ((with_reducible refine Zy _ rfl ?_); refine tM rfl ?_) | ((with_reducible refine Zt _ _ rfl ?_); first | refine tA rfl (za rfl) Zq aa5 ?_ | refine tR rfl (za rfl) Zq HX.out ?_ | refine tR rfl (za rfl) Zq HY.out ?_) | refine tG (fun w _ => (by go_simp; try rfl)) ?_); try simp only [zc, zb, zm, zj, z0b, z0a, z0d, z0c, zn])
   go_wp2_with (first | go_skip | ((first | ((refine zh _ _ rfl ?_); refine lB hp rfl (za rfl) rfl ?_; clear hp; intro b w1 hp) | ((refine zf _ _ rfl ?_); first | refine lO hp rfl (za rfl) zhC aa5 ?_ | refine lA hp rfl (za rfl) Zq aa5 ?_ | refine lR hp rfl (za rfl) Zq HX.out ?_ | refine lR hp rfl (za rfl) Zq HY.out ?_) | ((refine zd _ _ _ rfl ?_); (first | refine sO hp rfl (za rfl) zhC aa5 ?_ | refine sA hp rfl (za rfl) (za rfl) Zq aa5 ?_ | refine sG hp rfl (za rfl) (za rfl) Zq aa5 ?_); clear hp; intro w1 hp; simp only [spl, z0a, z0b] at hp)); simp only [zc, zb, z0b, z0a]))
   go_roundg (gk - 1)
   case measure => omega
   case rel => exact ⟨q + 1, by omega, by go_num, hp⟩
  ·obtain rfl : q = l.length := by omega
   have e2 : decide ((l.length : Int) < (l.length : Int)) = false := by simp
   go_wp2_with (first | go_skip | ((first | ((refine zg _ rfl ?_); refine lZ hp rfl (by with_reducible first | exact zW | exact zbD) ?_; clear hp; intro b w1 hp) | ((refine zh _ _ rfl ?_); refine lB hp rfl (za rfl) rfl ?_; clear hp; intro b w1 hp) | ((refine zf _ _ rfl ?_); first | refine lO hp rfl (za rfl) zcZ aa5 ?_ | refine lA hp rfl (za rfl) zby aa5 ?_) | ((refine zd _ _ _ rfl ?_); (first | refine sO hp rfl (za rfl) zcZ aa5 ?_ | refine sA hp rfl (za rfl) (za rfl) zby aa5 ?_ | refine sG hp rfl (za rfl) (za rfl) zby aa5 ?_); clear hp; intro w1 hp; simp only [spl, z0a, z0b] at hp)); simp only [zc, zb, z0b, z0a]))
   go_ret
   exact ⟨rfl, hp.below⟩
def zn5 (w : World) (vw nm bs : Int) (im : ByteArray) (es : List Env) (e : Ending) (w' : World) : Prop := ∃ (a : Option Addr) (c : Nat) (R : List Blk), e = .returned (.agg #[.int .i64 vw, .int .i64 nm, .int .i64 bs, .string im, .slice a es.length c]) ∧ zD 31 11 (.slice a es.length c) es.length (es.flatMap Zi) R ∧ Hp w.heap.size w w' R
theorem zfG (l : List Env) : (l.flatMap Zi).all (·.oneCell') = true := by
 induction l with
 | nil => rfl
 | cons x l ih => rw [List.flatMap_cons, List.all_append, ih]; rfl
theorem zep (vw nm bs : Int) (im : ByteArray) (ea : Option Addr) (es : List Env) (ec : Nat) (hl : es.length ≤ 100000) (w : World) (ha : zr w ea (es.flatMap Zi)) :
  Calls Tryz.prog 32 #[.agg #[.int .i64 vw, .int .i64 nm, .int .i64 bs, .string im, .slice ea es.length ec]] w (zn5 w vw nm bs im es) := by
 obtain ⟨i0, hi0, hz0, hz1, hz2⟩ := info_parts zfh
 have hp := Hp.start w
 have HA := z0j ha
 have HS1 : Hid (0 + es.length ≤ maxLen) := z0j (by unfold maxLen; omega)
 have HS2 : Hid ((0 + es.length) * 88 ≤ 140737488355328) := z0j (by omega)
 clear ha
 go_enter Tryz.func32, Tryz.ntmps32
 go_wp2_with (first | ((refine Z5 _ _ 22 22 rfl ?_); refine Zp (K := [_, _]) (R := []) (M := []) hp _ _ _ _ rfl wy 31 i0 _ 11 88 Tryz.underlying22 hi0 hz0 hz1 hz2 rfl _ _ _ (za rfl) (zD.nil _ _ _) _ (za rfl) es.length _ (Src.ofRow Tryz.underlying22 (by decide) ea es.length ec _ (by rw [ZH Zi 11 ZM]) (HA.out.below hp.below) (zfG _)) HS1.out HS2.out ?_; clear hp; intro v' R' w1 hR' hp; rw [Nat.zero_add, List.nil_append] at hR'; obtain ⟨a', c', rfl, _⟩ := hR'.kept; have HR' := z0j hR'; clear hR'; simp only [z0f, z0e, List.append_nil] at hp; simp only [zc, zb, z0b, z0a]) | go_skip | ((first | ((refine zg _ rfl ?_); refine lZ hp rfl (by with_reducible first | exact zW | exact zbD) ?_; clear hp; intro b w1 hp) | ((refine zh _ _ rfl ?_); refine lB hp rfl (za rfl) rfl ?_; clear hp; intro b w1 hp) | ((refine zf _ _ rfl ?_); first | refine lO hp rfl (za rfl) zcZ aa5 ?_ | refine lA hp rfl (za rfl) zby aa5 ?_) | ((refine zd _ _ _ rfl ?_); (first | refine sO hp rfl (za rfl) zcZ aa5 ?_ | refine sA hp rfl (za rfl) (za rfl) zby aa5 ?_ | refine sG hp rfl (za rfl) (za rfl) zby aa5 ?_); clear hp; intro w1 hp; simp only [spl, z0a, z0b] at hp)); simp only [zc, zb, z0b, z0a]))
 exact bodyPost_ret (ZI (rs := [.cell 2 24]) Tryz.results32 (.cell rfl (hp.loadAgg zF at0 0 _ (by rfl) (by rfl)) .nil)) rfl ⟨a', c', R', rfl, HR'.out, hp.tail.tail⟩
theorem zfU (vw nm bs : Int) (im : ByteArray) (ea ea2 : Option Addr) (es : List Env) (ec ec2 : Nat) (hl : es.length ≤ 100000) (w : World) (ha : zr w ea (es.flatMap Zi)) (hb : zr w ea2 (es.flatMap Zi)) :
  Calls Tryz.prog 34 #[.agg #[.int .i64 vw, .int .i64 nm, .int .i64 bs, .string im, .slice ea es.length ec], .agg #[.int .i64 vw, .int .i64 nm, .int .i64 bs, .string im, .slice ea2 es.length ec2]] w fun e w' => e = .returned (.bool true) ∧ Below w.heap.size w w' := by
 have hp := Hp.start w
 have HA := z0j ha
 have HB := z0j hb
 clear ha hb
 go_enter Tryz.func34, Tryz.ntmps34
 go_wp2_with (first | (go_at_call 61; (with_reducible refine (zfe es ea ea2 _ _ ec ec2 rfl rfl hl _ (HA.out.below hp.below) (HB.out.below hp.below)).mono ?_); rintro e w1 ⟨rfl, hb⟩; replace hp := hp.call hb; clear hb) | go_skip | ((first | ((refine zg _ rfl ?_); refine lZ hp rfl (by with_reducible first | exact zW | exact zbD) ?_; clear hp; intro b w1 hp) | ((refine zh _ _ rfl ?_); refine lB hp rfl (za rfl) rfl ?_; clear hp; intro b w1 hp) | ((refine zf _ _ rfl ?_); first | refine lO hp rfl (za rfl) zcZ aa5 ?_ | refine lA hp rfl (za rfl) zby aa5 ?_) | ((refine zd _ _ _ rfl ?_); (first | refine sO hp rfl (za rfl) zcZ aa5 ?_ | refine sA hp rfl (za rfl) (za rfl) zby aa5 ?_ | refine sG hp rfl (za rfl) (za rfl) zby aa5 ?_); clear hp; intro w1 hp; simp only [spl, z0a, z0b] at hp)); simp only [zc, zb, z0b, z0a]))
 go_ret
 exact ⟨rfl, hp.below⟩
theorem ziI (kd rv rf rn : Int) (rim : ByteArray) (nu vi cl sq kk hh ii nn cc vv tt : Int) (ea ea2 : Option Addr) (es : List Env) (ec ec2 : Nat) (hl : es.length ≤ 100000) (w : World) (ha : zr w ea (es.flatMap Zi)) (hb : zr w ea2 (es.flatMap Zi)) :
  Calls Tryz.prog 54 #[.agg (#[.int .i64 kd, .int .i64 rv, .int .i64 rf, .int .i64 rn, .string rim, .int .i64 nu, .int .i64 vi, .int .i64 cl, .int .i64 sq, .int .i64 kk, .int .i64 hh, .int .i64 ii, .int .i64 nn, .int .i64 cc, .int .i64 vv, .int .i64 tt] ++ #[.slice ea es.length ec]), .agg (#[.int .i64 kd, .int .i64 rv, .int .i64 rf, .int .i64 rn, .string rim, .int .i64 nu, .int .i64 vi, .int .i64 cl, .int .i64 sq, .int .i64 kk, .int .i64 hh, .int .i64 ii, .int .i64 nn, .int .i64 cc, .int .i64 vv, .int .i64 tt] ++ #[.slice ea2 es.length ec2])] w fun e w' => e = .returned (.bool true) ∧ Below w.heap.size w w' := by
 have hp := Hp.start w
 have HA := z0j ha
 have HB := z0j hb
 clear ha hb
 simp only [List.append_toArray, z0f, z0e]
 go_enter Tryz.func54, Tryz.ntmps54
 go_wp2_with (first | (go_at_call 61; (with_reducible refine (zfe es ea ea2 _ _ ec ec2 rfl rfl hl _ (HA.out.below hp.below) (HB.out.below hp.below)).mono ?_); rintro e w1 ⟨rfl, hb⟩; replace hp := hp.call hb; clear hb) | go_skip | ((first | ((refine zg _ rfl ?_); refine lZ hp rfl (by with_reducible first | exact zW | exact zbD) ?_; clear hp; intro b w1 hp) | ((refine zh _ _ rfl ?_); refine lB hp rfl (za rfl) rfl ?_; clear hp; intro b w1 hp) | ((refine zf _ _ rfl ?_); first | refine lO hp rfl (za rfl) zcZ aa5 ?_ | refine lA hp rfl (za rfl) zby aa5 ?_) | ((refine zd _ _ _ rfl ?_); (first | refine sO hp rfl (za rfl) zcZ aa5 ?_ | refine sA hp rfl (za rfl) (za rfl) zby aa5 ?_ | refine sG hp rfl (za rfl) (za rfl) zby aa5 ?_); clear hp; intro w1 hp; simp only [spl, z0a, z0b] at hp)); simp only [zc, zb, z0b, z0a]))
 go_ret
 exact ⟨rfl, hp.below⟩
theorem Zs (vw nm bs : Int) (im : ByteArray) (ea : Option Addr) (n ec : Nat) (x : Int) (hx : wrap64 (bs + (n : Int)) = x) (w : World) : Calls Tryz.prog 93 #[.agg #[.int .i64 vw, .int .i64 nm, .int .i64 bs, .string im, .slice ea n ec]] w fun e w' => e = .returned (.int .i64 x) ∧ Below w.heap.size w w' := hx ▸ zk9 vw nm bs im ea n ec w
open Go.RowKit
theorem zcr {ty : TypeId} {k : Nat} (h : zac Tryz.prog ty k = true := by with_reducible first | exact zF | exact Zr | exact Zq) : zac Tryz.prog ty k = true := h
theorem zd4 {ty : TypeId} (h : zB Tryz.prog ty = true := by with_reducible first | exact zq | exact zA | exact zO | exact ZL | exact Ze | exact zaz) : zB Tryz.prog ty = true := h
theorem zcE (l m : List Env) (a a' : Option Addr) (n n' c c' : Nat) (hn : l.length = n) (hn' : m.length = n') (hl : n ≤ 100000) (hl' : n' ≤ 100000) (w : World) (ha : zr w a (l.flatMap Zi)) (hb : zr w a' (m.flatMap Zi)) :
  Calls Tryz.prog 193 #[.slice a n c, .slice a' n' c'] w fun e w' => ∃ (a : Option Addr) (c : Nat) (R : List Blk), e = .returned (.slice a (n + n') c) ∧ zaG R (fun w => zr w a ((l ++ m).flatMap Zi)) ∧ Hp w.heap.size w w' R := by
 obtain ⟨i0, hi0, hz0, hz1, hz2⟩ := info_parts zfh
 have hp := Hp.start w
 have HA := z0j ha
 have HB := z0j hb
 have HF1 : Hid ((l.flatMap Zi).length = n * 11) := z0j (by rw [ZH Zi 11 ZM, hn])
 have HF2 : Hid ((m.flatMap Zi).length = n' * 11) := z0j (by rw [ZH Zi 11 ZM, hn'])
 have HS1 : Hid (0 + n ≤ maxLen) := z0j (by unfold maxLen; omega)
 have HS2 : Hid ((0 + n) * 88 ≤ 140737488355328) := z0j (by omega)
 have HS3 : Hid (n + n' ≤ maxLen) := z0j (by unfold maxLen; omega)
 have HS4 : Hid ((n + n') * 88 ≤ 140737488355328) := z0j (by omega)
 clear ha hb hn hn' hl hl'
 go_enter Tryz.func193, Tryz.ntmps193
 go_wp2_with (first | ((refine Z5 _ _ 22 22 rfl ?_); refine Zp (K := []) (R := R1) (M := []) hp.kp _ _ _ _ rfl wy 31 i0 _ 11 88 Tryz.underlying22 hi0 hz0 hz1 hz2 rfl _ n _ (za rfl) HR1.out _ (za rfl) n' _ (Src.ofRow Tryz.underlying22 (by decide) a' n' c' _ HF2.out (HB.out.below hp.below) (zfG _)) HS3.out HS4.out ?_; clear hp HR1; intro v2 R2 w1 hR2 hp; obtain ⟨a2, c2, rfl, _⟩ := hR2.kept; have HR2 := z0j hR2; clear hR2; simp only [z0e, List.append_nil] at hp; simp only [zc, zb, z0b, z0a]) | ((refine Z5 _ _ 22 22 rfl ?_); refine Zp (K := []) (R := []) (M := []) hp _ _ _ _ rfl wy 31 i0 _ 11 88 Tryz.underlying22 hi0 hz0 hz1 hz2 rfl _ _ _ (za rfl) (zD.nil _ _ none) _ (za rfl) n _ (Src.ofRow Tryz.underlying22 (by decide) a n c _ HF1.out (HA.out.below hp.below) (zfG _)) HS1.out HS2.out ?_; clear hp; intro v1 R1 w1 hR1 hp; rw [Nat.zero_add, List.nil_append] at hR1; obtain ⟨a1, c1, rfl, _⟩ := hR1.kept; have HR1 := z0j hR1; clear hR1; simp only [z0e, List.append_nil] at hp; simp only [zc, zb, z0b, z0a]) | go_skip | ((first | ((refine zg _ rfl ?_); refine lZ hp rfl zbD ?_; clear hp; intro b w1 hp) | ((refine zh _ _ rfl ?_); refine lB hp rfl (za rfl) rfl ?_; clear hp; intro b w1 hp) | ((refine zf _ _ rfl ?_); first | refine lO hp rfl (za rfl) (by with_reducible first | exact zq | exact zO) aa5 ?_ | refine lA hp rfl (za rfl) Zr aa5 ?_) | ((refine zd _ _ _ rfl ?_); (first | refine sO hp rfl (za rfl) (by with_reducible first | exact zq | exact zO) aa5 ?_ | refine sA hp rfl (za rfl) (za rfl) Zr aa5 ?_ | refine sG hp rfl (za rfl) (za rfl) Zr aa5 ?_); clear hp; intro w1 hp; simp only [spl, z0a, z0b] at hp)); simp only [zc, zb, z0b, z0a]))
 go_ret
 exact ⟨a2, c2, R2, rfl, by rw [List.flatMap_append]; exact HR2.out.keptS, hp⟩
theorem zgB (kd rv rf rn : Int) (rim : ByteArray) (nu vi cl sq kk hh ii nn cc vv tt : Int) (ra : Option Addr) (rs : List Env) (rc : Nat) (hl : rs.length ≤ 100000) (w : World) (ha : zr w ra (rs.flatMap Zi)) :
  Calls Tryz.prog 51 #[.agg #[.int .i64 kd, .int .i64 rv, .int .i64 rf, .int .i64 rn, .string rim, .int .i64 nu, .int .i64 vi, .int .i64 cl, .int .i64 sq, .int .i64 kk, .int .i64 hh, .int .i64 ii, .int .i64 nn, .int .i64 cc, .int .i64 vv, .int .i64 tt, .slice ra rs.length rc]] w fun e w' => ∃ (a : Option Addr) (c : Nat) (R : List Blk), e = .returned (.agg #[.int .i64 kd, .int .i64 rv, .int .i64 rf, .int .i64 rn, .string rim, .int .i64 nu, .int .i64 vi, .int .i64 cl, .int .i64 sq, .int .i64 kk, .int .i64 hh, .int .i64 ii, .int .i64 nn, .int .i64 cc, .int .i64 vv, .int .i64 tt, .slice a rs.length c]) ∧ zD 31 11 (.slice a rs.length c) rs.length (rs.flatMap Zi) R ∧ Hp w.heap.size w w' R := by
 obtain ⟨i0, hi0, hz0, hz1, hz2⟩ := info_parts zfh
 have hp := Hp.start w
 have HA := z0j ha
 have HS1 : Hid (0 + rs.length ≤ maxLen) := z0j (by unfold maxLen; omega)
 have HS2 : Hid ((0 + rs.length) * 88 ≤ 140737488355328) := z0j (by omega)
 clear ha
 go_enter Tryz.func51, Tryz.ntmps51
 go_wp2_with (first | ((refine Z5 _ _ 22 22 rfl ?_); refine Zp (K := [_, _]) (R := []) (M := []) hp _ _ _ _ rfl wy 31 i0 _ 11 88 Tryz.underlying22 hi0 hz0 hz1 hz2 rfl _ _ _ (za rfl) (zD.nil _ _ _) _ (za rfl) rs.length _ (Src.ofRow Tryz.underlying22 (by decide) ra rs.length rc _ (by rw [ZH Zi 11 ZM]) (HA.out.below hp.below) (zfG _)) HS1.out HS2.out ?_; clear hp; intro v' R' w1 hR' hp; rw [Nat.zero_add, List.nil_append] at hR'; obtain ⟨a', c', rfl, _⟩ := hR'.kept; have HR' := z0j hR'; clear hR'; simp only [z0f, z0e, List.append_nil] at hp; simp only [zc, zb, z0b, z0a]) | go_skip | ((first | ((refine zg _ rfl ?_); refine lZ hp rfl zbD ?_; clear hp; intro b w1 hp) | ((refine zh _ _ rfl ?_); refine lB hp rfl (za rfl) rfl ?_; clear hp; intro b w1 hp) | ((refine zf _ _ rfl ?_); first | refine lO hp rfl (za rfl) (by with_reducible first | exact zq | exact zO) aa5 ?_ | refine lA hp rfl (za rfl) Zr aa5 ?_) | ((refine zd _ _ _ rfl ?_); (first | refine sO hp rfl (za rfl) (by with_reducible first | exact zq | exact zO) aa5 ?_ | refine sA hp rfl (za rfl) (za rfl) Zr aa5 ?_ | refine sG hp rfl (za rfl) (za rfl) Zr aa5 ?_); clear hp; intro w1 hp; simp only [spl, z0a, z0b] at hp)); simp only [zc, zb, z0b, z0a]))
 exact bodyPost_ret (ZI (rs := [.cell 2 33]) Tryz.results51 (.cell rfl (hp.loadAgg Zr at0 0 _ (by rfl) (by rfl)) .nil)) rfl ⟨a', c', R', rfl, HR'.out, hp.tail.tail⟩
def zfy (w : World) (R0 : List Blk) (xe : Value) (r : Int × Kv) (e : Ending) (w' : World) : Prop :=
 (r.1 = 0 → ∃ a n c R, e = .returned (.tuple #[.agg #[.int .i64 r.2.vw, .int .i64 r.2.nm, .int .i64 r.2.bs, .string r.2.im, .slice a n c], .int .i64 0]) ∧ r.2.es.length = n ∧ zaG (R0 ++ R) (fun w => zr w a (r.2.es.flatMap Zi)) ∧ Hp w.heap.size w w' R) ∧
 (r.1 ≠ 0 → e = .returned (.tuple #[xe, .int .i64 r.1]) ∧ Below w.heap.size w w')
theorem zau {w w' : World} {R0 : List Blk} {xe : Value} {c : Int} {x : Kv} (hc : c ≠ 0) (hb : Below w.heap.size w w') : zfy w R0 xe (c, x) (.returned (.tuple #[xe, .int .i64 c])) w' := ⟨fun h => absurd h hc, fun _ => ⟨rfl, hb⟩⟩
theorem zb3 {w w' : World} {R0 : List Blk} {xe : Value} {vw nm bs : Int} {im : ByteArray} {ea : Option Addr} {es : List Env} {ec : Nat} (a : Option Addr) (n c : Nat) (R : List Blk) (hn : es.length = n) (hk : zaG (R0 ++ R) (fun w => zr w a (es.flatMap Zi))) (hp : Hp w.heap.size w w' R) :
  zfy w R0 xe (0, ⟨vw, nm, bs, im, ea, es, ec⟩) (.returned (.tuple #[.agg #[.int .i64 vw, .int .i64 nm, .int .i64 bs, .string im, .slice a n c], .int .i64 0])) w' := ⟨fun _ => ⟨a, n, c, R, rfl, hn, hk, hp⟩, fun h => absurd rfl h⟩
theorem zr.entTake {w : World} {a : Option Addr} {es : List Env} (h : zr w a (es.flatMap Zi)) (k : Nat) : zr w a ((es.take k).flatMap Zi) := by
 intro j v hj
 refine h j v ?_
 rw [← zfF] at hj
 obtain ⟨h1, h2⟩ := List.getElem?_eq_some_iff.1 hj
 rw [List.getElem_take] at h2
 rw [List.length_take] at h1
 rw [List.getElem?_eq_getElem (by omega), h2]
theorem zjP (vw nm bs : Int) (im : ByteArray) (ea : Option Addr) (es : List Env) (ec : Nat) (rv rf rn : Int) (rim : ByteArray) (nu vi cl sq kk hh ii nn cc vv tt : Int) (ra : Option Addr) (rs : List Env) (rc : Nat) {R0 : List Blk} (hk0 : zaG R0 fun w => zr w ea (es.flatMap Zi)) (hec : es.length ≤ ec) (hes : es.length ≤ 1500) (hrs : rs.length ≤ 1500) (hb0 : 0 ≤ bs) (hb9 : bs ≤ 900000000) (kd : Int) (hkd : kd = 1) (w : World) (ha : zr w ea (es.flatMap Zi)) (hra : zr w ra (rs.flatMap Zi)) : Calls Tryz.prog 129 #[.agg #[.int .i64 vw, .int .i64 nm, .int .i64 bs, .string im, .slice ea es.length ec], .agg #[.int .i64 kd, .int .i64 rv, .int .i64 rf, .int .i64 rn, .string rim, .int .i64 nu, .int .i64 vi, .int .i64 cl, .int .i64 sq, .int .i64 kk, .int .i64 hh, .int .i64 ii, .int .i64 nn, .int .i64 cc, .int .i64 vv, .int .i64 tt, .slice ra rs.length rc]] w (zfy w R0 (.agg #[.int .i64 vw, .int .i64 nm, .int .i64 bs, .string im, .slice ea es.length ec]) (Zf ⟨vw, nm, bs, im, ea, es, ec⟩ ⟨kd, rv, rf, rn, rim, ⟨nu, vi, cl, sq, ⟨kk, hh, ii, nn, cc, vv, tt⟩⟩, ra, rs, rc⟩)) := by
 subst hkd
 have hp := Hp.start w; have HA := z0j ha; have HRA := z0j hra; have HK0 := z0j hk0; have HRL : Hid (rs.length ≤ 100000) := z0j (by omega); have HEL : Hid (es.length ≤ 100000) := z0j (by omega); have HLS : Hid (wrap64 (bs + es.length) = bs + es.length) := z0j (by unfold wrap64; omega)
 by_cases h1 : rv < vw
 ·have hf : Zf ⟨vw, nm, bs, im, ea, es, ec⟩ ⟨1, rv, rf, rn, rim, ⟨nu, vi, cl, sq, ⟨kk, hh, ii, nn, cc, vv, tt⟩⟩, ra, rs, rc⟩ = (141, ⟨vw, nm, bs, im, ea, es, ec⟩) := by unfold Zf; simp [h1]
  rw [hf]
  have e1 : decide (rv < vw) = true := by simpa using h1
  clear h1 hf hec hes hrs ha hra hk0 hb0 hb9
  go_enter Tryz.func129, Tryz.ntmps129
  go_wp2_with (first | (go_at_call 93; (with_reducible refine (Zs vw nm bs im _ _ _ _ HLS.out _).mono ?_); rintro e w1 ⟨rfl, hb⟩; replace hp := hp.call hb; clear hb) | go_skip | ((first | ((refine zg _ rfl ?_); refine lZ hp rfl zW ?_; clear hp; intro b w1 hp) | ((refine zh _ _ rfl ?_); refine lB hp rfl (za rfl) rfl ?_; clear hp; intro b w1 hp) | ((refine zf _ _ rfl ?_); first | refine lO hp rfl (za rfl) zd4 aa5 ?_ | refine lA hp rfl (za rfl) zcr aa5 ?_) | ((refine zd _ _ _ rfl ?_); (first | refine sO hp rfl (za rfl) zd4 aa5 ?_ | refine sA hp rfl (za rfl) (za rfl) zcr aa5 ?_ | refine sG hp rfl (za rfl) (za rfl) zcr aa5 ?_); clear hp; intro w1 hp; simp only [spl, z0a, z0b] at hp) | ((refine zi _ _ _ rfl ?_); refine lS hp rfl (by intro w; go_simp; rfl) ?_; clear hp; intro b w1 hp; simp only [z0g, z0h, Nat.reduceAdd] at hp)); simp only [zc, zb, z0b, z0a]))
  exact bodyPost_ret (zl (rs := [.cell 4 24, .tmp 5]) Tryz.results129 (.cell rfl (hp.loadAgg zF at0 0 _ (by rfl) (by rfl)) (.tmp rfl .nil))) rfl (zau (by decide) hp.below)
 ·have hf : Zf ⟨vw, nm, bs, im, ea, es, ec⟩ ⟨1, rv, rf, rn, rim, ⟨nu, vi, cl, sq, ⟨kk, hh, ii, nn, cc, vv, tt⟩⟩, ra, rs, rc⟩ = (0, ⟨rv, nm, bs, im, ea, es, ec⟩) := by unfold Zf; simp [h1]
  rw [hf]
  have e1 : decide (rv < vw) = false := by simpa using h1
  clear h1 hf hec hes hrs ha hra hk0 hb0 hb9
  go_enter Tryz.func129, Tryz.ntmps129
  go_wp2_with (first | (go_at_call 93; (with_reducible refine (Zs vw nm bs im _ _ _ _ HLS.out _).mono ?_); rintro e w1 ⟨rfl, hb⟩; replace hp := hp.call hb; clear hb) | go_skip | ((first | ((refine zg _ rfl ?_); refine lZ hp rfl zW ?_; clear hp; intro b w1 hp) | ((refine zh _ _ rfl ?_); refine lB hp rfl (za rfl) rfl ?_; clear hp; intro b w1 hp) | ((refine zf _ _ rfl ?_); first | refine lO hp rfl (za rfl) zd4 aa5 ?_ | refine lA hp rfl (za rfl) zcr aa5 ?_) | ((refine zd _ _ _ rfl ?_); (first | refine sO hp rfl (za rfl) zd4 aa5 ?_ | refine sA hp rfl (za rfl) (za rfl) zcr aa5 ?_ | refine sG hp rfl (za rfl) (za rfl) zcr aa5 ?_); clear hp; intro w1 hp; simp only [spl, z0a, z0b] at hp) | ((refine zi _ _ _ rfl ?_); refine lS hp rfl (by intro w; go_simp; rfl) ?_; clear hp; intro b w1 hp; simp only [z0g, z0h, Nat.reduceAdd] at hp)); simp only [zc, zb, z0b, z0a]))
  exact bodyPost_ret (zl (rs := [.cell 4 24, .tmp 5]) Tryz.results129 (.cell rfl (hp.loadAgg zF at0 0 _ (by rfl) (by rfl)) (.tmp rfl .nil))) rfl (zb3 ea _ ec [] rfl (by rw [List.append_nil]; exact HK0.out) (hp.sub (List.nil_sublist _)))
theorem ziq (vw nm bs : Int) (im : ByteArray) (ea : Option Addr) (es : List Env) (ec : Nat) (rv rf rn : Int) (rim : ByteArray) (nu vi cl sq kk hh ii nn cc vv tt : Int) (ra : Option Addr) (rs : List Env) (rc : Nat) {R0 : List Blk} (hk0 : zaG R0 fun w => zr w ea (es.flatMap Zi)) (hec : es.length ≤ ec) (hes : es.length ≤ 1500) (hrs : rs.length ≤ 1500) (hb0 : 0 ≤ bs) (hb9 : bs ≤ 900000000) (kd : Int) (hkd : kd = 2) (w : World) (ha : zr w ea (es.flatMap Zi)) (hra : zr w ra (rs.flatMap Zi)) : Calls Tryz.prog 129 #[.agg #[.int .i64 vw, .int .i64 nm, .int .i64 bs, .string im, .slice ea es.length ec], .agg #[.int .i64 kd, .int .i64 rv, .int .i64 rf, .int .i64 rn, .string rim, .int .i64 nu, .int .i64 vi, .int .i64 cl, .int .i64 sq, .int .i64 kk, .int .i64 hh, .int .i64 ii, .int .i64 nn, .int .i64 cc, .int .i64 vv, .int .i64 tt, .slice ra rs.length rc]] w (zfy w R0 (.agg #[.int .i64 vw, .int .i64 nm, .int .i64 bs, .string im, .slice ea es.length ec]) (Zf ⟨vw, nm, bs, im, ea, es, ec⟩ ⟨kd, rv, rf, rn, rim, ⟨nu, vi, cl, sq, ⟨kk, hh, ii, nn, cc, vv, tt⟩⟩, ra, rs, rc⟩)) := by
 subst hkd
 have hp := Hp.start w; have HA := z0j ha; have HRA := z0j hra; have HK0 := z0j hk0; have HRL : Hid (rs.length ≤ 100000) := z0j (by omega); have HEL : Hid (es.length ≤ 100000) := z0j (by omega); have HLS : Hid (wrap64 (bs + es.length) = bs + es.length) := z0j (by unfold wrap64; omega)
 have hfo : zc5 (bs + es.length) 0 [⟨nu, vi, cl, sq, ⟨kk, hh, ii, nn, cc, vv, tt⟩⟩] = decide (wrap64 (nu - 1) = bs + es.length) := by
  unfold zc5 zc5
  have : wrap64 (wrap64 (nu - 1) - ((0 : Nat) : Int)) = wrap64 (nu - 1) := by unfold wrap64; omega
  simp only [Bool.and_true]
  rw [this]
 by_cases h1 : wrap64 (nu - 1) = bs + es.length
 ·have hf : Zf ⟨vw, nm, bs, im, ea, es, ec⟩ ⟨2, rv, rf, rn, rim, ⟨nu, vi, cl, sq, ⟨kk, hh, ii, nn, cc, vv, tt⟩⟩, ra, rs, rc⟩ = (0, ⟨vw, nm, bs, im, ea, es ++ [⟨nu, vi, cl, sq, ⟨kk, hh, ii, nn, cc, vv, tt⟩⟩], ec⟩) := by unfold Zf zbb; simp [hfo, h1]
  rw [hf]
  have e1 : (wrap64 (nu - 1) != bs + (es.length : Int)) = false := by simpa using h1
  clear h1 hf hfo hec hes hrs ha hra hk0 hb0 hb9
  go_enter Tryz.func129, Tryz.ntmps129
  go_wp2_with (first | (go_at_call 93; (with_reducible refine (Zs vw nm bs im _ _ _ _ HLS.out _).mono ?_); rintro e w1 ⟨rfl, hb⟩; replace hp := hp.call hb; clear hb) | (go_at_call 193; (with_reducible refine (zcE es [⟨nu, vi, cl, sq, ⟨kk, hh, ii, nn, cc, vv, tt⟩⟩] ea _ es.length 1 ec 1 rfl rfl HEL.out (by decide) _ (HA.out.below hp.below) (zhk hp)).mono ?_); rintro e w1 ⟨aj, cj, RJ, rfl, hkj, hpn⟩; replace hp := hp.join hpn; have HKJ := z0j hkj; clear hpn hkj; simp only [z0f, z0e, z0i] at hp) | go_skip | ((first | ((refine zg _ rfl ?_); refine lZ hp rfl zW ?_; clear hp; intro b w1 hp) | ((refine zh _ _ rfl ?_); refine lB hp rfl (za rfl) rfl ?_; clear hp; intro b w1 hp) | ((refine zf _ _ rfl ?_); first | refine lO hp rfl (za rfl) zd4 aa5 ?_ | refine lA hp rfl (za rfl) zcr aa5 ?_) | ((refine zd _ _ _ rfl ?_); (first | refine sO hp rfl (za rfl) zd4 aa5 ?_ | refine sA hp rfl (za rfl) (za rfl) zcr aa5 ?_ | refine sG hp rfl (za rfl) (za rfl) zcr aa5 ?_); clear hp; intro w1 hp; simp only [spl, z0a, z0b] at hp) | ((refine zi _ _ _ rfl ?_); refine lS hp rfl (by intro w; go_simp; rfl) ?_; clear hp; intro b w1 hp; simp only [z0g, z0h, Nat.reduceAdd] at hp)); simp only [zc, zb, z0b, z0a]))
  exact bodyPost_ret (zl (rs := [.cell 4 24, .tmp 5]) Tryz.results129 (.cell rfl (hp.loadAgg zF at1 0 _ (by rfl) (by rfl)) (.tmp rfl .nil))) rfl (zb3 aj _ cj RJ (by rw [List.length_append]; rfl) (HKJ.out.mono (fun _ h => List.mem_append_right _ h) (fun _ h => h)) hp.kp)
 ·have hf : Zf ⟨vw, nm, bs, im, ea, es, ec⟩ ⟨2, rv, rf, rn, rim, ⟨nu, vi, cl, sq, ⟨kk, hh, ii, nn, cc, vv, tt⟩⟩, ra, rs, rc⟩ = (140, ⟨vw, nm, bs, im, ea, es, ec⟩) := by unfold Zf zbb; simp [hfo, h1]
  rw [hf]
  have e1 : (wrap64 (nu - 1) != bs + (es.length : Int)) = true := by simpa using h1
  clear h1 hf hfo hec hes hrs ha hra hk0 hb0 hb9
  go_enter Tryz.func129, Tryz.ntmps129
  go_wp2_with (first | (go_at_call 93; (with_reducible refine (Zs vw nm bs im _ _ _ _ HLS.out _).mono ?_); rintro e w1 ⟨rfl, hb⟩; replace hp := hp.call hb; clear hb) | go_skip | ((first | ((refine zg _ rfl ?_); refine lZ hp rfl zW ?_; clear hp; intro b w1 hp) | ((refine zh _ _ rfl ?_); refine lB hp rfl (za rfl) rfl ?_; clear hp; intro b w1 hp) | ((refine zf _ _ rfl ?_); first | refine lO hp rfl (za rfl) zd4 aa5 ?_ | refine lA hp rfl (za rfl) zcr aa5 ?_) | ((refine zd _ _ _ rfl ?_); (first | refine sO hp rfl (za rfl) zd4 aa5 ?_ | refine sA hp rfl (za rfl) (za rfl) zcr aa5 ?_ | refine sG hp rfl (za rfl) (za rfl) zcr aa5 ?_); clear hp; intro w1 hp; simp only [spl, z0a, z0b] at hp) | ((refine zi _ _ _ rfl ?_); refine lS hp rfl (by intro w; go_simp; rfl) ?_; clear hp; intro b w1 hp; simp only [z0g, z0h, Nat.reduceAdd] at hp)); simp only [zc, zb, z0b, z0a]))
  exact bodyPost_ret (zl (rs := [.cell 4 24, .tmp 5]) Tryz.results129 (.cell rfl (hp.loadAgg zF at0 0 _ (by rfl) (by rfl)) (.tmp rfl .nil))) rfl (zau (by decide) hp.below)
end Go.Proofs.YtaafajaadfgaoaaGreat

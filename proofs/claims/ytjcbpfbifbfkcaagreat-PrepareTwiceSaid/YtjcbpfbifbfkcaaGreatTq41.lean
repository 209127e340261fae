import Derived.Test.YtjcbpfbifbfkcaaGreatTq34
import Derived.Test.YtjcbpfbifbfkcaaGreatTq40
set_option linter.unusedSimpArgs false
set_option linter.unusedVariables false
set_option maxRecDepth 100000
set_option maxHeartbeats 60000000
namespace Go.Proofs.YtjcbpfbifbfkcaaGreat
open Go.RowKit
theorem zt8 {ty : TypeId} (h : zF Tryz.prog ty = true := by with_reducible first | exact zm | exact Zt | exact zat | exact Zf) : zF Tryz.prog ty = true := h
theorem ziu (od : Int) (oa : Option Addr) (os : List Ob) (oc : Nat) (nx t0 t1 t2 t3 : Int) (fa : Option Addr) (fs : List Bl) (fc : Nat) (ra : Option Addr) (rs : List Rw) (rc : Nat) (hsm : Sv.Sm ⟨⟨od, oa, os, oc, nx, t0, t1, t2, t3, fa, fs, fc⟩, ra, rs, rc⟩ ZL) (w : World) (hx : Sv.Is w ⟨⟨od, oa, os, oc, nx, t0, t1, t2, t3, fa, fs, fc⟩, ra, rs, rc⟩) : Calls Tryz.prog 39 #[.agg #[.int .i64 od, .slice oa os.length oc, .int .i64 nx, .int .i64 t0, .int .i64 t1, .int .i64 t2, .int .i64 t3, .slice fa fs.length fc, .slice ra rs.length rc], .agg #[.int .i64 0, .slice none 0 0, .int .i64 0, .int .i64 0, .int .i64 0, .int .i64 0, .int .i64 0, .slice none 0 0, .slice none 0 0]] w fun e w' => e = .returned (.bool true) ∧ Below w.heap.size w w' :=
 zgx od oa os oc nx t0 t1 t2 t3 fa fs fc ra rs rc 0 none [] 0 0 0 0 0 0 none [] 0 none [] 0 (zeH.sm hsm.symm) hsm w hx (ze7.at (Hp.start w) (fun p h => by cases h) |> fun h => ⟨h, zr.nil _ _⟩)
theorem zfc (od : Int) (oa : Option Addr) (os : List Ob) (oc : Nat) (nx t0 t1 t2 t3 : Int) (fa : Option Addr) (fs : List Bl) (fc : Nat) (ra : Option Addr) (rs : List Rw) (rc : Nat) (hst : od ≠ 0) (w : World) : Calls Tryz.prog 39 #[.agg #[.int .i64 od, .slice oa os.length oc, .int .i64 nx, .int .i64 t0, .int .i64 t1, .int .i64 t2, .int .i64 t3, .slice fa fs.length fc, .slice ra rs.length rc], .agg #[.int .i64 0, .slice none 0 0, .int .i64 0, .int .i64 0, .int .i64 0, .int .i64 0, .int .i64 0, .slice none 0 0, .slice none 0 0]] w fun e w' => e = .returned (.bool false) ∧ Below w.heap.size w w' :=
 zmn od oa os.length oc nx t0 t1 t2 t3 fa fs.length fc ra rs.length rc 0 none 0 0 0 0 0 0 0 none 0 0 none 0 0 hst w
theorem zjB {x y : Sv} (h : y.Sm x) (hx : StR x) : y.hv.od ≠ 0 := by
 have h1 := ze4 hx.hv
 have h2 := h.1.od
 omega
theorem zby {x : Sv} {l : List Env} (hx : StR x) (hm : ∀ e ∈ l, zbn e = true) : zaO x l = (za2 x l, zbu x l) := by unfold zaO; rw [if_pos ⟨zd2 hx, hm⟩]
theorem zgX {x : Sv} {l : List Env} (h : ¬ (stB x = true ∧ ∀ e ∈ l, zbn e = true)) : zaO x l = (ZL, []) := by unfold zaO; rw [if_neg h]
theorem zkJ {x : Sv} (h : x.Sm ZL) (l : List Env) : zaO x l = (ZL, []) := zgX fun hh => by rw [zea h, zoo] at hh; cases hh.1
def znK (l : List Env) (i : Nat) : Prop := ∀ (a b : Nat) x y, b < a → a < i → l[a]? = some x → l[b]? = some y → x.cl ≠ y.cl
theorem zh3 {l : List Env} (h : znK l l.length) : l.Pairwise (fun a b => a.cl ≠ b.cl) := by
 rw [List.pairwise_iff_getElem]
 intro i j hi hj hij he
 exact h j i _ _ hij hj (List.getElem?_eq_getElem hj) (List.getElem?_eq_getElem hi) he.symm
theorem zif {x : Sv} {l : List Env} (hx : StR x) (hm : ∀ e ∈ l, zbn e = true) (hd : l.Pairwise (fun a b => a.cl ≠ b.cl)) {y z : Sv} (hy : y.Sm (za2 x l)) (hz : z.Sm (zaO y l).1) : y.Sm z ∧ zaO y l = (za2 y l, zbu x l) := by
 have hr := zbC hx hm
 have hyr : StR y := zdh ((zea hy).trans (zd2 hr))
 have h1 := zir hx hm hd
 have e1 : zaO y l = (za2 y l, zbu x l) := by rw [zby hyr hm, zj4 hy, h1.2]
 rw [e1] at hz
 have h2 := zke (l := l) hy
 rw [h1.1] at h2
 exact ⟨hy.trans (hz.trans h2).symm, e1⟩
theorem ztx (id vw : Int) (od : Int) (oa : Option Addr) (os : List Ob) (oc : Nat) (nx t0 t1 t2 t3 : Int) (fa : Option Addr) (fs : List Bl) (fc : Nat) (ra : Option Addr) (rs : List Rw) (rc : Nat) (la : Option Addr) (l : List Env) (lc : Nat) (w : World) (hx0 : Sv.Is w ⟨⟨od, oa, os, oc, nx, t0, t1, t2, t3, fa, fs, fc⟩, ra, rs, rc⟩) (hla : zr w la (l.flatMap ZI)) : Calls Tryz.prog 12 #[.int .i64 id, .int .i64 vw, .agg #[.int .i64 od, .slice oa os.length oc, .int .i64 nx, .int .i64 t0, .int .i64 t1, .int .i64 t2, .int .i64 t3, .slice fa fs.length fc, .slice ra rs.length rc], .slice la l.length lc] w fun e w' => e = .returned (.bool true) ∧ Below w.heap.size w w' := by
 have hp := Hp.start w
 have HIS := z0j hx0
 have HLA := z0j hla
 clear hx0 hla
 by_cases hl3 : 300 < l.length
 ·have e1 : decide ((300 : Int) < (l.length : Int)) = true := by simp; omega
  go_enter Tryz.func12, Tryz.ntmps12
  go_wp2_with (first | (go_at_call 32; (with_reducible refine (zf5 od oa os oc nx t0 t1 t2 t3 fa fs fc ra rs rc _ (HIS.out.below hp.below)).mono ?_); rintro e w1 ⟨bb, rfl, hbb, hb⟩; replace hp := hp.call hb; clear hb; cases bb) | go_skip | ((first | ((refine zf _ rfl ?_); refine lZ hp rfl zN ?_; clear hp; intro b w1 hp) | ((refine zi _ _ rfl ?_); refine lB hp rfl (za rfl) rfl ?_; clear hp; intro b w1 hp) | ((refine ze _ _ rfl ?_); first | refine lO hp rfl (za rfl) zm zn ?_ | first | refine lRO hp rfl (za rfl) zm (HX.out 0 _ rfl) ?_ | first | refine lRO hp rfl (za rfl) zm (HY.out 0 _ rfl) ?_ | refine lA hp rfl (za rfl) zy zn ?_ | refine lR hp rfl (za rfl) zy HX.out ?_ | refine lR hp rfl (za rfl) zy HY.out ?_) | ((refine zd _ _ _ rfl ?_); (first | refine sA hp rfl (za rfl) (za rfl) zy zn ?_ | refine sG hp rfl (za rfl) (za rfl) zy zn ?_); clear hp; intro w1 hp; simp only [spl, z0a, z0b] at hp)); simp only [zc, zb, z0b, z0a]))
  all_goals
   go_wp2_with (first | go_skip | ((first | ((refine zf _ rfl ?_); refine lZ hp rfl zN ?_; clear hp; intro b w1 hp) | ((refine zi _ _ rfl ?_); refine lB hp rfl (za rfl) rfl ?_; clear hp; intro b w1 hp) | ((refine ze _ _ rfl ?_); first | refine lO hp rfl (za rfl) zm zn ?_ | first | refine lRO hp rfl (za rfl) zm (HX.out 0 _ rfl) ?_ | first | refine lRO hp rfl (za rfl) zm (HY.out 0 _ rfl) ?_ | refine lA hp rfl (za rfl) zy zn ?_ | refine lR hp rfl (za rfl) zy HX.out ?_ | refine lR hp rfl (za rfl) zy HY.out ?_) | ((refine zd _ _ _ rfl ?_); (first | refine sA hp rfl (za rfl) (za rfl) zy zn ?_ | refine sG hp rfl (za rfl) (za rfl) zy zn ?_); clear hp; intro w1 hp; simp only [spl, z0a, z0b] at hp)); simp only [zc, zb, z0b, z0a]))
   go_ret
   exact ⟨rfl, hp.below⟩
 ·have e1 : decide ((300 : Int) < (l.length : Int)) = false := by simp; omega
  have HL : Hid (l.length ≤ 100000) := z0j (by omega)
  go_enter Tryz.func12, Tryz.ntmps12
  go_wp2_with (first | (go_at_call 32; (with_reducible refine (zf5 od oa os oc nx t0 t1 t2 t3 fa fs fc ra rs rc _ (HIS.out.below hp.below)).mono ?_); rintro e w1 ⟨bb, rfl, hbb, hb⟩; replace hp := hp.call hb; clear hb; cases bb) | go_skip | ((first | ((refine zf _ rfl ?_); refine lZ hp rfl zN ?_; clear hp; intro b w1 hp) | ((refine zi _ _ rfl ?_); refine lB hp rfl (za rfl) rfl ?_; clear hp; intro b w1 hp) | ((refine ze _ _ rfl ?_); first | refine lO hp rfl (za rfl) zm zn ?_ | first | refine lRO hp rfl (za rfl) zm (HX.out 0 _ rfl) ?_ | first | refine lRO hp rfl (za rfl) zm (HY.out 0 _ rfl) ?_ | refine lA hp rfl (za rfl) zy zn ?_ | refine lR hp rfl (za rfl) zy HX.out ?_ | refine lR hp rfl (za rfl) zy HY.out ?_) | ((refine zd _ _ _ rfl ?_); (first | refine sA hp rfl (za rfl) (za rfl) zy zn ?_ | refine sG hp rfl (za rfl) (za rfl) zy zn ?_); clear hp; intro w1 hp; simp only [spl, z0a, z0b] at hp)); simp only [zc, zb, z0b, z0a]))
  ·have HSS := z0j (hbb (by first | rfl | trivial))
   clear hbb
   go_wp2_with (first | go_skip | ((first | ((refine zf _ rfl ?_); refine lZ hp rfl zN ?_; clear hp; intro b w1 hp) | ((refine zi _ _ rfl ?_); refine lB hp rfl (za rfl) rfl ?_; clear hp; intro b w1 hp) | ((refine ze _ _ rfl ?_); first | refine lO hp rfl (za rfl) zm zn ?_ | first | refine lRO hp rfl (za rfl) zm (HX.out 0 _ rfl) ?_ | first | refine lRO hp rfl (za rfl) zm (HY.out 0 _ rfl) ?_ | refine lA hp rfl (za rfl) zy zn ?_ | refine lR hp rfl (za rfl) zy HX.out ?_ | refine lR hp rfl (za rfl) zy HY.out ?_) | ((refine zd _ _ _ rfl ?_); (first | refine sA hp rfl (za rfl) (za rfl) zy zn ?_ | refine sG hp rfl (za rfl) (za rfl) zy zn ?_); clear hp; intro w1 hp; simp only [spl, z0a, z0b] at hp)); simp only [zc, zb, z0b, z0a]))
   obtain ⟨b6, hb6⟩ := hp.id0
   subst hb6
   go_loopg [9] l.length (fun k i wr => ∃ j : Nat, k + j = l.length ∧ i = .int .i64 j ∧ Hid (znK l j) ∧ Hp w.heap.size w wr [⟨b6, [.int .i64 od, .slice oa os.length oc, .int .i64 nx, .int .i64 t0, .int .i64 t1, .int .i64 t2, .int .i64 t3, .slice fa fs.length fc, .slice ra rs.length rc], 67, 9⟩])
   case atStart => exact ⟨0, by omega, rfl, z0j (fun a b x y h1 h2 => by omega), hp⟩
   case round =>
    clear hp
    obtain ⟨j, hkj, rfl, HD, hp⟩ := hrel
    by_cases hlt : j < l.length
    ·have f1 : (0 : Int) ≤ (j : Int) := by omega
     have f2 : (j : Int) < (l.length : Int) := by omega
     obtain ⟨bq, off, rfl, hx⟩ := HLA.out.elems 11 Z8 (by omega) (by omega)
     have hj := List.getElem?_eq_getElem hlt
     have hx1 := hx j _ hj
     obtain ⟨en, hen⟩ : ∃ en, l[j] = en := ⟨_, rfl⟩
     rw [hen] at hx1 hj
     have HJ := z0j hj
     have HXX := z0j hx
     obtain ⟨nu, vi, cl, sq, ⟨kk, hh, ii, nn, cc, vv, tt⟩⟩ := en
     simp only [ZI, opL, z0f, z0e] at hx1
     have HX := z0j hx1
     clear hx hx1 hj hen
     go_wp2_with (first | go_skip | ((first | ((refine zf _ rfl ?_); refine lZ hp rfl zN ?_; clear hp; intro b w1 hp) | ((refine zi _ _ rfl ?_); refine lB hp rfl (za rfl) rfl ?_; clear hp; intro b w1 hp) | ((refine ze _ _ rfl ?_); first | refine lO hp rfl (za rfl) zm zn ?_ | first | refine lRO hp rfl (za rfl) zm (HX.out 0 _ rfl) ?_ | first | refine lRO hp rfl (za rfl) zm (HY.out 0 _ rfl) ?_ | refine lA hp rfl (za rfl) zy zn ?_ | refine lR hp rfl (za rfl) zy HX.out ?_ | refine lR hp rfl (za rfl) zy HY.out ?_) | ((refine zd _ _ _ rfl ?_); (first | refine sA hp rfl (za rfl) (za rfl) zy zn ?_ | refine sG hp rfl (za rfl) (za rfl) zy zn ?_); clear hp; intro w1 hp; simp only [spl, z0a, z0b] at hp)); simp only [zc, zb, z0b, z0a]))
     go_loopg [10] j (fun k2 i2 wr2 => ∃ q : Nat, k2 + q = j ∧ i2 = .int .i64 q ∧ Hid (∀ (b : Nat) y, b < q → l[b]? = some y → cl ≠ y.cl) ∧ Hp w.heap.size w wr2 [⟨b6, [.int .i64 od, .slice oa os.length oc, .int .i64 nx, .int .i64 t0, .int .i64 t1, .int .i64 t2, .int .i64 t3, .slice fa fs.length fc, .slice ra rs.length rc], 67, 9⟩])
     case atStart => exact ⟨0, by omega, rfl, z0j (fun b y h => by omega), hp⟩
     case round =>
      clear hp
      obtain ⟨q, hkq, rfl, HQ, hp⟩ := hrel
      by_cases hlq : q < j
      ·have g1 : (0 : Int) ≤ (q : Int) := by omega
       have g2 : (q : Int) < (j : Int) := by omega
       have g3 : (q : Int) < (l.length : Int) := by omega
       have hq := List.getElem?_eq_getElem (l := l) (i := q) (by omega)
       have hy1 := HXX.out q _ hq
       obtain ⟨en2, hen2⟩ : ∃ en, l[q]'(by omega) = en := ⟨_, rfl⟩
       rw [hen2] at hy1 hq
       have HJQ := z0j hq
       obtain ⟨nu2, vi2, cl2, sq2, ⟨kk2, hh2, ii2, nn2, cc2, vv2, tt2⟩⟩ := en2
       simp only [ZI, opL, z0f, z0e] at hy1
       have HY := z0j hy1
       clear hy1 hq hen2
       by_cases hcl : cl = cl2
       ·subst hcl
        clear HQ HD
        go_wp2_with (first | go_skip | ((first | ((refine zf _ rfl ?_); refine lZ hp rfl zN ?_; clear hp; intro b w1 hp) | ((refine zi _ _ rfl ?_); refine lB hp rfl (za rfl) rfl ?_; clear hp; intro b w1 hp) | ((refine ze _ _ rfl ?_); first | refine lO hp rfl (za rfl) zm zn ?_ | first | refine lRO hp rfl (za rfl) zm (HX.out 0 _ rfl) ?_ | first | refine lRO hp rfl (za rfl) zm (HY.out 0 _ rfl) ?_ | refine lA hp rfl (za rfl) zy zn ?_ | refine lR hp rfl (za rfl) zy HX.out ?_ | refine lR hp rfl (za rfl) zy HY.out ?_) | ((refine zd _ _ _ rfl ?_); (first | refine sA hp rfl (za rfl) (za rfl) zy zn ?_ | refine sG hp rfl (za rfl) (za rfl) zy zn ?_); clear hp; intro w1 hp; simp only [spl, z0a, z0b] at hp)); simp only [zc, zb, z0b, z0a]))
        refine zh _ (zv.all hp.drew) [] [(0, true), (1, true), (2, true), (3, true), (4, true), (5, true), (6, true), (7, true), (8, true), (9, true), (10, true)] (by kernel_rfl) (by kernel_rfl) rfl (by kernel_rfl) (fun _ _ d _ _ h => by cases d <;> exact h) ?_
        replace hp := hp.drew
        repeat' (with_reducible refine zx ?_); first | (with_reducible refine zq ?_) | ((with_reducible refine zE ?_); refine zu rfl ?_; (first | ((with_reducible refine zT _ rfl ?_); refine tM rfl ?_) | ((with_reducible refine zW _ _ rfl ?_); first | refine tO rfl (za rfl) zm aa5 ?_ | refine tRO rfl (za rfl) zm (HX.out 0 _ rfl) ?_ | refine tRO rfl (za rfl) zm (HX.out 1 _ rfl) ?_ | refine tRO rfl (za rfl) zm (HX.out 2 _ rfl) ?_ | refine tRO rfl (za rfl) zm (HY.out 0 _ rfl) ?_ | refine tRO rfl (za rfl) zm (HY.out 1 _ rfl) ?_ | refine tRO rfl (za rfl) zm (HY.out 2 _ rfl) ?_) | refine tG (fun w _ => (by go_simp; try rfl)) ?_); try simp only [zc, zb, zj, zg, z0b, z0a, z0d, z0c, zl])
        go_wp2_with (first | (go_at_call 48; (with_reducible refine (zaE _).mono ?_); rintro e w1 ⟨rfl, hb⟩; replace hp := hp.call hb; clear hb) | go_skip | ((first | ((refine zf _ rfl ?_); refine lZ hp rfl zN ?_; clear hp; intro b w1 hp) | ((refine zi _ _ rfl ?_); refine lB hp rfl (za rfl) rfl ?_; clear hp; intro b w1 hp) | ((refine ze _ _ rfl ?_); first | refine lO hp rfl (za rfl) zm zn ?_ | first | refine lRO hp rfl (za rfl) zm (HX.out 0 _ rfl) ?_ | first | refine lRO hp rfl (za rfl) zm (HY.out 0 _ rfl) ?_ | refine lA hp rfl (za rfl) zy zn ?_ | refine lR hp rfl (za rfl) zy HX.out ?_ | refine lR hp rfl (za rfl) zy HY.out ?_) | ((refine zd _ _ _ rfl ?_); (first | refine sA hp rfl (za rfl) (za rfl) zy zn ?_ | refine sG hp rfl (za rfl) (za rfl) zy zn ?_); clear hp; intro w1 hp; simp only [spl, z0a, z0b] at hp)); simp only [zc, zb, z0b, z0a]))
        (go_ret; exact ⟨rfl, hp.below⟩)
       ·have e3 : (cl == cl2) = false := by simpa using hcl
        have HQ2 : Hid (∀ (b : Nat) y, b < q + 1 → l[b]? = some y → cl ≠ y.cl) := z0j (fun b y hb hy => by
         rcases Nat.lt_or_ge b q with h1 | h1
         ·exact HQ.out b y h1 hy
         ·obtain rfl : b = q := by omega
          rw [HJQ.out] at hy
          injection hy with hy
          subst hy; exact hcl)
        clear HQ
        go_wp2_with (first | go_skip | ((first | ((refine zf _ rfl ?_); refine lZ hp rfl zN ?_; clear hp; intro b w1 hp) | ((refine zi _ _ rfl ?_); refine lB hp rfl (za rfl) rfl ?_; clear hp; intro b w1 hp) | ((refine ze _ _ rfl ?_); first | refine lO hp rfl (za rfl) zm zn ?_ | first | refine lRO hp rfl (za rfl) zm (HX.out 0 _ rfl) ?_ | first | refine lRO hp rfl (za rfl) zm (HY.out 0 _ rfl) ?_ | refine lA hp rfl (za rfl) zy zn ?_ | refine lR hp rfl (za rfl) zy HX.out ?_ | refine lR hp rfl (za rfl) zy HY.out ?_) | ((refine zd _ _ _ rfl ?_); (first | refine sA hp rfl (za rfl) (za rfl) zy zn ?_ | refine sG hp rfl (za rfl) (za rfl) zy zn ?_); clear hp; intro w1 hp; simp only [spl, z0a, z0b] at hp)); simp only [zc, zb, z0b, z0a]))
        refine zh _ (zv.all hp.drew) [] [(0, true), (1, true), (2, true), (3, true), (4, true), (5, true), (6, true), (7, true), (8, true), (9, true), (10, true)] (by kernel_rfl) (by kernel_rfl) rfl (by kernel_rfl) (fun _ _ d _ _ h => by cases d <;> exact h) ?_
        replace hp := hp.drew
        repeat' (with_reducible refine zx ?_); first | (with_reducible refine zq ?_) | ((with_reducible refine zE ?_); refine zu rfl ?_; (first | ((with_reducible refine zT _ rfl ?_); refine tM rfl ?_) | ((with_reducible refine zW _ _ rfl ?_); first | refine tO rfl (za rfl) zm aa5 ?_ | refine tRO rfl (za rfl) zm (HX.out 0 _ rfl) ?_ | refine tRO rfl (za rfl) zm (HX.out 1 _ rfl) ?_ | refine tRO rfl (za rfl) zm (HX.out 2 _ rfl) ?_ | refine tRO rfl (za rfl) zm (HY.out 0 _ rfl) ?_ | refine tRO rfl (za rfl) zm (HY.out 1 _ rfl) ?_ | refine tRO rfl (za rfl) zm (HY.out 2 _ rfl) ?_) | refine tG (fun w _ => (by go_simp; try rfl)) ?_); try simp only [zc, zb, zj, zg, z0b, z0a, z0d, z0c, zl])
        go_wp2_with (first | go_skip | ((first | ((refine zf _ rfl ?_); refine lZ hp rfl zN ?_; clear hp; intro b w1 hp) | ((refine zi _ _ rfl ?_); refine lB hp rfl (za rfl) rfl ?_; clear hp; intro b w1 hp) | ((refine ze _ _ rfl ?_); first | refine lO hp rfl (za rfl) zm zn ?_ | first | refine lRO hp rfl (za rfl) zm (HX.out 0 _ rfl) ?_ | first | refine lRO hp rfl (za rfl) zm (HY.out 0 _ rfl) ?_ | refine lA hp rfl (za rfl) zy zn ?_ | refine lR hp rfl (za rfl) zy HX.out ?_ | refine lR hp rfl (za rfl) zy HY.out ?_) | ((refine zd _ _ _ rfl ?_); (first | refine sA hp rfl (za rfl) (za rfl) zy zn ?_ | refine sG hp rfl (za rfl) (za rfl) zy zn ?_); clear hp; intro w1 hp; simp only [spl, z0a, z0b] at hp)); simp only [zc, zb, z0b, z0a]))
        go_roundg (gk - 1)
        case measure => omega
        case rel => exact ⟨q + 1, by omega, by go_num, HQ2, hp⟩
      ·obtain rfl : q = j := by omega
       have HD2 : Hid (znK l (q + 1)) := z0j (fun a b x y hb ha hx hy => by
        rcases Nat.lt_or_ge a q with h1 | h1
        ·exact HD.out a b x y hb h1 hx hy
        ·obtain rfl : a = q := by omega
         rw [HJ.out] at hx
         injection hx with hx
         subst hx
         exact HQ.out b y hb hy)
       have g2 : decide ((q : Int) < (q : Int)) = false := by simp
       clear HQ HD hkq hlq
       go_wp2_with (first | go_skip | ((first | ((refine zf _ rfl ?_); refine lZ hp rfl zN ?_; clear hp; intro b w1 hp) | ((refine zi _ _ rfl ?_); refine lB hp rfl (za rfl) rfl ?_; clear hp; intro b w1 hp) | ((refine ze _ _ rfl ?_); first | refine lO hp rfl (za rfl) zm zn ?_ | first | refine lRO hp rfl (za rfl) zm (HX.out 0 _ rfl) ?_ | first | refine lRO hp rfl (za rfl) zm (HY.out 0 _ rfl) ?_ | refine lA hp rfl (za rfl) zy zn ?_ | refine lR hp rfl (za rfl) zy HX.out ?_ | refine lR hp rfl (za rfl) zy HY.out ?_) | ((refine zd _ _ _ rfl ?_); (first | refine sA hp rfl (za rfl) (za rfl) zy zn ?_ | refine sG hp rfl (za rfl) (za rfl) zy zn ?_); clear hp; intro w1 hp; simp only [spl, z0a, z0b] at hp)); simp only [zc, zb, z0b, z0a]))
       go_roundg (l.length - q - 1)
       case measure => omega
       case rel => exact ⟨q + 1, by omega, by go_num, HD2, hp⟩
    ·obtain rfl : j = l.length := by omega
     have f2 : decide ((l.length : Int) < (l.length : Int)) = false := by simp
     clear hkj hlt
     by_cases hyes : stB ⟨⟨od, oa, os, oc, nx, t0, t1, t2, t3, fa, fs, fc⟩, ra, rs, rc⟩ = true ∧ ∀ e ∈ l, zbn e = true
     ·have hst := zdh hyes.1
      have HR1 : Hid (zaO ⟨⟨od, oa, os, oc, nx, t0, t1, t2, t3, fa, fs, fc⟩, ra, rs, rc⟩ l = (za2 ⟨⟨od, oa, os, oc, nx, t0, t1, t2, t3, fa, fs, fc⟩, ra, rs, rc⟩ l, zbu ⟨⟨od, oa, os, oc, nx, t0, t1, t2, t3, fa, fs, fc⟩, ra, rs, rc⟩ l)) := z0j (zby hst hyes.2)
      have hrr := zbC hst hyes.2
      have HSX : Hid (∀ y : Sv, y.Sm (za2 ⟨⟨od, oa, os, oc, nx, t0, t1, t2, t3, fa, fs, fc⟩, ra, rs, rc⟩ l) → y.Small) := z0j (fun y h => hrr.small.sm h.symm)
      have HOD : Hid (∀ y : Sv, y.Sm (za2 ⟨⟨od, oa, os, oc, nx, t0, t1, t2, t3, fa, fs, fc⟩, ra, rs, rc⟩ l) → y.hv.od ≠ 0) := z0j (fun y h => zjB h hrr)
      have HR2 : Hid (∀ y : Sv, y.Sm (za2 ⟨⟨od, oa, os, oc, nx, t0, t1, t2, t3, fa, fs, fc⟩, ra, rs, rc⟩ l) → zaO y l = (za2 y l, zbu ⟨⟨od, oa, os, oc, nx, t0, t1, t2, t3, fa, fs, fc⟩, ra, rs, rc⟩ l)) := z0j (fun y h => (zif hst hyes.2 (zh3 HD.out) h (z := (zaO y l).1) ⟨Hv.Sm.refl _, rfl⟩).2)
      have HXZ : Hid (∀ y z : Sv, y.Sm (za2 ⟨⟨od, oa, os, oc, nx, t0, t1, t2, t3, fa, fs, fc⟩, ra, rs, rc⟩ l) → z.Sm (za2 y l) → y.Sm z) := z0j (fun y z h h2 => (zif hst hyes.2 (zh3 HD.out) h (z := z) (by rw [HR2.out y h]; exact h2)).1)
      have HOL : Hid ((zbu ⟨⟨od, oa, os, oc, nx, t0, t1, t2, t3, fa, fs, fc⟩, ra, rs, rc⟩ l).length ≤ 100000) := z0j (by have := zeZ l ⟨⟨od, oa, os, oc, nx, t0, t1, t2, t3, fa, fs, fc⟩, ra, rs, rc⟩; have := HL.out; omega)
      clear hyes hst hrr HD
      go_wp2_with (first | (go_at_call 49; (with_reducible refine (zcT id vw od oa os oc nx t0 t1 t2 t3 fa fs fc ra rs rc la l lc HSS.out HL.out _ (HIS.out.below hp.below) (HLA.out.below hp.below) _ HR1.out).mono ?_); rintro e w1 ⟨⟨⟨odX, oaX, osX, ocX, nxX, t0X, t1X, t2X, t3X, faX, fsX, fcX⟩, raX, rsX, rcX⟩, vX, ROX, RX, rfl, hyX, hkX, hoX, hpX⟩; obtain ⟨amX, cmX, rfl, hmX⟩ := hoX.kept; replace hp := hp.join hpX; have HYX := z0j hyX; have HKX := z0j hkX; have HMX := z0j hmX; clear hpX hyX hkX hoX hmX; simp only [svL, hvL, z0f, z0e, z0i] at hp ⊢) | (go_at_call 49; (with_reducible refine (zcT id vw odX oaX osX ocX nxX t0X t1X t2X t3X faX fsX fcX raX rsX rcX la l lc (HSX.out _ HYX.out) HL.out _ (HKX.out.at hp (fun p hm => by simp [hm])) (HLA.out.below hp.below) _ (HR2.out _ HYX.out)).mono ?_); rintro e w1 ⟨⟨⟨odZ, oaZ, osZ, ocZ, nxZ, t0Z, t1Z, t2Z, t3Z, faZ, fsZ, fcZ⟩, raZ, rsZ, rcZ⟩, vZ, ROZ, RZ, rfl, hyZ, hkZ, hoZ, hpZ⟩; obtain ⟨amZ, cmZ, rfl, hmZ⟩ := hoZ.kept; replace hp := hp.join hpZ; have HYZ := z0j hyZ; have HKZ := z0j hkZ; have HMZ := z0j hmZ; clear hpZ hyZ hkZ hoZ hmZ; simp only [svL, hvL, z0f, z0e, z0i] at hp ⊢) | (go_at_call 48; (with_reducible refine (zaE _).mono ?_); rintro e w1 ⟨rfl, hb⟩; replace hp := hp.call hb; clear hb) | (go_at_call 39; (with_reducible refine (zfc odX oaX osX ocX nxX t0X t1X t2X t3X faX fsX fcX raX rsX rcX (HOD.out _ HYX.out) _).mono ?_); rintro e w1 ⟨rfl, hb⟩; replace hp := hp.call hb; clear hb) | (go_at_call 39; (with_reducible refine (zgx odX oaX osX ocX nxX t0X t1X t2X t3X faX fsX fcX raX rsX rcX odZ oaZ osZ ocZ nxZ t0Z t1Z t2Z t3Z faZ fsZ fcZ raZ rsZ rcZ (HSX.out _ HYX.out) (HXZ.out _ _ HYX.out HYZ.out) _ (HKX.out.at hp (fun p hm => by simp [hm])) (HKZ.out.at hp (fun p hm => by simp [hm]))).mono ?_); rintro e w1 ⟨rfl, hb⟩; replace hp := hp.call hb; clear hb) | (go_at_call 50; (with_reducible refine (ziQ id vw _ _ _ _ _ _ rfl HOL.out _ (HMX.out.at hp (fun p hm => by simp [hm])) (HMZ.out.at hp (fun p hm => by simp [hm]))).mono ?_); rintro e w1 ⟨rfl, hb⟩; replace hp := hp.call hb; clear hb) | go_skip | ((first | ((refine zf _ rfl ?_); refine lZ hp rfl zN ?_; clear hp; intro b w1 hp) | ((refine zi _ _ rfl ?_); refine lB hp rfl (za rfl) rfl ?_; clear hp; intro b w1 hp) | ((refine ze _ _ rfl ?_); first | refine lO hp rfl (za rfl) zm zn ?_ | first | refine lRO hp rfl (za rfl) zm (HX.out 0 _ rfl) ?_ | first | refine lRO hp rfl (za rfl) zm (HY.out 0 _ rfl) ?_ | refine lA hp rfl (za rfl) zy zn ?_ | refine lR hp rfl (za rfl) zy HX.out ?_ | refine lR hp rfl (za rfl) zy HY.out ?_) | ((refine zd _ _ _ rfl ?_); (first | refine sA hp rfl (za rfl) (za rfl) zy zn ?_ | refine sG hp rfl (za rfl) (za rfl) zy zn ?_); clear hp; intro w1 hp; simp only [spl, z0a, z0b] at hp)); simp only [zc, zb, z0b, z0a]))
      (go_ret; exact ⟨rfl, hp.below⟩)
     ·have HR1 : Hid (zaO ⟨⟨od, oa, os, oc, nx, t0, t1, t2, t3, fa, fs, fc⟩, ra, rs, rc⟩ l = (ZL, [])) := z0j (zgX hyes)
      have HSX : Hid (∀ y : Sv, y.Sm ZL → y.Small) := z0j (fun y h => zeH.sm h.symm)
      have HR2 : Hid (∀ y : Sv, y.Sm ZL → zaO y l = (ZL, [])) := z0j (fun y h => zkJ h l)
      clear hyes HD
      go_wp2_with (first | (go_at_call 49; (with_reducible refine (zcT id vw od oa os oc nx t0 t1 t2 t3 fa fs fc ra rs rc la l lc HSS.out HL.out _ (HIS.out.below hp.below) (HLA.out.below hp.below) _ HR1.out).mono ?_); rintro e w1 ⟨⟨⟨odX, oaX, osX, ocX, nxX, t0X, t1X, t2X, t3X, faX, fsX, fcX⟩, raX, rsX, rcX⟩, vX, ROX, RX, rfl, hyX, hkX, hoX, hpX⟩; obtain ⟨amX, cmX, rfl, hmX⟩ := hoX.kept; replace hp := hp.join hpX; have HYX := z0j hyX; have HKX := z0j hkX; have HMX := z0j hmX; clear hpX hyX hkX hoX hmX; simp only [svL, hvL, z0f, z0e, z0i] at hp ⊢) | (go_at_call 49; (with_reducible refine (zcT id vw odX oaX osX ocX nxX t0X t1X t2X t3X faX fsX fcX raX rsX rcX la l lc (HSX.out _ HYX.out) HL.out _ (HKX.out.at hp (fun p hm => by simp [hm])) (HLA.out.below hp.below) _ (HR2.out _ HYX.out)).mono ?_); rintro e w1 ⟨⟨⟨odZ, oaZ, osZ, ocZ, nxZ, t0Z, t1Z, t2Z, t3Z, faZ, fsZ, fcZ⟩, raZ, rsZ, rcZ⟩, vZ, ROZ, RZ, rfl, hyZ, hkZ, hoZ, hpZ⟩; obtain ⟨amZ, cmZ, rfl, hmZ⟩ := hoZ.kept; replace hp := hp.join hpZ; have HYZ := z0j hyZ; have HKZ := z0j hkZ; have HMZ := z0j hmZ; clear hpZ hyZ hkZ hoZ hmZ; simp only [svL, hvL, z0f, z0e, z0i] at hp ⊢) | (go_at_call 48; (with_reducible refine (zaE _).mono ?_); rintro e w1 ⟨rfl, hb⟩; replace hp := hp.call hb; clear hb) | (go_at_call 39; (with_reducible refine (ziu odX oaX osX ocX nxX t0X t1X t2X t3X faX fsX fcX raX rsX rcX HYX.out _ (HKX.out.at hp (fun p hm => by simp [hm]))).mono ?_); rintro e w1 ⟨rfl, hb⟩; replace hp := hp.call hb; clear hb) | go_skip | ((first | ((refine zf _ rfl ?_); refine lZ hp rfl zN ?_; clear hp; intro b w1 hp) | ((refine zi _ _ rfl ?_); refine lB hp rfl (za rfl) rfl ?_; clear hp; intro b w1 hp) | ((refine ze _ _ rfl ?_); first | refine lO hp rfl (za rfl) zm zn ?_ | first | refine lRO hp rfl (za rfl) zm (HX.out 0 _ rfl) ?_ | first | refine lRO hp rfl (za rfl) zm (HY.out 0 _ rfl) ?_ | refine lA hp rfl (za rfl) zy zn ?_ | refine lR hp rfl (za rfl) zy HX.out ?_ | refine lR hp rfl (za rfl) zy HY.out ?_) | ((refine zd _ _ _ rfl ?_); (first | refine sA hp rfl (za rfl) (za rfl) zy zn ?_ | refine sG hp rfl (za rfl) (za rfl) zy zn ?_); clear hp; intro w1 hp; simp only [spl, z0a, z0b] at hp)); simp only [zc, zb, z0b, z0a]))
      (go_ret; exact ⟨rfl, hp.below⟩)
  ·go_wp2_with (first | go_skip | ((first | ((refine zf _ rfl ?_); refine lZ hp rfl zN ?_; clear hp; intro b w1 hp) | ((refine zi _ _ rfl ?_); refine lB hp rfl (za rfl) rfl ?_; clear hp; intro b w1 hp) | ((refine ze _ _ rfl ?_); first | refine lO hp rfl (za rfl) zm zn ?_ | first | refine lRO hp rfl (za rfl) zm (HX.out 0 _ rfl) ?_ | first | refine lRO hp rfl (za rfl) zm (HY.out 0 _ rfl) ?_ | refine lA hp rfl (za rfl) zy zn ?_ | refine lR hp rfl (za rfl) zy HX.out ?_ | refine lR hp rfl (za rfl) zy HY.out ?_) | ((refine zd _ _ _ rfl ?_); (first | refine sA hp rfl (za rfl) (za rfl) zy zn ?_ | refine sG hp rfl (za rfl) (za rfl) zy zn ?_); clear hp; intro w1 hp; simp only [spl, z0a, z0b] at hp)); simp only [zc, zb, z0b, z0a]))
   go_ret
   exact ⟨rfl, hp.below⟩
theorem zr0 (id vw : Int) (x : Sv) (la : Option Addr) (l : List Env) (lc : Nat) (w : World) (hx0 : x.Is w) (hla : zr w la (l.flatMap ZI)) : Calls Tryz.prog 12 #[.int .i64 id, .int .i64 vw, .agg (svL x).toArray, .slice la l.length lc] w fun e w' => e = .returned (.bool true) ∧ Below w.heap.size w w' := by
 obtain ⟨⟨od, oa, os, oc, nx, t0, t1, t2, t3, fa, fs, fc⟩, ra, rs, rc⟩ := x
 exact ztx id vw od oa os oc nx t0 t1 t2 t3 fa fs fc ra rs rc la l lc w hx0 hla
end Go.Proofs.YtjcbpfbifbfkcaaGreat

import Derived.Test.YtaafajaadfgaoaaGreatTb6
import Derived.Test.YtaafajaadfgaoaaGreatTb1
import Derived.Test.YtaafajaadfgaoaaGreatTb0
set_option linter.unusedSimpArgs false
set_option linter.unusedVariables false
set_option maxRecDepth 100000
set_option maxHeartbeats 60000000
namespace Go.Proofs.YtaafajaadfgaoaaGreat
open Go.RowKit
theorem zeQ {ty : TypeId} (h : zN Tryz.prog ty = true := by with_reducible first | exact zw | exact Zd | exact Zc | exact zaa) : zN Tryz.prog ty = true := h
def znY (w : World) (c : Int) (e : Ending) (w' : World) : Prop := e = .returned (.tuple #[.slice none 0 0, .int .i64 c]) ∧ Below w.heap.size w w'
def zmI (w : World) (s : List Bl) (e : Ending) (w' : World) : Prop := ∃ (a : Option Addr) (k : Nat) (R : List Blk), e = .returned (.tuple #[.slice a s.length k, .int .i64 0]) ∧ zH 124 2 (.slice a s.length k) s.length (s.flatMap blV) R ∧ Hp w.heap.size w w' R
theorem zD.box {w : World} {b : Nat} {q r : Int} (h : zD w (some ⟨b, 0, none⟩) [.int .i64 q, .int .i64 r]) : zgO w b q r := fun j v hj => by
 obtain ⟨b', off', he, hc⟩ := h j v hj
 injection he with he; injection he with e1 e2; subst e1; subst e2; exact hc
theorem zkJ {od : Int} {l : List Bl} (h8 : od ≤ 8) (h : zcv od l) : ∀ x ∈ l, InB x.p x.o := fun x hx => by
 obtain ⟨i, hi, rfl⟩ := List.getElem_of_mem hx
 obtain ⟨a, b, c, d, _⟩ := zaB h8 (h i _ (List.getElem?_eq_getElem hi)).1
 exact ⟨a, b, c, d⟩
theorem Hp.subG {B : Nat} {w0 w : World} {L L' : List Blk} (hp : Hp B w0 w L) (h : L'.Sublist L) : Hp B w0 w L' :=
 ⟨hp.below, hp.size, (h.map _).nodup hp.nodup, fun p hpL => hp.own p (h.subset hpL)⟩
theorem zH.cons2 {e : TypeId} {c n : Nat} {v : Value} {xs : List Value} {R : List Blk} (h : zH e c v (n + 1) xs R) : ∃ g cap, v = .slice (some ⟨g, 0, none⟩) (n + 1) cap ∧ n + 1 ≤ cap ∧ cap ≤ maxLen ∧ R = [⟨g, xs, e, cap * c⟩] := by
 obtain ⟨_, ⟨h0, _⟩ | h⟩ := h
 ·omega
 ·exact h
theorem zgR.no {l : List Bl} {v : Bl} {r : Int} (h : zgR l v r) (hn : v ∉ l) : r = -1 := by
 rcases h with ⟨h, _⟩ | ⟨j, _, hj⟩
 ·exact h
 ·exact absurd (List.mem_of_getElem? hj) hn
theorem zgR.yes {l : List Bl} {v : Bl} {r : Int} (h : zgR l v r) (hn : v ∈ l) : ∃ j : Nat, r = j ∧ l[j]? = some v := by
 rcases h with ⟨_, h⟩ | h
 ·exact absurd hn h
 ·exact h
theorem zkQ {l : List Bl} {b : Bl} {k : Nat} : zhJ 2 (l.flatMap blV) (blV b) k = (l.take k ++ b :: l.drop k).flatMap blV := by
 have h1 := zb4 2 Zk l k
 unfold zhJ
 rw [h1, List.flatMap_append, List.flatMap_cons]
 congr 1
 have h2 : l.flatMap blV = (l.take k).flatMap blV ++ (l.drop k).flatMap blV := by rw [← List.flatMap_append, List.take_append_drop]
 rcases Nat.le_total k l.length with h | h
 ·have h3 : ((l.take k).flatMap blV).length = k * 2 := by rw [zaI, List.length_take, Nat.min_eq_left h]
  rw [h2, ← h3, List.take_left]
 ·rw [List.take_of_length_le h, List.take_of_length_le (by rw [zaI]; omega)]
def zaS (od : Int) (fs : List Bl) (b0 : Bl) (k : Nat) (l : List Bl) (b : Bl) : Prop := zda od l b ∧ zcL od (od - b0.o).toNat fs b0 = zcL od k l b ∧ l.length ≤ 600 ∧ k = (od - b.o).toNat
theorem zaS.done {od : Int} {fs : List Bl} {b0 b : Bl} {k : Nat} {l : List Bl} (h : zaS od fs b0 k l b) (hn : ¬ (b.o < od ∧ ZW b ∈ l)) {i : Nat} (hi : AtB l b.p i) : l.take i ++ b :: l.drop i = zal od fs b0 := by
 rw [zmF hi h.1.ne]
 unfold zal
 rw [h.2.1, zgr hn]
theorem zaS.go {od : Int} {fs : List Bl} {b0 b : Bl} {k : Nat} {l : List Bl} (h : zaS od fs b0 k l b) (h8 : od ≤ 8) (h1 : b.o < od) (h2 : ZW b ∈ l) {j : Nat} (hj : l[j]? = some (ZW b)) : 0 < k ∧ zaS od fs b0 (k - 1) (l.eraseIdx j) (zaC b) := by
 obtain ⟨g1, g2, g3, g4⟩ := h
 have hk : 0 < k := by omega
 refine ⟨hk, ?_⟩
 rw [zch g1.disj.sorted.nodup hj]
 refine ⟨g1.step h8 h1 h2, ?_, ?_, ?_⟩
 ·rw [g2]
  obtain ⟨m, rfl⟩ : ∃ m, k = m + 1 := ⟨k - 1, by omega⟩
  rw [zi1 h1 h2]; rfl
 ·have := (zaJ l (ZW b)).length_le; omega
 ·unfold zaC; simp only; omega
theorem zmR {B : Nat} {w0 w : World} {x y : Blk} {R : List Blk} (hp : Hp B w0 w (x :: y :: R)) : Hp B w0 w (x :: (R ++ [y])) := hp.reorder (List.Perm.cons _ ((List.perm_append_comm (l₁ := [y]) (l₂ := R))))
theorem znj {B : Nat} {w0 w : World} {x : Blk} {g cap : Nat} {l : List Bl} {M : List Blk} (hp : Hp B w0 w (x :: ⟨g, l.flatMap blV, 124, cap * 2⟩ :: M)) (hl : l.length ≤ 1000) (hcap : l.length ≤ cap) {i m : Nat} (hm : l.length = m + 1) (hi : i < l.length) :
  Calls Tryz.prog 254 #[.slice (some ⟨g, 0, none⟩) l.length cap, .int .i64 i, .int .i64 ((i : Int) + 1)] w (zpF B w0 g m cap ((l.eraseIdx i).flatMap blV) (x :: M)) := by
 have h := zor (hp.reorder (List.Perm.swap _ _ _)) hl hcap (j := i + 1) rfl rfl hm hi
 rw [show ((i + 1 : Nat) : Int) = (i : Int) + 1 by omega] at h
 exact h
theorem zjI (order : Int) (fs : List Bl) (a : Option Addr) (c : Nat) (hl : fs.length ≤ 600) (p o : Int) (w : World) (ha : zD w a (fs.flatMap blV)) (hr : zW order fs = true) (hm : zcj order p o = true) (hc : zan fs p o = false) : Calls Tryz.prog 232 #[.int .i64 order, .slice a fs.length c, .agg #[.int .i64 p, .int .i64 o]] w (zmI w (zal order fs ⟨p, o⟩)) := by
 have hp := Hp.start w
 have HA := z0j ha
 have HE : Hid (zgL (zW order fs) = 0) := z0j (by rw [hr]; rfl)
 have h2 := hr
 unfold zW ZF at h2
 simp only [Bool.and_eq_true, decide_eq_true_eq] at h2
 obtain ⟨⟨g3, g8⟩, hg⟩ := h2
 have HIN := z0j (zkJ g8 hg)
 have HM := z0j hm
 have HC := z0j hc
 have HIB : Hid (InB p o) := z0j (by obtain ⟨a, b, c, d, _⟩ := zaB g8 (zbq hm); exact ⟨a, b, c, d⟩)
 have HG0 : Hid (zaS order fs ⟨p, o⟩ (order - o).toNat fs ⟨p, o⟩) := z0j ⟨⟨hg.disj, zbq hm, fun x hx hmm => by
  have : zan fs p o = true := List.any_eq_true.2 ⟨x, hx, by obtain ⟨xp, xo⟩ := x; simpa [za7, zaw] using hmm⟩
  rw [hc] at this; cases this⟩, rfl, hl, rfl⟩
 clear ha hr hg hm hc
 go_enter Tryz.func232, Tryz.ntmps232
 go_wp2_with (first | (go_at_call 139; (with_reducible refine (zcZ order fs a c hl _ (HA.out.below hp.below)).mono ?_); rintro e w1 ⟨rfl, hb⟩; rw [HE.out]; replace hp := hp.call hb; clear hb) | (go_at_call 196; (with_reducible refine (zmU order g3 g8 _ _ _).mono ?_); rintro e w1 ⟨rfl, hb⟩; rw [HM.out]; replace hp := hp.call hb; clear hb) | (go_at_call 245; (with_reducible refine (zg8 fs a c hl p o HIN.out HIB.out _ _ (HA.out.below hp.below) (hp.lt (Hp.mem at0)).2 (hp.rowIs at0).box).mono ?_); rintro e w1 ⟨rfl, hb⟩; rw [HC.out]; replace hp := hp.call hb; clear hb) | (go_at_call 142; (with_reducible refine (zgi a fs.length c (by omega) _ (zaI fs) (zeg fs) _ (HA.out.below hp.below)).mono ?_); rintro e w1 ⟨v8, R8, rfl, hr, hp2⟩; replace hp := hp.join hp2; have HR := z0j hr; clear hr hp2; simp only [z0f, z0e] at hp) | go_skip | ((first | ((refine zh _ rfl ?_); refine lZ hp rfl zu ?_; clear hp; intro b w1 hp) | ((refine zi _ _ rfl ?_); refine lB hp rfl (zb rfl) rfl ?_; clear hp; intro b w1 hp) | ((refine zg _ _ rfl ?_); first | refine lO hp rfl (zb rfl) zeQ aa5 ?_ | refine lA hp rfl (zb rfl) zl aa5 ?_) | ((refine zf _ _ _ rfl ?_); (first | refine sO hp rfl (zb rfl) zeQ aa5 ?_ | refine sA hp rfl (zb rfl) (zb rfl) zl aa5 ?_ | refine sG hp rfl (zb rfl) (zb rfl) zl aa5 ?_); clear hp; intro w1 hp; simp only [spl, z0a, z0b] at hp) | ((refine zm _ _ _ rfl ?_); refine lS hp rfl (by intro w; go_simp; rfl) ?_; clear hp; intro b w1 hp; simp only [z0g, z0h, Nat.reduceAdd] at hp)); simp only [ze, zd, z0b, z0a]))
 obtain ⟨b5, rfl⟩ := hp.id0
 go_loopg [8] (order - o).toNat (fun k v wr => ∃ (q s : Int) (l : List Bl) (R : List Blk), Hid (zaS order fs ⟨p, o⟩ k l ⟨q, s⟩) ∧ Hid (zH 124 2 v l.length (l.flatMap blV) R) ∧ Hp w.heap.size w wr (⟨b5, [.int .i64 q, .int .i64 s], 124, 2⟩ :: R))
 case atStart => exact ⟨p, o, fs, R8, HG0, HR, hp⟩
 case round =>
  clear hp HR
  obtain ⟨q, s, l, R, HG, HR, hp⟩ := hrel
  have hl1 : l.length ≤ 1000 := by have := HG.out.2.2.1; omega
  obtain ⟨ki, hki⟩ := zoe HG.out.1.disj.sorted q
  have HKI := z0j hki
  have HKL : Hid (ki ≤ l.length) := z0j hki.1
  obtain ⟨m1, m2, m3, m4, m5, _⟩ := zaB g8 HG.out.1.may
  clear hki
  by_cases ho : s < order
  ·have e1 : decide (s < order) = true := decide_eq_true ho
   by_cases ht : ZW ⟨q, s⟩ ∈ l
   ·have HYI : Hid ((⟨twP q s, s⟩ : Bl) ∈ l) := z0j (by rw [← zae]; exact ht)
    have HTI := z0j ht
    have HSO := z0j ho
    have hpos := List.length_pos_of_mem ht
    obtain ⟨nn, hnn⟩ : ∃ nn, l.length = nn + 1 := ⟨l.length - 1, by omega⟩
    have hrr := HR.out
    rw [hnn] at hrr
    obtain ⟨g, k8, rfl, hcap, hmax, rfl⟩ := hrr.cons2
    rw [← hnn] at hcap
    have HNN := z0j hnn
    rw [← hnn]
    have HCAP := z0j hcap
    have HMAX := z0j hmax
    have ew : wrap64 (s + 1) = s + 1 := IntWalk.wrap64_in _ ⟨by omega, by omega⟩
    clear hrr hcap hmax hnn hpos ht ho
    obtain ⟨X, HMG, hX⟩ : ∃ X, Hid (zaC ⟨q, s⟩ = ⟨X, s + 1⟩) ∧ ((twP q s < q ∧ X = twP q s) ∨ (q ≤ twP q s ∧ X = q)) := by
     by_cases hlt : twP q s < q
     ·exact ⟨_, z0j (by unfold zaC; rw [zae]; simp only; rw [show min q (twP q s) = twP q s by omega]), .inl ⟨hlt, rfl⟩⟩
     ·exact ⟨_, z0j (by unfold zaC; rw [zae]; simp only; rw [show min q (twP q s) = q by omega]), .inr ⟨by omega, rfl⟩⟩
    rcases hX with ⟨hlt, rfl⟩ | ⟨hlt, rfl⟩
    all_goals
     go_wp2_with (first | (go_at_call 197; (with_reducible refine (ziC _ _ m1 m2 m3 m4 m5 _).mono ?_); rintro e w1 ⟨rfl, hb⟩; replace hp := hp.call hb; clear hb) | (go_at_call 253; (with_reducible refine (zmO l (some ⟨g, 0, none⟩) k8 hl1 _ _ _ (hp.rowIs at1)).mono ?_); rintro e w1 ⟨r, rfl, hidx, hb⟩; replace hp := hp.call hb; clear hb; obtain ⟨j, rfl, hj⟩ := hidx.yes HYI.out; have HJ := z0j hj; have HXP := z0j (zaT blV 2 Zk l j 0 _ _ hj rfl); have hjl := (List.getElem?_eq_some_iff.1 hj).1; obtain ⟨j1, hj1⟩ : ∃ j1, j1 = j + 1 := ⟨_, rfl⟩; have ej0 : decide ((j : Int) < 0) = false := (by simp); have ej1 : (0 : Int) ≤ (j : Int) := (by omega); have ej2 : (j : Int) < (l.length : Int) := (by omega); have ejw : wrap64 ((j : Int) + 1) = (j1 : Int) := (by rw [IntWalk.wrap64_in _ ⟨by omega, by omega⟩]; omega); have HJL := z0j hjl; have HJ1 := z0j hj1; clear hidx hj hjl hj1) | go_skip | ((first | ((refine zh _ rfl ?_); refine lZ hp rfl zu ?_; clear hp; intro b w1 hp) | ((refine zi _ _ rfl ?_); refine lB hp rfl (zb rfl) rfl ?_; clear hp; intro b w1 hp) | ((refine zg _ _ rfl ?_); first | refine lO hp rfl (zb rfl) zeQ aa5 ?_ | refine lA hp rfl (zb rfl) zl aa5 ?_) | ((refine zf _ _ _ rfl ?_); (first | refine sO hp rfl (zb rfl) zeQ aa5 ?_ | refine sA hp rfl (zb rfl) (zb rfl) zl aa5 ?_ | refine sG hp rfl (zb rfl) (zb rfl) zl aa5 ?_); clear hp; intro w1 hp; simp only [spl, z0a, z0b] at hp) | ((refine zm _ _ _ rfl ?_); refine lS hp rfl (by intro w; go_simp; rfl) ?_; clear hp; intro b w1 hp; simp only [z0g, z0h, Nat.reduceAdd] at hp)); simp only [ze, zd, z0b, z0a]))
     refine zk [_, _] (zA.two hp.drew at0 at1) [12] [(0, true), (1, true), (2, true), (3, true), (4, true), (5, true), (6, true), (7, true), (8, true), (9, true), (10, true), (11, true), (12, false)] (by kernel_rfl) (by kernel_rfl) rfl (by kernel_rfl) (fun _ _ d _ _ h => by cases d <;> exact h) ?_
     replace hp := hp.drew
     repeat' (with_reducible refine zB ?_); first | (with_reducible refine zt ?_) | ((with_reducible refine zI ?_); refine zy rfl ?_; (first | ((with_reducible refine zV _ rfl ?_); refine tM rfl ?_) | ((with_reducible refine zS _ _ rfl ?_); first | refine tL rfl (zb rfl) (fun w hS => hS.loadOne zw at1 _ _ HXP.out) ?_ | refine tO rfl (zb rfl) zw aa5 ?_) | refine tG (fun w _ => (by go_simp; try rfl)) ?_); try simp only [ze, zd, zn, zj, z0b, z0a, z0d, z0c, zr]) | (refine zF rfl (fun K hK => ?_); go_wp2_with (first | go_skip | (((refine zf _ _ _ rfl ?_); (first | refine sO hp rfl (zb rfl) zeQ aa5 ?_ | refine sA hp rfl (zb rfl) (zb rfl) zl aa5 ?_ | refine sG hp rfl (zb rfl) (zb rfl) zl aa5 ?_); clear hp; intro w1 hp; simp only [spl, z0a, z0b] at hp); simp only [ze, zd, z0b, z0a])); (first | refine hK.out _ _ (.inl rfl) ?_ | refine hK.out _ _ (.inr (zA.two hp aa5 aa5)) ?_); clear hK K; try simp only [ze, zd, zn, zj, z0b, z0a, z0d, z0c, zr])
     go_wp2_with (first | (go_at_call 254; (with_reducible refine (znj hp hl1 HCAP.out HNN.out HJL.out).mono ?_); clear hp; rintro e w1 ⟨rfl, hp⟩) | go_skip | ((first | ((refine zh _ rfl ?_); refine lZ hp rfl zu ?_; clear hp; intro b w1 hp) | ((refine zi _ _ rfl ?_); refine lB hp rfl (zb rfl) rfl ?_; clear hp; intro b w1 hp) | ((refine zg _ _ rfl ?_); first | refine lO hp rfl (zb rfl) zeQ aa5 ?_ | refine lA hp rfl (zb rfl) zl aa5 ?_) | ((refine zf _ _ _ rfl ?_); (first | refine sO hp rfl (zb rfl) zeQ aa5 ?_ | refine sA hp rfl (zb rfl) (zb rfl) zl aa5 ?_ | refine sG hp rfl (zb rfl) (zb rfl) zl aa5 ?_); clear hp; intro w1 hp; simp only [spl, z0a, z0b] at hp) | ((refine zm _ _ _ rfl ?_); refine lS hp rfl (by intro w; go_simp; rfl) ?_; clear hp; intro b w1 hp; simp only [z0g, z0h, Nat.reduceAdd] at hp)); simp only [ze, zd, z0b, z0a]))
     go_roundg (gk - 1)
     case measure => have := (HG.out.go g8 HSO.out HTI.out (by rw [zae]; exact HJ.out)).1; omega
     case rel =>
      have hgo := (HG.out.go g8 HSO.out HTI.out (by rw [zae]; exact HJ.out)).2
      rw [HMG.out] at hgo
      have hel : (l.eraseIdx j).length = nn := by rw [List.length_eraseIdx_of_lt HJL.out]; have := HNN.out; omega
      refine ⟨_, _, l.eraseIdx j, [⟨g, (l.eraseIdx j).flatMap blV, 124, k8 * 2⟩], z0j hgo, z0j ⟨by rw [zaI], .inr ⟨g, k8, ?_, ?_, HMAX.out, rfl⟩⟩, ?_⟩
      ·rw [hel]
      ·rw [hel]; have := HCAP.out; have := HNN.out; omega
      ·first | exact hp.reorder (List.Perm.swap _ _ _) | (have h := hp; rw [Int.min_eq_left (by omega)] at h; exact h.reorder (List.Perm.swap _ _ _)) | (have h := hp; rw [Int.min_eq_right (by omega)] at h; exact h.reorder (List.Perm.swap _ _ _)) | (have h := hp; rw [if_neg (by omega)] at h; exact h.reorder (List.Perm.swap _ _ _)) | (have h := hp; rw [if_pos (by omega)] at h; exact h.reorder (List.Perm.swap _ _ _))
   ·have HDN : Hid (l.take ki ++ ⟨q, s⟩ :: l.drop ki = zal order fs ⟨p, o⟩) := z0j (HG.out.done (fun h => ht h.2) HKI.out)
    have HNI : Hid ((⟨twP q s, s⟩ : Bl) ∉ l) := z0j (by rw [← zae]; exact ht)
    obtain ⟨a8, k8, rfl, kr⟩ := HR.out.kept
    have KR := z0j kr
    clear kr ht ho
    go_wp2_with (first | (go_at_call 197; (with_reducible refine (ziC _ _ m1 m2 m3 m4 m5 _).mono ?_); rintro e w1 ⟨rfl, hb⟩; replace hp := hp.call hb; clear hb) | (go_at_call 253; (with_reducible refine (zmO l a8 k8 hl1 _ _ _ (KR.out.at hp (by intro p hp2; simp [hp2]))).mono ?_); rintro e w1 ⟨r, rfl, hidx, hb⟩; replace hp := hp.call hb; clear hb; obtain rfl := hidx.no HNI.out; clear hidx) | (go_at_call 255; (with_reducible refine (zol l a8 k8 hl1 q ki HKI.out _ (KR.out.at hp (by intro p hp2; simp [hp2]))).mono ?_); rintro e w1 ⟨rfl, hb⟩; replace hp := hp.call hb; clear hb) | (go_at_call 212; (with_reducible refine (zmQ l.length ki hl1 HKL.out (l.flatMap blV) (.slice a8 l.length k8) [.int .i64 q, .int .i64 s] rfl rfl (zeg l) _ _ _ HR.out (zmR hp)).mono ?_); clear hp; rintro e w1 ⟨v9, R9, rfl, hr9, hp⟩; have HR9 := z0j hr9; clear hr9) | go_skip | ((first | ((refine zh _ rfl ?_); refine lZ hp rfl zu ?_; clear hp; intro b w1 hp) | ((refine zi _ _ rfl ?_); refine lB hp rfl (zb rfl) rfl ?_; clear hp; intro b w1 hp) | ((refine zg _ _ rfl ?_); first | refine lO hp rfl (zb rfl) zeQ aa5 ?_ | refine lA hp rfl (zb rfl) zl aa5 ?_) | ((refine zf _ _ _ rfl ?_); (first | refine sO hp rfl (zb rfl) zeQ aa5 ?_ | refine sA hp rfl (zb rfl) (zb rfl) zl aa5 ?_ | refine sG hp rfl (zb rfl) (zb rfl) zl aa5 ?_); clear hp; intro w1 hp; simp only [spl, z0a, z0b] at hp) | ((refine zm _ _ _ rfl ?_); refine lS hp rfl (by intro w; go_simp; rfl) ?_; clear hp; intro b w1 hp; simp only [z0g, z0h, Nat.reduceAdd] at hp)); simp only [ze, zd, z0b, z0a]))
    obtain ⟨a9, k9, rfl, _⟩ := HR9.out.kept
    go_ret2
    have hlen : (zal order fs ⟨p, o⟩).length = l.length + 1 := by
     rw [← HDN.out]; have := HKL.out; simp; omega
    refine ⟨a9, k9, R9, by rw [hlen]; rfl, ?_, hp.subG (List.sublist_append_left _ _)⟩
    rw [hlen, ← HDN.out, ← zkQ]; exact HR9.out
  ·have e1 : decide (s < order) = false := decide_eq_false ho
   have HDN : Hid (l.take ki ++ ⟨q, s⟩ :: l.drop ki = zal order fs ⟨p, o⟩) := z0j (HG.out.done (fun h => ho h.1) HKI.out)
   obtain ⟨a8, k8, rfl, kr⟩ := HR.out.kept
   have KR := z0j kr
   clear kr ho
   go_wp2_with (first | (go_at_call 255; (with_reducible refine (zol l a8 k8 hl1 q ki HKI.out _ (KR.out.at hp (by intro p hp2; simp [hp2]))).mono ?_); rintro e w1 ⟨rfl, hb⟩; replace hp := hp.call hb; clear hb) | (go_at_call 212; (with_reducible refine (zmQ l.length ki hl1 HKL.out (l.flatMap blV) (.slice a8 l.length k8) [.int .i64 q, .int .i64 s] rfl rfl (zeg l) _ _ _ HR.out (zmR hp)).mono ?_); clear hp; rintro e w1 ⟨v9, R9, rfl, hr9, hp⟩; have HR9 := z0j hr9; clear hr9) | go_skip | ((first | ((refine zh _ rfl ?_); refine lZ hp rfl zu ?_; clear hp; intro b w1 hp) | ((refine zi _ _ rfl ?_); refine lB hp rfl (zb rfl) rfl ?_; clear hp; intro b w1 hp) | ((refine zg _ _ rfl ?_); first | refine lO hp rfl (zb rfl) zeQ aa5 ?_ | refine lA hp rfl (zb rfl) zl aa5 ?_) | ((refine zf _ _ _ rfl ?_); (first | refine sO hp rfl (zb rfl) zeQ aa5 ?_ | refine sA hp rfl (zb rfl) (zb rfl) zl aa5 ?_ | refine sG hp rfl (zb rfl) (zb rfl) zl aa5 ?_); clear hp; intro w1 hp; simp only [spl, z0a, z0b] at hp) | ((refine zm _ _ _ rfl ?_); refine lS hp rfl (by intro w; go_simp; rfl) ?_; clear hp; intro b w1 hp; simp only [z0g, z0h, Nat.reduceAdd] at hp)); simp only [ze, zd, z0b, z0a]))
   obtain ⟨a9, k9, rfl, _⟩ := HR9.out.kept
   go_ret2
   have hlen : (zal order fs ⟨p, o⟩).length = l.length + 1 := by
      rw [← HDN.out]; have := HKL.out; simp; omega
   refine ⟨a9, k9, R9, by rw [hlen]; rfl, ?_, hp.subG (List.sublist_append_left _ _)⟩
   rw [hlen, ← HDN.out, ← zkQ]; exact HR9.out
def zm8 (w : World) (M : List Blk) (a : Option Addr) (xs : List Value) : Prop := ∀ (w1 : World) (L : List Blk), Hp w.heap.size w w1 L → (∀ p ∈ M, p ∈ L) → zD w1 a xs
theorem zm8.at {w w1 : World} {M L : List Blk} {a : Option Addr} {xs : List Value} (h : zm8 w M a xs) (hp : Hp w.heap.size w w1 L) (hm : ∀ p ∈ M, p ∈ L) : zD w1 a xs := h w1 L hp hm
end Go.Proofs.YtaafajaadfgaoaaGreat

import Derived.Test.YtjcbpfbifbfkcaaGreatTq7
import Derived.Test.YtjcbpfbifbfkcaaGreatTq1
import Derived.Test.YtjcbpfbifbfkcaaGreatTq0
set_option linter.unusedSimpArgs false
set_option linter.unusedVariables false
set_option maxRecDepth 100000
set_option maxHeartbeats 60000000
namespace Go.Proofs.YtjcbpfbifbfkcaaGreat
open Go.RowKit
theorem zue {ty : TypeId} (h : zF Tryz.prog ty = true := by with_reducible first | exact zm | exact Zt | exact Zj | exact Za) : zF Tryz.prog ty = true := h
def zrA (w : World) (s : List Bl) (e : Ending) (w' : World) : Prop := ∃ (a : Option Addr) (k : Nat) (R : List Blk), e = .returned (.tuple #[.slice a s.length k, .int .i64 0]) ∧ zB 146 2 (.slice a s.length k) s.length (s.flatMap blV) R ∧ Hp w.heap.size w w' R
theorem zr.box {w : World} {b : Nat} {q r : Int} (h : zr w (some ⟨b, 0, none⟩) [.int .i64 q, .int .i64 r]) : zhB w b q r := fun j v hj => by
 obtain ⟨b', off', he, hc⟩ := h j v hj
 injection he with he; injection he with e1 e2; subst e1; subst e2; exact hc
theorem zqI {od : Int} {l : List Bl} (h8 : od ≤ 8) (h : zcZ od l) : ∀ x ∈ l, InB x.p x.o := fun x hx => by
 obtain ⟨i, hi, rfl⟩ := List.getElem_of_mem hx
 obtain ⟨a, b, c, d, _⟩ := zcR h8 (h i _ (List.getElem?_eq_getElem hi)).1
 exact ⟨a, b, c, d⟩
theorem Hp.subG {B : Nat} {w0 w : World} {L L' : List Blk} (hp : Hp B w0 w L) (h : L'.Sublist L) : Hp B w0 w L' :=
 ⟨hp.below, hp.size, (h.map _).nodup hp.nodup, fun p hpL => hp.own p (h.subset hpL)⟩
theorem zB.cons2 {e : TypeId} {c n : Nat} {v : Value} {xs : List Value} {R : List Blk} (h : zB e c v (n + 1) xs R) : ∃ g cap, v = .slice (some ⟨g, 0, none⟩) (n + 1) cap ∧ n + 1 ≤ cap ∧ cap ≤ maxLen ∧ R = [⟨g, xs, e, cap * c⟩] := by
 obtain ⟨_, ⟨h0, _⟩ | h⟩ := h
 ·omega
 ·exact h
theorem zik.no {l : List Bl} {v : Bl} {r : Int} (h : zik l v r) (hn : v ∉ l) : r = -1 := by
 rcases h with ⟨h, _⟩ | ⟨j, _, hj⟩
 ·exact h
 ·exact absurd (List.mem_of_getElem? hj) hn
theorem zik.yes {l : List Bl} {v : Bl} {r : Int} (h : zik l v r) (hn : v ∈ l) : ∃ j : Nat, r = j ∧ l[j]? = some v := by
 rcases h with ⟨_, h⟩ | h
 ·exact absurd hn h
 ·exact h
theorem zm0 {l : List Bl} {b : Bl} {k : Nat} : ziF 2 (l.flatMap blV) (blV b) k = (l.take k ++ b :: l.drop k).flatMap blV := by
 have h1 := zb3 2 Zp l k
 unfold ziF
 rw [h1, List.flatMap_append, List.flatMap_cons]
 congr 1
 have h2 : l.flatMap blV = (l.take k).flatMap blV ++ (l.drop k).flatMap blV := by rw [← List.flatMap_append, List.take_append_drop]
 rcases Nat.le_total k l.length with h | h
 ·have h3 : ((l.take k).flatMap blV).length = k * 2 := by rw [zbb, List.length_take, Nat.min_eq_left h]
  rw [h2, ← h3, List.take_left]
 ·rw [List.take_of_length_le h, List.take_of_length_le (by rw [zbb]; omega)]
def zdx (od : Int) (fs : List Bl) (b0 : Bl) (k : Nat) (l : List Bl) (b : Bl) : Prop := zdl od l b ∧ zcQ od (od - b0.o).toNat fs b0 = zcQ od k l b ∧ l.length ≤ 600 ∧ k = (od - b.o).toNat
theorem zdx.done {od : Int} {fs : List Bl} {b0 b : Bl} {k : Nat} {l : List Bl} (h : zdx od fs b0 k l b) (hn : ¬ (b.o < od ∧ Z2 b ∈ l)) {i : Nat} (hi : AtB l b.p i) : l.take i ++ b :: l.drop i = zaG od fs b0 := by
 rw [znY hi h.1.ne]
 unfold zaG
 rw [h.2.1, zjO hn]
theorem zdx.go {od : Int} {fs : List Bl} {b0 b : Bl} {k : Nat} {l : List Bl} (h : zdx od fs b0 k l b) (h8 : od ≤ 8) (h1 : b.o < od) (h2 : Z2 b ∈ l) {j : Nat} (hj : l[j]? = some (Z2 b)) : 0 < k ∧ zdx od fs b0 (k - 1) (l.eraseIdx j) (zau b) := by
 obtain ⟨g1, g2, g3, g4⟩ := h
 have hk : 0 < k := by omega
 refine ⟨hk, ?_⟩
 rw [zd5 g1.disj.sorted.nodup hj]
 refine ⟨g1.step h8 h1 h2, ?_, ?_, ?_⟩
 ·rw [g2]
  obtain ⟨m, rfl⟩ : ∃ m, k = m + 1 := ⟨k - 1, by omega⟩
  rw [zkC h1 h2]; rfl
 ·have := (zbB l (Z2 b)).length_le; omega
 ·unfold zau; simp only; omega
theorem zp7 {B : Nat} {w0 w : World} {x y : Blk} {R : List Blk} (hp : Hp B w0 w (x :: y :: R)) : Hp B w0 w (x :: (R ++ [y])) := hp.reorder (List.Perm.cons _ ((List.perm_append_comm (l₁ := [y]) (l₂ := R))))
theorem zqD {B : Nat} {w0 w : World} {x : Blk} {g cap : Nat} {l : List Bl} {M : List Blk} (hp : Hp B w0 w (x :: ⟨g, l.flatMap blV, 146, cap * 2⟩ :: M)) (hl : l.length ≤ 1000) (hcap : l.length ≤ cap) {i m : Nat} (hm : l.length = m + 1) (hi : i < l.length) :
  Calls Tryz.prog 267 #[.slice (some ⟨g, 0, none⟩) l.length cap, .int .i64 i, .int .i64 ((i : Int) + 1)] w (ztU B w0 g m cap ((l.eraseIdx i).flatMap blV) (x :: M)) := by
 have h := zsV (hp.reorder (List.Perm.swap _ _ _)) hl hcap (j := i + 1) rfl rfl hm hi
 rw [show ((i + 1 : Nat) : Int) = (i : Int) + 1 by omega] at h
 exact h
theorem zkF (order : Int) (fs : List Bl) (a : Option Addr) (c : Nat) (hl : fs.length ≤ 600) (p o : Int) (w : World) (ha : zr w a (fs.flatMap blV)) (hr : Zc order fs = true) (hm : zeM order p o = true) (hc : zbh fs p o = false) : Calls Tryz.prog 242 #[.int .i64 order, .slice a fs.length c, .agg #[.int .i64 p, .int .i64 o]] w (zrA w (zaG order fs ⟨p, o⟩)) := by
 have hp := Hp.start w
 have HA := z0j ha
 have HE : Hid (zfS (Zc order fs) = 0) := z0j (by rw [hr]; rfl)
 have h2 := hr
 unfold Zc Zm at h2
 simp only [Bool.and_eq_true, decide_eq_true_eq] at h2
 obtain ⟨⟨g3, g8⟩, hg⟩ := h2
 have HIN := z0j (zqI g8 hg)
 have HM := z0j hm
 have HC := z0j hc
 have HIB : Hid (InB p o) := z0j (by obtain ⟨a, b, c, d, _⟩ := zcR g8 (zeW hm); exact ⟨a, b, c, d⟩)
 have HG0 : Hid (zdx order fs ⟨p, o⟩ (order - o).toNat fs ⟨p, o⟩) := z0j ⟨⟨hg.disj, zeW hm, fun x hx hmm => by
  have : zbh fs p o = true := List.any_eq_true.2 ⟨x, hx, by obtain ⟨xp, xo⟩ := x; simpa [zeo, zbf] using hmm⟩
  rw [hc] at this; cases this⟩, rfl, hl, rfl⟩
 clear ha hr hg hm hc
 go_enter Tryz.func242, Tryz.ntmps242
 go_wp2_with (first | (go_at_call 140; (with_reducible refine (zc8 order fs a c hl _ (HA.out.below hp.below)).mono ?_); rintro e w1 ⟨rfl, hb⟩; rw [HE.out]; replace hp := hp.call hb; clear hb) | (go_at_call 189; (with_reducible refine (zp8 order g3 g8 _ _ _).mono ?_); rintro e w1 ⟨rfl, hb⟩; rw [HM.out]; replace hp := hp.call hb; clear hb) | (go_at_call 258; (with_reducible refine (zhO fs a c hl p o HIN.out HIB.out _ _ (HA.out.below hp.below) (hp.lt (Hp.mem at0)).2 (hp.rowIs at0).box).mono ?_); rintro e w1 ⟨rfl, hb⟩; rw [HC.out]; replace hp := hp.call hb; clear hb) | (go_at_call 143; (with_reducible refine (zgZ a fs.length c (by omega) _ (zbb fs) (zfy fs) _ (HA.out.below hp.below)).mono ?_); rintro e w1 ⟨v8, R8, rfl, hr, hp2⟩; replace hp := hp.join hp2; have HR := z0j hr; clear hr hp2; simp only [z0f, z0e] at hp) | go_skip | ((first | ((refine zi _ _ rfl ?_); refine lB hp rfl (za rfl) rfl ?_; clear hp; intro b w1 hp) | ((refine ze _ _ rfl ?_); first | refine lO hp rfl (za rfl) zm aa5 ?_ | refine lA hp rfl (za rfl) zw aa5 ?_) | ((refine zd _ _ _ rfl ?_); (first | refine sA hp rfl (za rfl) (za rfl) zw aa5 ?_ | refine sG hp rfl (za rfl) (za rfl) zw aa5 ?_); clear hp; intro w1 hp; simp only [spl, z0a, z0b] at hp) | ((refine zk _ _ _ rfl ?_); refine lS hp rfl (by intro w; go_simp; rfl) ?_; clear hp; intro b w1 hp; simp only [z0g, z0h, Nat.reduceAdd] at hp)); simp only [zc, zb, z0b, z0a]))
 obtain ⟨b5, rfl⟩ := hp.id0
 go_loopg [8] (order - o).toNat (fun k v wr => ∃ (q s : Int) (l : List Bl) (R : List Blk), Hid (zdx order fs ⟨p, o⟩ k l ⟨q, s⟩) ∧ Hid (zB 146 2 v l.length (l.flatMap blV) R) ∧ Hp w.heap.size w wr (⟨b5, [.int .i64 q, .int .i64 s], 146, 2⟩ :: R))
 case atStart => exact ⟨p, o, fs, R8, HG0, HR, hp⟩
 case round =>
  clear hp HR
  obtain ⟨q, s, l, R, HG, HR, hp⟩ := hrel
  have hl1 : l.length ≤ 1000 := by have := HG.out.2.2.1; omega
  obtain ⟨ki, hki⟩ := zsy HG.out.1.disj.sorted q
  have HKI := z0j hki
  have HKL : Hid (ki ≤ l.length) := z0j hki.1
  obtain ⟨m1, m2, m3, m4, m5, _⟩ := zcR g8 HG.out.1.may
  clear hki
  by_cases ho : s < order
  ·have e1 : decide (s < order) = true := decide_eq_true ho
   by_cases ht : Z2 ⟨q, s⟩ ∈ l
   ·have HYI : Hid ((⟨twP q s, s⟩ : Bl) ∈ l) := z0j (by rw [← zbT]; exact ht)
    have HTI := z0j ht
    have HSO := z0j ho
    have hpos := List.length_pos_of_mem ht
    obtain ⟨nn, hnn⟩ : ∃ nn, l.length = nn + 1 := ⟨l.length - 1, by omega⟩
    have hrr := HR.out
    rw [hnn] at hrr
    obtain ⟨g, k8, rfl, hcap, hmax, rfl⟩ := hrr.cons2
    rw [← hnn] at hcap
    have HNN := z0j hnn
    rw [← hnn]
    have HCAP := z0j hcap
    have HMAX := z0j hmax
    have ew : wrap64 (s + 1) = s + 1 := IntWalk.wrap64_in _ ⟨by omega, by omega⟩
    clear hrr hcap hmax hnn hpos ht ho
    obtain ⟨X, HMG, hX⟩ : ∃ X, Hid (zau ⟨q, s⟩ = ⟨X, s + 1⟩) ∧ ((twP q s < q ∧ X = twP q s) ∨ (q ≤ twP q s ∧ X = q)) := by
     by_cases hlt : twP q s < q
     ·exact ⟨_, z0j (by unfold zau; rw [zbT]; simp only; rw [show min q (twP q s) = twP q s by omega]), .inl ⟨hlt, rfl⟩⟩
     ·exact ⟨_, z0j (by unfold zau; rw [zbT]; simp only; rw [show min q (twP q s) = q by omega]), .inr ⟨by omega, rfl⟩⟩
    rcases hX with ⟨hlt, rfl⟩ | ⟨hlt, rfl⟩
    all_goals
     go_wp2_with (first | (go_at_call 190; (with_reducible refine (zi5 _ _ m1 m2 m3 m4 m5 _).mono ?_); rintro e w1 ⟨rfl, hb⟩; replace hp := hp.call hb; clear hb) | (go_at_call 266; (with_reducible refine (zpT l (some ⟨g, 0, none⟩) k8 hl1 _ _ _ (hp.rowIs at1)).mono ?_); rintro e w1 ⟨r, rfl, hidx, hb⟩; replace hp := hp.call hb; clear hb; obtain ⟨j, rfl, hj⟩ := hidx.yes HYI.out; have HJ := z0j hj; have HXP := z0j (za0 blV 2 Zp l j 0 _ _ hj rfl); have hjl := (List.getElem?_eq_some_iff.1 hj).1; obtain ⟨j1, hj1⟩ : ∃ j1, j1 = j + 1 := ⟨_, rfl⟩; have ej0 : decide ((j : Int) < 0) = false := (by simp); have ej1 : (0 : Int) ≤ (j : Int) := (by omega); have ej2 : (j : Int) < (l.length : Int) := (by omega); have ejw : wrap64 ((j : Int) + 1) = (j1 : Int) := (by rw [IntWalk.wrap64_in _ ⟨by omega, by omega⟩]; omega); have HJL := z0j hjl; have HJ1 := z0j hj1; clear hidx hj hjl hj1) | go_skip | ((first | ((refine zi _ _ rfl ?_); refine lB hp rfl (za rfl) rfl ?_; clear hp; intro b w1 hp) | ((refine ze _ _ rfl ?_); first | refine lO hp rfl (za rfl) zm aa5 ?_ | refine lA hp rfl (za rfl) zw aa5 ?_) | ((refine zd _ _ _ rfl ?_); (first | refine sA hp rfl (za rfl) (za rfl) zw aa5 ?_ | refine sG hp rfl (za rfl) (za rfl) zw aa5 ?_); clear hp; intro w1 hp; simp only [spl, z0a, z0b] at hp) | ((refine zk _ _ _ rfl ?_); refine lS hp rfl (by intro w; go_simp; rfl) ?_; clear hp; intro b w1 hp; simp only [z0g, z0h, Nat.reduceAdd] at hp)); simp only [zc, zb, z0b, z0a]))
     refine zh [_, _] (zv.two hp.drew at0 at1) [12] [(0, true), (1, true), (2, true), (3, true), (4, true), (5, true), (6, true), (7, true), (8, true), (9, true), (10, true), (11, true), (12, false)] (by kernel_rfl) (by kernel_rfl) rfl (by kernel_rfl) (fun _ _ d _ _ h => by cases d <;> exact h) ?_
     replace hp := hp.drew
     repeat' (with_reducible refine zx ?_); first | (with_reducible refine zq ?_) | ((with_reducible refine zE ?_); refine zu rfl ?_; (first | ((with_reducible refine zT _ rfl ?_); refine tM rfl ?_) | ((with_reducible refine zW _ _ rfl ?_); first | refine tL rfl (za rfl) (fun w hS => hS.loadOne zm at1 _ _ HXP.out) ?_ | refine tO rfl (za rfl) zm aa5 ?_) | refine tG (fun w _ => (by go_simp; try rfl)) ?_); try simp only [zc, zb, zj, zg, z0b, z0a, z0d, z0c, zl]) | (refine zC rfl (fun K hK => ?_); go_wp2_with (first | go_skip | (((refine zd _ _ _ rfl ?_); (first | refine sA hp rfl (za rfl) (za rfl) zw aa5 ?_ | refine sG hp rfl (za rfl) (za rfl) zw aa5 ?_); clear hp; intro w1 hp; simp only [spl, z0a, z0b] at hp); simp only [zc, zb, z0b, z0a])); (first | refine hK.out _ _ (.inl rfl) ?_ | refine hK.out _ _ (.inr (zv.two hp aa5 aa5)) ?_); clear hK K; try simp only [zc, zb, zj, zg, z0b, z0a, z0d, z0c, zl])
     go_wp2_with (first | (go_at_call 267; (with_reducible refine (zqD hp hl1 HCAP.out HNN.out HJL.out).mono ?_); clear hp; rintro e w1 ⟨rfl, hp⟩) | go_skip | ((first | ((refine zi _ _ rfl ?_); refine lB hp rfl (za rfl) rfl ?_; clear hp; intro b w1 hp) | ((refine ze _ _ rfl ?_); first | refine lO hp rfl (za rfl) zm aa5 ?_ | refine lA hp rfl (za rfl) zw aa5 ?_) | ((refine zd _ _ _ rfl ?_); (first | refine sA hp rfl (za rfl) (za rfl) zw aa5 ?_ | refine sG hp rfl (za rfl) (za rfl) zw aa5 ?_); clear hp; intro w1 hp; simp only [spl, z0a, z0b] at hp) | ((refine zk _ _ _ rfl ?_); refine lS hp rfl (by intro w; go_simp; rfl) ?_; clear hp; intro b w1 hp; simp only [z0g, z0h, Nat.reduceAdd] at hp)); simp only [zc, zb, z0b, z0a]))
     go_roundg (gk - 1)
     case measure => have := (HG.out.go g8 HSO.out HTI.out (by rw [zbT]; exact HJ.out)).1; omega
     case rel =>
      have hgo := (HG.out.go g8 HSO.out HTI.out (by rw [zbT]; exact HJ.out)).2
      rw [HMG.out] at hgo
      have hel : (l.eraseIdx j).length = nn := by rw [List.length_eraseIdx_of_lt HJL.out]; have := HNN.out; omega
      refine ⟨_, _, l.eraseIdx j, [⟨g, (l.eraseIdx j).flatMap blV, 146, k8 * 2⟩], z0j hgo, z0j ⟨by rw [zbb], .inr ⟨g, k8, ?_, ?_, HMAX.out, rfl⟩⟩, ?_⟩
      ·rw [hel]
      ·rw [hel]; have := HCAP.out; have := HNN.out; omega
      ·first | exact hp.reorder (List.Perm.swap _ _ _) | (have h := hp; rw [Int.min_eq_left (by omega)] at h; exact h.reorder (List.Perm.swap _ _ _)) | (have h := hp; rw [Int.min_eq_right (by omega)] at h; exact h.reorder (List.Perm.swap _ _ _)) | (have h := hp; rw [if_neg (by omega)] at h; exact h.reorder (List.Perm.swap _ _ _)) | (have h := hp; rw [if_pos (by omega)] at h; exact h.reorder (List.Perm.swap _ _ _))
   ·have HDN : Hid (l.take ki ++ ⟨q, s⟩ :: l.drop ki = zaG order fs ⟨p, o⟩) := z0j (HG.out.done (fun h => ht h.2) HKI.out)
    have HNI : Hid ((⟨twP q s, s⟩ : Bl) ∉ l) := z0j (by rw [← zbT]; exact ht)
    obtain ⟨a8, k8, rfl, kr⟩ := HR.out.kept
    have KR := z0j kr
    clear kr ht ho
    go_wp2_with (first | (go_at_call 190; (with_reducible refine (zi5 _ _ m1 m2 m3 m4 m5 _).mono ?_); rintro e w1 ⟨rfl, hb⟩; replace hp := hp.call hb; clear hb) | (go_at_call 266; (with_reducible refine (zpT l a8 k8 hl1 _ _ _ (KR.out.at hp (by intro p hp2; simp [hp2]))).mono ?_); rintro e w1 ⟨r, rfl, hidx, hb⟩; replace hp := hp.call hb; clear hb; obtain rfl := hidx.no HNI.out; clear hidx) | (go_at_call 268; (with_reducible refine (zrR l a8 k8 hl1 q ki HKI.out _ (KR.out.at hp (by intro p hp2; simp [hp2]))).mono ?_); rintro e w1 ⟨rfl, hb⟩; replace hp := hp.call hb; clear hb) | (go_at_call 247; (with_reducible refine (zpD l.length ki hl1 HKL.out (l.flatMap blV) (.slice a8 l.length k8) [.int .i64 q, .int .i64 s] rfl rfl (zfy l) _ _ _ HR.out (zp7 hp)).mono ?_); clear hp; rintro e w1 ⟨v9, R9, rfl, hr9, hp⟩; have HR9 := z0j hr9; clear hr9) | go_skip | ((first | ((refine zi _ _ rfl ?_); refine lB hp rfl (za rfl) rfl ?_; clear hp; intro b w1 hp) | ((refine ze _ _ rfl ?_); first | refine lO hp rfl (za rfl) zm aa5 ?_ | refine lA hp rfl (za rfl) zw aa5 ?_) | ((refine zd _ _ _ rfl ?_); (first | refine sA hp rfl (za rfl) (za rfl) zw aa5 ?_ | refine sG hp rfl (za rfl) (za rfl) zw aa5 ?_); clear hp; intro w1 hp; simp only [spl, z0a, z0b] at hp) | ((refine zk _ _ _ rfl ?_); refine lS hp rfl (by intro w; go_simp; rfl) ?_; clear hp; intro b w1 hp; simp only [z0g, z0h, Nat.reduceAdd] at hp)); simp only [zc, zb, z0b, z0a]))
    obtain ⟨a9, k9, rfl, _⟩ := HR9.out.kept
    go_ret2
    have hlen : (zaG order fs ⟨p, o⟩).length = l.length + 1 := by
     rw [← HDN.out]; have := HKL.out; simp; omega
    refine ⟨a9, k9, R9, by rw [hlen]; rfl, ?_, hp.subG (List.sublist_append_left _ _)⟩
    rw [hlen, ← HDN.out, ← zm0]; exact HR9.out
  ·have e1 : decide (s < order) = false := decide_eq_false ho
   have HDN : Hid (l.take ki ++ ⟨q, s⟩ :: l.drop ki = zaG order fs ⟨p, o⟩) := z0j (HG.out.done (fun h => ho h.1) HKI.out)
   obtain ⟨a8, k8, rfl, kr⟩ := HR.out.kept
   have KR := z0j kr
   clear kr ho
   go_wp2_with (first | (go_at_call 268; (with_reducible refine (zrR l a8 k8 hl1 q ki HKI.out _ (KR.out.at hp (by intro p hp2; simp [hp2]))).mono ?_); rintro e w1 ⟨rfl, hb⟩; replace hp := hp.call hb; clear hb) | (go_at_call 247; (with_reducible refine (zpD l.length ki hl1 HKL.out (l.flatMap blV) (.slice a8 l.length k8) [.int .i64 q, .int .i64 s] rfl rfl (zfy l) _ _ _ HR.out (zp7 hp)).mono ?_); clear hp; rintro e w1 ⟨v9, R9, rfl, hr9, hp⟩; have HR9 := z0j hr9; clear hr9) | go_skip | ((first | ((refine zi _ _ rfl ?_); refine lB hp rfl (za rfl) rfl ?_; clear hp; intro b w1 hp) | ((refine ze _ _ rfl ?_); first | refine lO hp rfl (za rfl) zm aa5 ?_ | refine lA hp rfl (za rfl) zw aa5 ?_) | ((refine zd _ _ _ rfl ?_); (first | refine sA hp rfl (za rfl) (za rfl) zw aa5 ?_ | refine sG hp rfl (za rfl) (za rfl) zw aa5 ?_); clear hp; intro w1 hp; simp only [spl, z0a, z0b] at hp) | ((refine zk _ _ _ rfl ?_); refine lS hp rfl (by intro w; go_simp; rfl) ?_; clear hp; intro b w1 hp; simp only [z0g, z0h, Nat.reduceAdd] at hp)); simp only [zc, zb, z0b, z0a]))
   obtain ⟨a9, k9, rfl, _⟩ := HR9.out.kept
   go_ret2
   have hlen : (zaG order fs ⟨p, o⟩).length = l.length + 1 := by
      rw [← HDN.out]; have := HKL.out; simp; omega
   refine ⟨a9, k9, R9, by rw [hlen]; rfl, ?_, hp.subG (List.sublist_append_left _ _)⟩
   rw [hlen, ← HDN.out, ← zm0]; exact HR9.out
def zr5 (w : World) (M : List Blk) (a : Option Addr) (xs : List Value) : Prop := ∀ (w1 : World) (L : List Blk), Hp w.heap.size w w1 L → (∀ p ∈ M, p ∈ L) → zr w1 a xs
theorem zr5.at {w w1 : World} {M L : List Blk} {a : Option Addr} {xs : List Value} (h : zr5 w M a xs) (hp : Hp w.heap.size w w1 L) (hm : ∀ p ∈ M, p ∈ L) : zr w1 a xs := h w1 L hp hm
end Go.Proofs.YtjcbpfbifbfkcaaGreat

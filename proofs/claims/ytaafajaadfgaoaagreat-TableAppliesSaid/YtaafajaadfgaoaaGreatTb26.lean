import Derived.Test.YtaafajaadfgaoaaGreatTb25
import Derived.Test.YtaafajaadfgaoaaGreatTb8
import Derived.Test.YtaafajaadfgaoaaGreatTb1
import Derived.Test.YtaafajaadfgaoaaGreatTb6
import Derived.Test.YtaafajaadfgaoaaGreatTb7
set_option linter.unusedSimpArgs false
set_option linter.unusedVariables false
set_option maxRecDepth 100000
set_option maxHeartbeats 60000000
namespace Go.Proofs.YtaafajaadfgaoaaGreat
open Go.RowKit
theorem zfq {ty : TypeId} (h : zN Tryz.prog ty = true := by with_reducible first | exact zw | exact Zd | exact Zc | exact zaa) : zN Tryz.prog ty = true := h
def zm9 (w : World) (c : Int) (e : Ending) (w' : World) : Prop := e = .returned (.tuple #[.agg #[.int .i64 0, .int .i64 0], .slice none 0 0, .int .i64 c]) ∧ Below w.heap.size w w'
def zna (w : World) (want : Int) (fs : List Bl) (e : Ending) (w' : World) : Prop := ∃ (b : Bl) (a : Option Addr) (k : Nat) (R : List Blk), e = .returned (.tuple #[.agg #[.int .i64 b.p, .int .i64 want], .slice a (za3 fs b want).length k, .int .i64 0]) ∧ zcC want fs b ∧
 zH 124 2 (.slice a (za3 fs b want).length k) (za3 fs b want).length ((za3 fs b want).flatMap blV) R ∧ Hp w.heap.size w w' R
theorem Hp.subR {B : Nat} {w0 w : World} {L L' : List Blk} (hp : Hp B w0 w L) (h : L'.Sublist L) : Hp B w0 w L' :=
 ⟨hp.below, hp.size, (h.map _).nodup hp.nodup, fun p hpL => hp.own p (h.subset hpL)⟩
theorem zba.no {l : List Bl} {want i : Int} (h : zba l want l.length i) (hg : ZD l want = false) : i = -1 := by
 have := h.great
 rw [hg] at this
 rcases h with ⟨h, _⟩ | ⟨k, z, rfl, _⟩
 ·exact h
 ·simp at this
theorem zba.yes {l : List Bl} {want i : Int} (h : zba l want l.length i) (hg : ZD l want = true) : ∃ (k : Nat) (z : Bl), i = (k : Int) ∧ k < l.length ∧ l[k]? = some z ∧ want ≤ z.o ∧ ∀ (k' : Nat) x, k' < l.length → l[k']? = some x → want ≤ x.o → z.o ≤ x.o ∧ (x.o = z.o → k ≤ k') := by
 have := h.great
 rw [hg] at this
 rcases h with ⟨rfl, _⟩ | h
 ·simp at this
 ·exact h
theorem zhz (order want : Int) (fs : List Bl) (a : Option Addr) (c : Nat) (hl : fs.length ≤ 600) (w : World) (ha : zD w a (fs.flatMap blV)) (hr : zW order fs = true) (h0 : 0 ≤ want) (h1 : want ≤ order) (hg : ZD fs want = false) : Calls Tryz.prog 234 #[.int .i64 order, .slice a fs.length c, .int .i64 want] w (zm9 w 40) := by
 have hp := Hp.start w
 have HA := z0j ha
 have HE := z0j hr
 have HG := z0j hg
 have e1 : decide (want < 0) = false := by simp; omega
 have e2 : decide (order < want) = false := by simp; omega
 clear ha hr h0 h1 hg
 go_enter Tryz.func234, Tryz.ntmps234
 go_wp2_with (first | (go_at_call 163; (with_reducible refine (zeD order fs _ c hl _ (HA.out.below hp.below)).mono ?_); rintro e w1 ⟨rfl, hb⟩; rw [HE.out]; replace hp := hp.call hb; clear hb) | (go_at_call 257; (with_reducible refine (zko fs a c hl want _ (HA.out.below hp.below)).mono ?_); rintro e w1 ⟨r, rfl, hbest, hb⟩; replace hp := hp.call hb; clear hb; obtain rfl := hbest.no HG.out; clear hbest) | go_skip | ((first | ((refine zh _ rfl ?_); refine lZ hp rfl zu ?_; clear hp; intro b w1 hp) | ((refine zi _ _ rfl ?_); refine lB hp rfl (zb rfl) rfl ?_; clear hp; intro b w1 hp) | ((refine zg _ _ rfl ?_); first | refine lO hp rfl (zb rfl) zfq aa5 ?_ | refine lA hp rfl (zb rfl) zl aa5 ?_) | ((refine zf _ _ _ rfl ?_); (first | refine sO hp rfl (zb rfl) zfq aa5 ?_ | refine sA hp rfl (zb rfl) (zb rfl) zl aa5 ?_ | refine sG hp rfl (zb rfl) (zb rfl) zl aa5 ?_); clear hp; intro w1 hp; simp only [spl, z0a, z0b] at hp) | ((refine zm _ _ _ rfl ?_); refine lS hp rfl (by intro w; go_simp; rfl) ?_; clear hp; intro b w1 hp; simp only [z0g, z0h, Nat.reduceAdd] at hp)); simp only [ze, zd, z0b, z0a]))
 exact bodyPost_ret (zx (rs := [.cell 6 124, .tmp 7, .tmp 8]) Tryz.results234 (.cell rfl (hp.loadAgg zl at0 0 _ (by rfl) (by rfl)) (.tmp rfl (.tmp rfl .nil)))) rfl ⟨rfl, hp.below⟩
theorem zba.uniq {l : List Bl} {want : Int} {k : Nat} {z : Bl} (hz : l[k]? = some z) (hw : want ≤ z.o) (h : ∀ (k' : Nat) x, k' < l.length → l[k']? = some x → want ≤ x.o → z.o ≤ x.o ∧ (x.o = z.o → k ≤ k')) : ∀ i, zba l want l.length i → i = (k : Int) := by
 intro i hi
 have hk := (List.getElem?_eq_some_iff.1 hz).1
 obtain ⟨k2, z2, rfl, h1, h2, h3, h4⟩ := hi.yes (zeW hz hw)
 obtain ⟨a1, a2⟩ := h k2 z2 h1 h2 h3
 obtain ⟨b1, b2⟩ := h4 k z hk hz hw
 have := a2 (by omega)
 have := b2 (by omega)
 omega
theorem znd {l : List Bl} {want : Int} (hg : ZD l want = true) : ∃ (k : Nat) (z : Bl), l[k]? = some z ∧ want ≤ z.o ∧ ∀ (k' : Nat) x, k' < l.length → l[k']? = some x → want ≤ x.o → z.o ≤ x.o ∧ (x.o = z.o → k ≤ k') := by
 unfold ZD at hg
 induction l with
 | nil => simp at hg
 | cons x r ih =>
  by_cases hr : (r.any fun y => decide (want ≤ y.o)) = true
  ·obtain ⟨k, z, hz, hw, h⟩ := ih hr
   by_cases hx : want ≤ x.o ∧ x.o ≤ z.o
   ·refine ⟨0, x, rfl, hx.1, fun k' y hk' hy hwy => ?_⟩
    cases k' with
    | zero => simp at hy; subst hy; exact ⟨Int.le_refl _, fun _ => Nat.le_refl _⟩
    | succ k' =>
     have := (h k' y (by simpa using hk') (by simpa using hy) hwy).1
     exact ⟨by omega, fun _ => Nat.zero_le _⟩
   ·refine ⟨k + 1, z, by simpa using hz, hw, fun k' y hk' hy hwy => ?_⟩
    cases k' with
    | zero => simp at hy; subst hy; exact ⟨by omega, fun he => by omega⟩
    | succ k' =>
     have := h k' y (by simpa using hk') (by simpa using hy) hwy
     exact ⟨this.1, fun he => by have := this.2 he; omega⟩
  ·have hx : want ≤ x.o := by simpa [hr] using hg
   refine ⟨0, x, rfl, hx, fun k' y hk' hy hwy => ?_⟩
   cases k' with
   | zero => simp at hy; subst hy; exact ⟨Int.le_refl _, fun _ => Nat.le_refl _⟩
   | succ k' =>
    exact absurd (List.any_eq_true.2 ⟨y, List.mem_of_getElem? (by simpa using hy), by simpa using hwy⟩) hr
theorem zj6 (order want : Int) (fs : List Bl) (a : Option Addr) (c : Nat) (hl : fs.length ≤ 600) (w : World) (ha : zD w a (fs.flatMap blV)) (hr : zW order fs = true) (h0 : 0 ≤ want) (h1 : want ≤ order) (hg : ZD fs want = true) : Calls Tryz.prog 234 #[.int .i64 order, .slice a fs.length c, .int .i64 want] w (zna w want fs) := by
 obtain ⟨k, z, hz, hw, hbest⟩ := znd hg
 have hk := (List.getElem?_eq_some_iff.1 hz).1
 have hp := Hp.start w
 have hr2 := hr
 unfold zW ZF at hr2
 simp only [Bool.and_eq_true, decide_eq_true_eq] at hr2
 obtain ⟨⟨g3, g8⟩, hgood⟩ := hr2
 have HBY := z0j (zba.uniq hz hw hbest)
 have HLT := z0j (zjr (od := order) hgood.disj hz hw hbest)
 obtain ⟨bq, off, rfl, hx⟩ := ha.elems 2 Zk (by omega) (by omega)
 replace hx := hx k _ hz
 have hmay := (hgood k _ hz).1
 obtain ⟨tp, to⟩ := z
 obtain ⟨m1, m2, m3, m4, m5, m6⟩ := zaB g8 hmay
 simp only [blV] at hx
 simp only at hw
 have HX := z0j hx
 have HA := z0j ha
 have HE := z0j hr
 have e1 : decide (want < 0) = false := by simp; omega
 have e2 : decide (order < want) = false := by simp; omega
 have e3 : decide ((k : Int) < 0) = false := by simp
 have e4 : (0 : Int) ≤ (k : Int) := by omega
 have e5 : (k : Int) < (fs.length : Int) := by omega
 obtain ⟨N, hN⟩ : ∃ N : Nat, N = (to - want).toNat := ⟨_, rfl⟩
 have HNI : Hid ((N : Int) = to - want) := z0j (by omega)
 have HMM := z0j (And.intro m1 (And.intro m3 (And.intro m4 m6)))
 have HTK : Hid (za3 fs ⟨tp, to⟩ want = zbf (Zo fs ⟨tp, to⟩) tp to N) := z0j (by rw [hN]; rfl)
 have hwl := (zaJ fs ⟨tp, to⟩).length_le
 clear ha hr hg hx hz hbest hgood hmay m1 m2 m3 m4 m5 m6 hk hN
 go_enter Tryz.func234, Tryz.ntmps234
 go_wp2_with (first | (go_at_call 163; (with_reducible refine (zeD order fs _ c hl _ (HA.out.below hp.below)).mono ?_); rintro e w1 ⟨rfl, hb⟩; rw [HE.out]; replace hp := hp.call hb; clear hb) | (go_at_call 257; (with_reducible refine (zko fs (some ⟨bq, off, none⟩) c hl want _ (HA.out.below hp.below)).mono ?_); rintro e w1 ⟨r, rfl, hbest, hb⟩; replace hp := hp.call hb; clear hb; obtain rfl := HBY.out r hbest; clear hbest) | (go_at_call 258; (with_reducible refine (zf5 fs (some ⟨bq, off, none⟩) c (by omega) tp to _ (HA.out.below hp.below)).mono ?_); rintro e w1 ⟨v, RO, rfl, hro, hpo⟩; replace hp := hp.join hpo; have HRO := z0j hro; clear hro hpo; simp only [z0f, z0e] at hp) | go_skip | ((first | ((refine zh _ rfl ?_); refine lZ hp rfl zu ?_; clear hp; intro b w1 hp) | ((refine zi _ _ rfl ?_); refine lB hp rfl (zb rfl) rfl ?_; clear hp; intro b w1 hp) | ((refine zg _ _ rfl ?_); first | refine lO hp rfl (zb rfl) zfq aa5 ?_ | refine lA hp rfl (zb rfl) zl aa5 ?_ | refine lR hp rfl (zb rfl) zl HX.out ?_) | ((refine zf _ _ _ rfl ?_); (first | refine sO hp rfl (zb rfl) zfq aa5 ?_ | refine sA hp rfl (zb rfl) (zb rfl) zl aa5 ?_ | refine sG hp rfl (zb rfl) (zb rfl) zl aa5 ?_); clear hp; intro w1 hp; simp only [spl, z0a, z0b] at hp) | ((refine zm _ _ _ rfl ?_); refine lS hp rfl (by intro w; go_simp; rfl) ?_; clear hp; intro b w1 hp; simp only [z0g, z0h, Nat.reduceAdd] at hp)); simp only [ze, zd, z0b, z0a]))
 obtain ⟨b10, rfl⟩ := hp.id0
 obtain ⟨b6, rfl⟩ := hp.id1
 go_loopg [11] N (fun k v wr => ∃ (co : Int) (out : List Bl) (RO M : List Blk), Hid (co = want + k ∧ k ≤ N) ∧ Hid (zbf out tp co k = zbf (Zo fs ⟨tp, to⟩) tp to N) ∧ Hid (out.length + k = (Zo fs ⟨tp, to⟩).length + N) ∧ Hid (zH 124 2 v out.length (out.flatMap blV) RO) ∧
  Hp w.heap.size w wr (⟨b10, [.int .i64 tp, .int .i64 co], 124, 2⟩ :: ⟨b6, [.int .i64 0, .int .i64 0], 124, 2⟩ :: (RO ++ M)))
 case atStart => exact ⟨to, _, RO, [], z0j (by have := HNI.out; omega), z0j rfl, z0j rfl, HRO, by simpa using hp⟩
 case round =>
  clear hp HRO
  obtain ⟨co, out, RO, M, HCO, HSP, HLN, HRO, hp⟩ := hrel
  obtain ⟨hco, hkN0⟩ := HCO.out
  rcases Nat.eq_zero_or_pos gk with h00 | hgk
  ·subst h00
   have HCW : Hid (co = want) := z0j (by omega)
   have HEQ : Hid (za3 fs ⟨tp, to⟩ want = out) := z0j (by rw [HTK.out, ← HSP.out]; rfl)
   have e6 : decide (want < co) = false := by simp; omega
   obtain ⟨a5, k5, rfl, _⟩ := HRO.out.kept
   clear hco
   go_wp2_with (first | go_skip | ((first | ((refine zh _ rfl ?_); refine lZ hp rfl zu ?_; clear hp; intro b w1 hp) | ((refine zi _ _ rfl ?_); refine lB hp rfl (zb rfl) rfl ?_; clear hp; intro b w1 hp) | ((refine zg _ _ rfl ?_); first | refine lO hp rfl (zb rfl) zfq aa5 ?_ | refine lA hp rfl (zb rfl) zl aa5 ?_) | ((refine zf _ _ _ rfl ?_); (first | refine sO hp rfl (zb rfl) zfq aa5 ?_ | refine sA hp rfl (zb rfl) (zb rfl) zl aa5 ?_ | refine sG hp rfl (zb rfl) (zb rfl) zl aa5 ?_); clear hp; intro w1 hp; simp only [spl, z0a, z0b] at hp) | ((refine zm _ _ _ rfl ?_); refine lS hp rfl (by intro w; go_simp; rfl) ?_; clear hp; intro b w1 hp; simp only [z0g, z0h, Nat.reduceAdd] at hp)); simp only [ze, zd, z0b, z0a]))
   refine bodyPost_ret (zx (rs := [.cell 6 124, .tmp 7, .tmp 8]) Tryz.results234 (.cell rfl (hp.loadAgg zl at1 0 _ (by rfl) (by rfl)) (.tmp rfl (.tmp rfl .nil)))) rfl ⟨⟨tp, to⟩, a5, k5, RO, ?_, HLT.out, ?_, ?_⟩
   ·rw [HEQ.out, HCW.out]; rfl
   ·rw [HEQ.out]; exact HRO.out
   ·exact hp.tail.tail.subR (List.sublist_append_left _ _)
  ·obtain ⟨nk, hnk⟩ : ∃ nk, gk = nk + 1 := ⟨gk - 1, by omega⟩
   obtain ⟨nco, hnco⟩ : ∃ n : Int, n = co - 1 := ⟨_, rfl⟩
   obtain ⟨m1, m3, m4, m6⟩ := HMM.out
   have hni := HNI.out
   have hln := HLN.out
   have hkN : gk ≤ N := hkN0
   have h8n : nco ≤ 8 := by omega
   have hpw := zdN h8n
   have hpp := z7 nco
   have hol1 : out.length ≤ 1000 := by omega
   have ew1 : wrap64 (co - 1) = nco := by rw [IntWalk.wrap64_in _ ⟨by omega, by omega⟩]; omega
   obtain ⟨q, hq⟩ : ∃ q : Int, q = tp + pw nco := ⟨_, rfl⟩
   have ew2 : wrap64 (tp + pw nco) = q := by rw [IntWalk.wrap64_in _ ⟨by omega, by have := z7 to; omega⟩]; omega
   have e6 : decide (want < co) = true := by simp; omega
   obtain ⟨a5, k5, rfl, ko⟩ := HRO.out.kept
   have KO := z0j ko
   have EW1 := z0j ew1
   have HNK := z0j hnk
   have HCN : Hid (nco = want + ((nk : Nat) : Int) ∧ nk ≤ N) := z0j (by omega)
   have HSN : Hid (zbf (zaP out ⟨q, nco⟩) tp nco nk = zbf (Zo fs ⟨tp, to⟩) tp to N) := z0j (by
    have h := HSP.out
    rw [hnk, zbf] at h
    rw [hq, hnco]; exact h)
   have HLM : Hid ((zaP out ⟨q, nco⟩).length + nk = (Zo fs ⟨tp, to⟩).length + N) := z0j (by rw [zlD]; omega)
   clear hnk hnco m1 m3 m4 m6 hni hln hkN hkN0 hpw hpp hq ko hco hgk
   go_wp2_with (first | go_skip | ((first | ((refine zh _ rfl ?_); refine lZ hp rfl zu ?_; clear hp; intro b w1 hp) | ((refine zi _ _ rfl ?_); refine lB hp rfl (zb rfl) rfl ?_; clear hp; intro b w1 hp) | ((refine zg _ _ rfl ?_); first | refine lO hp rfl (zb rfl) zfq aa5 ?_ | refine lA hp rfl (zb rfl) zl aa5 ?_) | ((refine zf _ _ _ rfl ?_); (first | refine sO hp rfl (zb rfl) zfq aa5 ?_ | refine sA hp rfl (zb rfl) (zb rfl) zl aa5 ?_ | refine sG hp rfl (zb rfl) (zb rfl) zl aa5 ?_); clear hp; intro w1 hp; simp only [spl, z0a, z0b] at hp) | ((refine zm _ _ _ rfl ?_); refine lS hp rfl (by intro w; go_simp; rfl) ?_; clear hp; intro b w1 hp; simp only [z0g, z0h, Nat.reduceAdd] at hp)); simp only [ze, zd, z0b, z0a]))
   refine zk [_, _] (zA.two hp.drew at0 at1) [] [(0, true), (1, true), (2, true), (3, true), (4, true), (7, true), (8, true), (5, false), (6, true), (9, true), (10, false), (11, false)] (by kernel_rfl) (by kernel_rfl) rfl (by kernel_rfl) (fun _ _ d _ _ h => by cases d <;> exact h) ?_
   replace hp := hp.drew
   repeat' (with_reducible refine zB ?_); first | (with_reducible refine zt ?_) | ((with_reducible refine zI ?_); refine zy rfl ?_; (first | ((with_reducible refine zV _ rfl ?_); refine tM rfl ?_) | ((with_reducible refine zS _ _ rfl ?_); refine tO rfl (zb rfl) zw aa5 ?_) | refine tG (fun w _ => (by go_simp; try rfl)) ?_); try simp only [ze, zd, zn, zj, z0b, z0a, z0d, z0c, zr]) | (refine zF rfl (fun K hK => ?_); go_wp2_with (first | (go_at_call 170; (with_reducible refine (zbk _ h8n _).mono ?_); rintro e w' ⟨rfl, rfl⟩) | (go_at_call 259; (with_reducible refine (ziE out a5 k5 hol1 _ _ _ (KO.out.at hp (by intro p hp2; simp [hp2]))).mono ?_); rintro e w1 ⟨v2, RO2, rfl, hro, hpo⟩; replace hp := hp.join hpo; have HRO2 := z0j hro; clear hro hpo; simp only [z0f, z0e] at hp) | go_skip); (refine hK.out _ _ (.inr (zA.two hp aa5 aa5)) ?_); clear hK K; try simp only [ze, zd, zn, zj, z0b, z0a, z0d, z0c, zr])
   go_wp2_with (first | go_skip | ((first | ((refine zh _ rfl ?_); refine lZ hp rfl zu ?_; clear hp; intro b w1 hp) | ((refine zi _ _ rfl ?_); refine lB hp rfl (zb rfl) rfl ?_; clear hp; intro b w1 hp) | ((refine zg _ _ rfl ?_); first | refine lO hp rfl (zb rfl) zfq aa5 ?_ | refine lA hp rfl (zb rfl) zl aa5 ?_) | ((refine zf _ _ _ rfl ?_); (first | refine sO hp rfl (zb rfl) zfq aa5 ?_ | refine sA hp rfl (zb rfl) (zb rfl) zl aa5 ?_ | refine sG hp rfl (zb rfl) (zb rfl) zl aa5 ?_); clear hp; intro w1 hp; simp only [spl, z0a, z0b] at hp) | ((refine zm _ _ _ rfl ?_); refine lS hp rfl (by intro w; go_simp; rfl) ?_; clear hp; intro b w1 hp; simp only [z0g, z0h, Nat.reduceAdd] at hp)); simp only [ze, zd, z0b, z0a]))
   go_roundg nk
   case measure => have := HNK.out; omega
   case rel =>
    refine ⟨nco, zaP out ⟨q, nco⟩, RO2, RO ++ M, HCN, HSN, HLM, HRO2, ?_⟩
    have h := hp
    rw [EW1.out] at h
    exact h.reorder (List.Perm.cons _ (List.Perm.cons _ (by first | exact List.perm_append_comm | (rw [List.append_assoc]; exact List.perm_append_comm) | (simp only [z0i]; exact (List.perm_append_comm (l₁ := RO ++ M)).trans (by simp)))))
open Go.RowKit
theorem zdz {ty : TypeId} (h : zN Tryz.prog ty = true := by with_reducible first | exact zw | exact Zd | exact Zc | exact zaa) : zN Tryz.prog ty = true := h
theorem zaS.doneR {od : Int} {fs : List Bl} {b0 b : Bl} {k : Nat} {l : List Bl} (h : zaS od fs b0 k l b) (hn : ¬ (b.o < od ∧ ZW b ∈ l)) : zal od fs b0 = zaP l b := by
 unfold zal
 rw [h.2.1, zgr hn]
theorem zaS.goR {od : Int} {fs : List Bl} {b0 b : Bl} {k : Nat} {l : List Bl} (h : zaS od fs b0 k l b) (h8 : od ≤ 8) (h1 : b.o < od) (h2 : ZW b ∈ l) : 0 < k ∧ zaS od fs b0 (k - 1) (Zo l (ZW b)) (zaC b) := by
 obtain ⟨j, hj, he⟩ := List.getElem_of_mem h2
 have hjj : l[j]? = some (ZW b) := by rw [List.getElem?_eq_getElem hj, he]
 have := h.go h8 h1 h2 hjj
 rw [zch h.1.disj.sorted.nodup hjj] at this
 exact this
theorem zib (order : Int) (fs : List Bl) (a : Option Addr) (c : Nat) (hl : fs.length ≤ 600) (p o : Int) (w : World) (ha : zD w a (fs.flatMap blV)) (hr : zW order fs = true) (hm : zcj order p o = true) : Calls Tryz.prog 260 #[.int .i64 order, .slice a fs.length c, .agg #[.int .i64 p, .int .i64 o]] w (fun e w' => (zan fs p o = true → znY w 41 e w') ∧ (zan fs p o = false → zmI w (zal order fs ⟨p, o⟩) e w')) := by
 have hp := Hp.start w
 have HA := z0j ha
 have HE := z0j hr
 have h2 := hr
 unfold zW ZF at h2
 simp only [Bool.and_eq_true, decide_eq_true_eq] at h2
 obtain ⟨⟨g3, g8⟩, hg⟩ := h2
 have HINB := z0j (zkJ g8 hg)
 have HM := z0j hm
 obtain ⟨y1, y2, y3, y4, _⟩ := zaB g8 (zbq hm)
 have HG0 : Hid (zan fs p o = false → zaS order fs ⟨p, o⟩ (order - o).toNat fs ⟨p, o⟩) := z0j (fun hc => ⟨⟨hg.disj, zbq hm, fun x hx hmm => by
  have : zan fs p o = true := List.any_eq_true.2 ⟨x, hx, by obtain ⟨xp, xo⟩ := x; simpa [za7, zaw] using hmm⟩
  rw [hc] at this; cases this⟩, rfl, hl, rfl⟩)
 clear ha hr hg hm
 go_enter Tryz.func260, Tryz.ntmps260
 go_wp2_with (first | (go_at_call 163; (with_reducible refine (zeD order fs _ c hl _ (HA.out.below hp.below)).mono ?_); rintro e w1 ⟨rfl, hb⟩; rw [HE.out]; replace hp := hp.call hb; clear hb) | (go_at_call 165; (with_reducible refine (zi4 _ g8 _ _ _).mono ?_); rintro e w1 ⟨rfl, hb⟩; rw [HM.out]; replace hp := hp.call hb; clear hb) | go_skip | ((first | ((refine zh _ rfl ?_); refine lZ hp rfl zu ?_; clear hp; intro b w1 hp) | ((refine zi _ _ rfl ?_); refine lB hp rfl (zb rfl) rfl ?_; clear hp; intro b w1 hp) | ((refine zg _ _ rfl ?_); first | refine lO hp rfl (zb rfl) zdz aa5 ?_ | refine lA hp rfl (zb rfl) zl aa5 ?_) | ((refine zf _ _ _ rfl ?_); (first | refine sO hp rfl (zb rfl) zdz aa5 ?_ | refine sA hp rfl (zb rfl) (zb rfl) zl aa5 ?_ | refine sG hp rfl (zb rfl) (zb rfl) zl aa5 ?_); clear hp; intro w1 hp; simp only [spl, z0a, z0b] at hp) | ((refine zm _ _ _ rfl ?_); refine lS hp rfl (by intro w; go_simp; rfl) ?_; clear hp; intro b w1 hp; simp only [z0g, z0h, Nat.reduceAdd] at hp)); simp only [ze, zd, z0b, z0a]))
 obtain ⟨b5, rfl⟩ := hp.id0
 go_loopg [8] fs.length (fun k i wr => ∃ j : Nat, k + j = fs.length ∧ i = .int .i64 j ∧ Hid (zan (fs.take j) p o = false) ∧ Hp w.heap.size w wr [⟨b5, [.int .i64 p, .int .i64 o], 124, 2⟩])
 case atStart => exact ⟨0, by omega, rfl, z0j (by simp [zan]), hp⟩
 case round =>
  clear hp
  obtain ⟨j, hkj, rfl, HMS, hp⟩ := hrel
  by_cases hlt : j < fs.length
  ·obtain ⟨bq, off, rfl, hx⟩ := HA.out.elems 2 Zk (by omega) (by omega)
   have hj := List.getElem?_eq_getElem hlt
   replace hx := hx j _ hj
   have hin := HINB.out _ (List.getElem_mem hlt)
   generalize fs[j] = x at hx hj hin
   obtain ⟨xp, xo⟩ := x
   simp only [blV] at hx
   simp only at hin
   obtain ⟨x1, x2, x3, x4⟩ := hin
   have HX := z0j hx
   have HJ := z0j hj
   clear hx hj
   have e1 : (0 : Int) ≤ (j : Int) := by omega
   have e2 : (j : Int) < (fs.length : Int) := by omega
   cases hmt : za7 xp xo p o
   ·have HMT := z0j hmt
    clear hmt
    go_wp2_with (first | go_skip | ((first | ((refine zh _ rfl ?_); refine lZ hp rfl zu ?_; clear hp; intro b w1 hp) | ((refine zi _ _ rfl ?_); refine lB hp rfl (zb rfl) rfl ?_; clear hp; intro b w1 hp) | ((refine zg _ _ rfl ?_); first | refine lO hp rfl (zb rfl) zdz aa5 ?_ | refine lA hp rfl (zb rfl) zl aa5 ?_ | refine lR hp rfl (zb rfl) zl HX.out ?_) | ((refine zf _ _ _ rfl ?_); (first | refine sO hp rfl (zb rfl) zdz aa5 ?_ | refine sA hp rfl (zb rfl) (zb rfl) zl aa5 ?_ | refine sG hp rfl (zb rfl) (zb rfl) zl aa5 ?_); clear hp; intro w1 hp; simp only [spl, z0a, z0b] at hp) | ((refine zm _ _ _ rfl ?_); refine lS hp rfl (by intro w; go_simp; rfl) ?_; clear hp; intro b w1 hp; simp only [z0g, z0h, Nat.reduceAdd] at hp)); simp only [ze, zd, z0b, z0a]))
    refine zk _ (zA.all hp.drew) [] [(0, true), (1, true), (2, true), (3, true), (4, true), (5, false)] (by kernel_rfl) (by kernel_rfl) rfl (by kernel_rfl) (fun _ _ d _ _ h => by cases d <;> exact h) ?_
    replace hp := hp.drew
    repeat' (with_reducible refine zB ?_); first | (with_reducible refine zt ?_) | ((with_reducible refine zI ?_); refine zy rfl ?_; (first | ((with_reducible refine zV _ rfl ?_); refine tM rfl ?_) | ((with_reducible refine zS _ _ rfl ?_); first | refine tA rfl (zb rfl) zl aa5 ?_ | refine tR rfl (zb rfl) zl HX.out ?_) | refine tG (fun w _ => (by go_simp; try rfl)) ?_); try simp only [ze, zd, zn, zj, z0b, z0a, z0d, z0c, zr]) | (refine zF rfl (fun K hK => ?_); go_wp2_with (first | (go_at_call 168; (with_reducible refine (ze4 _ _ _ _ x1 x2 y1 y2 x4 y4 _).mono ?_); rintro e w1 ⟨rfl, hb⟩; rw [HMT.out]; replace hp := hp.call hb; clear hb) | go_skip); (refine hK.out _ _ (.inr (zd2 hp)) ?_); clear hK K; try simp only [ze, zd, zn, zj, z0b, z0a, z0d, z0c, zr])
    go_wp2_with fail
    go_roundg (gk - 1)
    case measure => omega
    case rel => exact ⟨j + 1, by omega, by go_num, z0j (by rw [zfS HJ.out, HMS.out, HMT.out]; rfl), hp⟩
   ·have HMT := z0j hmt
    clear hmt
    have HYS := z0j (zhn HJ.out HMT.out)
    go_wp2_with (first | go_skip | ((first | ((refine zh _ rfl ?_); refine lZ hp rfl zu ?_; clear hp; intro b w1 hp) | ((refine zi _ _ rfl ?_); refine lB hp rfl (zb rfl) rfl ?_; clear hp; intro b w1 hp) | ((refine zg _ _ rfl ?_); first | refine lO hp rfl (zb rfl) zdz aa5 ?_ | refine lA hp rfl (zb rfl) zl aa5 ?_ | refine lR hp rfl (zb rfl) zl HX.out ?_) | ((refine zf _ _ _ rfl ?_); (first | refine sO hp rfl (zb rfl) zdz aa5 ?_ | refine sA hp rfl (zb rfl) (zb rfl) zl aa5 ?_ | refine sG hp rfl (zb rfl) (zb rfl) zl aa5 ?_); clear hp; intro w1 hp; simp only [spl, z0a, z0b] at hp) | ((refine zm _ _ _ rfl ?_); refine lS hp rfl (by intro w; go_simp; rfl) ?_; clear hp; intro b w1 hp; simp only [z0g, z0h, Nat.reduceAdd] at hp)); simp only [ze, zd, z0b, z0a]))
    refine zk _ (zA.all hp.drew) [] [(0, true), (1, true), (2, true), (3, true), (4, true), (5, false)] (by kernel_rfl) (by kernel_rfl) rfl (by kernel_rfl) (fun _ _ d _ _ h => by cases d <;> exact h) ?_
    replace hp := hp.drew
    repeat' (with_reducible refine zB ?_); first | (with_reducible refine zt ?_) | ((with_reducible refine zI ?_); refine zy rfl ?_; (first | ((with_reducible refine zV _ rfl ?_); refine tM rfl ?_) | ((with_reducible refine zS _ _ rfl ?_); first | refine tA rfl (zb rfl) zl aa5 ?_ | refine tR rfl (zb rfl) zl HX.out ?_) | refine tG (fun w _ => (by go_simp; try rfl)) ?_); try simp only [ze, zd, zn, zj, z0b, z0a, z0d, z0c, zr]) | (refine zF rfl (fun K hK => ?_); go_wp2_with (first | (go_at_call 168; (with_reducible refine (ze4 _ _ _ _ x1 x2 y1 y2 x4 y4 _).mono ?_); rintro e w1 ⟨rfl, hb⟩; rw [HMT.out]; replace hp := hp.call hb; clear hb) | go_skip); (refine hK.out _ _ (.inr (zd2 hp)) ?_); clear hK K; try simp only [ze, zd, zn, zj, z0b, z0a, z0d, z0c, zr])
    go_wp2_with fail
    go_ret2
    exact ⟨fun _ => ⟨rfl, hp.below⟩, fun h => by rw [HYS.out] at h; cases h⟩
  ·have e2 : decide ((j : Int) < (fs.length : Int)) = false := by simp; omega
   have HNO : Hid (zan fs p o = false) := z0j (by have := HMS.out; rw [List.take_of_length_le (by omega)] at this; exact this)
   have HGR := z0j (HG0.out HNO.out)
   clear hkj HMS HG0
   go_wp2_with (first | go_skip | ((first | ((refine zh _ rfl ?_); refine lZ hp rfl zu ?_; clear hp; intro b w1 hp) | ((refine zi _ _ rfl ?_); refine lB hp rfl (zb rfl) rfl ?_; clear hp; intro b w1 hp) | ((refine zg _ _ rfl ?_); first | refine lO hp rfl (zb rfl) zdz aa5 ?_ | refine lA hp rfl (zb rfl) zl aa5 ?_) | ((refine zf _ _ _ rfl ?_); (first | refine sO hp rfl (zb rfl) zdz aa5 ?_ | refine sA hp rfl (zb rfl) (zb rfl) zl aa5 ?_ | refine sG hp rfl (zb rfl) (zb rfl) zl aa5 ?_); clear hp; intro w1 hp; simp only [spl, z0a, z0b] at hp) | ((refine zm _ _ _ rfl ?_); refine lS hp rfl (by intro w; go_simp; rfl) ?_; clear hp; intro b w1 hp; simp only [z0g, z0h, Nat.reduceAdd] at hp)); simp only [ze, zd, z0b, z0a]))
   clear e2
   go_loopg [9] (order - o).toNat (fun k v wr => ∃ (q s : Int) (l : List Bl) (a5 : Option Addr) (k5 : Nat) (M : List Blk), v = .slice a5 l.length k5 ∧ Hid (zaS order fs ⟨p, o⟩ k l ⟨q, s⟩) ∧ Hid (zm8 w M a5 (l.flatMap blV)) ∧ Hp w.heap.size w wr (⟨b5, [.int .i64 q, .int .i64 s], 124, 2⟩ :: M))
   case atStart => exact ⟨p, o, fs, a, c, [], rfl, HGR, z0j (fun w1 L h _ => HA.out.below h.below), hp⟩
   case round =>
    clear hp HGR
    obtain ⟨q, s, l, a5, k5, M, rfl, HG, HRW, hp⟩ := hrel
    have hl1 : l.length ≤ 1000 := by have := HG.out.2.2.1; omega
    obtain ⟨m1, m2, m3, m4, m5, m6⟩ := zaB g8 HG.out.1.may
    by_cases ho : s < order
    ·have e1 : decide (s < order) = true := decide_eq_true ho
     by_cases ht : ZW ⟨q, s⟩ ∈ l
     ·have HIN : Hid (decide ((⟨twP q s, s⟩ : Bl) ∈ l) = true) := z0j (by rw [← zae]; exact decide_eq_true ht)
      have HGO := z0j (HG.out.goR g8 ho ht)
      have ew : wrap64 (s + 1) = s + 1 := IntWalk.wrap64_in _ ⟨by omega, by omega⟩
      obtain ⟨X, HMG, hX⟩ : ∃ X, Hid (zaC ⟨q, s⟩ = ⟨X, s + 1⟩) ∧ ((twP q s < q ∧ X = twP q s) ∨ (q ≤ twP q s ∧ X = q)) := by
       by_cases hlt : twP q s < q
       ·exact ⟨_, z0j (by unfold zaC; rw [zae]; simp only; rw [show min q (twP q s) = twP q s by omega]), .inl ⟨hlt, rfl⟩⟩
       ·exact ⟨_, z0j (by unfold zaC; rw [zae]; simp only; rw [show min q (twP q s) = q by omega]), .inr ⟨by omega, rfl⟩⟩
      clear ht ho
      rcases hX with ⟨hlt, rfl⟩ | ⟨hlt, rfl⟩
      all_goals
       go_wp2_with (first | (go_at_call 208; (with_reducible refine (ziD _ _ m1 m2 m4 _).mono ?_); rintro e w1 ⟨rfl, hb⟩; replace hp := hp.call hb; clear hb) | (go_at_call 264; (with_reducible refine (zox l a5 k5 hl1 _ _ _ (HRW.out.at hp (by intro p hp2; simp [hp2]))).mono ?_); rintro e w1 ⟨rfl, hb⟩; rw [HIN.out]; replace hp := hp.call hb; clear hb) | (go_at_call 258; (with_reducible refine (zf5 l a5 k5 hl1 _ _ _ (HRW.out.at hp (by intro p hp2; simp [hp2]))).mono ?_); rintro e w1 ⟨v, RO, rfl, hro, hpo⟩; replace hp := hp.join hpo; obtain ⟨a6, k6, rfl, hk6⟩ := hro.kept; have HK6 := z0j hk6; clear hro hpo hk6; simp only [z0f, z0e] at hp) | go_skip | ((first | ((refine zh _ rfl ?_); refine lZ hp rfl zu ?_; clear hp; intro b w1 hp) | ((refine zi _ _ rfl ?_); refine lB hp rfl (zb rfl) rfl ?_; clear hp; intro b w1 hp) | ((refine zg _ _ rfl ?_); first | refine lO hp rfl (zb rfl) zdz aa5 ?_ | refine lA hp rfl (zb rfl) zl aa5 ?_) | ((refine zf _ _ _ rfl ?_); (first | refine sO hp rfl (zb rfl) zdz aa5 ?_ | refine sA hp rfl (zb rfl) (zb rfl) zl aa5 ?_ | refine sG hp rfl (zb rfl) (zb rfl) zl aa5 ?_); clear hp; intro w1 hp; simp only [spl, z0a, z0b] at hp) | ((refine zm _ _ _ rfl ?_); refine lS hp rfl (by intro w; go_simp; rfl) ?_; clear hp; intro b w1 hp; simp only [z0g, z0h, Nat.reduceAdd] at hp)); simp only [ze, zd, z0b, z0a]))
       go_roundg (gk - 1)
       case measure => have := HGO.out.1; omega
       case rel =>
        have hgo := HGO.out.2
        rw [HMG.out, zae] at hgo
        refine ⟨_, _, _, a6, k6, M ++ RO, rfl, z0j hgo, z0j (fun w1 L h hm => HK6.out.at h (fun p hp2 => hm p (List.mem_append_right _ hp2))), ?_⟩
        first | exact hp.tail | (have h := hp.tail; rw [if_neg (by omega)] at h; exact h) | (have h := hp.tail; rw [if_pos (by omega)] at h; exact h) | (have h := hp.tail; rw [Int.min_eq_right (by omega)] at h; exact h) | (have h := hp.tail; rw [Int.min_eq_left (by omega)] at h; exact h)
     ·have HIN : Hid (decide ((⟨twP q s, s⟩ : Bl) ∈ l) = false) := z0j (by rw [← zae]; exact decide_eq_false ht)
      have HDN := z0j (HG.out.doneR (fun h => ht h.2))
      clear ht ho
      go_wp2_with (first | (go_at_call 208; (with_reducible refine (ziD _ _ m1 m2 m4 _).mono ?_); rintro e w1 ⟨rfl, hb⟩; replace hp := hp.call hb; clear hb) | (go_at_call 264; (with_reducible refine (zox l a5 k5 hl1 _ _ _ (HRW.out.at hp (by intro p hp2; simp [hp2]))).mono ?_); rintro e w1 ⟨rfl, hb⟩; rw [HIN.out]; replace hp := hp.call hb; clear hb) | (go_at_call 259; (with_reducible refine (ziE l a5 k5 hl1 _ _ _ (HRW.out.at hp (by intro p hp2; simp [hp2]))).mono ?_); rintro e w1 ⟨v2, RO2, rfl, hro, hpo⟩; obtain ⟨a7, k7, rfl, _⟩ := hro.kept; replace hp := hp.join hpo; have HRO2 := z0j hro; have HPO := z0j hpo; clear hro hpo; simp only [z0f, z0e] at hp) | go_skip | ((first | ((refine zh _ rfl ?_); refine lZ hp rfl zu ?_; clear hp; intro b w1 hp) | ((refine zi _ _ rfl ?_); refine lB hp rfl (zb rfl) rfl ?_; clear hp; intro b w1 hp) | ((refine zg _ _ rfl ?_); first | refine lO hp rfl (zb rfl) zdz aa5 ?_ | refine lA hp rfl (zb rfl) zl aa5 ?_) | ((refine zf _ _ _ rfl ?_); (first | refine sO hp rfl (zb rfl) zdz aa5 ?_ | refine sA hp rfl (zb rfl) (zb rfl) zl aa5 ?_ | refine sG hp rfl (zb rfl) (zb rfl) zl aa5 ?_); clear hp; intro w1 hp; simp only [spl, z0a, z0b] at hp) | ((refine zm _ _ _ rfl ?_); refine lS hp rfl (by intro w; go_simp; rfl) ?_; clear hp; intro b w1 hp; simp only [z0g, z0h, Nat.reduceAdd] at hp)); simp only [ze, zd, z0b, z0a]))
      go_ret2
      refine ⟨fun h => (by rw [HNO.out] at h; cases h), fun _ => ⟨a7, k7, RO2, by rw [HDN.out]; rfl, by rw [HDN.out]; exact HRO2.out, ?_⟩⟩
      exact hp.subR (by first | exact List.sublist_append_right _ _ | exact (List.sublist_append_right M RO2).cons _)
    ·have e1 : decide (s < order) = false := decide_eq_false ho
     have HDN := z0j (HG.out.doneR (fun h => ho h.1))
     clear ho
     go_wp2_with (first | (go_at_call 259; (with_reducible refine (ziE l a5 k5 hl1 _ _ _ (HRW.out.at hp (by intro p hp2; simp [hp2]))).mono ?_); rintro e w1 ⟨v2, RO2, rfl, hro, hpo⟩; obtain ⟨a7, k7, rfl, _⟩ := hro.kept; replace hp := hp.join hpo; have HRO2 := z0j hro; have HPO := z0j hpo; clear hro hpo; simp only [z0f, z0e] at hp) | go_skip | ((first | ((refine zh _ rfl ?_); refine lZ hp rfl zu ?_; clear hp; intro b w1 hp) | ((refine zi _ _ rfl ?_); refine lB hp rfl (zb rfl) rfl ?_; clear hp; intro b w1 hp) | ((refine zg _ _ rfl ?_); first | refine lO hp rfl (zb rfl) zdz aa5 ?_ | refine lA hp rfl (zb rfl) zl aa5 ?_) | ((refine zf _ _ _ rfl ?_); (first | refine sO hp rfl (zb rfl) zdz aa5 ?_ | refine sA hp rfl (zb rfl) (zb rfl) zl aa5 ?_ | refine sG hp rfl (zb rfl) (zb rfl) zl aa5 ?_); clear hp; intro w1 hp; simp only [spl, z0a, z0b] at hp) | ((refine zm _ _ _ rfl ?_); refine lS hp rfl (by intro w; go_simp; rfl) ?_; clear hp; intro b w1 hp; simp only [z0g, z0h, Nat.reduceAdd] at hp)); simp only [ze, zd, z0b, z0a]))
     go_ret2
     refine ⟨fun h => (by rw [HNO.out] at h; cases h), fun _ => ⟨a7, k7, RO2, by rw [HDN.out]; rfl, by rw [HDN.out]; exact HRO2.out, ?_⟩⟩
     exact hp.subR (by first | exact List.sublist_append_right _ _ | exact (List.sublist_append_right M RO2).cons _)
end Go.Proofs.YtaafajaadfgaoaaGreat

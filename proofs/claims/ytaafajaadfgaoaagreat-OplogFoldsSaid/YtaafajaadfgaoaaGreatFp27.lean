import Derived.Test.YtaafajaadfgaoaaGreatFp21
import Derived.Test.YtaafajaadfgaoaaGreatFp12
import Derived.Test.YtaafajaadfgaoaaGreatFp18
import Derived.Test.YtaafajaadfgaoaaGreatFp10
import Derived.Test.YtaafajaadfgaoaaGreatFp25
import Derived.Test.YtaafajaadfgaoaaGreatFp20
import Derived.Test.YtaafajaadfgaoaaGreatFp2
set_option linter.unusedSimpArgs false
set_option linter.unusedVariables false
set_option maxRecDepth 100000
set_option maxHeartbeats 60000000
namespace Go.Proofs.YtaafajaadfgaoaaGreat
open Go.RowKit
theorem zdk {ty : TypeId} (h : zB Tryz.prog ty = true := by with_reducible first | exact zq | exact zA | exact zS | exact Zw | exact Ze) : zB Tryz.prog ty = true := h
theorem zaJ {ty : TypeId} {k : Nat} (h : zac Tryz.prog ty k = true := by with_reducible first | exact zaR | exact zN | exact zY) : zac Tryz.prog ty k = true := h
theorem zbY {ty : TypeId} (h : zB Tryz.prog ty = true := by with_reducible first | exact zq | exact zA | exact za9 | exact Ze) : zB Tryz.prog ty = true := h
def zi5 (w : World) (r : Option (List Nat × List Nat)) (e : Ending) (w' : World) : Prop := (match r with
 | some (t, _) => e = .returned (.tuple #[.string (strOfNums (nI t)), .int .i64 ((t.length + 4 : Nat) : Int), .int .i64 0])
 | none => ∃ q : Int, (q = 10 ∨ q = 11) ∧ e = .returned (.tuple #[.string ⟨#[]⟩, .int .i64 0, .int .i64 q])) ∧ Below w.heap.size w w'
theorem zj6 (bs : List Nat) (a : Option Addr) (c : Nat) (hnc : bs.length ≤ c) (hbl : bs.length ≤ 1000000000) (w : World) (ha : zaw w a bs) :
  Calls Tryz.prog 117 #[.slice a bs.length c] w (zi5 w (zcV bs)) := by
 have hp := Hp.start w
 have HA := z0j ha
 clear ha
 cases ht : zcV bs with
 | none =>
  rcases zgM ht with hn | ⟨n, hn, h1 | ⟨h1, h2⟩⟩
  ·have HV := z0j hn
   clear ht hn
   go_enter Tryz.func117, Tryz.ntmps117
   go_wp2_with (first | (go_at_call 184; (with_reducible refine (zd7 bs _ _ hnc _ (HA.out.below hp.below)).mono ?_); rintro e w1 ⟨hq, hb⟩; replace hp := hp.call hb; clear hb; rw [HV.out] at hq; simp only at hq; first | subst hq | (obtain ⟨q, hq, rfl⟩ := hq)) | go_skip | ((first | ((refine zh _ _ rfl ?_); refine lB hp rfl (za rfl) rfl ?_; clear hp; intro b w1 hp) | ((refine zf _ _ rfl ?_); first | refine lO hp rfl (za rfl) zdk aa5 ?_ | refine lA hp rfl (za rfl) zY aa5 ?_) | ((refine zd _ _ _ rfl ?_); (first | refine sO hp rfl (za rfl) zdk aa5 ?_ | refine sA hp rfl (za rfl) (za rfl) zY aa5 ?_ | refine sG hp rfl (za rfl) (za rfl) zY aa5 ?_); clear hp; intro w1 hp; simp only [spl, z0a, z0b] at hp)); simp only [zc, zb, z0b, z0a]))
   have HQ := z0j hq
   have e1 : (q == 0) = false := by rcases hq with rfl | rfl <;> rfl
   clear hq
   go_wp2_with (first | go_skip | ((first | ((refine zh _ _ rfl ?_); refine lB hp rfl (za rfl) rfl ?_; clear hp; intro b w1 hp) | ((refine zf _ _ rfl ?_); first | refine lO hp rfl (za rfl) zdk aa5 ?_ | refine lA hp rfl (za rfl) zY aa5 ?_) | ((refine zd _ _ _ rfl ?_); (first | refine sO hp rfl (za rfl) zdk aa5 ?_ | refine sA hp rfl (za rfl) (za rfl) zY aa5 ?_ | refine sG hp rfl (za rfl) (za rfl) zY aa5 ?_); clear hp; intro w1 hp; simp only [spl, z0a, z0b] at hp)); simp only [zc, zb, z0b, z0a]))
   refine bodyPost_ret (zl (rs := [.tmp 2, .tmp 3, .tmp 4]) Tryz.results117 (.tmp rfl (.tmp rfl (.tmp rfl .nil)))) rfl ?_
   exact ⟨⟨q, HQ.out, rfl⟩, hp.below⟩
  ·have HV := z0j hn
   have e1 : decide ((65536 : Int) < (n : Int)) = true := by simp; omega
   clear ht hn
   go_enter Tryz.func117, Tryz.ntmps117
   go_wp2_with (first | (go_at_call 184; (with_reducible refine (zd7 bs _ _ hnc _ (HA.out.below hp.below)).mono ?_); rintro e w1 ⟨hq, hb⟩; replace hp := hp.call hb; clear hb; rw [HV.out] at hq; simp only at hq; first | subst hq | (obtain ⟨q, hq, rfl⟩ := hq)) | go_skip | ((first | ((refine zh _ _ rfl ?_); refine lB hp rfl (za rfl) rfl ?_; clear hp; intro b w1 hp) | ((refine zf _ _ rfl ?_); first | refine lO hp rfl (za rfl) zdk aa5 ?_ | refine lA hp rfl (za rfl) zY aa5 ?_) | ((refine zd _ _ _ rfl ?_); (first | refine sO hp rfl (za rfl) zdk aa5 ?_ | refine sA hp rfl (za rfl) (za rfl) zY aa5 ?_ | refine sG hp rfl (za rfl) (za rfl) zY aa5 ?_); clear hp; intro w1 hp; simp only [spl, z0a, z0b] at hp)); simp only [zc, zb, z0b, z0a]))
   refine bodyPost_ret (zl (rs := [.tmp 2, .tmp 3, .tmp 4]) Tryz.results117 (.tmp rfl (.tmp rfl (.tmp rfl .nil)))) rfl ?_
   exact ⟨⟨11, .inr rfl, rfl⟩, hp.below⟩
  ·have HV := z0j hn
   obtain ⟨h4, _, _⟩ := zbL hn
   have e1 : decide ((65536 : Int) < (n : Int)) = false := by simp; omega
   have e2 : wrap64 ((bs.length : Int) - 4) = (bs.length : Int) - 4 := by unfold wrap64; omega
   have e3 : decide ((bs.length : Int) - 4 < (n : Int)) = true := by simp; omega
   clear ht hn
   go_enter Tryz.func117, Tryz.ntmps117
   go_wp2_with (first | (go_at_call 184; (with_reducible refine (zd7 bs _ _ hnc _ (HA.out.below hp.below)).mono ?_); rintro e w1 ⟨hq, hb⟩; replace hp := hp.call hb; clear hb; rw [HV.out] at hq; simp only at hq; first | subst hq | (obtain ⟨q, hq, rfl⟩ := hq)) | go_skip | ((first | ((refine zh _ _ rfl ?_); refine lB hp rfl (za rfl) rfl ?_; clear hp; intro b w1 hp) | ((refine zf _ _ rfl ?_); first | refine lO hp rfl (za rfl) zdk aa5 ?_ | refine lA hp rfl (za rfl) zY aa5 ?_) | ((refine zd _ _ _ rfl ?_); (first | refine sO hp rfl (za rfl) zdk aa5 ?_ | refine sA hp rfl (za rfl) (za rfl) zY aa5 ?_ | refine sG hp rfl (za rfl) (za rfl) zY aa5 ?_); clear hp; intro w1 hp; simp only [spl, z0a, z0b] at hp)); simp only [zc, zb, z0b, z0a]))
   refine bodyPost_ret (zl (rs := [.tmp 2, .tmp 3, .tmp 4]) Tryz.results117 (.tmp rfl (.tmp rfl (.tmp rfl .nil)))) rfl ?_
   exact ⟨⟨10, .inl rfl, rfl⟩, hp.below⟩
 | some p =>
  obtain ⟨t, r⟩ := p
  obtain ⟨n, hn, h1, h2, htt, hr⟩ := zdB ht
  have HV := z0j hn
  obtain ⟨h4, _, _⟩ := zbL hn
  have e1 : decide ((65536 : Int) < (n : Int)) = false := by simp; omega
  have e2 : wrap64 ((bs.length : Int) - 4) = (bs.length : Int) - 4 := by unfold wrap64; omega
  have e3 : decide ((bs.length : Int) - 4 < (n : Int)) = false := by simp; omega
  have e4 : wrap64 (4 + (n : Int)) = 4 + (n : Int) := by unfold wrap64; omega
  have e5 : (4 : Int) ≤ 4 + (n : Int) := by omega
  have e6 : 4 + (n : Int) ≤ (bs.length : Int) := by omega
  have e7 : 4 + (n : Int) ≤ (c : Int) := by omega
  have e8 : (bs.length : Int) ≤ (c : Int) := by omega
  have htl : t.length = n := by rw [htt, List.length_take, List.length_drop]; omega
  have HTL := z0j htl
  have HNL : Hid ((nI t).length = 4 + n - 4) := z0j (by rw [zhN, htl]; omega)
  obtain ⟨b, off, rfl, _⟩ := HA.out.1.addr (by rw [ZH byV 1 zbN]; omega)
  have hdr := HA.out.drop 4
  have hrt := zhY hdr n
  rw [← htt] at hrt
  have HRET : Hid (∀ (x : Int) (w' : World), x = 4 + (n : Int) → Below w.heap.size w w' → zi5 w (some (t, r)) (.returned (.tuple #[.string (strOfNums (nI t)), .int .i64 x, .int .i64 0])) w') := z0j (fun x w' hx hb => ⟨by rw [hx]; show Ending.returned (.tuple #[.string (strOfNums (nI t)), .int .i64 (4 + (n : Int)), .int .i64 0]) = Ending.returned (.tuple #[.string (strOfNums (nI t)), .int .i64 ((t.length + 4 : Nat) : Int), .int .i64 0]); rw [htl, show ((n + 4 : Nat) : Int) = 4 + (n : Int) by omega], hb⟩)
  by_cases h : c = 4
  ·subst h
   have hn0 : n = 0 := by omega
   have ht0 : t = [] := List.eq_nil_of_length_eq_zero (by omega)
   have HTR : Hid (zr w (some ⟨b, off, none⟩) ((nI t).map (Value.int .u8))) := z0j (by rw [ht0]; exact zr.nil _ _)
   clear ht hn htt hr htl hdr hrt hn0 ht0
   go_enter Tryz.func117, Tryz.ntmps117
   go_wp2_with (first | (go_at_call 184; (with_reducible refine (zd7 bs _ _ hnc _ (HA.out.below hp.below)).mono ?_); rintro e w1 ⟨hq, hb⟩; replace hp := hp.call hb; clear hb; rw [HV.out] at hq; simp only at hq; first | subst hq | (obtain ⟨q, hq, rfl⟩ := hq)) | ((refine Zl _ _ _ rfl ?_); refine zaq 57 9 5 _ rfl wy Tryz.underlying57 Tryz.underlying5 Tryz.underlying9 _ _ _ (za rfl) (nI t) HNL.out ((HTR.out).below hp.below) ?_; simp only [zc, zb, z0b, z0a]) | go_skip | ((first | ((refine zh _ _ rfl ?_); refine lB hp rfl (za rfl) rfl ?_; clear hp; intro b w1 hp) | ((refine zf _ _ rfl ?_); first | refine lO hp rfl (za rfl) zdk aa5 ?_ | refine lA hp rfl (za rfl) zY aa5 ?_) | ((refine zd _ _ _ rfl ?_); (first | refine sO hp rfl (za rfl) zdk aa5 ?_ | refine sA hp rfl (za rfl) (za rfl) zY aa5 ?_ | refine sG hp rfl (za rfl) (za rfl) zY aa5 ?_); clear hp; intro w1 hp; simp only [spl, z0a, z0b] at hp)); simp only [zc, zb, z0b, z0a]))
   refine bodyPost_ret (zl (rs := [.tmp 2, .tmp 3, .tmp 4]) Tryz.results117 (.tmp rfl (.tmp rfl (.tmp rfl .nil)))) rfl ?_
   exact HRET.out _ _ (by first | rfl | omega) hp.below
  ·have HTR : Hid (zr w (some ⟨b, off + 4, none⟩) ((nI t).map (Value.int .u8))) := z0j hrt
   clear ht hn htt hr htl hdr hrt
   go_enter Tryz.func117, Tryz.ntmps117
   go_wp2_with (first | (go_at_call 184; (with_reducible refine (zd7 bs _ _ hnc _ (HA.out.below hp.below)).mono ?_); rintro e w1 ⟨hq, hb⟩; replace hp := hp.call hb; clear hb; rw [HV.out] at hq; simp only at hq; first | subst hq | (obtain ⟨q, hq, rfl⟩ := hq)) | ((refine Zl _ _ _ rfl ?_); refine zaq 57 9 5 _ rfl wy Tryz.underlying57 Tryz.underlying5 Tryz.underlying9 _ _ _ (za rfl) (nI t) HNL.out ((HTR.out).below hp.below) ?_; simp only [zc, zb, z0b, z0a]) | go_skip | ((first | ((refine zh _ _ rfl ?_); refine lB hp rfl (za rfl) rfl ?_; clear hp; intro b w1 hp) | ((refine zf _ _ rfl ?_); first | refine lO hp rfl (za rfl) zdk aa5 ?_ | refine lA hp rfl (za rfl) zY aa5 ?_) | ((refine zd _ _ _ rfl ?_); (first | refine sO hp rfl (za rfl) zdk aa5 ?_ | refine sA hp rfl (za rfl) (za rfl) zY aa5 ?_ | refine sG hp rfl (za rfl) (za rfl) zY aa5 ?_); clear hp; intro w1 hp; simp only [spl, z0a, z0b] at hp)); simp only [zc, zb, z0b, z0a]))
   refine bodyPost_ret (zl (rs := [.tmp 2, .tmp 3, .tmp 4]) Tryz.results117 (.tmp rfl (.tmp rfl (.tmp rfl .nil)))) rfl ?_
   exact HRET.out _ _ (by first | rfl | omega) hp.below
theorem zeT (n lo hi : Int) (b : Bool) (hb : inM n lo hi = b) (w : World) : Calls Tryz.prog 162 #[.int .i64 n, .int .i64 lo, .int .i64 hi] w fun e w' => e = .returned (.bool b) ∧ w = w' := by
 subst hb
 go_enter Tryz.func162, Tryz.ntmps162
 go_wp2
 all_goals go_ret
 all_goals refine ⟨zL ?_, rfl⟩
 all_goals (simp [inM, *]; try omega)
def zjR (x : Rw) : Bool := inM x.c 1 4 && (inM x.s 1 1000000 && inM x.e 0 65535)
theorem zen (xc xs xe xv : Int) (b : Bool) (hb : zjR ⟨xc, xs, xe, xv⟩ = b) (w : World) : Calls Tryz.prog 95 #[.agg #[.int .i64 xc, .int .i64 xs, .int .i64 xe, .int .i64 xv]] w fun e w' => e = .returned (.bool b) ∧ Below w.heap.size w w' := by
 subst hb
 have hp := Hp.start w
 unfold zjR
 simp only
 cases h1 : inM xc 1 4
 all_goals cases h2 : inM xs 1 1000000
 all_goals cases h3 : inM xe 0 65535
 all_goals
  have H1 := z0j h1
  have H2 := z0j h2
  have H3 := z0j h3
  clear h1 h2 h3
  go_enter Tryz.func95, Tryz.ntmps95
  go_wp2_with (first | (go_at_call 162; (first | (with_reducible refine (zeT xc 1 4 _ H1.out _).mono ?_) | (with_reducible refine (zeT xs 1 1000000 _ H2.out _).mono ?_) | (with_reducible refine (zeT xe 0 65535 _ H3.out _).mono ?_)); rintro e w' ⟨rfl, rfl⟩) | go_skip | ((first | ((refine zh _ _ rfl ?_); refine lB hp rfl (za rfl) rfl ?_; clear hp; intro b w1 hp) | ((refine zf _ _ rfl ?_); first | refine lO hp rfl (za rfl) zdk aa5 ?_ | refine lA hp rfl (za rfl) zY aa5 ?_) | ((refine zd _ _ _ rfl ?_); (first | refine sO hp rfl (za rfl) zdk aa5 ?_ | refine sA hp rfl (za rfl) (za rfl) zY aa5 ?_ | refine sG hp rfl (za rfl) (za rfl) zY aa5 ?_); clear hp; intro w1 hp; simp only [spl, z0a, z0b] at hp)); simp only [zc, zb, z0b, z0a]))
  go_ret
  exact ⟨rfl, hp.below⟩
theorem zke {last : Int} {x : Rw} (h : zjR x = false) : zb9 last x = false ∨ last < 0 := by
 by_cases hl : last < 0
 ·exact .inr hl
 ·left
  unfold zb9
  rw [decide_eq_false_iff_not]
  rintro ⟨h1, h2, h3, h4, h5, h6⟩
  unfold zjR inM at h
  have : (decide (1 ≤ x.c) && decide (x.c ≤ 4) && (decide (1 ≤ x.s) && decide (x.s ≤ 1000000) && (decide (0 ≤ x.e) && decide (x.e ≤ 65535)))) = true := by simp; omega
  rw [this] at h; cases h
theorem ziw {x : Rw} (h : zjR x = true) : 1 ≤ x.c ∧ x.c ≤ 4 ∧ 1 ≤ x.s ∧ x.s ≤ 1000000 ∧ 0 ≤ x.e ∧ x.e ≤ 65535 := by
 unfold zjR inM at h
 simp at h
 omega
theorem zkb (od : Int) (oa : Option Addr) (os : List Ob) (oc : Nat) (nx t0 t1 t2 t3 : Int) (fa : Option Addr) (fs : List Bl) (fc : Nat) (b : Bool) (hb : Zk ⟨od, oa, os, oc, nx, t0, t1, t2, t3, fa, fs, fc⟩ = b) (hs : Hv.Small ⟨od, oa, os, oc, nx, t0, t1, t2, t3, fa, fs, fc⟩) (hnx : nx ≤ 9223372036854775807) (w : World) (h : Hv.Is w ⟨od, oa, os, oc, nx, t0, t1, t2, t3, fa, fs, fc⟩) :
  Calls Tryz.prog 96 #[.agg #[.int .i64 od, .slice oa os.length oc, .int .i64 nx, .int .i64 t0, .int .i64 t1, .int .i64 t2, .int .i64 t3, .slice fa fs.length fc]] w fun e w' => e = .returned (.bool b) ∧ Below w.heap.size w w' := hb ▸ zkc ⟨od, oa, os, oc, nx, t0, t1, t2, t3, fa, fs, fc⟩ hs hnx w h
def zf3 (rs : List Rw) (q : Nat) (last : Int) : Prop := (q = 0 → last = 0) ∧ (0 < q → 1 ≤ last ∧ ∃ y, rs[q - 1]? = some y ∧ y.c = last)
theorem zkf {rs : List Rw} (hrl : rs.length ≤ 1000) {q : Nat} {last : Int} {x : Rw} (h : zf3 rs q last) (hx : rs[q]? = some x) {res : Bool} (hr : zaa 0 rs = zaa last (rs.drop q)) (hres : res = zaa 0 rs) :
  (zjR x = false ∧ res = false) ∨ (zjR x = true ∧ decide ((0 : Int) < (q : Int)) = false ∧ decide (0 < q) = false ∧ zaa 0 rs = zaa x.c (rs.drop (q + 1)) ∧ zf3 rs (q + 1) x.c) ∨
  (∃ (k : Nat) (y : Rw), zjR x = true ∧ decide ((0 : Int) < (q : Int)) = true ∧ decide (0 < q) = true ∧ wrap64 ((q : Int) - 1) = (k : Int) ∧ (q : Int) - 1 = (k : Int) ∧ (0 : Int) ≤ (k : Int) ∧ (k : Int) < (rs.length : Int) ∧ rs[k]? = some y ∧ decide (x.c ≤ y.c) = true ∧ res = false) ∨
  (∃ (k : Nat) (y : Rw), zjR x = true ∧ decide ((0 : Int) < (q : Int)) = true ∧ decide (0 < q) = true ∧ wrap64 ((q : Int) - 1) = (k : Int) ∧ (q : Int) - 1 = (k : Int) ∧ (0 : Int) ≤ (k : Int) ∧ (k : Int) < (rs.length : Int) ∧ rs[k]? = some y ∧ decide (x.c ≤ y.c) = false ∧ zaa 0 rs = zaa x.c (rs.drop (q + 1)) ∧ zf3 rs (q + 1) x.c) := by
 have hql := (List.getElem?_eq_some_iff.1 hx).1
 have hd : rs.drop q = x :: rs.drop (q + 1) := by
  rw [List.drop_eq_getElem_cons hql]
  congr 1
  rw [List.getElem?_eq_getElem hql] at hx; injection hx
 have hc : zaa 0 rs = (zb9 last x && zaa x.c (rs.drop (q + 1))) := by rw [hr, hd]; rfl
 have hla : 0 ≤ last := by
  rcases Nat.eq_zero_or_pos q with h0 | h0
  ·rw [h.1 h0]; exact Int.le_refl _
  ·have := (h.2 h0).1; omega
 cases hm : zjR x with
 | false =>
  left
  refine ⟨rfl, ?_⟩
  rcases zke (last := last) hm with h1 | h1
  ·rw [hres, hc, h1]; rfl
  ·omega
 | true =>
  right
  have hf := ziw hm
  have hnext : zf3 rs (q + 1) x.c := ⟨fun h => by omega, fun _ => ⟨hf.1, x, by simpa using hx, rfl⟩⟩
  rcases Nat.eq_zero_or_pos q with h0 | h0
  ·left
   have hl := h.1 h0
   refine ⟨rfl, by simp; omega, by simp; omega, ?_, hnext⟩
   rw [hc, show zb9 last x = true from zbh.2 (by omega)]; rfl
  ·right
   obtain ⟨h1, y, hy, hyc⟩ := h.2 h0
   have w1 : wrap64 ((q : Int) - 1) = ((q - 1 : Nat) : Int) := by unfold wrap64; omega
   by_cases hle : x.c ≤ y.c
   ·left
    refine ⟨q - 1, y, rfl, by simp; omega, by simp; omega, w1, by omega, by omega, by omega, hy, decide_eq_true hle, ?_⟩
    rw [hres, hc, show zb9 last x = false by unfold zb9; rw [decide_eq_false_iff_not]; rintro ⟨g, _⟩; omega]; rfl
   ·right
    refine ⟨q - 1, y, rfl, by simp; omega, by simp; omega, w1, by omega, by omega, by omega, hy, decide_eq_false hle, ?_, hnext⟩
    rw [hc, show zb9 last x = true from zbh.2 (by omega)]; rfl
theorem zhX (od : Int) (oa : Option Addr) (os : List Ob) (oc : Nat) (nx t0 t1 t2 t3 : Int) (fa : Option Addr) (fs : List Bl) (fc : Nat) (ra : Option Addr) (rs : List Rw) (rc : Nat) (res : Bool) (hres : stB ⟨⟨od, oa, os, oc, nx, t0, t1, t2, t3, fa, fs, fc⟩, ra, rs, rc⟩ = res) (hs : Sv.Small ⟨⟨od, oa, os, oc, nx, t0, t1, t2, t3, fa, fs, fc⟩, ra, rs, rc⟩) (hnx : nx ≤ 9223372036854775807) (w : World) (hx0 : Sv.Is w ⟨⟨od, oa, os, oc, nx, t0, t1, t2, t3, fa, fs, fc⟩, ra, rs, rc⟩) :
  Calls Tryz.prog 36 #[.agg #[.int .i64 od, .slice oa os.length oc, .int .i64 nx, .int .i64 t0, .int .i64 t1, .int .i64 t2, .int .i64 t3, .slice fa fs.length fc, .slice ra rs.length rc]] w fun e w' => e = .returned (.bool res) ∧ Below w.heap.size w w' := by
 subst hres
 have hp := Hp.start w
 have HSH : Hid (Hv.Small ⟨od, oa, os, oc, nx, t0, t1, t2, t3, fa, fs, fc⟩) := z0j hs.1
 have HIH : Hid (Hv.Is w ⟨od, oa, os, oc, nx, t0, t1, t2, t3, fa, fs, fc⟩) := z0j hx0.1
 have HR : Hid (zr w ra (rs.flatMap rwV)) := z0j hx0.2
 have hrl : rs.length ≤ 1000 := hs.2
 have HNX := z0j hnx
 clear hs hx0 hnx
 go_enter Tryz.func36, Tryz.ntmps36
 go_wp2_with (first | go_skip | ((first | ((refine zh _ _ rfl ?_); refine lB hp rfl (za rfl) rfl ?_; clear hp; intro b w1 hp) | ((refine zf _ _ rfl ?_); first | refine lO hp rfl (za rfl) zbY aa5 ?_ | refine lA hp rfl (za rfl) zaJ aa5 ?_) | ((refine zd _ _ _ rfl ?_); (first | refine sO hp rfl (za rfl) zbY aa5 ?_ | refine sA hp rfl (za rfl) (za rfl) zaJ aa5 ?_ | refine sG hp rfl (za rfl) (za rfl) zaJ aa5 ?_); clear hp; intro w1 hp; simp only [spl, z0a, z0b] at hp)); simp only [zc, zb, z0b, z0a]))
 obtain ⟨bb, rfl⟩ := hp.id0
 go_loopg [3] rs.length (fun k i wr => ∃ (q : Nat) (last : Int), k + q = rs.length ∧ i = .int .i64 q ∧ Hid (zaa 0 rs = zaa last (rs.drop q)) ∧ Hid (zf3 rs q last) ∧ Hp w.heap.size w wr [⟨bb, [.int .i64 od, .slice oa os.length oc, .int .i64 nx, .int .i64 t0, .int .i64 t1, .int .i64 t2, .int .i64 t3, .slice fa fs.length fc, .slice ra rs.length rc], 50, 9⟩])
 case atStart => exact ⟨0, 0, by omega, rfl, z0j rfl, z0j ⟨fun _ => rfl, fun h => absurd h (Nat.lt_irrefl 0)⟩, hp⟩
 case round =>
  clear hp
  obtain ⟨q, last, hkq, rfl, HF, HLA, hp⟩ := hrel
  by_cases hlt : q < rs.length
  ·obtain ⟨bq, off, rfl, hx⟩ := HR.out.elems 4 zho (by omega) (by omega)
   have HE := z0j hx
   have hj := List.getElem?_eq_getElem hlt
   replace hx := hx q _ hj
   have hways := zkf hrl HLA.out hj HF.out rfl
   clear hj
   generalize rs[q] = x at hx hways
   obtain ⟨xc, xs, xe, xv⟩ := x
   simp only [rwV] at hx
   have HX := z0j hx
   have f1 : (0 : Int) ≤ (q : Int) := by omega
   have f2 : (q : Int) < (rs.length : Int) := by omega
   clear hx
   rcases hways with ⟨hm, hr⟩ | ⟨hm, d1, d2, hn, hl⟩ | ⟨k, y, hm, d1, d2, d3, d4, d5, d6, hy, hle, hr⟩ | ⟨k, y, hm, d1, d2, d3, d4, d5, d6, hy, hle, hn, hl⟩
   ·have HMB := z0j hm
    have HRR : Hid (zaa 0 rs = false) := z0j hr
    clear hm hr HE
    go_wp2_with (first | go_skip | ((first | ((refine zh _ _ rfl ?_); refine lB hp rfl (za rfl) rfl ?_; clear hp; intro b w1 hp) | ((refine zf _ _ rfl ?_); first | refine lO hp rfl (za rfl) zbY aa5 ?_ | refine lA hp rfl (za rfl) zaJ aa5 ?_) | ((refine zd _ _ _ rfl ?_); (first | refine sO hp rfl (za rfl) zbY aa5 ?_ | refine sA hp rfl (za rfl) (za rfl) zaJ aa5 ?_ | refine sG hp rfl (za rfl) (za rfl) zaJ aa5 ?_); clear hp; intro w1 hp; simp only [spl, z0a, z0b] at hp)); simp only [zc, zb, z0b, z0a]))
    refine zk _ (zE.all hp.drew) [] [(0, true), (1, true), (2, true), (3, true), (4, true), (5, false), (6, true), (7, true), (8, true), (9, true), (10, true), (11, true), (12, true), (13, true), (14, true), (15, true), (16, true), (17, true), (18, true), (19, true), (20, true), (21, true), (22, true), (23, true), (24, true), (25, true), (26, true)] (by kernel_rfl) (by kernel_rfl) rfl (by kernel_rfl) (fun _ _ d _ _ h => by cases d <;> exact h) ?_
    replace hp := hp.drew
    repeat' (with_reducible refine zG ?_); first | (with_reducible refine zw ?_) | ((with_reducible refine zR ?_); refine zy rfl ?_; (first | ((with_reducible refine za0 _ _ rfl ?_); refine tS (by first | exact Zc rfl rfl rfl rfl | exact Zm rfl rfl rfl rfl) ?_) | ((with_reducible refine Zy _ rfl ?_); refine tM rfl ?_) | ((with_reducible refine Zt _ _ rfl ?_); first | refine tA rfl (za rfl) zY aa5 ?_ | refine tO rfl (za rfl) (by with_reducible first | exact zq | exact za9) aa5 ?_ | refine tR rfl (za rfl) zY HX.out ?_ | refine tRO rfl (za rfl) (by with_reducible first | exact zq | exact za9) (HX.out 0 _ rfl) ?_) | refine tG (fun w _ => (by go_simp; try rfl)) ?_); try simp only [zc, zb, zm, zj, z0b, z0a, z0d, z0c, zn]) | (refine zQ rfl (fun K hK => ?_); go_wp2_with (first | (go_at_call 95; (with_reducible refine (zen xc xs xe xv _ HMB.out _).mono ?_); rintro e w1 ⟨rfl, hb⟩; replace hp := hp.call hb; clear hb) | go_skip); (refine hK.out _ _ (.inr (zdp hp)) ?_); clear hK K; try simp only [zc, zb, zm, zj, z0b, z0a, z0d, z0c, zn])
    go_wp2_with (first | go_skip | ((first | ((refine zh _ _ rfl ?_); refine lB hp rfl (za rfl) rfl ?_; clear hp; intro b w1 hp) | ((refine zf _ _ rfl ?_); first | refine lO hp rfl (za rfl) zbY aa5 ?_ | refine lA hp rfl (za rfl) zaJ aa5 ?_) | ((refine zd _ _ _ rfl ?_); (first | refine sO hp rfl (za rfl) zbY aa5 ?_ | refine sA hp rfl (za rfl) (za rfl) zaJ aa5 ?_ | refine sG hp rfl (za rfl) (za rfl) zaJ aa5 ?_); clear hp; intro w1 hp; simp only [spl, z0a, z0b] at hp)); simp only [zc, zb, z0b, z0a]))
    go_ret
    refine ⟨zL ?_, hp.below⟩
    unfold stB
    simp only
    rw [HRR.out, Bool.and_false]
   ·have HMB := z0j hm
    have HNN := z0j hn
    have HLL := z0j hl
    have d3 : ¬ 0 < q := by simpa using d2
    clear hm hn hl HE
    go_wp2_with (first | go_skip | ((first | ((refine zh _ _ rfl ?_); refine lB hp rfl (za rfl) rfl ?_; clear hp; intro b w1 hp) | ((refine zf _ _ rfl ?_); first | refine lO hp rfl (za rfl) zbY aa5 ?_ | refine lA hp rfl (za rfl) zaJ aa5 ?_) | ((refine zd _ _ _ rfl ?_); (first | refine sO hp rfl (za rfl) zbY aa5 ?_ | refine sA hp rfl (za rfl) (za rfl) zaJ aa5 ?_ | refine sG hp rfl (za rfl) (za rfl) zaJ aa5 ?_); clear hp; intro w1 hp; simp only [spl, z0a, z0b] at hp)); simp only [zc, zb, z0b, z0a]))
    refine zk [_] (zE.one hp.drew at0) [] [(0, true), (1, true), (2, true), (3, true), (4, true), (5, false), (6, true), (7, true), (8, true), (9, true), (10, true), (11, true), (12, true), (13, true), (14, true), (15, true), (16, true), (17, true), (18, true), (19, true), (20, true), (21, true), (22, true), (23, true), (24, true), (25, true), (26, true)] (by kernel_rfl) (by kernel_rfl) rfl (by kernel_rfl) (fun _ _ d _ _ h => by cases d <;> exact h) ?_
    replace hp := hp.drew
    repeat' (with_reducible refine zG ?_); first | (with_reducible refine zw ?_) | ((with_reducible refine zR ?_); refine zy rfl ?_; (first | ((with_reducible refine za0 _ _ rfl ?_); refine tS (Zc rfl rfl rfl rfl) ?_) | ((with_reducible refine Zy _ rfl ?_); refine tM rfl ?_) | ((with_reducible refine Zt _ _ rfl ?_); first | refine tA rfl (za rfl) zY aa5 ?_ | refine tO rfl (za rfl) (by with_reducible first | exact zq | exact za9) aa5 ?_ | refine tR rfl (za rfl) zY HX.out ?_ | refine tRO rfl (za rfl) (by with_reducible first | exact zq | exact za9) (HX.out 0 _ rfl) ?_) | refine tG (fun w _ => (by go_simp; try rfl)) ?_); try simp only [zc, zb, zm, zj, z0b, z0a, z0d, z0c, zn]) | (refine zQ rfl (fun K hK => ?_); go_wp2_with (first | (go_at_call 95; (with_reducible refine (zen xc xs xe xv _ HMB.out _).mono ?_); rintro e w1 ⟨rfl, hb⟩; replace hp := hp.call hb; clear hb) | go_skip); (refine hK.out _ _ (.inr (zE.one hp aa5)) ?_); clear hK K; try simp only [zc, zb, zm, zj, z0b, z0a, z0d, z0c, zn])
    go_wp2_with (first | go_skip | ((first | ((refine zh _ _ rfl ?_); refine lB hp rfl (za rfl) rfl ?_; clear hp; intro b w1 hp) | ((refine zf _ _ rfl ?_); first | refine lO hp rfl (za rfl) zbY aa5 ?_ | refine lA hp rfl (za rfl) zaJ aa5 ?_) | ((refine zd _ _ _ rfl ?_); (first | refine sO hp rfl (za rfl) zbY aa5 ?_ | refine sA hp rfl (za rfl) (za rfl) zaJ aa5 ?_ | refine sG hp rfl (za rfl) (za rfl) zaJ aa5 ?_); clear hp; intro w1 hp; simp only [spl, z0a, z0b] at hp)); simp only [zc, zb, z0b, z0a]))
    go_roundg (gk - 1)
    case measure => omega
    case rel => exact ⟨q + 1, xc, by omega, by go_num, HNN, HLL, hp⟩
   ·have HMB := z0j hm
    have HRR : Hid (zaa 0 rs = false) := z0j hr
    have HY := HE.out _ _ hy
    obtain ⟨yc, ys, ye, yv⟩ := y
    simp only [rwV] at HY
    have HK := z0j HY
    have HW := z0j d3
    have d7 : 0 < q := by simpa using d2
    simp only at hle
    clear hm hr HE HY hy d3 d4
    go_wp2_with (first | go_skip | ((first | ((refine zh _ _ rfl ?_); refine lB hp rfl (za rfl) rfl ?_; clear hp; intro b w1 hp) | ((refine zf _ _ rfl ?_); first | refine lO hp rfl (za rfl) zbY aa5 ?_ | refine lA hp rfl (za rfl) zaJ aa5 ?_) | ((refine zd _ _ _ rfl ?_); (first | refine sO hp rfl (za rfl) zbY aa5 ?_ | refine sA hp rfl (za rfl) (za rfl) zaJ aa5 ?_ | refine sG hp rfl (za rfl) (za rfl) zaJ aa5 ?_); clear hp; intro w1 hp; simp only [spl, z0a, z0b] at hp)); simp only [zc, zb, z0b, z0a]))
    refine zk [_] (zE.one hp.drew at0) [] [(0, true), (1, true), (2, true), (3, true), (4, true), (5, false), (6, true), (7, true), (8, true), (9, true), (10, true), (11, true), (12, true), (13, true), (14, true), (15, true), (16, true), (17, true), (18, true), (19, true), (20, true), (21, true), (22, true), (23, true), (24, true), (25, true), (26, true)] (by kernel_rfl) (by kernel_rfl) rfl (by kernel_rfl) (fun _ _ d _ _ h => by cases d <;> exact h) ?_
    replace hp := hp.drew
    repeat' (with_reducible refine zG ?_); first | (with_reducible refine zw ?_) | ((with_reducible refine zR ?_); refine zy rfl ?_; (first | ((with_reducible refine za0 _ _ rfl ?_); refine tS (Zc rfl rfl rfl rfl) ?_) | ((with_reducible refine Zy _ rfl ?_); refine tM rfl ?_) | ((with_reducible refine Zt _ _ rfl ?_); first | refine tA rfl (za rfl) zY aa5 ?_ | refine tO rfl (za rfl) (by with_reducible first | exact zq | exact za9) aa5 ?_ | refine tR rfl (za rfl) zY HX.out ?_ | refine tRO rfl (za rfl) (by with_reducible first | exact zq | exact za9) (HX.out 0 _ rfl) ?_ | refine tR rfl (za rfl) zY HK.out ?_ | refine tRO rfl (za rfl) (by with_reducible first | exact zq | exact za9) (HK.out 0 _ rfl) ?_) | refine tG (fun w _ => (by go_simp; try rfl)) ?_); try simp only [zc, zb, zm, zj, z0b, z0a, z0d, z0c, zn, HW.out]) | (refine zQ rfl (fun K hK => ?_); go_wp2_with (first | (go_at_call 95; (with_reducible refine (zen xc xs xe xv _ HMB.out _).mono ?_); rintro e w1 ⟨rfl, hb⟩; replace hp := hp.call hb; clear hb) | go_skip); (refine hK.out _ _ (.inr (zE.one hp aa5)) ?_); clear hK K; try simp only [zc, zb, zm, zj, z0b, z0a, z0d, z0c, zn, HW.out])
    go_wp2_with (first | go_skip | ((first | ((refine zh _ _ rfl ?_); refine lB hp rfl (za rfl) rfl ?_; clear hp; intro b w1 hp) | ((refine zf _ _ rfl ?_); first | refine lO hp rfl (za rfl) zbY aa5 ?_ | refine lA hp rfl (za rfl) zaJ aa5 ?_) | ((refine zd _ _ _ rfl ?_); (first | refine sO hp rfl (za rfl) zbY aa5 ?_ | refine sA hp rfl (za rfl) (za rfl) zaJ aa5 ?_ | refine sG hp rfl (za rfl) (za rfl) zaJ aa5 ?_); clear hp; intro w1 hp; simp only [spl, z0a, z0b] at hp)); simp only [zc, zb, z0b, z0a]))
    go_ret
    refine ⟨zL ?_, hp.below⟩
    unfold stB
    simp only
    rw [HRR.out, Bool.and_false]
   ·have HMB := z0j hm
    have HNN := z0j hn
    have HLL := z0j hl
    have HY := HE.out _ _ hy
    obtain ⟨yc, ys, ye, yv⟩ := y
    simp only [rwV] at HY
    have HK := z0j HY
    have HW := z0j d3
    have d7 : 0 < q := by simpa using d2
    simp only at hle
    clear hm hn hl HE HY hy d3 d4
    go_wp2_with (first | go_skip | ((first | ((refine zh _ _ rfl ?_); refine lB hp rfl (za rfl) rfl ?_; clear hp; intro b w1 hp) | ((refine zf _ _ rfl ?_); first | refine lO hp rfl (za rfl) zbY aa5 ?_ | refine lA hp rfl (za rfl) zaJ aa5 ?_) | ((refine zd _ _ _ rfl ?_); (first | refine sO hp rfl (za rfl) zbY aa5 ?_ | refine sA hp rfl (za rfl) (za rfl) zaJ aa5 ?_ | refine sG hp rfl (za rfl) (za rfl) zaJ aa5 ?_); clear hp; intro w1 hp; simp only [spl, z0a, z0b] at hp)); simp only [zc, zb, z0b, z0a]))
    refine zk [_] (zE.one hp.drew at0) [] [(0, true), (1, true), (2, true), (3, true), (4, true), (5, false), (6, true), (7, true), (8, true), (9, true), (10, true), (11, true), (12, true), (13, true), (14, true), (15, true), (16, true), (17, true), (18, true), (19, true), (20, true), (21, true), (22, true), (23, true), (24, true), (25, true), (26, true)] (by kernel_rfl) (by kernel_rfl) rfl (by kernel_rfl) (fun _ _ d _ _ h => by cases d <;> exact h) ?_
    replace hp := hp.drew
    repeat' (with_reducible refine zG ?_); first | (with_reducible refine zw ?_) | ((with_reducible refine zR ?_); refine zy rfl ?_; (first | ((with_reducible refine za0 _ _ rfl ?_); refine tS (Zc rfl rfl rfl rfl) ?_) | ((with_reducible refine Zy _ rfl ?_); refine tM rfl ?_) | ((with_reducible refine Zt _ _ rfl ?_); first | refine tA rfl (za rfl) zY aa5 ?_ | refine tO rfl (za rfl) (by with_reducible first | exact zq | exact za9) aa5 ?_ | refine tR rfl (za rfl) zY HX.out ?_ | refine tRO rfl (za rfl) (by with_reducible first | exact zq | exact za9) (HX.out 0 _ rfl) ?_ | refine tR rfl (za rfl) zY HK.out ?_ | refine tRO rfl (za rfl) (by with_reducible first | exact zq | exact za9) (HK.out 0 _ rfl) ?_) | refine tG (fun w _ => (by go_simp; try rfl)) ?_); try simp only [zc, zb, zm, zj, z0b, z0a, z0d, z0c, zn, HW.out]) | (refine zQ rfl (fun K hK => ?_); go_wp2_with (first | (go_at_call 95; (with_reducible refine (zen xc xs xe xv _ HMB.out _).mono ?_); rintro e w1 ⟨rfl, hb⟩; replace hp := hp.call hb; clear hb) | go_skip); (refine hK.out _ _ (.inr (zE.one hp aa5)) ?_); clear hK K; try simp only [zc, zb, zm, zj, z0b, z0a, z0d, z0c, zn, HW.out])
    go_wp2_with (first | go_skip | ((first | ((refine zh _ _ rfl ?_); refine lB hp rfl (za rfl) rfl ?_; clear hp; intro b w1 hp) | ((refine zf _ _ rfl ?_); first | refine lO hp rfl (za rfl) zbY aa5 ?_ | refine lA hp rfl (za rfl) zaJ aa5 ?_) | ((refine zd _ _ _ rfl ?_); (first | refine sO hp rfl (za rfl) zbY aa5 ?_ | refine sA hp rfl (za rfl) (za rfl) zaJ aa5 ?_ | refine sG hp rfl (za rfl) (za rfl) zaJ aa5 ?_); clear hp; intro w1 hp; simp only [spl, z0a, z0b] at hp)); simp only [zc, zb, z0b, z0a]))
    go_roundg (gk - 1)
    case measure => omega
    case rel => exact ⟨q + 1, xc, by omega, by go_num, HNN, HLL, hp⟩
  ·obtain rfl : q = rs.length := by omega
   have f2 : decide ((rs.length : Int) < (rs.length : Int)) = false := by simp
   have HT : Hid (zaa 0 rs = true) := z0j (by rw [HF.out, List.drop_length]; rfl)
   obtain ⟨b, hb⟩ : ∃ b, Zk ⟨od, oa, os, oc, nx, t0, t1, t2, t3, fa, fs, fc⟩ = b := ⟨_, rfl⟩
   have HB := z0j hb
   clear hkq hlt hb HF
   go_wp2_with (first | (go_at_call 96; (with_reducible refine (zkb od oa os oc nx t0 t1 t2 t3 fa fs fc _ HB.out HSH.out HNX.out _ (HIH.out.below hp.below)).mono ?_); rintro e w1 ⟨rfl, hb⟩; replace hp := hp.call hb; clear hb) | go_skip | ((first | ((refine zh _ _ rfl ?_); refine lB hp rfl (za rfl) rfl ?_; clear hp; intro b w1 hp) | ((refine zf _ _ rfl ?_); first | refine lO hp rfl (za rfl) zbY aa5 ?_ | refine lA hp rfl (za rfl) zaJ aa5 ?_) | ((refine zd _ _ _ rfl ?_); (first | refine sO hp rfl (za rfl) zbY aa5 ?_ | refine sA hp rfl (za rfl) (za rfl) zaJ aa5 ?_ | refine sG hp rfl (za rfl) (za rfl) zaJ aa5 ?_); clear hp; intro w1 hp; simp only [spl, z0a, z0b] at hp)); simp only [zc, zb, z0b, z0a]))
   go_ret
   refine ⟨zL ?_, hp.below⟩
   unfold stB
   simp only
   rw [HT.out, Bool.and_true, HB.out]
open Go.RowKit
theorem zmK {l k : List Ob} (h : Z7 l k) : l.flatMap obB = k.flatMap obB := by
 have : l.map obB = k.map obB := by
  apply List.ext_getElem?
  intro i
  rw [List.getElem?_map, List.getElem?_map]
  rcases Nat.lt_or_ge i l.length with hi | hi
  ·have ha := List.getElem?_eq_getElem hi
   have hb := List.getElem?_eq_getElem (l := k) (i := i) (by have := h.1; omega)
   obtain ⟨h1, h2, h3, h4, h5⟩ := h.2 i _ _ ha hb
   rw [ha, hb]
   simp only [Option.map_some, obB, h1, h2, h4, h5]
  ·rw [List.getElem?_eq_none hi, List.getElem?_eq_none (by have := h.1; omega)]
 rw [List.flatMap_def, List.flatMap_def, this]
theorem zk3 {x y : Hv} (h : x.Sm y) : zcS x = zcS y := by
 unfold zcS zgm
 rw [h.od, h.nx, h.t0, h.t1, h.t2, h.t3, zmK h.os, h.os.1]
theorem zkj {x y : Sv} (h : x.Sm y) : zdz x = zdz y := by
 unfold zdz; rw [zk3 h.1, h.2]
theorem HvO.kept {y : Hv} {R : List Blk} (h : HvO y R) : zaG R fun w => y.Is w := by
 obtain ⟨RO, RF, M, rfl, h⟩ := h
 exact h.kept
theorem zD.cap {e : TypeId} {c n m : Nat} {a : Option Addr} {k : Nat} {xs : List Value} {R : List Blk} (h : zD e c (.slice a n k) m xs R) (hn : n = m) : m ≤ k := by
 obtain ⟨a', k', hv, hk, _⟩ := h.kept
 injection hv with _ _ hk'
 omega
def b28 : List Nat := [0, 0, 0, 3, 0, 0, 0, 1, 0, 0, 0, 0, 0, 0, 0, 0, 0, 0, 0, 0, 0, 0, 0, 0, 0, 0, 0, 0]
theorem ziG : Zk (zcT 3) = true := zin (by decide) (by decide)
end Go.Proofs.YtaafajaadfgaoaaGreat

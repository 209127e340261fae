import Derived.Test.YtaafajaadfgaoaaGreatFp4
import Derived.Test.YtaafajaadfgaoaaGreatFp2
set_option linter.unusedSimpArgs false
set_option linter.unusedVariables false
set_option maxRecDepth 100000
set_option maxHeartbeats 60000000
namespace Go.Proofs.YtaafajaadfgaoaaGreat
open Go.RowKit
theorem zeb {ty : TypeId} (h : zB Tryz.prog ty = true := by with_reducible first | exact zq | exact zA | exact zcz | exact ZB | exact ZL | exact Ze) : zB Tryz.prog ty = true := h
def zcV (bs : List Nat) : Option (List Nat × List Nat) := match zef bs with
 | none => none
 | some n => if n ≤ 65536 ∧ n + 4 ≤ bs.length then some ((bs.drop 4).take n, (bs.drop 4).drop n) else none
theorem zfL (br n c : Nat) (a : Option Addr) {B : Nat} {w0 w : World} {L : List Blk} (hp : Hp B w0 w (Rb br a n c :: L)) : Calls Tryz.prog 173 #[.pointer (some ⟨br, 0, none⟩)] w fun e w' => e = .returned (.int .i64 n) ∧ w = w' := by
 have HC := z0j (Rb.cell hp)
 clear hp
 go_enter Tryz.func173, Tryz.ntmps173
 go_wp2_with (first | ((refine zf 210 _ rfl ?_); refine zV (Hp.start _) _ _ rfl wy _ _ (za rfl) ZB _ HC.out ?_; simp only [zc, zb, z0b, z0a]) | go_skip)
 go_ret
 exact ⟨rfl, rfl⟩
theorem Zl {P : Program} {ops : Array Oper} {rest : List Oper} {o : Oper} {a : Act} {w : World} {Q : Exit → Act → World → Prop} (s d : TypeId) (x : Operand) (_ : o.op = .convert s d x) (h : wpList P ops Q (o :: rest) a w) : wpList P ops Q (o :: rest) a w := h
theorem zhY {w : World} {a : Option Addr} {bs : List Nat} (h : zaw w a bs) (n : Nat) : zr w a ((nI (bs.take n)).map (Value.int .u8)) := by
 intro j v hj
 rw [zfN, zid, List.getElem?_map, List.getElem?_take] at hj
 split at hj
 ·refine h.1 j v ?_
  rw [zid, List.getElem?_map]; exact hj
 ·simp at hj
theorem zdB {bs t r : List Nat} (h : zcV bs = some (t, r)) : ∃ n, zef bs = some n ∧ n ≤ 65536 ∧ n + 4 ≤ bs.length ∧ t = (bs.drop 4).take n ∧ r = (bs.drop 4).drop n := by
 unfold zcV at h
 cases hn : zef bs with
 | none => rw [hn] at h; cases h
 | some n =>
  rw [hn] at h
  simp only at h
  split at h
  ·rename_i hc
   injection h with h
   injection h with h1 h2
   exact ⟨n, rfl, hc.1, hc.2, h1.symm, h2.symm⟩
  ·cases h
theorem zgM {bs : List Nat} (h : zcV bs = none) : zef bs = none ∨ ∃ n, zef bs = some n ∧ (65536 < n ∨ (n ≤ 65536 ∧ bs.length < n + 4)) := by
 unfold zcV at h
 cases hn : zef bs with
 | none => exact .inl rfl
 | some n =>
  rw [hn] at h
  simp only at h
  split at h
  ·cases h
  ·exact .inr ⟨n, rfl, by omega⟩
theorem zhq (br c : Nat) (a : Option Addr) (bs : List Nat) (hv : zcV bs = none) (hnc : bs.length ≤ c) (hbl : bs.length ≤ 1000000000) {w0 w : World} {L : List Blk} (hp : Hp w0.heap.size w0 w (Rb br a bs.length c :: L)) (ha : zaw w0 a bs) :
  Calls Tryz.prog 101 #[.pointer (some ⟨br, 0, none⟩)] w fun e w' => (∃ q : Int, (q = 10 ∨ q = 11) ∧ e = .returned (.tuple #[.string ⟨#[]⟩, .int .i64 q])) ∧ w = w' := by
 have HA := z0j ha
 clear ha
 rcases zgM hv with hn | ⟨n, hn, h1 | ⟨h1, h2⟩⟩
 ·have HV := z0j hn
  clear hv hn
  go_enter Tryz.func101, Tryz.ntmps101
  go_wp2_with (first | (go_at_call 174; (with_reducible refine (zeB br c a bs HV.out hnc hp HA.out).mono ?_); rintro e w' ⟨⟨q, hq, rfl⟩, rfl⟩) | go_skip)
  rcases hq with rfl | rfl
  all_goals
   go_wp2_with (first | go_skip)
   go_ret2
  ·exact ⟨⟨10, .inl rfl, rfl⟩, rfl⟩
  ·exact ⟨⟨11, .inr rfl, rfl⟩, rfl⟩
 ·have HV := z0j hn
  have e1 : decide ((65536 : Int) < (n : Int)) = true := by simp; omega
  clear hv hn
  go_enter Tryz.func101, Tryz.ntmps101
  go_wp2_with (first | (go_at_call 174; (with_reducible refine (zek br c n a bs HV.out hnc hp HA.out).mono ?_); rintro e w' ⟨rfl, rfl⟩) | go_skip)
  go_ret2
  exact ⟨⟨11, .inr rfl, rfl⟩, rfl⟩
 ·have HV := z0j hn
  obtain ⟨h4, _, _⟩ := zbL hn
  have e1 : decide ((65536 : Int) < (n : Int)) = false := by simp; omega
  have e2 : wrap64 ((bs.length : Int) - 4) = (bs.length : Int) - 4 := by unfold wrap64; omega
  have e3 : decide ((bs.length : Int) - 4 < (n : Int)) = true := by simp; omega
  clear hv hn
  go_enter Tryz.func101, Tryz.ntmps101
  go_wp2_with (first | (go_at_call 174; (with_reducible refine (zek br c n a bs HV.out hnc hp HA.out).mono ?_); rintro e w' ⟨rfl, rfl⟩) | (go_at_call 173; (with_reducible refine (zfL br bs.length c a hp).mono ?_); rintro e w' ⟨rfl, rfl⟩) | go_skip)
  go_ret2
  exact ⟨⟨10, .inl rfl, rfl⟩, rfl⟩
theorem zlH (br c : Nat) (t r : List Nat) (a : Option Addr) (bs : List Nat) (hv : zcV bs = some (t, r)) (hnc : bs.length ≤ c) (hbl : bs.length ≤ 1000000000) {w0 w : World} {L : List Blk} (hp : Hp w0.heap.size w0 w (Rb br a bs.length c :: L)) (ha : zaw w0 a bs) :
  Calls Tryz.prog 101 #[.pointer (some ⟨br, 0, none⟩)] w fun e w' => e = .returned (.tuple #[.string (strOfNums (nI t)), .int .i64 0]) ∧ ∃ c', r.length ≤ c' ∧ ze9 w0 br r c' L w' := by
 have HA := z0j ha
 clear ha
 obtain ⟨n, hn, h1, h2, rfl, rfl⟩ := zdB hv
 have HV := z0j hn
 obtain ⟨hn4, _, _⟩ := zbL hn
 have e1 : decide ((65536 : Int) < (n : Int)) = false := by simp; omega
 have e2 : wrap64 ((bs.length : Int) - 4) = (bs.length : Int) - 4 := by unfold wrap64; omega
 have e3 : decide ((bs.length : Int) - 4 < (n : Int)) = false := by simp; omega
 obtain ⟨ys, hys⟩ : ∃ ys, ys = bs.drop 4 := ⟨_, rfl⟩
 obtain ⟨c4, hc4⟩ : ∃ c4, c4 = c - 4 := ⟨_, rfl⟩
 have hyl : ys.length = bs.length - 4 := by rw [hys, List.length_drop]
 have HNY : Hid (n ≤ ys.length) := z0j (by omega)
 have HYC : Hid (ys.length ≤ c4) := z0j (by omega)
 have HNL : Hid ((nI (ys.take n)).length = n) := z0j (by rw [zhN, List.length_take]; omega)
 have e4 : (n : Int) ≤ (c4 : Int) := by omega
 have e5 : (0 : Int) ≤ (n : Int) := by omega
 have HYS := z0j hys
 have HC4 := z0j hc4
 have HF : Hid ((ys.drop n).length ≤ c4 - n) := z0j (by rw [List.length_drop]; omega)
 rw [← hys]
 clear hv hn hyl hys hc4
 go_enter Tryz.func101, Tryz.ntmps101
 go_wp2_with (first | (go_at_call 174; (with_reducible refine (zek br c n a bs HV.out hnc hp HA.out).mono ?_); rintro e w' ⟨rfl, rfl⟩) | (go_at_call 173; (with_reducible refine (zfL br bs.length c a hp).mono ?_); rintro e w' ⟨rfl, rfl⟩) | (go_at_call 175; (with_reducible refine (znG br c a bs hn4 hnc hp HA.out).mono ?_); clear hp; rintro e w1 ⟨rfl, a', ha', hp⟩; rw [← HYS.out] at ha' hp; rw [← HC4.out] at hp; have HA2 := z0j ha'; clear ha') | ((refine zf 210 _ rfl ?_); refine zV (Hp.start _) _ _ rfl wy _ _ (za rfl) ZB _ (Rb.cell hp) ?_; simp only [zc, zb, z0b, z0a]) | ((refine Zl _ _ _ rfl ?_); refine zaq 210 9 5 _ rfl wy Tryz.underlying210 Tryz.underlying5 Tryz.underlying9 a' n c4 (za rfl) (nI (ys.take n)) HNL.out (zhY (HA2.out.below hp.below) n) ?_; simp only [zc, zb, z0b, z0a]) | (go_at_call 175; (with_reducible refine (zfO br c4 n a' ys HNY.out HYC.out hp HA2.out).mono ?_); clear hp; rintro e w1 ⟨rfl, a2, ha2, hp⟩; have HA3 := z0j ha2; clear ha2) | go_skip)
 go_ret2
 exact ⟨rfl, _, HF.out, a2, HA3.out, hp⟩
theorem zff (s : ByteArray) (w : World) : Calls Tryz.prog 100 #[.string s, .int .i64 0] w fun e w' => e = .returned (.string s) ∧ w = w' := by
 go_enter Tryz.func100, Tryz.ntmps100
 go_wp2
 go_ret
 exact ⟨rfl, rfl⟩
theorem zb1 (s : ByteArray) (q : Int) (hq : q = 10 ∨ q = 11) (w : World) : Calls Tryz.prog 100 #[.string s, .int .i64 q] w fun e w' => e = .panicked zfB ∧ w = w' := by
 rcases hq with rfl | rfl
 all_goals
  go_enter Tryz.func100, Tryz.ntmps100
  go_wp2
  exact ⟨rfl, rfl, rfl⟩
def zf1 (bs : List Nat) : Option (Rw × List Nat) := match nR bs with
 | none => none
 | some (c, b1) => match nR b1 with
  | none => none
  | some (s, b2) => match nR b2 with
   | none => none
   | some (e, b3) => match iR b3 with
    | none => none
    | some (v, b4) => some (⟨c, s, e, v⟩, b4)
def zmk (w0 : World) (br bi : Nat) (r : Option (Rw × List Nat)) (L : List Blk) (e : Ending) (w' : World) : Prop :=
 match r with
 | some (x, bs') => e = .returned (.agg (rwV x).toArray) ∧ ZZ w0 br bi bs' [] L w'
 | none => e = .panicked zfB ∧ Hp w0.heap.size w0 w' L
theorem ZZ.mk3 {w0 w : World} {br bi c : Nat} {a : Option Addr} {bs : List Nat} {x y : Blk} {L : List Blk} (h1 : bs.length ≤ c) (h2 : zaw w0 a bs)
  (hp : Hp w0.heap.size w0 w (x :: y :: ⟨br, [.slice a bs.length c], 210, 1⟩ :: ⟨bi, [.pointer (some ⟨br, 0, none⟩)], 144, 1⟩ :: L)) : ZZ w0 br bi bs [] L w :=
 ⟨a, c, h1, h2, (show Hp w0.heap.size w0 w (x :: y :: Rb br a bs.length c :: Ib bi br :: L) from hp).kp⟩
theorem zl4 (br bi : Nat) (bs : List Nat) {w0 w : World} {L : List Blk} (hs : ZZ w0 br bi bs [] L w) :
  Calls Tryz.prog 104 #[.pointer (some ⟨bi, 0, none⟩)] w (zmk w0 br bi (zf1 bs) L) := by
 obtain ⟨a, c, hl, ha, hp⟩ := hs
 have HL := z0j hl
 have HA := z0j ha
 clear hl ha
 simp only [z0e, Rb, Ib] at hp
 unfold zf1
 cases h1 : nR bs with
 | none => have H1 := z0j h1; clear h1; simp only; go_enter Tryz.func104, Tryz.ntmps104; go_wp2_with (first | (go_at_call 103; refine (Z3 br bi _ (K := [_, _]) (L := L) ⟨_, _, HL.out, HA.out, hp⟩).mono ?_; clear hp HL HA; rintro e w1 hq; (first | rw [H1.out] at hq | rw [H2.out] at hq | rw [H3.out] at hq); (first | (obtain ⟨rfl, a, c, hl, ha, hp⟩ := hq; have HL := z0j hl; have HA := z0j ha; clear hl ha; simp only [z0f, z0e, Rb, Ib] at hp) | (obtain ⟨rfl, hp⟩ := hq; simp only [z0f, z0e] at hp))) | (go_at_call 109; refine (zc7 br bi _ (K := [_, _]) (L := L) ⟨_, _, HL.out, HA.out, hp⟩).mono ?_; clear hp HL HA; rintro e w1 hq; rw [H4.out] at hq; (first | (obtain ⟨rfl, a, c, hl, ha, hp⟩ := hq; have HL := z0j hl; have HA := z0j ha; clear hl ha; simp only [z0f, z0e, Rb, Ib] at hp) | (obtain ⟨rfl, hp⟩ := hq; simp only [z0f, z0e] at hp))) | go_skip | ((first | ((refine zg _ rfl ?_); refine lZ hp rfl ZV ?_; clear hp; intro b w1 hp) | ((refine zh _ _ rfl ?_); refine lB hp rfl (za rfl) rfl ?_; clear hp; intro b w1 hp) | ((refine zf _ _ rfl ?_); first | refine lO hp rfl (za rfl) zeb aa5 ?_ | refine lA hp rfl (za rfl) zY aa5 ?_) | ((refine zd _ _ _ rfl ?_); (first | refine sO hp rfl (za rfl) zeb aa5 ?_ | refine sA hp rfl (za rfl) (za rfl) zY aa5 ?_ | refine sG hp rfl (za rfl) (za rfl) zY aa5 ?_); clear hp; intro w1 hp; simp only [spl, z0a, z0b] at hp) | ((refine zi _ _ _ rfl ?_); refine lS hp rfl (by intro w; go_simp; rfl) ?_; clear hp; intro b w1 hp; simp only [z0g, z0h, Nat.reduceAdd] at hp)); simp only [zc, zb, z0b, z0a])); exact ⟨rfl, rfl, hp.kp⟩
 | some q1 =>
  obtain ⟨rc, b1⟩ := q1
  have H1 := z0j h1
  clear h1
  simp only
  cases h2 : nR b1 with
  | none => have H2 := z0j h2; clear h2; simp only; go_enter Tryz.func104, Tryz.ntmps104; go_wp2_with (first | (go_at_call 103; refine (Z3 br bi _ (K := [_, _]) (L := L) ⟨_, _, HL.out, HA.out, hp⟩).mono ?_; clear hp HL HA; rintro e w1 hq; (first | rw [H1.out] at hq | rw [H2.out] at hq | rw [H3.out] at hq); (first | (obtain ⟨rfl, a, c, hl, ha, hp⟩ := hq; have HL := z0j hl; have HA := z0j ha; clear hl ha; simp only [z0f, z0e, Rb, Ib] at hp) | (obtain ⟨rfl, hp⟩ := hq; simp only [z0f, z0e] at hp))) | (go_at_call 109; refine (zc7 br bi _ (K := [_, _]) (L := L) ⟨_, _, HL.out, HA.out, hp⟩).mono ?_; clear hp HL HA; rintro e w1 hq; rw [H4.out] at hq; (first | (obtain ⟨rfl, a, c, hl, ha, hp⟩ := hq; have HL := z0j hl; have HA := z0j ha; clear hl ha; simp only [z0f, z0e, Rb, Ib] at hp) | (obtain ⟨rfl, hp⟩ := hq; simp only [z0f, z0e] at hp))) | go_skip | ((first | ((refine zg _ rfl ?_); refine lZ hp rfl ZV ?_; clear hp; intro b w1 hp) | ((refine zh _ _ rfl ?_); refine lB hp rfl (za rfl) rfl ?_; clear hp; intro b w1 hp) | ((refine zf _ _ rfl ?_); first | refine lO hp rfl (za rfl) zeb aa5 ?_ | refine lA hp rfl (za rfl) zY aa5 ?_) | ((refine zd _ _ _ rfl ?_); (first | refine sO hp rfl (za rfl) zeb aa5 ?_ | refine sA hp rfl (za rfl) (za rfl) zY aa5 ?_ | refine sG hp rfl (za rfl) (za rfl) zY aa5 ?_); clear hp; intro w1 hp; simp only [spl, z0a, z0b] at hp) | ((refine zi _ _ _ rfl ?_); refine lS hp rfl (by intro w; go_simp; rfl) ?_; clear hp; intro b w1 hp; simp only [z0g, z0h, Nat.reduceAdd] at hp)); simp only [zc, zb, z0b, z0a])); exact ⟨rfl, rfl, hp.kp⟩
  | some q2 =>
   obtain ⟨rs, b2⟩ := q2
   have H2 := z0j h2
   clear h2
   simp only
   cases h3 : nR b2 with
   | none => have H3 := z0j h3; clear h3; simp only; go_enter Tryz.func104, Tryz.ntmps104; go_wp2_with (first | (go_at_call 103; refine (Z3 br bi _ (K := [_, _]) (L := L) ⟨_, _, HL.out, HA.out, hp⟩).mono ?_; clear hp HL HA; rintro e w1 hq; (first | rw [H1.out] at hq | rw [H2.out] at hq | rw [H3.out] at hq); (first | (obtain ⟨rfl, a, c, hl, ha, hp⟩ := hq; have HL := z0j hl; have HA := z0j ha; clear hl ha; simp only [z0f, z0e, Rb, Ib] at hp) | (obtain ⟨rfl, hp⟩ := hq; simp only [z0f, z0e] at hp))) | (go_at_call 109; refine (zc7 br bi _ (K := [_, _]) (L := L) ⟨_, _, HL.out, HA.out, hp⟩).mono ?_; clear hp HL HA; rintro e w1 hq; rw [H4.out] at hq; (first | (obtain ⟨rfl, a, c, hl, ha, hp⟩ := hq; have HL := z0j hl; have HA := z0j ha; clear hl ha; simp only [z0f, z0e, Rb, Ib] at hp) | (obtain ⟨rfl, hp⟩ := hq; simp only [z0f, z0e] at hp))) | go_skip | ((first | ((refine zg _ rfl ?_); refine lZ hp rfl ZV ?_; clear hp; intro b w1 hp) | ((refine zh _ _ rfl ?_); refine lB hp rfl (za rfl) rfl ?_; clear hp; intro b w1 hp) | ((refine zf _ _ rfl ?_); first | refine lO hp rfl (za rfl) zeb aa5 ?_ | refine lA hp rfl (za rfl) zY aa5 ?_) | ((refine zd _ _ _ rfl ?_); (first | refine sO hp rfl (za rfl) zeb aa5 ?_ | refine sA hp rfl (za rfl) (za rfl) zY aa5 ?_ | refine sG hp rfl (za rfl) (za rfl) zY aa5 ?_); clear hp; intro w1 hp; simp only [spl, z0a, z0b] at hp) | ((refine zi _ _ _ rfl ?_); refine lS hp rfl (by intro w; go_simp; rfl) ?_; clear hp; intro b w1 hp; simp only [z0g, z0h, Nat.reduceAdd] at hp)); simp only [zc, zb, z0b, z0a])); exact ⟨rfl, rfl, hp.kp⟩
   | some q3 =>
    obtain ⟨re, b3⟩ := q3
    have H3 := z0j h3
    clear h3
    simp only
    cases h4 : iR b3 with
    | none => have H4 := z0j h4; clear h4; simp only; go_enter Tryz.func104, Tryz.ntmps104; go_wp2_with (first | (go_at_call 103; refine (Z3 br bi _ (K := [_, _]) (L := L) ⟨_, _, HL.out, HA.out, hp⟩).mono ?_; clear hp HL HA; rintro e w1 hq; (first | rw [H1.out] at hq | rw [H2.out] at hq | rw [H3.out] at hq); (first | (obtain ⟨rfl, a, c, hl, ha, hp⟩ := hq; have HL := z0j hl; have HA := z0j ha; clear hl ha; simp only [z0f, z0e, Rb, Ib] at hp) | (obtain ⟨rfl, hp⟩ := hq; simp only [z0f, z0e] at hp))) | (go_at_call 109; refine (zc7 br bi _ (K := [_, _]) (L := L) ⟨_, _, HL.out, HA.out, hp⟩).mono ?_; clear hp HL HA; rintro e w1 hq; rw [H4.out] at hq; (first | (obtain ⟨rfl, a, c, hl, ha, hp⟩ := hq; have HL := z0j hl; have HA := z0j ha; clear hl ha; simp only [z0f, z0e, Rb, Ib] at hp) | (obtain ⟨rfl, hp⟩ := hq; simp only [z0f, z0e] at hp))) | go_skip | ((first | ((refine zg _ rfl ?_); refine lZ hp rfl ZV ?_; clear hp; intro b w1 hp) | ((refine zh _ _ rfl ?_); refine lB hp rfl (za rfl) rfl ?_; clear hp; intro b w1 hp) | ((refine zf _ _ rfl ?_); first | refine lO hp rfl (za rfl) zeb aa5 ?_ | refine lA hp rfl (za rfl) zY aa5 ?_) | ((refine zd _ _ _ rfl ?_); (first | refine sO hp rfl (za rfl) zeb aa5 ?_ | refine sA hp rfl (za rfl) (za rfl) zY aa5 ?_ | refine sG hp rfl (za rfl) (za rfl) zY aa5 ?_); clear hp; intro w1 hp; simp only [spl, z0a, z0b] at hp) | ((refine zi _ _ _ rfl ?_); refine lS hp rfl (by intro w; go_simp; rfl) ?_; clear hp; intro b w1 hp; simp only [z0g, z0h, Nat.reduceAdd] at hp)); simp only [zc, zb, z0b, z0a])); exact ⟨rfl, rfl, hp.kp⟩
    | some q4 =>
     obtain ⟨rv, b4⟩ := q4
     have H4 := z0j h4
     clear h4
     simp only
     go_enter Tryz.func104, Tryz.ntmps104; go_wp2_with (first | (go_at_call 103; refine (Z3 br bi _ (K := [_, _]) (L := L) ⟨_, _, HL.out, HA.out, hp⟩).mono ?_; clear hp HL HA; rintro e w1 hq; (first | rw [H1.out] at hq | rw [H2.out] at hq | rw [H3.out] at hq); (first | (obtain ⟨rfl, a, c, hl, ha, hp⟩ := hq; have HL := z0j hl; have HA := z0j ha; clear hl ha; simp only [z0f, z0e, Rb, Ib] at hp) | (obtain ⟨rfl, hp⟩ := hq; simp only [z0f, z0e] at hp))) | (go_at_call 109; refine (zc7 br bi _ (K := [_, _]) (L := L) ⟨_, _, HL.out, HA.out, hp⟩).mono ?_; clear hp HL HA; rintro e w1 hq; rw [H4.out] at hq; (first | (obtain ⟨rfl, a, c, hl, ha, hp⟩ := hq; have HL := z0j hl; have HA := z0j ha; clear hl ha; simp only [z0f, z0e, Rb, Ib] at hp) | (obtain ⟨rfl, hp⟩ := hq; simp only [z0f, z0e] at hp))) | go_skip | ((first | ((refine zg _ rfl ?_); refine lZ hp rfl ZV ?_; clear hp; intro b w1 hp) | ((refine zh _ _ rfl ?_); refine lB hp rfl (za rfl) rfl ?_; clear hp; intro b w1 hp) | ((refine zf _ _ rfl ?_); first | refine lO hp rfl (za rfl) zeb aa5 ?_ | refine lA hp rfl (za rfl) zY aa5 ?_) | ((refine zd _ _ _ rfl ?_); (first | refine sO hp rfl (za rfl) zeb aa5 ?_ | refine sA hp rfl (za rfl) (za rfl) zY aa5 ?_ | refine sG hp rfl (za rfl) (za rfl) zY aa5 ?_); clear hp; intro w1 hp; simp only [spl, z0a, z0b] at hp) | ((refine zi _ _ _ rfl ?_); refine lS hp rfl (by intro w; go_simp; rfl) ?_; clear hp; intro b w1 hp; simp only [z0g, z0h, Nat.reduceAdd] at hp)); simp only [zc, zb, z0b, z0a]))
     exact bodyPost_ret (ZI (rs := [.cell 2 120]) Tryz.results104 (.cell rfl (hp.loadAgg zY at1 0 _ (by rfl) (by rfl)) .nil)) rfl ⟨rfl, ZZ.mk3 HL.out HA.out hp⟩
def zh6 (w0 : World) (br bi n : Nat) (r : Option (List Rw × List Nat)) (L : List Blk) (e : Ending) (w' : World) : Prop :=
 match r with
 | some (l, bs') => ∃ v R, e = .returned v ∧ l.length = n ∧ zJ 120 4 v n (l.flatMap rwV) R ∧ ZZ w0 br bi bs' [] (R ++ L) w'
 | none => e = .panicked zfB ∧ Hp w0.heap.size w0 w' L
theorem zjQ (br bi n : Nat) (most : Int) (hn : (n : Int) ≤ most) (hm : n ≤ 1000) (bs : List Nat) {w0 w : World} {L : List Blk} (hs : ZZ w0 br bi bs [] L w) :
  Calls Tryz.prog 102 #[.int .i64 n, .int .i64 most, .func (.func 104) #[.pointer (some ⟨bi, 0, none⟩)] #[]] w (zh6 w0 br bi n (zal zf1 n bs) L) := by
 obtain ⟨i0, hi0, hz0, hz1, hz2⟩ := info_parts zjz
 go_enter Tryz.func102, Tryz.ntmps102
 go_wp2_with (first | (go_at_call 105; (with_reducible refine (zbF _).mono ?_); rintro e w' ⟨rfl, rfl⟩) | go_skip)
 go_loopg [7, 13] n (fun k v i wr => ∃ (q : Nat) (l : List Rw) (b1 : List Nat) (R : List Blk), k + q = n ∧ i = .int .i64 q ∧ Hid (zal zf1 q bs = some (l, b1)) ∧ Hid (zJ 120 4 v q (l.flatMap rwV) R) ∧ Hid (ZZ w0 br bi b1 [] (R ++ L) wr))
 case atStart => exact ⟨0, [], bs, [], by omega, rfl, z0j rfl, z0j (zJ.nil _ _), z0j hs⟩
 case round =>
  clear hs
  obtain ⟨q, l, b1, R, hkq, rfl, HQ, HR, HS⟩ := hrel
  by_cases hlt : q < n
  ·have f1 : (0 : Int) ≤ (q : Int) := by omega
   have f2 : (q : Int) < (n : Int) := by omega
   cases ho : zf1 b1 with
   | none =>
    have HO := z0j ho
    have HF := z0j (zbf HQ.out ho n hlt)
    clear ho
    go_wp2_with (first | (go_at_call 104; (with_reducible refine (zl4 br bi b1 HS.out).mono ?_); rw [HO.out]; first | (rintro e w1 ⟨rfl, hs1⟩; obtain ⟨a, c, hnc, ha, hp⟩ := hs1; have HA := z0j ha; have HNC := z0j hnc; clear ha hnc; simp only [z0e, Rb, Ib] at hp; simp only [rwV]) | rintro e w1 ⟨rfl, hp⟩) | go_skip)
    refine ⟨rfl, ?_⟩
    rw [HF.out]
    exact ⟨rfl, hp.kp⟩
   | some p =>
    obtain ⟨⟨rc, rs, re, rv⟩, b2⟩ := p
    have HO := z0j ho
    have HT := z0j (zbg HQ.out ho)
    clear ho
    go_wp2_with (first | (go_at_call 104; (with_reducible refine (zl4 br bi b1 HS.out).mono ?_); rw [HO.out]; first | (rintro e w1 ⟨rfl, hs1⟩; obtain ⟨a, c, hnc, ha, hp⟩ := hs1; have HA := z0j ha; have HNC := z0j hnc; clear ha hnc; simp only [z0e, Rb, Ib] at hp; simp only [rwV]) | rintro e w1 ⟨rfl, hp⟩) | ((refine Zb _ _ 48 rfl ?_); refine zM (K := [_, _]) (R := R) (M := L) hp _ _ _ rfl wy i0 _ 32 Tryz.underlying48 hi0 hz0 hz1 hz2 rfl (by decide) (za rfl) HR.out 1 1 (za rfl) (by rfl) (by decide) (by rfl) (by unfold maxLen; omega) (by omega) ?_; clear hp HR; intro v' R' w1 hR' hp; have HR' := z0j hR'; clear hR'; simp only [z0f, z0e] at hp; simp only [zc, zb, z0b, z0a]) | go_skip | ((first | ((refine zg _ rfl ?_); refine lZ hp rfl ZV ?_; clear hp; intro b w1 hp) | ((refine zh _ _ rfl ?_); refine lB hp rfl (za rfl) rfl ?_; clear hp; intro b w1 hp) | ((refine zf _ _ rfl ?_); first | refine lO hp rfl (za rfl) zeb aa5 ?_ | refine lA hp rfl (za rfl) zY aa5 ?_) | ((refine zd _ _ _ rfl ?_); (first | refine sO hp rfl (za rfl) zeb aa5 ?_ | refine sA hp rfl (za rfl) (za rfl) zY aa5 ?_ | refine sG hp rfl (za rfl) (za rfl) zY aa5 ?_); clear hp; intro w1 hp; simp only [spl, z0a, z0b] at hp) | ((refine zi _ _ _ rfl ?_); refine lS hp rfl (by intro w; go_simp; rfl) ?_; clear hp; intro b w1 hp; simp only [z0g, z0h, Nat.reduceAdd] at hp)); simp only [zc, zb, z0b, z0a]))
    go_roundg (gk - 1)
    case measure => omega
    case rel => exact ⟨q + 1, l ++ [⟨rc, rs, re, rv⟩], b2, R', by omega, by go_num, HT, z0j (by have := HR'.out; rw [List.flatMap_append]; exact this), z0j ⟨a, c, HNC.out, HA.out, hp⟩⟩
  ·obtain rfl : q = n := by omega
   have f2 : decide ((q : Int) < (q : Int)) = false := by simp
   go_wp2_with (first | go_skip)
   go_ret
   rw [HQ.out]
   exact ⟨_, R, rfl, zbp HQ.out, HR.out, HS.out⟩
theorem zit (bi n : Nat) (most : Int) (hn : most < (n : Int)) (w : World) :
  Calls Tryz.prog 102 #[.int .i64 n, .int .i64 most, .func (.func 104) #[.pointer (some ⟨bi, 0, none⟩)] #[]] w fun e w' => e = .panicked zfB ∧ w = w' := by
 have e1 : decide ((n : Int) ≤ most) = false := by simp; omega
 clear hn
 go_enter Tryz.func102, Tryz.ntmps102
 go_wp2_with (first | (go_at_call 105; (with_reducible refine (ZR _).mono ?_); rintro e w' ⟨rfl, rfl⟩) | go_skip)
 exact ⟨rfl, rfl, rfl⟩
end Go.Proofs.YtaafajaadfgaoaaGreat

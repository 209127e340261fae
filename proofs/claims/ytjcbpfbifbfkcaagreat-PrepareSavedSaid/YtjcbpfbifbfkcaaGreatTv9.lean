import Derived.Test.YtjcbpfbifbfkcaaGreatTv3
import Derived.Test.YtjcbpfbifbfkcaaGreatTv2
set_option linter.unusedSimpArgs false
set_option linter.unusedVariables false
set_option maxRecDepth 100000
set_option maxHeartbeats 60000000
namespace Go.Proofs.YtjcbpfbifbfkcaaGreat
open Go.RowKit
theorem zg3 {ty : TypeId} (h : zv Tryz.prog ty = true := by with_reducible first | exact zq | exact ZF | exact zY | exact Zg | exact zab | exact zV) : zv Tryz.prog ty = true := h
def zch (bs : List Nat) : Option (List Nat × List Nat) := match zdS bs with
 | none => none
 | some n => if n ≤ 65536 ∧ n + 4 ≤ bs.length then some ((bs.drop 4).take n, (bs.drop 4).drop n) else none
theorem zdA (br n c : Nat) (a : Option Addr) {B : Nat} {w0 w : World} {L : List Blk} (hp : Hp B w0 w (Rb br a n c :: L)) : Calls Tryz.prog 182 #[.pointer (some ⟨br, 0, none⟩)] w fun e w' => e = .returned (.int .i64 n) ∧ w = w' := by
 have HC := z0j (Rb.cell hp)
 clear hp
 go_enter Tryz.func182, Tryz.ntmps182
 go_wp2_with (first | ((refine ze 236 _ rfl ?_); refine zC (Hp.start _) _ _ rfl wy _ _ (za rfl) Zg _ HC.out ?_; simp only [zc, zb, z0b, z0a]) | go_skip)
 go_ret
 exact ⟨rfl, rfl⟩
theorem Zo {P : Program} {ops : Array Oper} {rest : List Oper} {o : Oper} {a : Act} {w : World} {Q : Exit → Act → World → Prop} (s d : TypeId) (x : Operand) (_ : o.op = .convert s d x) (h : wpList P ops Q (o :: rest) a w) : wpList P ops Q (o :: rest) a w := h
theorem ziQ {w : World} {a : Option Addr} {bs : List Nat} (h : zat w a bs) (n : Nat) : zm w a ((nI (bs.take n)).map (Value.int .u8)) := by
 intro j v hj
 rw [zdE, zf2, List.getElem?_map, List.getElem?_take] at hj
 split at hj
 ·refine h.1 j v ?_
  rw [zf2, List.getElem?_map]; exact hj
 ·simp at hj
theorem zeF {bs t r : List Nat} (h : zch bs = some (t, r)) : ∃ n, zdS bs = some n ∧ n ≤ 65536 ∧ n + 4 ≤ bs.length ∧ t = (bs.drop 4).take n ∧ r = (bs.drop 4).drop n := by
 unfold zch at h
 cases hn : zdS bs with
 | none => rw [hn] at h; cases h
 | some n =>
  rw [hn] at h
  simp only at h
  split at h
  ·rename_i hc
   injection h with h
   injection h with h1 h2
   exact ⟨n, rfl, hc.1, hc.2, h1.symm, h2.symm⟩
  ·cases h
theorem zgu {bs : List Nat} (h : zch bs = none) : zdS bs = none ∨ ∃ n, zdS bs = some n ∧ (65536 < n ∨ (n ≤ 65536 ∧ bs.length < n + 4)) := by
 unfold zch at h
 cases hn : zdS bs with
 | none => exact .inl rfl
 | some n =>
  rw [hn] at h
  simp only at h
  split at h
  ·cases h
  ·exact .inr ⟨n, rfl, by omega⟩
theorem zeN (br c : Nat) (a : Option Addr) (bs : List Nat) (hv : zch bs = none) (hnc : bs.length ≤ c) (hbl : bs.length ≤ 1000000000) {w0 w : World} {L : List Blk} (hp : Hp w0.heap.size w0 w (Rb br a bs.length c :: L)) (ha : zat w0 a bs) :
  Calls Tryz.prog 127 #[.pointer (some ⟨br, 0, none⟩)] w fun e w' => (∃ q : Int, (q = 10 ∨ q = 11) ∧ e = .returned (.tuple #[.string ⟨#[]⟩, .int .i64 q])) ∧ w = w' := by
 have HA := z0j ha
 clear ha
 rcases zgu hv with hn | ⟨n, hn, h1 | ⟨h1, h2⟩⟩
 ·have HV := z0j hn
  clear hv hn
  go_enter Tryz.func127, Tryz.ntmps127
  go_wp2_with (first | (go_at_call 183; (with_reducible refine (zcJ br c a bs HV.out hnc hp HA.out).mono ?_); rintro e w' ⟨⟨q, hq, rfl⟩, rfl⟩) | go_skip)
  rcases hq with rfl | rfl
  all_goals
   go_wp2_with (go_skip)
   go_ret2
  ·exact ⟨⟨10, .inl rfl, rfl⟩, rfl⟩
  ·exact ⟨⟨11, .inr rfl, rfl⟩, rfl⟩
 ·have HV := z0j hn
  have e1 : decide ((65536 : Int) < (n : Int)) = true := by simp; omega
  clear hv hn
  go_enter Tryz.func127, Tryz.ntmps127
  go_wp2_with (first | (go_at_call 183; (with_reducible refine (zco br c n a bs HV.out hnc hp HA.out).mono ?_); rintro e w' ⟨rfl, rfl⟩) | go_skip)
  go_ret2
  exact ⟨⟨11, .inr rfl, rfl⟩, rfl⟩
 ·have HV := z0j hn
  obtain ⟨h4, _, _⟩ := zbL hn
  have e1 : decide ((65536 : Int) < (n : Int)) = false := by simp; omega
  have e2 : wrap64 ((bs.length : Int) - 4) = (bs.length : Int) - 4 := by unfold wrap64; omega
  have e3 : decide ((bs.length : Int) - 4 < (n : Int)) = true := by simp; omega
  clear hv hn
  go_enter Tryz.func127, Tryz.ntmps127
  go_wp2_with (first | (go_at_call 183; (with_reducible refine (zco br c n a bs HV.out hnc hp HA.out).mono ?_); rintro e w' ⟨rfl, rfl⟩) | (go_at_call 182; (with_reducible refine (zdA br bs.length c a hp).mono ?_); rintro e w' ⟨rfl, rfl⟩) | go_skip)
  go_ret2
  exact ⟨⟨10, .inl rfl, rfl⟩, rfl⟩
theorem zit (br c : Nat) (t r : List Nat) (a : Option Addr) (bs : List Nat) (hv : zch bs = some (t, r)) (hnc : bs.length ≤ c) (hbl : bs.length ≤ 1000000000) {w0 w : World} {L : List Blk} (hp : Hp w0.heap.size w0 w (Rb br a bs.length c :: L)) (ha : zat w0 a bs) :
  Calls Tryz.prog 127 #[.pointer (some ⟨br, 0, none⟩)] w fun e w' => e = .returned (.tuple #[.string (strOfNums (nI t)), .int .i64 0]) ∧ ∃ c', r.length ≤ c' ∧ zdx w0 br r c' L w' := by
 have HA := z0j ha
 clear ha
 obtain ⟨n, hn, h1, h2, rfl, rfl⟩ := zeF hv
 have HV := z0j hn
 obtain ⟨hn4, _, _⟩ := zbL hn
 have e1 : decide ((65536 : Int) < (n : Int)) = false := by simp; omega
 have e2 : wrap64 ((bs.length : Int) - 4) = (bs.length : Int) - 4 := by unfold wrap64; omega
 have e3 : decide ((bs.length : Int) - 4 < (n : Int)) = false := by simp; omega
 obtain ⟨ys, hys⟩ : ∃ ys, ys = bs.drop 4 := ⟨_, rfl⟩
 obtain ⟨c4, hc4⟩ : ∃ c4, c4 = c - 4 := ⟨_, rfl⟩
 have hyl : ys.length = bs.length - 4 := by rw [hys, List.length_drop]
 have HNY : Hid (n ≤ ys.length) := z0j (by omega)
 have HYC : Hid (ys.length ≤ c4) := z0j (by omega)
 have HNL : Hid ((nI (ys.take n)).length = n) := z0j (by rw [zhq, List.length_take]; omega)
 have e4 : (n : Int) ≤ (c4 : Int) := by omega
 have e5 : (0 : Int) ≤ (n : Int) := by omega
 have HYS := z0j hys
 have HC4 := z0j hc4
 have HF : Hid ((ys.drop n).length ≤ c4 - n) := z0j (by rw [List.length_drop]; omega)
 rw [← hys]
 clear hv hn hyl hys hc4
 go_enter Tryz.func127, Tryz.ntmps127
 go_wp2_with (first | (go_at_call 183; (with_reducible refine (zco br c n a bs HV.out hnc hp HA.out).mono ?_); rintro e w' ⟨rfl, rfl⟩) | (go_at_call 182; (with_reducible refine (zdA br bs.length c a hp).mono ?_); rintro e w' ⟨rfl, rfl⟩) | (go_at_call 184; (with_reducible refine (zkC br c a bs hn4 hnc hp HA.out).mono ?_); clear hp; rintro e w1 ⟨rfl, a', ha', hp⟩; rw [← HYS.out] at ha' hp; rw [← HC4.out] at hp; have HA2 := z0j ha'; clear ha') | ((refine ze 236 _ rfl ?_); refine zC (Hp.start _) _ _ rfl wy _ _ (za rfl) Zg _ (Rb.cell hp) ?_; simp only [zc, zb, z0b, z0a]) | ((refine Zo _ _ _ rfl ?_); refine zam 236 9 5 _ rfl wy Tryz.underlying236 Tryz.underlying5 Tryz.underlying9 a' n c4 (za rfl) (nI (ys.take n)) HNL.out (ziQ (HA2.out.below hp.below) n) ?_; simp only [zc, zb, z0b, z0a]) | (go_at_call 184; (with_reducible refine (zdB br c4 n a' ys HNY.out HYC.out hp HA2.out).mono ?_); clear hp; rintro e w1 ⟨rfl, a2, ha2, hp⟩; have HA3 := z0j ha2; clear ha2) | go_skip)
 go_ret2
 exact ⟨rfl, _, HF.out, a2, HA3.out, hp⟩
theorem zdq (s : ByteArray) (w : World) : Calls Tryz.prog 126 #[.string s, .int .i64 0] w fun e w' => e = .returned (.string s) ∧ w = w' := by
 go_enter Tryz.func126, Tryz.ntmps126
 go_wp2
 go_ret
 exact ⟨rfl, rfl⟩
theorem zaE (s : ByteArray) (q : Int) (hq : q = 10 ∨ q = 11) (w : World) : Calls Tryz.prog 126 #[.string s, .int .i64 q] w fun e w' => e = .panicked zdz ∧ w = w' := by
 rcases hq with rfl | rfl
 all_goals
  go_enter Tryz.func126, Tryz.ntmps126
  go_wp2
  exact ⟨rfl, rfl, rfl⟩
def zhH (bs : List Nat) : Option (Rw × List Nat) := match nR bs with
 | none => none
 | some (c, b1) => match nR b1 with
  | none => none
  | some (s, b2) => match nR b2 with
   | none => none
   | some (e, b3) => match iR b3 with
    | none => none
    | some (v, b4) => some (⟨c, s, e, v⟩, b4)
def zjO (w0 : World) (br bi : Nat) (r : Option (Rw × List Nat)) (L : List Blk) (e : Ending) (w' : World) : Prop :=
 match r with
 | some (x, bs') => e = .returned (.agg (rwV x).toArray) ∧ Zk w0 br bi bs' [] L w'
 | none => e = .panicked zdz ∧ Hp w0.heap.size w0 w' L
theorem Zk.mk3 {w0 w : World} {br bi c : Nat} {a : Option Addr} {bs : List Nat} {x y : Blk} {L : List Blk} (h1 : bs.length ≤ c) (h2 : zat w0 a bs)
  (hp : Hp w0.heap.size w0 w (x :: y :: ⟨br, [.slice a bs.length c], 236, 1⟩ :: ⟨bi, [.pointer (some ⟨br, 0, none⟩)], 183, 1⟩ :: L)) : Zk w0 br bi bs [] L w :=
 ⟨a, c, h1, h2, (show Hp w0.heap.size w0 w (x :: y :: Rb br a bs.length c :: Ib bi br :: L) from hp).kp⟩
theorem zi4 (br bi : Nat) (bs : List Nat) {w0 w : World} {L : List Blk} (hs : Zk w0 br bi bs [] L w) :
  Calls Tryz.prog 130 #[.pointer (some ⟨bi, 0, none⟩)] w (zjO w0 br bi (zhH bs) L) := by
 obtain ⟨a, c, hl, ha, hp⟩ := hs
 have HL := z0j hl
 have HA := z0j ha
 clear hl ha
 simp only [z0e, Rb, Ib] at hp
 unfold zhH
 cases h1 : nR bs with
 | none => have H1 := z0j h1; clear h1; simp only; go_enter Tryz.func130, Tryz.ntmps130; go_wp2_with (first | (go_at_call 129; refine (Zn br bi _ (K := [_, _]) (L := L) ⟨_, _, HL.out, HA.out, hp⟩).mono ?_; clear hp HL HA; rintro e w1 hq; (first | rw [H1.out] at hq | rw [H2.out] at hq | rw [H3.out] at hq); (first | (obtain ⟨rfl, a, c, hl, ha, hp⟩ := hq; have HL := z0j hl; have HA := z0j ha; clear hl ha; simp only [z0f, z0e, Rb, Ib] at hp) | (obtain ⟨rfl, hp⟩ := hq; simp only [z0f, z0e] at hp))) | (go_at_call 187; refine (zbq br bi _ (K := [_, _]) (L := L) ⟨_, _, HL.out, HA.out, hp⟩).mono ?_; clear hp HL HA; rintro e w1 hq; rw [H4.out] at hq; (first | (obtain ⟨rfl, a, c, hl, ha, hp⟩ := hq; have HL := z0j hl; have HA := z0j ha; clear hl ha; simp only [z0f, z0e, Rb, Ib] at hp) | (obtain ⟨rfl, hp⟩ := hq; simp only [z0f, z0e] at hp))) | go_skip | ((first | ((refine zf _ rfl ?_); refine lZ hp rfl Zi ?_; clear hp; intro b w1 hp) | ((refine ze _ _ rfl ?_); refine lA hp rfl (za rfl) zN aa5 ?_) | ((refine zd _ _ _ rfl ?_); (first | refine sO hp rfl (za rfl) zg3 aa5 ?_ | refine sA hp rfl (za rfl) (za rfl) zN aa5 ?_ | refine sG hp rfl (za rfl) (za rfl) zN aa5 ?_); clear hp; intro w1 hp; simp only [spl, z0a, z0b] at hp)); simp only [zc, zb, z0b, z0a])); exact ⟨rfl, rfl, hp.kp⟩
 | some q1 =>
  obtain ⟨rc, b1⟩ := q1
  have H1 := z0j h1
  clear h1
  simp only
  cases h2 : nR b1 with
  | none => have H2 := z0j h2; clear h2; simp only; go_enter Tryz.func130, Tryz.ntmps130; go_wp2_with (first | (go_at_call 129; refine (Zn br bi _ (K := [_, _]) (L := L) ⟨_, _, HL.out, HA.out, hp⟩).mono ?_; clear hp HL HA; rintro e w1 hq; (first | rw [H1.out] at hq | rw [H2.out] at hq | rw [H3.out] at hq); (first | (obtain ⟨rfl, a, c, hl, ha, hp⟩ := hq; have HL := z0j hl; have HA := z0j ha; clear hl ha; simp only [z0f, z0e, Rb, Ib] at hp) | (obtain ⟨rfl, hp⟩ := hq; simp only [z0f, z0e] at hp))) | (go_at_call 187; refine (zbq br bi _ (K := [_, _]) (L := L) ⟨_, _, HL.out, HA.out, hp⟩).mono ?_; clear hp HL HA; rintro e w1 hq; rw [H4.out] at hq; (first | (obtain ⟨rfl, a, c, hl, ha, hp⟩ := hq; have HL := z0j hl; have HA := z0j ha; clear hl ha; simp only [z0f, z0e, Rb, Ib] at hp) | (obtain ⟨rfl, hp⟩ := hq; simp only [z0f, z0e] at hp))) | go_skip | ((first | ((refine zf _ rfl ?_); refine lZ hp rfl Zi ?_; clear hp; intro b w1 hp) | ((refine ze _ _ rfl ?_); refine lA hp rfl (za rfl) zN aa5 ?_) | ((refine zd _ _ _ rfl ?_); (first | refine sO hp rfl (za rfl) zg3 aa5 ?_ | refine sA hp rfl (za rfl) (za rfl) zN aa5 ?_ | refine sG hp rfl (za rfl) (za rfl) zN aa5 ?_); clear hp; intro w1 hp; simp only [spl, z0a, z0b] at hp)); simp only [zc, zb, z0b, z0a])); exact ⟨rfl, rfl, hp.kp⟩
  | some q2 =>
   obtain ⟨rs, b2⟩ := q2
   have H2 := z0j h2
   clear h2
   simp only
   cases h3 : nR b2 with
   | none => have H3 := z0j h3; clear h3; simp only; go_enter Tryz.func130, Tryz.ntmps130; go_wp2_with (first | (go_at_call 129; refine (Zn br bi _ (K := [_, _]) (L := L) ⟨_, _, HL.out, HA.out, hp⟩).mono ?_; clear hp HL HA; rintro e w1 hq; (first | rw [H1.out] at hq | rw [H2.out] at hq | rw [H3.out] at hq); (first | (obtain ⟨rfl, a, c, hl, ha, hp⟩ := hq; have HL := z0j hl; have HA := z0j ha; clear hl ha; simp only [z0f, z0e, Rb, Ib] at hp) | (obtain ⟨rfl, hp⟩ := hq; simp only [z0f, z0e] at hp))) | (go_at_call 187; refine (zbq br bi _ (K := [_, _]) (L := L) ⟨_, _, HL.out, HA.out, hp⟩).mono ?_; clear hp HL HA; rintro e w1 hq; rw [H4.out] at hq; (first | (obtain ⟨rfl, a, c, hl, ha, hp⟩ := hq; have HL := z0j hl; have HA := z0j ha; clear hl ha; simp only [z0f, z0e, Rb, Ib] at hp) | (obtain ⟨rfl, hp⟩ := hq; simp only [z0f, z0e] at hp))) | go_skip | ((first | ((refine zf _ rfl ?_); refine lZ hp rfl Zi ?_; clear hp; intro b w1 hp) | ((refine ze _ _ rfl ?_); refine lA hp rfl (za rfl) zN aa5 ?_) | ((refine zd _ _ _ rfl ?_); (first | refine sO hp rfl (za rfl) zg3 aa5 ?_ | refine sA hp rfl (za rfl) (za rfl) zN aa5 ?_ | refine sG hp rfl (za rfl) (za rfl) zN aa5 ?_); clear hp; intro w1 hp; simp only [spl, z0a, z0b] at hp)); simp only [zc, zb, z0b, z0a])); exact ⟨rfl, rfl, hp.kp⟩
   | some q3 =>
    obtain ⟨re, b3⟩ := q3
    have H3 := z0j h3
    clear h3
    simp only
    cases h4 : iR b3 with
    | none => have H4 := z0j h4; clear h4; simp only; go_enter Tryz.func130, Tryz.ntmps130; go_wp2_with (first | (go_at_call 129; refine (Zn br bi _ (K := [_, _]) (L := L) ⟨_, _, HL.out, HA.out, hp⟩).mono ?_; clear hp HL HA; rintro e w1 hq; (first | rw [H1.out] at hq | rw [H2.out] at hq | rw [H3.out] at hq); (first | (obtain ⟨rfl, a, c, hl, ha, hp⟩ := hq; have HL := z0j hl; have HA := z0j ha; clear hl ha; simp only [z0f, z0e, Rb, Ib] at hp) | (obtain ⟨rfl, hp⟩ := hq; simp only [z0f, z0e] at hp))) | (go_at_call 187; refine (zbq br bi _ (K := [_, _]) (L := L) ⟨_, _, HL.out, HA.out, hp⟩).mono ?_; clear hp HL HA; rintro e w1 hq; rw [H4.out] at hq; (first | (obtain ⟨rfl, a, c, hl, ha, hp⟩ := hq; have HL := z0j hl; have HA := z0j ha; clear hl ha; simp only [z0f, z0e, Rb, Ib] at hp) | (obtain ⟨rfl, hp⟩ := hq; simp only [z0f, z0e] at hp))) | go_skip | ((first | ((refine zf _ rfl ?_); refine lZ hp rfl Zi ?_; clear hp; intro b w1 hp) | ((refine ze _ _ rfl ?_); refine lA hp rfl (za rfl) zN aa5 ?_) | ((refine zd _ _ _ rfl ?_); (first | refine sO hp rfl (za rfl) zg3 aa5 ?_ | refine sA hp rfl (za rfl) (za rfl) zN aa5 ?_ | refine sG hp rfl (za rfl) (za rfl) zN aa5 ?_); clear hp; intro w1 hp; simp only [spl, z0a, z0b] at hp)); simp only [zc, zb, z0b, z0a])); exact ⟨rfl, rfl, hp.kp⟩
    | some q4 =>
     obtain ⟨rv, b4⟩ := q4
     have H4 := z0j h4
     clear h4
     simp only
     go_enter Tryz.func130, Tryz.ntmps130; go_wp2_with (first | (go_at_call 129; refine (Zn br bi _ (K := [_, _]) (L := L) ⟨_, _, HL.out, HA.out, hp⟩).mono ?_; clear hp HL HA; rintro e w1 hq; (first | rw [H1.out] at hq | rw [H2.out] at hq | rw [H3.out] at hq); (first | (obtain ⟨rfl, a, c, hl, ha, hp⟩ := hq; have HL := z0j hl; have HA := z0j ha; clear hl ha; simp only [z0f, z0e, Rb, Ib] at hp) | (obtain ⟨rfl, hp⟩ := hq; simp only [z0f, z0e] at hp))) | (go_at_call 187; refine (zbq br bi _ (K := [_, _]) (L := L) ⟨_, _, HL.out, HA.out, hp⟩).mono ?_; clear hp HL HA; rintro e w1 hq; rw [H4.out] at hq; (first | (obtain ⟨rfl, a, c, hl, ha, hp⟩ := hq; have HL := z0j hl; have HA := z0j ha; clear hl ha; simp only [z0f, z0e, Rb, Ib] at hp) | (obtain ⟨rfl, hp⟩ := hq; simp only [z0f, z0e] at hp))) | go_skip | ((first | ((refine zf _ rfl ?_); refine lZ hp rfl Zi ?_; clear hp; intro b w1 hp) | ((refine ze _ _ rfl ?_); refine lA hp rfl (za rfl) zN aa5 ?_) | ((refine zd _ _ _ rfl ?_); (first | refine sO hp rfl (za rfl) zg3 aa5 ?_ | refine sA hp rfl (za rfl) (za rfl) zN aa5 ?_ | refine sG hp rfl (za rfl) (za rfl) zN aa5 ?_); clear hp; intro w1 hp; simp only [spl, z0a, z0b] at hp)); simp only [zc, zb, z0b, z0a]))
     exact bodyPost_ret (ZQ (rs := [.cell 2 141]) Tryz.results130 (.cell rfl (hp.loadAgg zN at1 0 _ (by rfl) (by rfl)) .nil)) rfl ⟨rfl, Zk.mk3 HL.out HA.out hp⟩
def zf4 (w0 : World) (br bi n : Nat) (r : Option (List Rw × List Nat)) (L : List Blk) (e : Ending) (w' : World) : Prop :=
 match r with
 | some (l, bs') => ∃ v R, e = .returned v ∧ l.length = n ∧ zu 141 4 v n (l.flatMap rwV) R ∧ Zk w0 br bi bs' [] (R ++ L) w'
 | none => e = .panicked zdz ∧ Hp w0.heap.size w0 w' L
theorem zgS (br bi n : Nat) (most : Int) (hn : (n : Int) ≤ most) (hm : n ≤ 1000) (bs : List Nat) {w0 w : World} {L : List Blk} (hs : Zk w0 br bi bs [] L w) :
  Calls Tryz.prog 128 #[.int .i64 n, .int .i64 most, .func (.func 130) #[.pointer (some ⟨bi, 0, none⟩)] #[]] w (zf4 w0 br bi n (zaY zhH n bs) L) := by
 obtain ⟨i0, hi0, hz0, hz1, hz2⟩ := info_parts zjQ
 go_enter Tryz.func128, Tryz.ntmps128
 go_wp2_with (first | (go_at_call 131; (with_reducible refine (zaq _).mono ?_); rintro e w' ⟨rfl, rfl⟩) | go_skip)
 go_loopg [7, 13] n (fun k v i wr => ∃ (q : Nat) (l : List Rw) (b1 : List Nat) (R : List Blk), k + q = n ∧ i = .int .i64 q ∧ Hid (zaY zhH q bs = some (l, b1)) ∧ Hid (zu 141 4 v q (l.flatMap rwV) R) ∧ Hid (Zk w0 br bi b1 [] (R ++ L) wr))
 case atStart => exact ⟨0, [], bs, [], by omega, rfl, z0j rfl, z0j (zu.nil _ _), z0j hs⟩
 case round =>
  clear hs
  obtain ⟨q, l, b1, R, hkq, rfl, HQ, HR, HS⟩ := hrel
  by_cases hlt : q < n
  ·have f1 : (0 : Int) ≤ (q : Int) := by omega
   have f2 : (q : Int) < (n : Int) := by omega
   cases ho : zhH b1 with
   | none =>
    have HO := z0j ho
    have HF := z0j (zaz HQ.out ho n hlt)
    clear ho
    go_wp2_with (first | (go_at_call 130; (with_reducible refine (zi4 br bi b1 HS.out).mono ?_); rw [HO.out]; first | (rintro e w1 ⟨rfl, hs1⟩; obtain ⟨a, c, hnc, ha, hp⟩ := hs1; have HA := z0j ha; have HNC := z0j hnc; clear ha hnc; simp only [z0e, Rb, Ib] at hp; simp only [rwV]) | rintro e w1 ⟨rfl, hp⟩) | go_skip)
    refine ⟨rfl, ?_⟩
    rw [HF.out]
    exact ⟨rfl, hp.kp⟩
   | some p =>
    obtain ⟨⟨rc, rs, re, rv⟩, b2⟩ := p
    have HO := z0j ho
    have HT := z0j (zaH HQ.out ho)
    clear ho
    go_wp2_with (first | (go_at_call 130; (with_reducible refine (zi4 br bi b1 HS.out).mono ?_); rw [HO.out]; first | (rintro e w1 ⟨rfl, hs1⟩; obtain ⟨a, c, hnc, ha, hp⟩ := hs1; have HA := z0j ha; have HNC := z0j hnc; clear ha hnc; simp only [z0e, Rb, Ib] at hp; simp only [rwV]) | rintro e w1 ⟨rfl, hp⟩) | ((refine zO _ _ 65 rfl ?_); refine zI (K := [_, _]) (R := R) (M := L) hp _ _ _ rfl wy i0 _ 32 Tryz.underlying65 hi0 hz0 hz1 hz2 rfl (by decide) (za rfl) HR.out 1 1 (za rfl) (by rfl) (by decide) (by rfl) (by unfold maxLen; omega) (by omega) ?_; clear hp HR; intro v' R' w1 hR' hp; have HR' := z0j hR'; clear hR'; simp only [z0f, z0e] at hp; simp only [zc, zb, z0b, z0a]) | go_skip | (((refine zg _ _ _ rfl ?_); refine lS hp rfl (by intro w; go_simp; rfl) ?_; clear hp; intro b w1 hp; simp only [z0g, z0h, Nat.reduceAdd] at hp); simp only [zc, zb, z0b, z0a]))
    go_roundg (gk - 1)
    case measure => omega
    case rel => exact ⟨q + 1, l ++ [⟨rc, rs, re, rv⟩], b2, R', by omega, by go_num, HT, z0j (by have := HR'.out; rw [List.flatMap_append]; exact this), z0j ⟨a, c, HNC.out, HA.out, hp⟩⟩
  ·obtain rfl : q = n := by omega
   have f2 : decide ((q : Int) < (q : Int)) = false := by simp
   go_wp2_with (go_skip)
   go_ret
   rw [HQ.out]
   exact ⟨_, R, rfl, zag HQ.out, HR.out, HS.out⟩
theorem zgr (bi n : Nat) (most : Int) (hn : most < (n : Int)) (w : World) :
  Calls Tryz.prog 128 #[.int .i64 n, .int .i64 most, .func (.func 130) #[.pointer (some ⟨bi, 0, none⟩)] #[]] w fun e w' => e = .panicked zdz ∧ w = w' := by
 have e1 : decide ((n : Int) ≤ most) = false := by simp; omega
 clear hn
 go_enter Tryz.func128, Tryz.ntmps128
 go_wp2_with (first | (go_at_call 131; (with_reducible refine (zZ _).mono ?_); rintro e w' ⟨rfl, rfl⟩) | go_skip)
 exact ⟨rfl, rfl, rfl⟩
end Go.Proofs.YtjcbpfbifbfkcaaGreat

import Derived.Test.YtjcbpfbifbfkcaaGreatTv2
import Derived.Test.YtjcbpfbifbfkcaaGreatTv0
import Derived.Laws.BitsAllLaws
set_option linter.unusedSimpArgs false
set_option linter.unusedVariables false
set_option maxRecDepth 100000
set_option maxHeartbeats 60000000
namespace Go.Proofs.YtjcbpfbifbfkcaaGreat
open Go.RowKit
theorem zaZ : zv Tryz.prog 74 = true := by kernel_rfl
theorem zfY : zv Tryz.prog 5 = true := by kernel_rfl
theorem Zg : zv Tryz.prog 236 = true := by kernel_rfl
theorem zab : zv Tryz.prog 9 = true := by kernel_rfl
theorem zY : zv Tryz.prog 181 = true := by kernel_rfl
theorem zjt (d : Nat) (hd : d < 18446744073709551616) : bits .or .u64 ((d : Int) / 256 * 256) ((d : Int) % 256) = (d : Int) := by
 have h1 : (d : Int) / 256 * 256 = ((d / 256 * 256 : Nat) : Int) := by rw [Int.natCast_mul, Int.natCast_ediv]; rfl
 have h3 : (d : Int) % 256 = ((d % 256 : Nat) : Int) := by rw [Int.natCast_emod]; rfl
 rw [h1, h3, u64_or_nat _ _ (by omega) (by omega)]
 have h2 := Nat.two_pow_add_eq_or_of_lt (i := 8) (b := d % 256) (Nat.mod_lt _ (by decide)) (d / 256)
 rw [show d / 256 * 256 = 2 ^ 8 * (d / 256) by omega, ← h2]
 omega
def beV (l : List Nat) : Nat := l.foldl (fun u x => u * 256 + x) 0
theorem zfx (l : List Nat) (x : Nat) : beV (l ++ [x]) = beV l * 256 + x := by simp [beV]
def zaf (l : List Nat) : Prop := ∀ x ∈ l, x < 256
theorem zaf.drop {l : List Nat} (h : zaf l) (k : Nat) : zaf (l.drop k) := fun x hx => h x (List.mem_of_mem_drop hx)
theorem zaf.take {l : List Nat} (h : zaf l) (k : Nat) : zaf (l.take k) := fun x hx => h x (List.mem_of_mem_take hx)
theorem ziZ : ∀ (n : Nat) (l : List Nat), l.length = n → zaf l → beV l < 256 ^ n
 | 0, [], _, _ => by decide
 | n + 1, l, h, hb => by
  rcases List.eq_nil_or_concat l with rfl | ⟨k, x, rfl⟩
  ·cases h
  rw [List.concat_eq_append] at h hb ⊢
  have h1 := ziZ n k (by simpa using h) (fun y hy => hb y (by simp [hy]))
  have h2 := hb x (by simp)
  rw [zfx, Nat.pow_succ]
  omega
theorem ziN {l : List Nat} {j : Nat} {x : Nat} (h : l[j]? = some x) : beV (l.take (j + 1)) = beV (l.take j) * 256 + x := by
 rw [List.take_add_one, h]; exact zfx _ _
theorem zhL {l : List Nat} (h : zaf l) {k : Nat} (hk : k ≤ 8) : beV (l.take k) < 18446744073709551616 := by
 have h1 := ziZ (l.take k).length (l.take k) rfl (h.take k)
 have h2 : (256 : Nat) ^ (l.take k).length ≤ 256 ^ 8 := Nat.pow_le_pow_right (by decide) (by rw [List.length_take]; omega)
 have : (256 : Nat) ^ 8 = 18446744073709551616 := by decide
 omega
def zat (w : World) (a : Option Addr) (bs : List Nat) : Prop := zm w a (bs.flatMap byV) ∧ zaf bs
theorem zat.below {w w' : World} {a : Option Addr} {bs : List Nat} (h : zat w a bs) (hb : Below w.heap.size w w') : zat w' a bs := ⟨h.1.below hb, h.2⟩
theorem zat.drop {w : World} {b off : Nat} {bs : List Nat} (h : zat w (some ⟨b, off, none⟩) bs) (k : Nat) : zat w (some ⟨b, off + k, none⟩) (bs.drop k) := by
 refine ⟨fun j v hj => ?_, h.2.drop k⟩
 have hj2 : (bs.flatMap byV)[k + j]? = some v := by
  rw [zf2] at hj ⊢
  rw [List.getElem?_map, List.getElem?_drop] at hj
  rw [List.getElem?_map]; exact hj
 obtain ⟨b', off', he, hc⟩ := h.1 (k + j) v hj2
 injection he with he; injection he with e1 e2; subst e1; subst e2
 exact ⟨b, off + k, rfl, by rw [Nat.add_assoc]; exact hc⟩
theorem zat.none_ (w : World) (a : Option Addr) : zat w a [] := ⟨zm.nil _ _, by intro x hx; cases hx⟩
def Rb (br : Nat) (a : Option Addr) (n c : Nat) : Blk := ⟨br, [.slice a n c], 236, 1⟩
theorem zfw (br c k : Nat) (a : Option Addr) (bs : List Nat) (hk0 : 0 < k) (hk : k ≤ 8) (hn : k ≤ bs.length) (hnc : bs.length ≤ c) (w : World) (hc : w.cell? ⟨br, 0, none⟩ = some (.slice a bs.length c)) (ha : zat w a bs) :
  Calls Tryz.prog 222 #[.pointer (some ⟨br, 0, none⟩), .int .i64 k] w fun e w' => e = .returned (.tuple #[.int .u64 ((beV (bs.take k) : Nat) : Int), .int .i64 0]) ∧ w = w' := by
 obtain ⟨b, off, rfl, hx⟩ := ha.1.elems 1 zdC (by omega) (by decide)
 have HC := z0j hc
 have HE := z0j hx
 have HB := z0j ha.2
 clear hc hx ha
 have e1 : decide ((bs.length : Int) < (k : Int)) = false := by simp; omega
 have e2 : (k : Int) ≤ (bs.length : Int) := by omega
 have e3 : (k : Int) ≤ (c : Int) := by omega
 have e4 : (0 : Int) ≤ (k : Int) := by omega
 go_enter Tryz.func222, Tryz.ntmps222
 go_wp2_with (first | ((refine ze 236 _ rfl ?_); refine zC (Hp.start _) _ _ rfl wy _ _ (za rfl) Zg _ HC.out ?_; simp only [zc, zb, z0b, z0a]) | go_skip | (((refine ze _ _ rfl ?_); refine lO hp rfl (za rfl) (by with_reducible first | exact zfY | exact Zg) zL ?_); simp only [zc, zb, z0b, z0a]))
 go_loopg [6, 25] k (fun m v i wr => ∃ j : Nat, m + j = k ∧ i = .int .i64 j ∧ v = .int .u64 ((beV (bs.take j) : Nat) : Int) ∧ wr = w)
 case atStart => exact ⟨0, by omega, rfl, rfl, rfl⟩
 case round =>
  obtain ⟨j, hkj, rfl, rfl, rfl⟩ := hrel
  by_cases hlt : j < k
  ·have hj := List.getElem?_eq_getElem (l := bs) (i := j) (by omega)
   have hX := HE.out j _ hj 0 _ rfl
   have hx256 := HB.out _ (List.getElem_mem (l := bs) (n := j) (by omega))
   have hbt := ziN hj
   have hd := zhL HB.out (k := j + 1) (by omega)
   clear hj
   generalize bs[j]'(by omega) = x at hX hx256 hbt
   rw [hbt] at hd
   have hd0 : beV (bs.take j) = (beV (bs.take j) * 256 + x) / 256 := by omega
   have hx0 : x = (beV (bs.take j) * 256 + x) % 256 := by omega
   have HD : Hid (beV (bs.take (j + 1)) = beV (bs.take j) * 256 + x) := z0j hbt
   obtain ⟨d, hdd⟩ : ∃ d, d = beV (bs.take j) * 256 + x := ⟨_, rfl⟩
   rw [← hdd] at hd0 hx0 hd HD
   rw [hx0] at hX
   rw [hd0]
   simp only [Nat.mul_one, Nat.add_zero] at hX
   have HX := z0j hX
   have HO := z0j (zjt d hd)
   clear hX hd0 hx0 hdd hbt hx256
   have f1 : (0 : Int) ≤ (j : Int) := by omega
   have f2 : (j : Int) < (k : Int) := by omega
   go_wp2_with (first | ((refine ze 5 _ rfl ?_); refine zC (Hp.start _) _ _ rfl wy _ _ (za rfl) zfY _ HX.out ?_; simp only [zc, zb, z0b, z0a]) | go_skip | (((refine ze _ _ rfl ?_); refine lO hp rfl (za rfl) (by with_reducible first | exact zfY | exact Zg) zL ?_); simp only [zc, zb, z0b, z0a]))
   go_roundg (gk - 1)
   case measure => omega
   case rel => exact ⟨j + 1, by omega, by go_num, by rw [HD.out, HO.out], rfl⟩
  ·obtain rfl : j = k := by omega
   have f2 : decide ((j : Int) < (j : Int)) = false := by simp
   go_wp2_with (first | go_skip | (((refine ze _ _ rfl ?_); refine lO hp rfl (za rfl) (by with_reducible first | exact zfY | exact Zg) zL ?_); simp only [zc, zb, z0b, z0a]))
   go_ret2
   exact ⟨rfl, rfl⟩
theorem zcQ (br n c k : Nat) (a : Option Addr) (hn : n < k) (w : World) (hc : w.cell? ⟨br, 0, none⟩ = some (.slice a n c)) :
  Calls Tryz.prog 222 #[.pointer (some ⟨br, 0, none⟩), .int .i64 k] w fun e w' => e = .returned (.tuple #[.int .u64 0, .int .i64 10]) ∧ w = w' := by
 have HC := z0j hc
 clear hc
 have e1 : (n : Int) < (k : Int) := by omega
 go_enter Tryz.func222, Tryz.ntmps222
 go_wp2_with (first | ((refine ze 236 _ rfl ?_); refine zC (Hp.start _) _ _ rfl wy _ _ (za rfl) Zg _ HC.out ?_; simp only [zc, zb, z0b, z0a]) | go_skip | (((refine ze _ _ rfl ?_); refine lO hp rfl (za rfl) (by with_reducible first | exact zfY | exact Zg) zL ?_); simp only [zc, zb, z0b, z0a]))
 go_ret2
 exact ⟨rfl, rfl⟩
def zdx (w0 : World) (br : Nat) (bs : List Nat) (c : Nat) (L : List Blk) (w' : World) : Prop := ∃ a', zat w0 a' bs ∧ Hp w0.heap.size w0 w' (Rb br a' bs.length c :: L)
theorem zdB (br c k : Nat) (a : Option Addr) (bs : List Nat) (hn : k ≤ bs.length) (hnc : bs.length ≤ c) {w0 w : World} {L : List Blk} (hp : Hp w0.heap.size w0 w (Rb br a bs.length c :: L)) (ha : zat w0 a bs) :
  Calls Tryz.prog 184 #[.pointer (some ⟨br, 0, none⟩), .int .i64 k] w fun e w' => e = .returned (.tuple #[]) ∧ zdx w0 br (bs.drop k) (c - k) L w' := by
 unfold Rb at hp
 have HA := z0j ha
 clear ha
 have e1 : (0 : Int) ≤ (k : Int) := by omega
 have e2 : (k : Int) ≤ (bs.length : Int) := by omega
 have e3 : (k : Int) ≤ (c : Int) := by omega
 have e4 : (bs.length : Int) ≤ (c : Int) := by omega
 have hlen : (bs.drop k).length = bs.length - k := List.length_drop ..
 rcases Nat.eq_zero_or_pos bs.length with hb | hb
 ·obtain rfl : bs = [] := List.eq_nil_of_length_eq_zero hb
  obtain rfl : k = 0 := by simpa using hn
  simp only [z0h] at hp
  clear hb hn hnc hlen HA e1 e2 e3 e4
  have e3 : (0 : Int) ≤ (c : Int) := by omega
  rcases a with _ | ⟨b, off, x⟩
  ·go_enter Tryz.func184, Tryz.ntmps184
   go_wp2_with (first | go_skip | ((first | ((refine ze _ _ rfl ?_); refine lO hp rfl (za rfl) Zg zL ?_) | ((refine zd _ _ _ rfl ?_); refine sO hp rfl (za rfl) Zg zL ?_; clear hp; intro w1 hp; simp only [spl, z0a, z0b] at hp)); simp only [zc, zb, z0b, z0a]))
   refine bodyPost_end (results_none Tryz.results184 _ _ _) rfl ⟨rfl, none, zat.none_ _ _, ?_⟩
   unfold Rb
   simpa using hp
  ·by_cases h : c = 0
   ·subst h
    go_enter Tryz.func184, Tryz.ntmps184
    go_wp2_with (first | go_skip | ((first | ((refine ze _ _ rfl ?_); refine lO hp rfl (za rfl) Zg zL ?_) | ((refine zd _ _ _ rfl ?_); refine sO hp rfl (za rfl) Zg zL ?_; clear hp; intro w1 hp; simp only [spl, z0a, z0b] at hp)); simp only [zc, zb, z0b, z0a]))
    exact bodyPost_end (results_none Tryz.results184 _ _ _) rfl ⟨rfl, _, zat.none_ _ _, by unfold Rb; simpa using hp⟩
   ·go_enter Tryz.func184, Tryz.ntmps184
    go_wp2_with (first | go_skip | ((first | ((refine ze _ _ rfl ?_); refine lO hp rfl (za rfl) Zg zL ?_) | ((refine zd _ _ _ rfl ?_); refine sO hp rfl (za rfl) Zg zL ?_; clear hp; intro w1 hp; simp only [spl, z0a, z0b] at hp)); simp only [zc, zb, z0b, z0a]))
    exact bodyPost_end (results_none Tryz.results184 _ _ _) rfl ⟨rfl, _, zat.none_ _ _, by unfold Rb; simpa [h] using hp⟩
 obtain ⟨b, off, rfl, _⟩ := HA.out.1.addr (by rw [Zv byV 1 zdC]; omega)
 have HDR := z0j (HA.out.drop k)
 by_cases h : c = k
 ·subst h
  have hbl : bs.length = c := by omega
  go_enter Tryz.func184, Tryz.ntmps184
  go_wp2_with (first | go_skip | ((first | ((refine ze _ _ rfl ?_); refine lO hp rfl (za rfl) Zg zL ?_) | ((refine zd _ _ _ rfl ?_); refine sO hp rfl (za rfl) Zg zL ?_; clear hp; intro w1 hp; simp only [spl, z0a, z0b] at hp)); simp only [zc, zb, z0b, z0a]))
  have hnil : bs.drop c = [] := List.drop_eq_nil_of_le (by omega)
  refine bodyPost_end (results_none Tryz.results184 _ _ _) rfl ⟨rfl, some ⟨b, off, none⟩, by rw [hnil]; exact zat.none_ _ _, ?_⟩
  unfold Rb
  rw [hlen]
  simpa [hbl] using hp
 ·go_enter Tryz.func184, Tryz.ntmps184
  go_wp2_with (first | go_skip | ((first | ((refine ze _ _ rfl ?_); refine lO hp rfl (za rfl) Zg zL ?_) | ((refine zd _ _ _ rfl ?_); refine sO hp rfl (za rfl) Zg zL ?_; clear hp; intro w1 hp; simp only [spl, z0a, z0b] at hp)); simp only [zc, zb, z0b, z0a]))
  refine bodyPost_end (results_none Tryz.results184 _ _ _) rfl ⟨rfl, some ⟨b, off + k, none⟩, HDR.out, ?_⟩
  unfold Rb
  rw [hlen]
  simpa [h] using hp
theorem Rb.cell {B br n c : Nat} {a : Option Addr} {w0 w : World} {L : List Blk} (hp : Hp B w0 w (Rb br a n c :: L)) : w.cell? ⟨br, 0, none⟩ = some (.slice a n c) := hp.cell (i := 0) rfl rfl
theorem zld (br c : Nat) (a : Option Addr) (bs : List Nat) (hn : 4 ≤ bs.length) (hnc : bs.length ≤ c) {w0 w : World} {L : List Blk} (hp : Hp w0.heap.size w0 w (Rb br a bs.length c :: L)) (ha : zat w0 a bs) :
  Calls Tryz.prog 222 #[.pointer (some ⟨br, 0, none⟩), .int .i64 4] w fun e w' => e = .returned (.tuple #[.int .u64 ((beV (bs.take 4) : Nat) : Int), .int .i64 0]) ∧ w = w' := zfw br c 4 a bs (by decide) (by decide) hn hnc w (Rb.cell hp) (ha.below hp.below)
theorem zlz (br c : Nat) (a : Option Addr) (bs : List Nat) (hn : 8 ≤ bs.length) (hnc : bs.length ≤ c) {w0 w : World} {L : List Blk} (hp : Hp w0.heap.size w0 w (Rb br a bs.length c :: L)) (ha : zat w0 a bs) :
  Calls Tryz.prog 222 #[.pointer (some ⟨br, 0, none⟩), .int .i64 8] w fun e w' => e = .returned (.tuple #[.int .u64 ((beV (bs.take 8) : Nat) : Int), .int .i64 0]) ∧ w = w' := zfw br c 8 a bs (by decide) (by decide) hn hnc w (Rb.cell hp) (ha.below hp.below)
theorem zk9 (br n c : Nat) (a : Option Addr) (hn : n < 4) {B : Nat} {w0 w : World} {L : List Blk} (hp : Hp B w0 w (Rb br a n c :: L)) :
  Calls Tryz.prog 222 #[.pointer (some ⟨br, 0, none⟩), .int .i64 4] w fun e w' => e = .returned (.tuple #[.int .u64 0, .int .i64 10]) ∧ w = w' := zcQ br n c 4 a hn w (Rb.cell hp)
theorem zkr (br n c : Nat) (a : Option Addr) (hn : n < 8) {B : Nat} {w0 w : World} {L : List Blk} (hp : Hp B w0 w (Rb br a n c :: L)) :
  Calls Tryz.prog 222 #[.pointer (some ⟨br, 0, none⟩), .int .i64 8] w fun e w' => e = .returned (.tuple #[.int .u64 0, .int .i64 10]) ∧ w = w' := zcQ br n c 8 a hn w (Rb.cell hp)
theorem zkC (br c : Nat) (a : Option Addr) (bs : List Nat) (hn : 4 ≤ bs.length) (hnc : bs.length ≤ c) {w0 w : World} {L : List Blk} (hp : Hp w0.heap.size w0 w (Rb br a bs.length c :: L)) (ha : zat w0 a bs) :
  Calls Tryz.prog 184 #[.pointer (some ⟨br, 0, none⟩), .int .i64 4] w fun e w' => e = .returned (.tuple #[]) ∧ zdx w0 br (bs.drop 4) (c - 4) L w' := zdB br c 4 a bs hn hnc hp ha
theorem zlH (br c : Nat) (a : Option Addr) (bs : List Nat) (hn : 8 ≤ bs.length) (hnc : bs.length ≤ c) {w0 w : World} {L : List Blk} (hp : Hp w0.heap.size w0 w (Rb br a bs.length c :: L)) (ha : zat w0 a bs) :
  Calls Tryz.prog 184 #[.pointer (some ⟨br, 0, none⟩), .int .i64 8] w fun e w' => e = .returned (.tuple #[]) ∧ zdx w0 br (bs.drop 8) (c - 8) L w' := zdB br c 8 a bs hn hnc hp ha
def zdS (bs : List Nat) : Option Nat := if 4 ≤ bs.length ∧ beV (bs.take 4) ≤ 2147483647 then some (beV (bs.take 4)) else none
theorem zbL {bs : List Nat} {v : Nat} (h : zdS bs = some v) : 4 ≤ bs.length ∧ beV (bs.take 4) = v ∧ v ≤ 2147483647 := by
 unfold zdS at h
 split at h
 ·rename_i h1; injection h with h; exact ⟨h1.1, h, by omega⟩
 ·cases h
theorem zjG {bs : List Nat} (h : zdS bs = none) : bs.length < 4 ∨ (4 ≤ bs.length ∧ 2147483647 < beV (bs.take 4)) := by
 unfold zdS at h
 split at h
 ·cases h
 ·omega
def zjp (bs : List Nat) : Option Int := if 8 ≤ bs.length then some (wrap64 ((beV (bs.take 8) : Nat) : Int)) else none
theorem zco (br c v : Nat) (a : Option Addr) (bs : List Nat) (hv : zdS bs = some v) (hnc : bs.length ≤ c) {w0 w : World} {L : List Blk} (hp : Hp w0.heap.size w0 w (Rb br a bs.length c :: L)) (ha : zat w0 a bs) :
  Calls Tryz.prog 183 #[.pointer (some ⟨br, 0, none⟩)] w fun e w' => e = .returned (.tuple #[.int .i64 v, .int .i64 0]) ∧ w = w' := by
 have HA := z0j ha
 clear ha
 obtain ⟨hn, hb, hm⟩ := zbL hv
 have HV := z0j hb
 have e1 : decide ((2147483647 : Int) < (v : Int)) = false := by simp; omega
 have e2 : wrap64 (v : Int) = (v : Int) := IntWalk.wrap64_in _ ⟨by omega, by omega⟩
 clear hv hb
 go_enter Tryz.func183, Tryz.ntmps183
 go_wp2_with (first | (go_at_call 222; (with_reducible refine (zld br c a bs hn hnc hp HA.out).mono ?_); rintro e w' ⟨rfl, rfl⟩; rw [HV.out]) | go_skip)
 go_ret2
 exact ⟨rfl, rfl⟩
theorem zcJ (br c : Nat) (a : Option Addr) (bs : List Nat) (hv : zdS bs = none) (hnc : bs.length ≤ c) {w0 w : World} {L : List Blk} (hp : Hp w0.heap.size w0 w (Rb br a bs.length c :: L)) (ha : zat w0 a bs) :
  Calls Tryz.prog 183 #[.pointer (some ⟨br, 0, none⟩)] w fun e w' => (∃ q : Int, (q = 10 ∨ q = 11) ∧ e = .returned (.tuple #[.int .i64 0, .int .i64 q])) ∧ w = w' := by
 have HA := z0j ha
 clear ha
 rcases zjG hv with hn | ⟨hn, hm⟩
 ·clear hv
  go_enter Tryz.func183, Tryz.ntmps183
  go_wp2_with (first | (go_at_call 222; (with_reducible refine (zk9 br bs.length c a hn hp).mono ?_); rintro e w' ⟨rfl, rfl⟩) | go_skip)
  go_ret2
  exact ⟨⟨10, .inl rfl, rfl⟩, rfl⟩
 ·obtain ⟨v, hb⟩ : ∃ v, beV (bs.take 4) = v := ⟨_, rfl⟩
  rw [hb] at hm
  have HV := z0j hb
  have e1 : decide ((2147483647 : Int) < (v : Int)) = true := by simp; omega
  clear hv hb
  go_enter Tryz.func183, Tryz.ntmps183
  go_wp2_with (first | (go_at_call 222; (with_reducible refine (zld br c a bs hn hnc hp HA.out).mono ?_); rintro e w' ⟨rfl, rfl⟩; rw [HV.out]) | go_skip)
  go_ret2
  exact ⟨⟨11, .inr rfl, rfl⟩, rfl⟩
theorem zgv (br c v : Nat) (a : Option Addr) (bs : List Nat) (hv : zdS bs = some v) (hnc : bs.length ≤ c) {w0 w : World} {L : List Blk} (hp : Hp w0.heap.size w0 w (Rb br a bs.length c :: L)) (ha : zat w0 a bs) :
  Calls Tryz.prog 186 #[.pointer (some ⟨br, 0, none⟩)] w fun e w' => e = .returned (.tuple #[.int .i64 v, .int .i64 0]) ∧ zdx w0 br (bs.drop 4) (c - 4) L w' := by
 have HA := z0j ha
 have HV := z0j hv
 obtain ⟨hn, _, _⟩ := zbL hv
 clear ha hv
 go_enter Tryz.func186, Tryz.ntmps186
 go_wp2_with (first | (go_at_call 183; (with_reducible refine (zco br c v a bs HV.out hnc hp HA.out).mono ?_); rintro e w' ⟨rfl, rfl⟩) | (go_at_call 184; (with_reducible refine (zkC br c a bs hn hnc hp HA.out).mono ?_); clear hp; rintro e w1 ⟨rfl, hps⟩; have HPS := z0j hps; clear hps) | go_skip)
 go_ret2
 exact ⟨rfl, HPS.out⟩
theorem zev (br c : Nat) (a : Option Addr) (bs : List Nat) (hv : zdS bs = none) (hnc : bs.length ≤ c) {w0 w : World} {L : List Blk} (hp : Hp w0.heap.size w0 w (Rb br a bs.length c :: L)) (ha : zat w0 a bs) :
  Calls Tryz.prog 186 #[.pointer (some ⟨br, 0, none⟩)] w fun e w' => (∃ q : Int, (q = 10 ∨ q = 11) ∧ e = .returned (.tuple #[.int .i64 0, .int .i64 q])) ∧ w = w' := by
 have HA := z0j ha
 have HV := z0j hv
 clear ha hv
 go_enter Tryz.func186, Tryz.ntmps186
 go_wp2_with (first | (go_at_call 183; (with_reducible refine (zcJ br c a bs HV.out hnc hp HA.out).mono ?_); rintro e w' ⟨⟨q, hq, rfl⟩, rfl⟩) | go_skip)
 rcases hq with rfl | rfl
 all_goals
  go_wp2_with (go_skip)
  go_ret2
 ·exact ⟨⟨10, .inl rfl, rfl⟩, rfl⟩
 ·exact ⟨⟨11, .inr rfl, rfl⟩, rfl⟩
theorem zj0 (br c : Nat) (v : Int) (a : Option Addr) (bs : List Nat) (hv : zjp bs = some v) (hnc : bs.length ≤ c) {w0 w : World} {L : List Blk} (hp : Hp w0.heap.size w0 w (Rb br a bs.length c :: L)) (ha : zat w0 a bs) :
  Calls Tryz.prog 223 #[.pointer (some ⟨br, 0, none⟩)] w fun e w' => e = .returned (.tuple #[.int .i64 v, .int .i64 0]) ∧ zdx w0 br (bs.drop 8) (c - 8) L w' := by
 have HA := z0j ha
 unfold zjp at hv
 split at hv
 ·rename_i hn
  injection hv with hv
  have HV := z0j hv
  clear ha hv
  go_enter Tryz.func223, Tryz.ntmps223
  go_wp2_with (first | (go_at_call 222; (with_reducible refine (zlz br c a bs hn hnc hp HA.out).mono ?_); rintro e w' ⟨rfl, rfl⟩) | (go_at_call 184; (with_reducible refine (zlH br c a bs hn hnc hp HA.out).mono ?_); clear hp; rintro e w1 ⟨rfl, hps⟩; have HPS := z0j hps; clear hps) | go_skip)
  go_ret2
  exact ⟨by rw [← HV.out]; rfl, HPS.out⟩
 ·cases hv
theorem zgh (br c : Nat) (a : Option Addr) (bs : List Nat) (hv : zjp bs = none) {B : Nat} {w0 w : World} {L : List Blk} (hp : Hp B w0 w (Rb br a bs.length c :: L)) :
  Calls Tryz.prog 223 #[.pointer (some ⟨br, 0, none⟩)] w fun e w' => e = .returned (.tuple #[.int .i64 0, .int .i64 10]) ∧ w = w' := by
 unfold zjp at hv
 split at hv
 ·cases hv
 ·rename_i hn
  have hn : bs.length < 8 := by omega
  clear hv
  go_enter Tryz.func223, Tryz.ntmps223
  go_wp2_with (first | (go_at_call 222; (with_reducible refine (zkr br bs.length c a hn hp).mono ?_); rintro e w' ⟨rfl, rfl⟩) | go_skip)
  go_ret2
  exact ⟨rfl, rfl⟩
open Go.RowKit
theorem zlQ {ty : TypeId} (h : zv Tryz.prog ty = true := by with_reducible first | exact zq | exact ZF | exact zY) : zv Tryz.prog ty = true := h
def zdz : List PanicEntry := [{ v := .iface 232 (.agg #[]), recovered := false }]
theorem ziY (x : Int) (w : World) : Calls Tryz.prog 185 #[.int .i64 x, .int .i64 0] w fun e w' => e = .returned (.int .i64 x) ∧ w = w' := by
 go_enter Tryz.func185, Tryz.ntmps185
 go_wp2
 go_ret
 exact ⟨rfl, rfl⟩
theorem zeq (x q : Int) (hq : q = 10 ∨ q = 11) (w : World) : Calls Tryz.prog 185 #[.int .i64 x, .int .i64 q] w fun e w' => e = .panicked zdz ∧ w = w' := by
 rcases hq with rfl | rfl
 all_goals
  go_enter Tryz.func185, Tryz.ntmps185
  go_wp2
  exact ⟨rfl, rfl, rfl⟩
theorem zaq (w : World) : Calls Tryz.prog 131 #[.bool true] w fun e w' => e = .returned (.tuple #[]) ∧ w = w' := by
 go_enter Tryz.func131, Tryz.ntmps131
 go_wp2
 exact bodyPost_end (results_none Tryz.results131 _ _ _) rfl ⟨rfl, rfl⟩
theorem zZ (w : World) : Calls Tryz.prog 131 #[.bool false] w fun e w' => e = .panicked zdz ∧ w = w' := by
 go_enter Tryz.func131, Tryz.ntmps131
 go_wp2
 exact ⟨rfl, rfl, rfl⟩
theorem Hp.sub {B : Nat} {w0 w : World} {L L' : List Blk} (hp : Hp B w0 w L) (h : L'.Sublist L) : Hp B w0 w L' :=
 ⟨hp.below, hp.size, (h.map _).nodup hp.nodup, fun p hpL => hp.own p (h.subset hpL)⟩
def Ib (bi br : Nat) : Blk := ⟨bi, [.pointer (some ⟨br, 0, none⟩)], 183, 1⟩
def Zk (w0 : World) (br bi : Nat) (bs : List Nat) (K L : List Blk) (w : World) : Prop := ∃ a c, bs.length ≤ c ∧ zat w0 a bs ∧ Hp w0.heap.size w0 w (K ++ (Rb br a bs.length c :: Ib bi br :: L))
theorem Zk.front {w0 w : World} {br bi : Nat} {bs : List Nat} {K L : List Blk} (h : Zk w0 br bi bs K L w) : Zk w0 br bi bs [] (K ++ L) w := by
 obtain ⟨a, c, h1, h2, hp⟩ := h
 exact ⟨a, c, h1, h2, hp.kp⟩
theorem Zk.back {w0 w : World} {br bi : Nat} {bs : List Nat} {K L : List Blk} (h : Zk w0 br bi bs [] (K ++ L) w) : Zk w0 br bi bs K L w := by
 obtain ⟨a, c, h1, h2, hp⟩ := h
 exact ⟨a, c, h1, h2, hp.kp⟩
theorem Zk.hp {w0 w : World} {br bi : Nat} {bs : List Nat} {K L : List Blk} (h : Zk w0 br bi bs K L w) : Hp w0.heap.size w0 w (K ++ L) := by
 obtain ⟨a, c, _, _, hp⟩ := h.front
 exact hp.tail.tail
theorem Hp.to {B : Nat} {w0 w : World} {L L' : List Blk} (hp : Hp B w0 w L) (h : L = L') : Hp B w0 w L' := h ▸ hp
def nR (bs : List Nat) : Option (Int × List Nat) := (zdS bs).map fun v => ((v : Int), bs.drop 4)
def iR (bs : List Nat) : Option (Int × List Nat) := (zjp bs).map fun v => (v, bs.drop 8)
def zgA (w0 : World) (br bi : Nat) (r : Option (Int × List Nat)) (K L : List Blk) (e : Ending) (w' : World) : Prop :=
 match r with
 | some (x, bs') => e = .returned (.int .i64 x) ∧ Zk w0 br bi bs' K L w'
 | none => e = .panicked zdz ∧ Hp w0.heap.size w0 w' (K ++ L)
theorem Zn (br bi : Nat) (bs : List Nat) {w0 w : World} {K L : List Blk} (hs : Zk w0 br bi bs K L w) :
  Calls Tryz.prog 129 #[.pointer (some ⟨bi, 0, none⟩)] w (zgA w0 br bi (nR bs) K L) := by
 obtain ⟨a, c, hnc, ha, hp⟩ := hs.front
 simp only [z0e, Ib] at hp
 have HA := z0j ha
 unfold nR
 cases hv : zdS bs with
 | some v =>
  have HV := z0j hv
  have hl : (bs.drop 4).length ≤ c - 4 := by rw [List.length_drop]; omega
  have HL := z0j hl
  clear ha hv hs hl
  go_enter Tryz.func129, Tryz.ntmps129
  go_wp2_with (first | (go_at_call 186; (with_reducible refine (zgv br c v a bs HV.out hnc hp HA.out).mono ?_); clear hp; rintro e w1 ⟨rfl, a', ha', hp⟩) | (go_at_call 185; (with_reducible refine (ziY _ _).mono ?_); rintro e w' ⟨rfl, rfl⟩) | ((refine ze 181 _ rfl ?_); refine lO hp rfl (za rfl) zY at1 ?_; simp only [zc, zb, z0b, z0a]) | go_skip | (((refine ze _ _ rfl ?_); refine lO hp rfl (za rfl) zY zL ?_); simp only [zc, zb, z0b, z0a]))
  go_ret
  exact ⟨rfl, Zk.back ⟨a', c - 4, HL.out, ha', hp⟩⟩
 | none =>
  have HV := z0j hv
  clear ha hv hs
  go_enter Tryz.func129, Tryz.ntmps129
  go_wp2_with (first | (go_at_call 186; (with_reducible refine (zev br c a bs HV.out hnc hp HA.out).mono ?_); rintro e w1 ⟨⟨q, hq, rfl⟩, rfl⟩) | (go_at_call 185; (with_reducible refine (zeq _ _ hq _).mono ?_); rintro e w' ⟨rfl, rfl⟩) | ((refine ze 181 _ rfl ?_); refine lO hp rfl (za rfl) zY at1 ?_; simp only [zc, zb, z0b, z0a]) | go_skip | (((refine ze _ _ rfl ?_); refine lO hp rfl (za rfl) zY zL ?_); simp only [zc, zb, z0b, z0a]))
  exact ⟨rfl, rfl, hp.tail.tail⟩
theorem zbq (br bi : Nat) (bs : List Nat) {w0 w : World} {K L : List Blk} (hs : Zk w0 br bi bs K L w) :
  Calls Tryz.prog 187 #[.pointer (some ⟨bi, 0, none⟩)] w (zgA w0 br bi (iR bs) K L) := by
 obtain ⟨a, c, hnc, ha, hp⟩ := hs.front
 simp only [z0e, Ib] at hp
 have HA := z0j ha
 unfold iR
 cases hv : zjp bs with
 | some v =>
  have HV := z0j hv
  have hl : (bs.drop 8).length ≤ c - 8 := by rw [List.length_drop]; omega
  have HL := z0j hl
  clear ha hv hs hl
  go_enter Tryz.func187, Tryz.ntmps187
  go_wp2_with (first | (go_at_call 223; (with_reducible refine (zj0 br c v a bs HV.out hnc hp HA.out).mono ?_); clear hp; rintro e w1 ⟨rfl, a', ha', hp⟩) | (go_at_call 185; (with_reducible refine (ziY _ _).mono ?_); rintro e w' ⟨rfl, rfl⟩) | ((refine ze 181 _ rfl ?_); refine lO hp rfl (za rfl) zY at1 ?_; simp only [zc, zb, z0b, z0a]) | go_skip | (((refine ze _ _ rfl ?_); refine lO hp rfl (za rfl) zY zL ?_); simp only [zc, zb, z0b, z0a]))
  go_ret
  exact ⟨rfl, Zk.back ⟨a', c - 8, HL.out, ha', hp⟩⟩
 | none =>
  have HV := z0j hv
  clear ha hv hs
  go_enter Tryz.func187, Tryz.ntmps187
  go_wp2_with (first | (go_at_call 223; (with_reducible refine (zgh br c a bs HV.out hp).mono ?_); rintro e w1 ⟨rfl, rfl⟩) | (go_at_call 185; (with_reducible refine (zeq _ _ (.inl rfl) _).mono ?_); rintro e w' ⟨rfl, rfl⟩) | ((refine ze 181 _ rfl ?_); refine lO hp rfl (za rfl) zY at1 ?_; simp only [zc, zb, z0b, z0a]) | go_skip | (((refine ze _ _ rfl ?_); refine lO hp rfl (za rfl) zY zL ?_); simp only [zc, zb, z0b, z0a]))
  exact ⟨rfl, rfl, hp.tail.tail⟩
def zaY {α : Type} (one : List Nat → Option (α × List Nat)) : Nat → List Nat → Option (List α × List Nat)
 | 0, bs => some ([], bs)
 | n + 1, bs => match zaY one n bs with
  | none => none
  | some (l, bs') => match one bs' with
   | none => none
   | some (x, bs'') => some (l ++ [x], bs'')
theorem zag {α : Type} {one : List Nat → Option (α × List Nat)} : ∀ {n : Nat} {bs : List Nat} {l : List α} {r : List Nat}, zaY one n bs = some (l, r) → l.length = n
 | 0, _, _, _, h => by unfold zaY at h; injection h with h; injection h with h _; rw [← h]; rfl
 | n + 1, bs, l, r, h => by
  unfold zaY at h
  cases h1 : zaY one n bs with
  | none => rw [h1] at h; cases h
  | some p =>
   obtain ⟨l1, b1⟩ := p
   rw [h1] at h
   simp only at h
   cases h2 : one b1 with
   | none => rw [h2] at h; cases h
   | some q =>
    obtain ⟨x, b2⟩ := q
    rw [h2] at h
    injection h with h; injection h with h _
    rw [← h, List.length_append, zag h1]; rfl
theorem zaH {α : Type} {one : List Nat → Option (α × List Nat)} {q : Nat} {bs b1 b2 : List Nat} {l : List α} {x : α} (h : zaY one q bs = some (l, b1)) (hx : one b1 = some (x, b2)) : zaY one (q + 1) bs = some (l ++ [x], b2) := by
 unfold zaY; rw [h]; simp only; rw [hx]
theorem zaz {α : Type} {one : List Nat → Option (α × List Nat)} {q : Nat} {bs b1 : List Nat} {l : List α} (h : zaY one q bs = some (l, b1)) (hx : one b1 = none) : ∀ n, q < n → zaY one n bs = none
 | 0, hn => by omega
 | n + 1, hn => by
  unfold zaY
  by_cases hq : q = n
  ·subst hq; rw [h]; simp only; rw [hx]
  ·rw [zaz h hx n (by omega)]
def zfp (w0 : World) (br bi n : Nat) (r : Option (List Int × List Nat)) (K L : List Blk) (e : Ending) (w' : World) : Prop :=
 match r with
 | some (l, bs') => ∃ v R, e = .returned v ∧ zu 3 1 v n (l.flatMap iV) R ∧ Zk w0 br bi bs' K (R ++ L) w'
 | none => e = .panicked zdz ∧ Hp w0.heap.size w0 w' (K ++ L)
theorem zaa (br bi n : Nat) (most : Int) (hn : (n : Int) ≤ most) (hm : n ≤ 1000) (bs : List Nat) {w0 w : World} {K L : List Blk} (hs : Zk w0 br bi bs K L w) :
  Calls Tryz.prog 244 #[.int .i64 n, .int .i64 most, .func (.func 129) #[.pointer (some ⟨bi, 0, none⟩)] #[]] w (zfp w0 br bi n (zaY nR n bs) K L) := by
 obtain ⟨i0, hi0, hz0, hz1, hz2⟩ := info_parts zjZ
 replace hs := hs.front
 have HB : Hid (∀ l b w', Zk w0 br bi b [] (l ++ (K ++ L)) w' → Zk w0 br bi b K (l ++ L) w') := z0j (fun l b w' h => Zk.back (by obtain ⟨a, c, h1, h2, hp⟩ := h; exact ⟨a, c, h1, h2, hp.kp⟩))
 obtain ⟨M, hM⟩ : ∃ M, M = K ++ L := ⟨_, rfl⟩
 have HM := z0j hM
 rw [← hM] at hs HB
 clear hM
 go_enter Tryz.func244, Tryz.ntmps244
 go_wp2_with (first | (go_at_call 131; (with_reducible refine (zaq _).mono ?_); rintro e w' ⟨rfl, rfl⟩) | go_skip)
 go_loopg [7, 13] n (fun k v i wr => ∃ (q : Nat) (l : List Int) (b1 : List Nat) (R : List Blk), k + q = n ∧ i = .int .i64 q ∧ Hid (zaY nR q bs = some (l, b1)) ∧ Hid (zu 3 1 v q (l.flatMap iV) R) ∧ Hid (Zk w0 br bi b1 [] (R ++ M) wr))
 case atStart => exact ⟨0, [], bs, [], by omega, rfl, z0j rfl, z0j (zu.nil _ _), z0j hs⟩
 case round =>
  clear hs
  obtain ⟨q, l, b1, R, hkq, rfl, HQ, HR, HS⟩ := hrel
  by_cases hlt : q < n
  ·have f1 : (0 : Int) ≤ (q : Int) := by omega
   have f2 : (q : Int) < (n : Int) := by omega
   cases ho : nR b1 with
   | none =>
    have HO := z0j ho
    have HF := z0j (zaz HQ.out ho n hlt)
    clear ho
    go_wp2_with (first | (go_at_call 129; (with_reducible refine (Zn br bi b1 HS.out).mono ?_); rw [HO.out]; rintro e w1 ⟨rfl, hp⟩) | go_skip)
    refine ⟨rfl, ?_⟩
    rw [HF.out]
    exact ⟨rfl, by rw [← HM.out]; exact hp.sub (List.sublist_append_right _ _)⟩
   | some p =>
    obtain ⟨x, b2⟩ := p
    have HO := z0j ho
    have HT := z0j (zaH HQ.out ho)
    clear ho
    go_wp2_with (first | (go_at_call 129; (with_reducible refine (Zn br bi b1 HS.out).mono ?_); rw [HO.out]; rintro e w1 ⟨rfl, hs1⟩; obtain ⟨a, c, hnc, ha, hp⟩ := hs1; have HA := z0j ha; clear ha; simp only [z0e, Rb, Ib] at hp) | (with_reducible refine zO _ _ 120 rfl ?_; fail) | ((refine zO _ _ 120 rfl ?_); refine zI (K := [_, _]) (R := R) (M := M) hp _ _ _ rfl wy i0 _ 8 Tryz.underlying120 hi0 hz0 hz1 hz2 rfl (by decide) (za rfl) HR.out 1 1 (za rfl) (by rfl) (by decide) (by rfl) (by unfold maxLen; omega) (by omega) ?_; clear hp HR; intro v' R' w1 hR' hp; have HR' := z0j hR'; clear hR'; simp only [z0f, z0e] at hp; simp only [zc, zb, z0b, z0a]) | go_skip | (((refine zg _ _ _ rfl ?_); refine lS hp rfl (by intro w; go_simp; rfl) ?_; clear hp; intro b w1 hp; simp only [z0g, z0h, Nat.reduceAdd] at hp); simp only [zc, zb, z0b, z0a]))
    go_roundg (gk - 1)
    case measure => omega
    case rel => exact ⟨q + 1, l ++ [x], b2, R', by omega, by go_num, HT, z0j (by have := HR'.out; rw [List.flatMap_append]; exact this), z0j ⟨a, c, hnc, HA.out, hp⟩⟩
  ·obtain rfl : q = n := by omega
   have f2 : decide ((q : Int) < (q : Int)) = false := by simp
   go_wp2_with (go_skip)
   go_ret
   rw [HQ.out]
   exact ⟨_, R, rfl, HR.out, HB.out _ _ _ HS.out⟩
theorem zac (br bi n : Nat) (most : Int) (hn : (n : Int) ≤ most) (hm : n ≤ 1000) (bs : List Nat) {w0 w : World} {K L : List Blk} (hs : Zk w0 br bi bs K L w) :
  Calls Tryz.prog 244 #[.int .i64 n, .int .i64 most, .func (.func 187) #[.pointer (some ⟨bi, 0, none⟩)] #[]] w (zfp w0 br bi n (zaY iR n bs) K L) := by
 obtain ⟨i0, hi0, hz0, hz1, hz2⟩ := info_parts zjZ
 replace hs := hs.front
 have HB : Hid (∀ l b w', Zk w0 br bi b [] (l ++ (K ++ L)) w' → Zk w0 br bi b K (l ++ L) w') := z0j (fun l b w' h => Zk.back (by obtain ⟨a, c, h1, h2, hp⟩ := h; exact ⟨a, c, h1, h2, hp.kp⟩))
 obtain ⟨M, hM⟩ : ∃ M, M = K ++ L := ⟨_, rfl⟩
 have HM := z0j hM
 rw [← hM] at hs HB
 clear hM
 go_enter Tryz.func244, Tryz.ntmps244
 go_wp2_with (first | (go_at_call 131; (with_reducible refine (zaq _).mono ?_); rintro e w' ⟨rfl, rfl⟩) | go_skip)
 go_loopg [7, 13] n (fun k v i wr => ∃ (q : Nat) (l : List Int) (b1 : List Nat) (R : List Blk), k + q = n ∧ i = .int .i64 q ∧ Hid (zaY iR q bs = some (l, b1)) ∧ Hid (zu 3 1 v q (l.flatMap iV) R) ∧ Hid (Zk w0 br bi b1 [] (R ++ M) wr))
 case atStart => exact ⟨0, [], bs, [], by omega, rfl, z0j rfl, z0j (zu.nil _ _), z0j hs⟩
 case round =>
  clear hs
  obtain ⟨q, l, b1, R, hkq, rfl, HQ, HR, HS⟩ := hrel
  by_cases hlt : q < n
  ·have f1 : (0 : Int) ≤ (q : Int) := by omega
   have f2 : (q : Int) < (n : Int) := by omega
   cases ho : iR b1 with
   | none =>
    have HO := z0j ho
    have HF := z0j (zaz HQ.out ho n hlt)
    clear ho
    go_wp2_with (first | (go_at_call 187; (with_reducible refine (zbq br bi b1 HS.out).mono ?_); rw [HO.out]; rintro e w1 ⟨rfl, hp⟩) | go_skip)
    refine ⟨rfl, ?_⟩
    rw [HF.out]
    exact ⟨rfl, by rw [← HM.out]; exact hp.sub (List.sublist_append_right _ _)⟩
   | some p =>
    obtain ⟨x, b2⟩ := p
    have HO := z0j ho
    have HT := z0j (zaH HQ.out ho)
    clear ho
    go_wp2_with (first | (go_at_call 187; (with_reducible refine (zbq br bi b1 HS.out).mono ?_); rw [HO.out]; rintro e w1 ⟨rfl, hs1⟩; obtain ⟨a, c, hnc, ha, hp⟩ := hs1; have HA := z0j ha; clear ha; simp only [z0e, Rb, Ib] at hp) | (with_reducible refine zO _ _ 120 rfl ?_; fail) | ((refine zO _ _ 120 rfl ?_); refine zI (K := [_, _]) (R := R) (M := M) hp _ _ _ rfl wy i0 _ 8 Tryz.underlying120 hi0 hz0 hz1 hz2 rfl (by decide) (za rfl) HR.out 1 1 (za rfl) (by rfl) (by decide) (by rfl) (by unfold maxLen; omega) (by omega) ?_; clear hp HR; intro v' R' w1 hR' hp; have HR' := z0j hR'; clear hR'; simp only [z0f, z0e] at hp; simp only [zc, zb, z0b, z0a]) | go_skip | (((refine zg _ _ _ rfl ?_); refine lS hp rfl (by intro w; go_simp; rfl) ?_; clear hp; intro b w1 hp; simp only [z0g, z0h, Nat.reduceAdd] at hp); simp only [zc, zb, z0b, z0a]))
    go_roundg (gk - 1)
    case measure => omega
    case rel => exact ⟨q + 1, l ++ [x], b2, R', by omega, by go_num, HT, z0j (by have := HR'.out; rw [List.flatMap_append]; exact this), z0j ⟨a, c, hnc, HA.out, hp⟩⟩
  ·obtain rfl : q = n := by omega
   have f2 : decide ((q : Int) < (q : Int)) = false := by simp
   go_wp2_with (go_skip)
   go_ret
   rw [HQ.out]
   exact ⟨_, R, rfl, HR.out, HB.out _ _ _ HS.out⟩
end Go.Proofs.YtjcbpfbifbfkcaaGreat

/- Parts of the proof. -/
import Derived.Test.YtcjbepaclbhjaaaGreatKe1
import Derived.Test.YtcjbepaclbhjaaaGreatKe3
import Derived.Test.YtcjbepaclbhjaaaGreatKe0
import Derived.Laws.BitsAllLaws
open List renaming set_cons_zero → zSet, set_cons_succ → sSet
/- The walks of a reader of bytes, whatever the bytes are. -/
set_option linter.unusedSimpArgs false
set_option linter.unusedVariables false
namespace Go.Proofs.YtcjbepaclbhjaaaGreat
open Go.RowKit
theorem or_step (d : Nat) (hd : d < 18446744073709551616) : bits .or .u64 ((d : Int) / 256 * 256) ((d : Int) % 256) = (d : Int) := by
  have h1 : (d : Int) / 256 * 256 = ((d / 256 * 256 : Nat) : Int) := by rw [Int.natCast_mul, Int.natCast_ediv]; rfl
  have h3 : (d : Int) % 256 = ((d % 256 : Nat) : Int) := by rw [Int.natCast_emod]; rfl
  rw [h1, h3, u64_or_nat _ _ (by omega) (by omega)]
  have h2 := Nat.two_pow_add_eq_or_of_lt (i := 8) (b := d % 256) (Nat.mod_lt _ (by decide)) (d / 256)
  rw [show d / 256 * 256 = 2 ^ 8 * (d / 256) by omega, ← h2]
  omega
def beV (l : List Nat) : Nat := l.foldl (fun u x => u * 256 + x) 0
theorem beV_snoc (l : List Nat) (x : Nat) : beV (l ++ [x]) = beV l * 256 + x := by simp [beV]
def Bytes (l : List Nat) : Prop := ∀ x ∈ l, x < 256
theorem Bytes.drop {l : List Nat} (h : Bytes l) (k : Nat) : Bytes (l.drop k) := fun x hx => h x (List.mem_of_mem_drop hx)
theorem Bytes.take {l : List Nat} (h : Bytes l) (k : Nat) : Bytes (l.take k) := fun x hx => h x (List.mem_of_mem_take hx)
theorem beV_lt : ∀ (n : Nat) (l : List Nat), l.length = n → Bytes l → beV l < 256 ^ n
  | 0, [], _, _ => by decide
  | n + 1, l, h, hb => by
    rcases List.eq_nil_or_concat l with rfl | ⟨k, x, rfl⟩
    · cases h
    rw [List.concat_eq_append] at h hb ⊢
    have h1 := beV_lt n k (by simpa using h) (fun y hy => hb y (by simp [hy]))
    have h2 := hb x (by simp)
    rw [beV_snoc, Nat.pow_succ]
    omega
theorem beV_take {l : List Nat} {j : Nat} {x : Nat} (h : l[j]? = some x) : beV (l.take (j + 1)) = beV (l.take j) * 256 + x := by
  rw [List.take_add_one, h]; exact beV_snoc _ _
theorem beV_lt64 {l : List Nat} (h : Bytes l) {k : Nat} (hk : k ≤ 8) : beV (l.take k) < 18446744073709551616 := by
  have h1 := beV_lt (l.take k).length (l.take k) rfl (h.take k)
  have h2 : (256 : Nat) ^ (l.take k).length ≤ 256 ^ 8 := Nat.pow_le_pow_right (by decide) (by rw [List.length_take]; omega)
  have : (256 : Nat) ^ 8 = 18446744073709551616 := by decide
  omega
def RdAt (w : World) (a : Option Addr) (bs : List Nat) : Prop := RowIs w a (bs.flatMap byV) ∧ Bytes bs
theorem RdAt.below {w w' : World} {a : Option Addr} {bs : List Nat} (h : RdAt w a bs) (hb : Below w.heap.size w w') : RdAt w' a bs := ⟨h.1.below hb, h.2⟩
theorem RdAt.drop {w : World} {b off : Nat} {bs : List Nat} (h : RdAt w (some ⟨b, off, none⟩) bs) (k : Nat) : RdAt w (some ⟨b, off + k, none⟩) (bs.drop k) := by
  refine ⟨fun j v hj => ?_, h.2.drop k⟩
  have hj2 : (bs.flatMap byV)[k + j]? = some v := by
    rw [fl_by] at hj ⊢
    rw [List.getElem?_map, List.getElem?_drop] at hj
    rw [List.getElem?_map]; exact hj
  obtain ⟨b', off', he, hc⟩ := h.1 (k + j) v hj2
  injection he with he; injection he with e1 e2; subst e1; subst e2
  exact ⟨b, off + k, rfl, by rw [Nat.add_assoc]; exact hc⟩
theorem RdAt.none_ (w : World) (a : Option Addr) : RdAt w a [] := ⟨RowIs.nil _ _, by intro x hx; cases hx⟩
def Rb (br : Nat) (a : Option Addr) (n c : Nat) : Blk := ⟨br, [.slice a n c], 144, 1⟩
set_option maxRecDepth 100000 in
set_option maxHeartbeats 4000000 in
theorem peekg129 (br c k : Nat) (a : Option Addr) (bs : List Nat) (hk0 : 0 < k) (hk : k ≤ 8) (hn : k ≤ bs.length) (hnc : bs.length ≤ c) (w : World) (hc : w.cell? ⟨br, 0, none⟩ = some (.slice a bs.length c)) (ha : RdAt w a bs) :
    Calls Tryz.prog 129 #[.pointer (some ⟨br, 0, none⟩), .int .i64 k] w fun e w' => e = .returned (.tuple #[.int .u64 ((beV (bs.take k) : Nat) : Int), .int .i64 0]) ∧ w = w' := by
  obtain ⟨b, off, rfl, hx⟩ := ha.1.elems 1 byV_len (by omega) (by decide)
  have HC := Lib.hid hc
  have HE := Lib.hid hx
  have HB := Lib.hid ha.2
  clear hc hx ha
  have e1 : decide ((bs.length : Int) < (k : Int)) = false := by simp; omega
  have e2 : (k : Int) ≤ (bs.length : Int) := by omega
  have e3 : (k : Int) ≤ (c : Int) := by omega
  have e4 : (0 : Int) ≤ (k : Int) := by omega
  go_enter Tryz.func129, Tryz.ntmps129
  go_wp2_with (first | (refine hL6 ?_) | go_skip | (first | (refine hA2 ?_; clear hp; intro b w1 hp) | refine hL7 ?_ | (refine hS2 ?_; clear hp; intro w1 hp)))
  go_loopg [6, 25] k (fun m v i wr => ∃ j : Nat, m + j = k ∧ i = .int .i64 j ∧ v = .int .u64 ((beV (bs.take j) : Nat) : Int) ∧ wr = w)
  case atStart => exact ⟨0, by omega, rfl, rfl, rfl⟩
  case round =>
    obtain ⟨j, hkj, rfl, rfl, rfl⟩ := hrel
    by_cases hlt : j < k
    · have hj := List.getElem?_eq_getElem (l := bs) (i := j) (by omega)
      have hX := HE.out j _ hj 0 _ rfl
      have hx256 := HB.out _ (List.getElem_mem (l := bs) (n := j) (by omega))
      have hbt := beV_take hj
      have hd := beV_lt64 HB.out (k := j + 1) (by omega)
      clear hj
      generalize bs[j]'(by omega) = x at hX hx256 hbt
      rw [hbt] at hd
      have hd0 : beV (bs.take j) = (beV (bs.take j) * 256 + x) / 256 := by omega
      have hx0 : x = (beV (bs.take j) * 256 + x) % 256 := by omega
      have HD : RowKit.Hid (beV (bs.take (j + 1)) = beV (bs.take j) * 256 + x) := Lib.hid hbt
      obtain ⟨d, hdd⟩ : ∃ d, d = beV (bs.take j) * 256 + x := ⟨_, rfl⟩
      rw [← hdd] at hd0 hx0 hd HD
      rw [hx0] at hX
      rw [hd0]
      simp only [Nat.mul_one, Nat.add_zero] at hX
      have HX := Lib.hid hX
      have HO := Lib.hid (or_step d hd)
      clear hX hd0 hx0 hdd hbt hx256
      have f1 : (0 : Int) ≤ (j : Int) := by omega
      have f2 : (j : Int) < (k : Int) := by omega
      go_wp2_with (first | (refine hL8 ?_) | go_skip | (first | (refine hA2 ?_; clear hp; intro b w1 hp) | refine hL7 ?_ | (refine hS2 ?_; clear hp; intro w1 hp)))
      go_roundg (gk - 1)
      case measure => omega
      case rel => exact ⟨j + 1, by omega, by go_num, by rw [HD.out, HO.out], rfl⟩
    · obtain rfl : j = k := by omega
      have f2 : decide ((j : Int) < (j : Int)) = false := by simp
      go_wp2_with (first | go_skip | (first | (refine hA2 ?_; clear hp; intro b w1 hp) | refine hL7 ?_ | (refine hS2 ?_; clear hp; intro w1 hp)))
      go_ret2
      exact ⟨rfl, rfl⟩
set_option maxRecDepth 100000 in
set_option maxHeartbeats 4000000 in
theorem peekg129_no (br n c k : Nat) (a : Option Addr) (hn : n < k) (w : World) (hc : w.cell? ⟨br, 0, none⟩ = some (.slice a n c)) :
    Calls Tryz.prog 129 #[.pointer (some ⟨br, 0, none⟩), .int .i64 k] w fun e w' => e = .returned (.tuple #[.int .u64 0, .int .i64 10]) ∧ w = w' := by
  have HC := Lib.hid hc
  clear hc
  have e1 : (n : Int) < (k : Int) := by omega
  go_enter Tryz.func129, Tryz.ntmps129
  go_wp2_with (first | (refine hL6 ?_) | go_skip | (first | (refine hA2 ?_; clear hp; intro b w1 hp) | refine hL7 ?_ | (refine hS2 ?_; clear hp; intro w1 hp)))
  go_ret2
  exact ⟨rfl, rfl⟩
def PassTo (w0 : World) (br : Nat) (bs : List Nat) (c : Nat) (L : List Blk) (w' : World) : Prop := ∃ a', RdAt w0 a' bs ∧ Hp w0.heap.size w0 w' (Rb br a' bs.length c :: L)
set_option maxRecDepth 100000 in
set_option maxHeartbeats 4000000 in
theorem passg106 (br c k : Nat) (a : Option Addr) (bs : List Nat) (hn : k ≤ bs.length) (hnc : bs.length ≤ c) {w0 w : World} {L : List Blk} (hp : Hp w0.heap.size w0 w (Rb br a bs.length c :: L)) (ha : RdAt w0 a bs) :
    Calls Tryz.prog 106 #[.pointer (some ⟨br, 0, none⟩), .int .i64 k] w fun e w' => e = .returned (.tuple #[]) ∧ PassTo w0 br (bs.drop k) (c - k) L w' := by
  unfold Rb at hp
  have HA := Lib.hid ha
  clear ha
  have e1 : (0 : Int) ≤ (k : Int) := by omega
  have e2 : (k : Int) ≤ (bs.length : Int) := by omega
  have e3 : (k : Int) ≤ (c : Int) := by omega
  have e4 : (bs.length : Int) ≤ (c : Int) := by omega
  have hlen : (bs.drop k).length = bs.length - k := List.length_drop ..
  rcases Nat.eq_zero_or_pos bs.length with hb | hb
  · obtain rfl : bs = [] := List.eq_nil_of_length_eq_zero hb
    obtain rfl : k = 0 := by simpa using hn
    simp only [List.length_nil] at hp
    clear hb hn hnc hlen HA e1 e2 e3 e4
    have e3 : (0 : Int) ≤ (c : Int) := by omega
    rcases a with _ | ⟨b, off, x⟩
    · go_enter Tryz.func106, Tryz.ntmps106
      go_wp2_with (first | go_skip | (first | (refine hA2 ?_; clear hp; intro b w1 hp) | refine hL7 ?_ | (refine hS2 ?_; clear hp; intro w1 hp)))
      refine bodyPost_end (results_none Tryz.results106 _ _ _) rfl ⟨rfl, none, RdAt.none_ _ _, ?_⟩
      unfold Rb
      simpa using hp
    · by_cases h : c = 0
      · subst h
        go_enter Tryz.func106, Tryz.ntmps106
        go_wp2_with (first | go_skip | (first | (refine hA2 ?_; clear hp; intro b w1 hp) | refine hL7 ?_ | (refine hS2 ?_; clear hp; intro w1 hp)))
        exact bodyPost_end (results_none Tryz.results106 _ _ _) rfl ⟨rfl, _, RdAt.none_ _ _, by unfold Rb; simpa using hp⟩
      · go_enter Tryz.func106, Tryz.ntmps106
        go_wp2_with (first | go_skip | (first | (refine hA2 ?_; clear hp; intro b w1 hp) | refine hL7 ?_ | (refine hS2 ?_; clear hp; intro w1 hp)))
        exact bodyPost_end (results_none Tryz.results106 _ _ _) rfl ⟨rfl, _, RdAt.none_ _ _, by unfold Rb; simpa [h] using hp⟩
  obtain ⟨b, off, rfl, _⟩ := HA.out.1.addr (by rw [flat_len byV 1 byV_len]; omega)
  have HDR := Lib.hid (HA.out.drop k)
  by_cases h : c = k
  · subst h
    have hbl : bs.length = c := by omega
    go_enter Tryz.func106, Tryz.ntmps106
    go_wp2_with (first | go_skip | (first | (refine hA2 ?_; clear hp; intro b w1 hp) | refine hL7 ?_ | (refine hS2 ?_; clear hp; intro w1 hp)))
    have hnil : bs.drop c = [] := List.drop_eq_nil_of_le (by omega)
    refine bodyPost_end (results_none Tryz.results106 _ _ _) rfl ⟨rfl, some ⟨b, off, none⟩, by rw [hnil]; exact RdAt.none_ _ _, ?_⟩
    unfold Rb
    rw [hlen]
    simpa [hbl] using hp
  · go_enter Tryz.func106, Tryz.ntmps106
    go_wp2_with (first | go_skip | (first | (refine hA2 ?_; clear hp; intro b w1 hp) | refine hL7 ?_ | (refine hS2 ?_; clear hp; intro w1 hp)))
    refine bodyPost_end (results_none Tryz.results106 _ _ _) rfl ⟨rfl, some ⟨b, off + k, none⟩, HDR.out, ?_⟩
    unfold Rb
    rw [hlen]
    simpa [h] using hp
theorem Rb.cell {B br n c : Nat} {a : Option Addr} {w0 w : World} {L : List Blk} (hp : Hp B w0 w (Rb br a n c :: L)) : w.cell? ⟨br, 0, none⟩ = some (.slice a n c) := hp.cell (i := 0) rfl rfl
theorem peek4 (br c : Nat) (a : Option Addr) (bs : List Nat) (hn : 4 ≤ bs.length) (hnc : bs.length ≤ c) {w0 w : World} {L : List Blk} (hp : Hp w0.heap.size w0 w (Rb br a bs.length c :: L)) (ha : RdAt w0 a bs) :
    Calls Tryz.prog 129 #[.pointer (some ⟨br, 0, none⟩), .int .i64 4] w fun e w' => e = .returned (.tuple #[.int .u64 ((beV (bs.take 4) : Nat) : Int), .int .i64 0]) ∧ w = w' := peekg129 br c 4 a bs (by decide) (by decide) hn hnc w (Rb.cell hp) (ha.below hp.below)
theorem peek8 (br c : Nat) (a : Option Addr) (bs : List Nat) (hn : 8 ≤ bs.length) (hnc : bs.length ≤ c) {w0 w : World} {L : List Blk} (hp : Hp w0.heap.size w0 w (Rb br a bs.length c :: L)) (ha : RdAt w0 a bs) :
    Calls Tryz.prog 129 #[.pointer (some ⟨br, 0, none⟩), .int .i64 8] w fun e w' => e = .returned (.tuple #[.int .u64 ((beV (bs.take 8) : Nat) : Int), .int .i64 0]) ∧ w = w' := peekg129 br c 8 a bs (by decide) (by decide) hn hnc w (Rb.cell hp) (ha.below hp.below)
theorem peek4N (br n c : Nat) (a : Option Addr) (hn : n < 4) {B : Nat} {w0 w : World} {L : List Blk} (hp : Hp B w0 w (Rb br a n c :: L)) :
    Calls Tryz.prog 129 #[.pointer (some ⟨br, 0, none⟩), .int .i64 4] w fun e w' => e = .returned (.tuple #[.int .u64 0, .int .i64 10]) ∧ w = w' := peekg129_no br n c 4 a hn w (Rb.cell hp)
theorem peek8N (br n c : Nat) (a : Option Addr) (hn : n < 8) {B : Nat} {w0 w : World} {L : List Blk} (hp : Hp B w0 w (Rb br a n c :: L)) :
    Calls Tryz.prog 129 #[.pointer (some ⟨br, 0, none⟩), .int .i64 8] w fun e w' => e = .returned (.tuple #[.int .u64 0, .int .i64 10]) ∧ w = w' := peekg129_no br n c 8 a hn w (Rb.cell hp)
theorem pass4 (br c : Nat) (a : Option Addr) (bs : List Nat) (hn : 4 ≤ bs.length) (hnc : bs.length ≤ c) {w0 w : World} {L : List Blk} (hp : Hp w0.heap.size w0 w (Rb br a bs.length c :: L)) (ha : RdAt w0 a bs) :
    Calls Tryz.prog 106 #[.pointer (some ⟨br, 0, none⟩), .int .i64 4] w fun e w' => e = .returned (.tuple #[]) ∧ PassTo w0 br (bs.drop 4) (c - 4) L w' := passg106 br c 4 a bs hn hnc hp ha
theorem pass8 (br c : Nat) (a : Option Addr) (bs : List Nat) (hn : 8 ≤ bs.length) (hnc : bs.length ≤ c) {w0 w : World} {L : List Blk} (hp : Hp w0.heap.size w0 w (Rb br a bs.length c :: L)) (ha : RdAt w0 a bs) :
    Calls Tryz.prog 106 #[.pointer (some ⟨br, 0, none⟩), .int .i64 8] w fun e w' => e = .returned (.tuple #[]) ∧ PassTo w0 br (bs.drop 8) (c - 8) L w' := passg106 br c 8 a bs hn hnc hp ha
def numR (bs : List Nat) : Option Nat := if 4 ≤ bs.length ∧ beV (bs.take 4) ≤ 2147483647 then some (beV (bs.take 4)) else none
theorem numR_len {bs : List Nat} {v : Nat} (h : numR bs = some v) : 4 ≤ bs.length ∧ beV (bs.take 4) = v ∧ v ≤ 2147483647 := by
  unfold numR at h
  split at h
  · rename_i h1; injection h with h; exact ⟨h1.1, h, by omega⟩
  · cases h
theorem numR_no {bs : List Nat} (h : numR bs = none) : bs.length < 4 ∨ (4 ≤ bs.length ∧ 2147483647 < beV (bs.take 4)) := by
  unfold numR at h
  split at h
  · cases h
  · omega
def intR (bs : List Nat) : Option Int := if 8 ≤ bs.length then some (wrap64 ((beV (bs.take 8) : Nat) : Int)) else none
set_option maxRecDepth 100000 in
set_option maxHeartbeats 4000000 in
theorem count105 (br c v : Nat) (a : Option Addr) (bs : List Nat) (hv : numR bs = some v) (hnc : bs.length ≤ c) {w0 w : World} {L : List Blk} (hp : Hp w0.heap.size w0 w (Rb br a bs.length c :: L)) (ha : RdAt w0 a bs) :
    Calls Tryz.prog 105 #[.pointer (some ⟨br, 0, none⟩)] w fun e w' => e = .returned (.tuple #[.int .i64 v, .int .i64 0]) ∧ w = w' := by
  have HA := Lib.hid ha
  clear ha
  obtain ⟨hn, hb, hm⟩ := numR_len hv
  have HV := Lib.hid hb
  have e1 : decide ((2147483647 : Int) < (v : Int)) = false := by simp; omega
  have e2 : wrap64 (v : Int) = (v : Int) := IntWalk.wrap64_in _ ⟨by omega, by omega⟩
  clear hv hb
  go_enter Tryz.func105, Tryz.ntmps105
  go_wp2_with (first | (go_at_call 129; (with_reducible refine (peek4 br c a bs hn hnc hp HA.out).mono ?_); rintro e w' ⟨rfl, rfl⟩; rw [HV.out]) | go_skip | (first | (refine hA2 ?_; clear hp; intro b w1 hp) | refine hL7 ?_ | (refine hS2 ?_; clear hp; intro w1 hp)))
  go_ret2
  exact ⟨rfl, rfl⟩
set_option maxRecDepth 100000 in
set_option maxHeartbeats 4000000 in
theorem count105_no (br c : Nat) (a : Option Addr) (bs : List Nat) (hv : numR bs = none) (hnc : bs.length ≤ c) {w0 w : World} {L : List Blk} (hp : Hp w0.heap.size w0 w (Rb br a bs.length c :: L)) (ha : RdAt w0 a bs) :
    Calls Tryz.prog 105 #[.pointer (some ⟨br, 0, none⟩)] w fun e w' => (∃ q : Int, (q = 10 ∨ q = 11) ∧ e = .returned (.tuple #[.int .i64 0, .int .i64 q])) ∧ w = w' := by
  have HA := Lib.hid ha
  clear ha
  rcases numR_no hv with hn | ⟨hn, hm⟩
  · clear hv
    go_enter Tryz.func105, Tryz.ntmps105
    go_wp2_with (first | (go_at_call 129; (with_reducible refine (peek4N br bs.length c a hn hp).mono ?_); rintro e w' ⟨rfl, rfl⟩) | go_skip | (first | (refine hA2 ?_; clear hp; intro b w1 hp) | refine hL7 ?_ | (refine hS2 ?_; clear hp; intro w1 hp)))
    go_ret2
    exact ⟨⟨10, .inl rfl, rfl⟩, rfl⟩
  · obtain ⟨v, hb⟩ : ∃ v, beV (bs.take 4) = v := ⟨_, rfl⟩
    rw [hb] at hm
    have HV := Lib.hid hb
    have e1 : decide ((2147483647 : Int) < (v : Int)) = true := by simp; omega
    clear hv hb
    go_enter Tryz.func105, Tryz.ntmps105
    go_wp2_with (first | (go_at_call 129; (with_reducible refine (peek4 br c a bs hn hnc hp HA.out).mono ?_); rintro e w' ⟨rfl, rfl⟩; rw [HV.out]) | go_skip | (first | (refine hA2 ?_; clear hp; intro b w1 hp) | refine hL7 ?_ | (refine hS2 ?_; clear hp; intro w1 hp)))
    go_ret2
    exact ⟨⟨11, .inr rfl, rfl⟩, rfl⟩
set_option maxRecDepth 100000 in
set_option maxHeartbeats 4000000 in
theorem number108 (br c v : Nat) (a : Option Addr) (bs : List Nat) (hv : numR bs = some v) (hnc : bs.length ≤ c) {w0 w : World} {L : List Blk} (hp : Hp w0.heap.size w0 w (Rb br a bs.length c :: L)) (ha : RdAt w0 a bs) :
    Calls Tryz.prog 108 #[.pointer (some ⟨br, 0, none⟩)] w fun e w' => e = .returned (.tuple #[.int .i64 v, .int .i64 0]) ∧ PassTo w0 br (bs.drop 4) (c - 4) L w' := by
  have HA := Lib.hid ha
  have HV := Lib.hid hv
  obtain ⟨hn, _, _⟩ := numR_len hv
  clear ha hv
  go_enter Tryz.func108, Tryz.ntmps108
  go_wp2_with (first | (go_at_call 105; (with_reducible refine (count105 br c v a bs HV.out hnc hp HA.out).mono ?_); rintro e w' ⟨rfl, rfl⟩) | (go_at_call 106; (with_reducible refine (pass4 br c a bs hn hnc hp HA.out).mono ?_); clear hp; rintro e w1 ⟨rfl, hps⟩; have HPS := Lib.hid hps; clear hps) | go_skip)
  go_ret2
  exact ⟨rfl, HPS.out⟩
set_option maxRecDepth 100000 in
set_option maxHeartbeats 4000000 in
theorem number108_no (br c : Nat) (a : Option Addr) (bs : List Nat) (hv : numR bs = none) (hnc : bs.length ≤ c) {w0 w : World} {L : List Blk} (hp : Hp w0.heap.size w0 w (Rb br a bs.length c :: L)) (ha : RdAt w0 a bs) :
    Calls Tryz.prog 108 #[.pointer (some ⟨br, 0, none⟩)] w fun e w' => (∃ q : Int, (q = 10 ∨ q = 11) ∧ e = .returned (.tuple #[.int .i64 0, .int .i64 q])) ∧ w = w' := by
  have HA := Lib.hid ha
  have HV := Lib.hid hv
  clear ha hv
  go_enter Tryz.func108, Tryz.ntmps108
  go_wp2_with (first | (go_at_call 105; (with_reducible refine (count105_no br c a bs HV.out hnc hp HA.out).mono ?_); rintro e w' ⟨⟨q, hq, rfl⟩, rfl⟩) | go_skip)
  rcases hq with rfl | rfl
  all_goals
    go_wp2_with (first | go_skip)
    go_ret2
  · exact ⟨⟨10, .inl rfl, rfl⟩, rfl⟩
  · exact ⟨⟨11, .inr rfl, rfl⟩, rfl⟩
set_option maxRecDepth 100000 in
set_option maxHeartbeats 4000000 in
theorem intg130 (br c : Nat) (v : Int) (a : Option Addr) (bs : List Nat) (hv : intR bs = some v) (hnc : bs.length ≤ c) {w0 w : World} {L : List Blk} (hp : Hp w0.heap.size w0 w (Rb br a bs.length c :: L)) (ha : RdAt w0 a bs) :
    Calls Tryz.prog 130 #[.pointer (some ⟨br, 0, none⟩)] w fun e w' => e = .returned (.tuple #[.int .i64 v, .int .i64 0]) ∧ PassTo w0 br (bs.drop 8) (c - 8) L w' := by
  have HA := Lib.hid ha
  unfold intR at hv
  split at hv
  · rename_i hn
    injection hv with hv
    have HV := Lib.hid hv
    clear ha hv
    go_enter Tryz.func130, Tryz.ntmps130
    go_wp2_with (first | (go_at_call 129; (with_reducible refine (peek8 br c a bs hn hnc hp HA.out).mono ?_); rintro e w' ⟨rfl, rfl⟩) | (go_at_call 106; (with_reducible refine (pass8 br c a bs hn hnc hp HA.out).mono ?_); clear hp; rintro e w1 ⟨rfl, hps⟩; have HPS := Lib.hid hps; clear hps) | go_skip)
    go_ret2
    exact ⟨by rw [← HV.out]; rfl, HPS.out⟩
  · cases hv
set_option maxRecDepth 100000 in
set_option maxHeartbeats 4000000 in
theorem intg130_no (br c : Nat) (a : Option Addr) (bs : List Nat) (hv : intR bs = none) {B : Nat} {w0 w : World} {L : List Blk} (hp : Hp B w0 w (Rb br a bs.length c :: L)) :
    Calls Tryz.prog 130 #[.pointer (some ⟨br, 0, none⟩)] w fun e w' => e = .returned (.tuple #[.int .i64 0, .int .i64 10]) ∧ w = w' := by
  unfold intR at hv
  split at hv
  · cases hv
  · rename_i hn
    have hn : bs.length < 8 := by omega
    clear hv
    go_enter Tryz.func130, Tryz.ntmps130
    go_wp2_with (first | (go_at_call 129; (with_reducible refine (peek8N br bs.length c a hn hp).mono ?_); rintro e w' ⟨rfl, rfl⟩) | go_skip)
    go_ret2
    exact ⟨rfl, rfl⟩
end Go.Proofs.YtcjbepaclbhjaaaGreat

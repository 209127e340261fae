/- Parts of the proof. -/
import Derived.Test.YtaafajaadfgaoaaGreatIt6
import Derived.Test.YtaafajaadfgaoaaGreatIt4
import Derived.Test.YtaafajaadfgaoaaGreatIt19
import Derived.Test.YtaafajaadfgaoaaGreatIt2
open List renaming set_cons_zero → zSet, set_cons_succ → sSet
/- The walks of the document that lay numbers, ints and texts as bytes. -/
set_option linter.unusedSimpArgs false
set_option linter.unusedVariables false
namespace Go.Proofs.YtaafajaadfgaoaaGreat
open Go.RowKit
theorem ceGP0 {ty : TypeId} (h : cellB Tryz.prog ty = true := by with_reducible first | exact cell3 | exact cell4 | exact cell57 | exact cell5) : cellB Tryz.prog ty = true := h
def RowS (w : World) (bs : List Nat) (e : Ending) (w' : World) : Prop := ∃ a m c R, e = .returned (.slice a m c) ∧ bs.length = m ∧ SubRow 5 1 (.slice a m c) m (bs.flatMap byV) R ∧ Hp w.heap.size w w' R
theorem SubRow.built {e : TypeId} {b n : Nat} {xs : List Value} (hx : xs.length = n) (hn : n ≤ maxLen) : SubRow e 1 (.slice (some ⟨b, 0, none⟩) n n) n xs [⟨b, xs, e, n⟩] :=
  ⟨by omega, .inr ⟨b, 0, n, [], rfl, Nat.le_refl _, hn, rfl, by simp⟩⟩
theorem beS4_eq (n : Nat) : beS 4 n = [n / 16777216 % 256, n / 65536 % 256, n / 256 % 256, n % 256] := by
  have e : beS 4 n = [n / 2 ^ 24 % 256, n / 2 ^ 16 % 256, n / 2 ^ 8 % 256, n / 2 ^ 0 % 256] := rfl
  rw [e]; simp
set_option maxRecDepth 100000 in
set_option maxHeartbeats 4000000 in
theorem four86 (n : Nat) (hn : n ≤ 2147483647) (w : World) : Calls Tryz.prog 86 #[.int .i64 n] w (RowS w (beS 4 n)) := by
  have hp := Hp.start w
  have hx : (beS 4 n).flatMap byV = [.int .u8 ((n : Int) / 16777216), .int .u8 ((n : Int) / 65536 % 256), .int .u8 ((n : Int) / 256 % 256), .int .u8 ((n : Int) % 256)] := by
    rw [beS4_eq]
    simp only [List.flatMap_cons, List.flatMap_nil, byV, List.cons_append, List.nil_append, List.cons.injEq, Value.int.injEq, true_and, and_true]
    omega
  have f1 : Int.tdiv (n : Int) 16777216 = ((n / 16777216 : Nat) : Int) := by rw [Int.tdiv_eq_ediv_of_nonneg (by omega)]; rfl
  have f2 : Int.tdiv (n : Int) 65536 = ((n / 65536 : Nat) : Int) := by rw [Int.tdiv_eq_ediv_of_nonneg (by omega)]; rfl
  have f3 : Int.tdiv (n : Int) 256 = ((n / 256 : Nat) : Int) := by rw [Int.tdiv_eq_ediv_of_nonneg (by omega)]; rfl
  have hl := beS_len 4 n
  have HX := Lib.hid hx
  clear hx
  go_enter Tryz.func86, Tryz.ntmps86
  go_wp2_with (first | go_skip | ((first | ((with_reducible refine pre_box _ _ rfl ?_); refine lB hp rfl (sTm rfl) rfl ?_; clear hp; intro b w1 hp) | ((with_reducible refine pre_load _ _ rfl ?_); first | refine lO hp rfl (sTm rfl) ceGP0 aa5 ?_ | refine lA hp rfl (sTm rfl) agg116 aa5 ?_) | ((with_reducible refine pre_store _ _ _ rfl ?_); (first | refine sO hp rfl (sTm rfl) ceGP0 aa5 ?_ | refine sA hp rfl (sTm rfl) (sTm rfl) agg116 aa5 ?_ | refine sG hp rfl (sTm rfl) (sTm rfl) agg116 aa5 ?_); clear hp; intro w1 hp; simp only [spl, zSet, sSet] at hp) | ((with_reducible refine pre_build _ _ _ rfl ?_); refine lS hp rfl (by intro w; go_simp; rfl) ?_; clear hp; intro b w1 hp; simp only [List.length_cons, List.length_nil, Nat.reduceAdd] at hp)); simp only [put_some, put_none, sSet, zSet]))
  go_ret
  refine ⟨_, 4, 4, _, rfl, hl, ?_, hp⟩
  have hb := @SubRow.built 5 b 4 ((beS 4 n).flatMap byV) (by rw [HX.out]; rfl) (by unfold maxLen; omega)
  rw [HX.out] at hb ⊢
  exact hb
def CellW (w : World) (b off : Nat) (v : Value) : Prop := w.cell? ⟨b, off, none⟩ = some v
theorem CellW.below {w w' : World} {b off : Nat} {v : Value} (h : CellW w b off v) (hb : Below w.heap.size w w') : CellW w' b off v := (hb.cell (World.block_lt_of_cell? w _ h)).trans h
theorem CellW.now {w : World} {b off : Nat} {v : Value} (h : CellW w b off v) : w.cell? ⟨b, off, none⟩ = some v := h
theorem row_cell {w : World} {a : Option Addr} {xs : List Value} (h : RowIs w a xs) {j : Nat} {v : Value} (hj : xs[j]? = some v) : ∃ b off, a = some ⟨b, off, none⟩ ∧ CellW w b (off + j) v := by
  obtain ⟨b, off, he, hc⟩ := h j v hj
  exact ⟨b, off, he, hc⟩
theorem nats_map : ∀ l : List Nat, l.flatMap natV = l.map fun (n : Nat) => Value.int .i64 (n : Int)
  | [] => rfl
  | x :: l => by rw [List.flatMap_cons, nats_map l]; rfl
set_option maxRecDepth 100000 in
set_option maxHeartbeats 4000000 in
theorem numbers87 (l : List Nat) (hl : l.length ≤ 1000) (hb : ∀ x ∈ l, x ≤ 2147483647) (al : Option Addr) (cl : Nat) (w : World) (ha : RowIs w al (l.flatMap natV)) :
    Calls Tryz.prog 87 #[.slice al l.length cl] w (RowS w (bn4 l)) := by
  obtain ⟨i0, hi0, hz0, hz1, hz2⟩ := info_parts info5
  have hp := Hp.start w
  have HA := Lib.hid ha
  have HB := Lib.hid hb
  clear ha hb
  go_enter Tryz.func87, Tryz.ntmps87
  go_wp2_with (first | go_skip | ((first | ((with_reducible refine pre_box _ _ rfl ?_); refine lB hp rfl (sTm rfl) rfl ?_; clear hp; intro b w1 hp) | ((with_reducible refine pre_load _ _ rfl ?_); first | refine lO hp rfl (sTm rfl) ceGP0 aa5 ?_ | refine lA hp rfl (sTm rfl) agg116 aa5 ?_) | ((with_reducible refine pre_store _ _ _ rfl ?_); (first | refine sO hp rfl (sTm rfl) ceGP0 aa5 ?_ | refine sA hp rfl (sTm rfl) (sTm rfl) agg116 aa5 ?_ | refine sG hp rfl (sTm rfl) (sTm rfl) agg116 aa5 ?_); clear hp; intro w1 hp; simp only [spl, zSet, sSet] at hp) | ((with_reducible refine pre_build _ _ _ rfl ?_); refine lS hp rfl (by intro w; go_simp; rfl) ?_; clear hp; intro b w1 hp; simp only [List.length_cons, List.length_nil, Nat.reduceAdd] at hp)); simp only [put_some, put_none, sSet, zSet]))
  go_loopg [3, 4] l.length (fun k v i wr => ∃ (j m : Nat) (a : Option Addr) (c : Nat) (R M : List Blk), k + j = l.length ∧ i = .int .i64 j ∧ v = .slice a m c ∧ RowKit.Hid (m = 4 * j) ∧ RowKit.Hid (SubRow 5 1 (.slice a m c) m ((bn4 (l.take j)).flatMap byV) R) ∧ Hp w.heap.size w wr (R ++ M))
  case atStart => exact ⟨0, 0, none, 0, [], [], by omega, rfl, rfl, Lib.hid rfl, Lib.hid (SubRow.nil _ _ _), hp⟩
  case round =>
    clear hp
    obtain ⟨j, m, a, c, R, M, hkj, rfl, rfl, HMJ, HR, hp⟩ := hrel
    by_cases hlt : j < l.length
    · have hj := List.getElem?_eq_getElem hlt
      generalize l[j] = x at hj
      have hnat : (l.flatMap natV)[j]? = some (.int .i64 (x : Int)) := by rw [nats_map, List.getElem?_map, hj]; rfl
      obtain ⟨bq, off, rfl, hcx⟩ := row_cell HA.out hnat
      have HX := Lib.hid hcx
      have HXB := Lib.hid (HB.out x (List.mem_of_getElem? hj))
      have HT := Lib.hid (bn4_take hj)
      have HMB : RowKit.Hid (m ≤ 100000 ∧ (beS 4 x).length = 4) := Lib.hid ⟨by have := HMJ.out; omega, beS_len 4 x⟩
      clear hj hcx hnat
      have e1 : (0 : Int) ≤ (j : Int) := by omega
      have e2 : (j : Int) < (l.length : Int) := by omega
      go_wp2_with (first | (go_at_call 86; (with_reducible refine (four86 x HXB.out _).mono ?_); rintro e w1 ⟨a2, m2, c2, R2, rfl, hm2, hr2, hp2⟩; replace hp := hp.join hp2; have HM2 := Lib.hid hm2; have HR2 := Lib.hid hr2; clear hm2 hr2 hp2; simp only [List.cons_append, List.nil_append, List.append_assoc] at hp) | ((with_reducible refine pre_load 3 _ rfl ?_); refine lRO (Hp.start _) rfl (sTm rfl) cell3 ((HX.out.below hp.below).now) ?_; simp only [put_some, put_none, sSet, zSet]) | ((with_reducible refine pre_append2 _ _ 57 57 rfl ?_); refine wpList_appendSub (K := []) (R := R) hp _ _ _ _ rfl wy 5 i0 _ 1 1 Tryz.underlying57 hi0 hz0 hz1 hz2 rfl _ _ _ (sTm rfl) HR.out _ (sTm rfl) m2 _ (Src.ofRow Tryz.underlying57 (by decide) a2 m2 c2 _ (by rw [flat_len byV 1 byV_len, HM2.out]) (HR2.out.keptS.at hp (fun p hm => by simp [hm])) (by_one _)) (by have := HM2.out; have := HMB.out; unfold maxLen; omega) (by have := HM2.out; have := HMB.out; omega) ?_; clear hp; intro v' R' w1 hR' hp; obtain ⟨a', c', rfl, _⟩ := hR'.kept; have HR' := Lib.hid hR'; clear hR'; simp only [List.cons_append, List.nil_append, List.append_assoc] at hp; simp only [put_some, put_none, sSet, zSet]) | go_skip | ((first | ((with_reducible refine pre_box _ _ rfl ?_); refine lB hp rfl (sTm rfl) rfl ?_; clear hp; intro b w1 hp) | ((with_reducible refine pre_load _ _ rfl ?_); first | refine lO hp rfl (sTm rfl) ceGP0 aa5 ?_ | refine lA hp rfl (sTm rfl) agg116 aa5 ?_) | ((with_reducible refine pre_store _ _ _ rfl ?_); (first | refine sO hp rfl (sTm rfl) ceGP0 aa5 ?_ | refine sA hp rfl (sTm rfl) (sTm rfl) agg116 aa5 ?_ | refine sG hp rfl (sTm rfl) (sTm rfl) agg116 aa5 ?_); clear hp; intro w1 hp; simp only [spl, zSet, sSet] at hp) | ((with_reducible refine pre_build _ _ _ rfl ?_); refine lS hp rfl (by intro w; go_simp; rfl) ?_; clear hp; intro b w1 hp; simp only [List.length_cons, List.length_nil, Nat.reduceAdd] at hp)); simp only [put_some, put_none, sSet, zSet]))
      go_roundg (gk - 1)
      case measure => omega
      case rel => exact ⟨j + 1, m + m2, a', c', R', _, by omega, by go_num, rfl, Lib.hid (by have := HM2.out; have := HMB.out; have := HMJ.out; omega), Lib.hid (by rw [HT.out, List.flatMap_append]; exact HR'.out), hp⟩
    · obtain rfl : j = l.length := by omega
      have e2 : decide ((l.length : Int) < (l.length : Int)) = false := by simp
      have hr := HR.out
      rw [List.take_length] at hr
      have HR2 := Lib.hid hr
      have HLN : RowKit.Hid ((bn4 l).length = m) := Lib.hid (by rw [bn4_len]; have := HMJ.out; omega)
      clear hr hkj hlt
      go_wp2_with (first | go_skip | ((first | ((with_reducible refine pre_box _ _ rfl ?_); refine lB hp rfl (sTm rfl) rfl ?_; clear hp; intro b w1 hp) | ((with_reducible refine pre_load _ _ rfl ?_); first | refine lO hp rfl (sTm rfl) ceGP0 aa5 ?_ | refine lA hp rfl (sTm rfl) agg116 aa5 ?_) | ((with_reducible refine pre_store _ _ _ rfl ?_); (first | refine sO hp rfl (sTm rfl) ceGP0 aa5 ?_ | refine sA hp rfl (sTm rfl) (sTm rfl) agg116 aa5 ?_ | refine sG hp rfl (sTm rfl) (sTm rfl) agg116 aa5 ?_); clear hp; intro w1 hp; simp only [spl, zSet, sSet] at hp) | ((with_reducible refine pre_build _ _ _ rfl ?_); refine lS hp rfl (by intro w; go_simp; rfl) ?_; clear hp; intro b w1 hp; simp only [List.length_cons, List.length_nil, Nat.reduceAdd] at hp)); simp only [put_some, put_none, sSet, zSet]))
      go_ret
      exact ⟨a, m, c, R, rfl, HLN.out, HR2.out, hp.sub (List.sublist_append_left _ _)⟩
set_option maxRecDepth 100000 in
set_option maxHeartbeats 4000000 in
theorem eights88 (n : Int) (w : World) : Calls Tryz.prog 88 #[.int .i64 n] w (RowS w (beS 8 (uN n))) := by
  obtain ⟨i0, hi0, hz0, hz1, hz2⟩ := info_parts info5
  have hp := Hp.start w
  have e1 := wrapU n
  have hu := uN_lt n
  obtain ⟨u, hun⟩ : ∃ u, u = uN n := ⟨_, rfl⟩
  rw [← hun] at e1 hu ⊢
  clear hun
  go_enter Tryz.func88, Tryz.ntmps88
  go_wp2_with (first | go_skip | ((first | ((with_reducible refine pre_box _ _ rfl ?_); refine lB hp rfl (sTm rfl) rfl ?_; clear hp; intro b w1 hp) | ((with_reducible refine pre_load _ _ rfl ?_); first | refine lO hp rfl (sTm rfl) ceGP0 aa5 ?_ | refine lA hp rfl (sTm rfl) agg116 aa5 ?_) | ((with_reducible refine pre_store _ _ _ rfl ?_); (first | refine sO hp rfl (sTm rfl) ceGP0 aa5 ?_ | refine sA hp rfl (sTm rfl) (sTm rfl) agg116 aa5 ?_ | refine sG hp rfl (sTm rfl) (sTm rfl) agg116 aa5 ?_); clear hp; intro w1 hp; simp only [spl, zSet, sSet] at hp) | ((with_reducible refine pre_build _ _ _ rfl ?_); refine lS hp rfl (by intro w; go_simp; rfl) ?_; clear hp; intro b w1 hp; simp only [List.length_cons, List.length_nil, Nat.reduceAdd] at hp)); simp only [put_some, put_none, sSet, zSet]))
  clear e1
  go_loopg [4, 5] 8 (fun k v i wr => ∃ (j : Nat) (R : List Blk), k + j = 8 ∧ i = .int .i64 (8 - 1 - (j : Int)) ∧ RowKit.Hid (OwnRow 5 1 v j (((beS 8 u).take j).flatMap byV) R) ∧ Hp w.heap.size w wr ([] ++ (R ++ [])))
  case atStart => exact ⟨0, [], by omega, rfl, Lib.hid (OwnRow.nil _ _), hp⟩
  case round =>
    clear hp
    obtain ⟨j, R, hkj, rfl, HR, hp⟩ := hrel
    by_cases hlt : j < 8
    · obtain ⟨m, hm⟩ : ∃ m : Nat, 8 - 1 - (j : Int) = m := ⟨8 - 1 - j, by omega⟩
      have hm7 : m ≤ 7 := by omega
      have HM := Lib.hid hm
      rw [hm]
      have HB : RowKit.Hid ((byteS 8 u j : Nat) = u / 2 ^ (8 * m) % 256) := Lib.hid (by unfold byteS; rw [show 8 - 1 - j = m by omega])
      clear hm
      have e1 : (0 : Int) ≤ (m : Int) := by omega
      have e2 : wrap64 (8 * (m : Int)) = 8 * (m : Int) := by unfold wrap64; omega
      have e3 : (8 * (m : Int)).toNat = 8 * m := by omega
      go_wp2_with (first | ((with_reducible refine pre_append _ _ 57 rfl ?_); refine wpList_appendGrow (K := []) hp _ _ _ rfl wy i0 _ 1 Tryz.underlying57 hi0 hz0 hz1 hz2 rfl (by decide) (sTm rfl) HR.out 1 1 (sTm rfl) (by rfl) (by decide) (by rfl) (by unfold maxLen; omega) (by omega) ?_; clear hp HR; intro v' R' w1 hR' hp; have HR' := Lib.hid hR'; clear hR'; simp only [put_some, put_none, sSet, zSet]) | go_skip | ((first | ((with_reducible refine pre_box _ _ rfl ?_); refine lB hp rfl (sTm rfl) rfl ?_; clear hp; intro b w1 hp) | ((with_reducible refine pre_load _ _ rfl ?_); first | refine lO hp rfl (sTm rfl) ceGP0 aa5 ?_ | refine lA hp rfl (sTm rfl) agg116 aa5 ?_) | ((with_reducible refine pre_store _ _ _ rfl ?_); (first | refine sO hp rfl (sTm rfl) ceGP0 aa5 ?_ | refine sA hp rfl (sTm rfl) (sTm rfl) agg116 aa5 ?_ | refine sG hp rfl (sTm rfl) (sTm rfl) agg116 aa5 ?_); clear hp; intro w1 hp; simp only [spl, zSet, sSet] at hp) | ((with_reducible refine pre_build _ _ _ rfl ?_); refine lS hp rfl (by intro w; go_simp; rfl) ?_; clear hp; intro b w1 hp; simp only [List.length_cons, List.length_nil, Nat.reduceAdd] at hp)); simp only [put_some, put_none, sSet, zSet]))
      go_roundg (gk - 1)
      case measure => omega
      case rel => exact ⟨j + 1, R', by omega, congrArg (Value.int .i64) (by have := HM.out; omega), Lib.hid (by have h := HR'.out; rw [beS_take 8 u j hlt, List.flatMap_append]; simp only [List.flatMap_cons, List.flatMap_nil, List.append_nil, byV]; rw [HB.out]; push_cast; exact h), hp⟩
    · have hj : j = 8 := by omega
      subst hj
      have e1 : decide ((0 : Int) ≤ 8 - 1 - ((8 : Nat) : Int)) = false := by decide
      have h := HR.out
      rw [List.take_of_length_le (by rw [beS_len]; omega)] at h
      obtain ⟨a, c, rfl, _⟩ := h.kept
      have HR2 := Lib.hid h
      clear h
      go_wp2_with (first | go_skip | ((first | ((with_reducible refine pre_box _ _ rfl ?_); refine lB hp rfl (sTm rfl) rfl ?_; clear hp; intro b w1 hp) | ((with_reducible refine pre_load _ _ rfl ?_); first | refine lO hp rfl (sTm rfl) ceGP0 aa5 ?_ | refine lA hp rfl (sTm rfl) agg116 aa5 ?_) | ((with_reducible refine pre_store _ _ _ rfl ?_); (first | refine sO hp rfl (sTm rfl) ceGP0 aa5 ?_ | refine sA hp rfl (sTm rfl) (sTm rfl) agg116 aa5 ?_ | refine sG hp rfl (sTm rfl) (sTm rfl) agg116 aa5 ?_); clear hp; intro w1 hp; simp only [spl, zSet, sSet] at hp) | ((with_reducible refine pre_build _ _ _ rfl ?_); refine lS hp rfl (by intro w; go_simp; rfl) ?_; clear hp; intro b w1 hp; simp only [List.length_cons, List.length_nil, Nat.reduceAdd] at hp)); simp only [put_some, put_none, sSet, zSet]))
      go_ret
      exact ⟨a, 8, c, R, rfl, beS_len 8 u, SubRow.of_own HR2.out, by simpa using hp⟩
theorem text85 (s : ByteArray) (hs : s.size ≤ 65536) (w : World) :
    Calls Tryz.prog 85 #[.string s] w fun e w' => ∃ a m c R, e = .returned (.tuple #[.slice a m c, .int .i64 0]) ∧ (beS 4 s.size ++ strB s).length = m ∧ SubRow 5 1 (.slice a m c) m ((beS 4 s.size ++ strB s).flatMap byV) R ∧ Hp w.heap.size w w' R := by
  obtain ⟨i0, hi0, hz0, hz1, hz2⟩ := info_parts info5
  have hp := Hp.start w
  have e1 : decide ((65536 : Int) < (s.size : Int)) = false := by simp; omega
  have HXB : RowKit.Hid (s.size ≤ 2147483647) := Lib.hid (by omega)
  have HMB : RowKit.Hid (s.size ≤ 65536 ∧ (beS 4 s.size).length = 4 ∧ (strB s).length = s.size) := Lib.hid ⟨hs, beS_len 4 _, strB_len s⟩
  clear hs
  go_enter Tryz.func85, Tryz.ntmps85
  go_wp2_with (first | (go_at_call 86; (with_reducible refine (four86 s.size HXB.out _).mono ?_); rintro e w1 ⟨a2, m2, c2, R2, rfl, hm2, hr2, hp2⟩; replace hp := hp.join hp2; have HM2 := Lib.hid hm2; have HR2 := Lib.hid hr2; clear hm2 hr2 hp2; replace hp : Hp _ _ _ ([] ++ (R2 ++ [])) := (by simpa using hp)) | ((with_reducible refine pre_append2 _ _ 57 9 rfl ?_); refine wpList_appendSub (K := []) hp _ _ _ _ rfl wy 5 i0 _ 1 1 Tryz.underlying57 hi0 hz0 hz1 hz2 rfl _ _ _ (sTm rfl) HR2.out _ (sTm rfl) s.size (byteCells s) (Src.ofString _ Tryz.underlying9 s) (by have := HM2.out; have := HMB.out; unfold maxLen; omega) (by have := HM2.out; have := HMB.out; omega) ?_; clear hp; intro v3 R3 w1 hr3 hp; obtain ⟨a3, c3, rfl, _⟩ := hr3.kept; have HR3 := Lib.hid hr3; clear hr3; simp only [put_some, put_none, sSet, zSet]) | go_skip | ((first | ((with_reducible refine pre_box _ _ rfl ?_); refine lB hp rfl (sTm rfl) rfl ?_; clear hp; intro b w1 hp) | ((with_reducible refine pre_load _ _ rfl ?_); first | refine lO hp rfl (sTm rfl) ceGP0 aa5 ?_ | refine lA hp rfl (sTm rfl) agg116 aa5 ?_) | ((with_reducible refine pre_store _ _ _ rfl ?_); (first | refine sO hp rfl (sTm rfl) ceGP0 aa5 ?_ | refine sA hp rfl (sTm rfl) (sTm rfl) agg116 aa5 ?_ | refine sG hp rfl (sTm rfl) (sTm rfl) agg116 aa5 ?_); clear hp; intro w1 hp; simp only [spl, zSet, sSet] at hp) | ((with_reducible refine pre_build _ _ _ rfl ?_); refine lS hp rfl (by intro w; go_simp; rfl) ?_; clear hp; intro b w1 hp; simp only [List.length_cons, List.length_nil, Nat.reduceAdd] at hp)); simp only [put_some, put_none, sSet, zSet]))
  go_ret2
  refine ⟨a3, m2 + s.size, c3, R3, rfl, ?_, ?_, by simpa using hp⟩
  · rw [List.length_append]; have := HM2.out; have := HMB.out; omega
  · have h := HR3.out
    rw [List.flatMap_append, ← strB_cells]; exact h
end Go.Proofs.YtaafajaadfgaoaaGreat
/- The walks of the document's reader of bytes. -/
namespace Go.Proofs.YtaafajaadfgaoaaGreat
open Go.RowKit
def NRel {α : Type} (one : List Nat → Option (α × List Nat)) (st : Option (List Nat)) (x : α) (st' : Option (List Nat)) : Prop := match st.bind one with
  | some (y, b1) => x = y ∧ st' = some b1
  | none => st' = none
theorem NRel.none_ {α : Type} {one : List Nat → Option (α × List Nat)} {x : α} {st' : Option (List Nat)} (h : NRel one none x st') : st' = none := h
theorem NRel.bad {α : Type} {one : List Nat → Option (α × List Nat)} {b : List Nat} {x : α} {st' : Option (List Nat)} (h : NRel one (some b) x st') (hn : one b = none) : st' = none := by
  unfold NRel at h
  rw [show (some b).bind one = none from hn] at h
  exact h
theorem NRel.good {α : Type} {one : List Nat → Option (α × List Nat)} {b b1 : List Nat} {x y : α} {st' : Option (List Nat)} (h : NRel one (some b) x st') (hn : one b = some (y, b1)) : x = y ∧ st' = some b1 := by
  unfold NRel at h
  rw [show (some b).bind one = some (y, b1) from hn] at h
  exact h
end Go.Proofs.YtaafajaadfgaoaaGreat
/- The walks of the document that read an object. -/
namespace Go.Proofs.YtaafajaadfgaoaaGreat
open Go.RowKit
theorem NRel.step {α : Type} {one : List Nat → Option (α × List Nat)} {q : Nat} {st st1 st2 : Option (List Nat)} {l : List α} {x : α} (h1 : NRel (repR one q) st l st1) (h2 : NRel one st1 x st2) : NRel (repR one (q + 1)) st (l ++ [x]) st2 := by
  cases st with
  | none =>
    obtain rfl := h1.none_
    obtain rfl := h2.none_
    rfl
  | some b =>
    cases e1 : repR one q b with
    | none =>
      obtain rfl := h1.bad e1
      obtain rfl := h2.none_
      have e2 : repR one (q + 1) b = none := by unfold repR; rw [e1]
      unfold NRel
      rw [show (some b).bind (repR one (q + 1)) = none from e2]
    | some p =>
      obtain ⟨l0, b1⟩ := p
      obtain ⟨rfl, rfl⟩ := h1.good e1
      cases e2 : one b1 with
      | none =>
        obtain rfl := h2.bad e2
        unfold NRel
        rw [show (some b).bind (repR one (q + 1)) = none from repR_fail e1 e2 (q + 1) (Nat.lt_succ_self q)]
      | some p2 =>
        obtain ⟨x0, b2⟩ := p2
        obtain ⟨rfl, rfl⟩ := h2.good e2
        unfold NRel
        rw [show (some b).bind (repR one (q + 1)) = some (l ++ [x], b2) from repR_step e1 e2]
        exact ⟨rfl, rfl⟩
def ORel (st : Option (List Nat)) (y : Ob) (st' : Option (List Nat)) : Prop := match st.bind objR with
  | some (o, b1) => y.Sm o ∧ st' = some b1
  | none => st' = none
end Go.Proofs.YtaafajaadfgaoaaGreat
/- The walk of the document's Place. -/
namespace Go.Proofs.YtaafajaadfgaoaaGreat
open Go.RowKit
theorem gaKPlace0 {ty : TypeId} {k : Nat} (h : aggB Tryz.prog ty k = true := by with_reducible first | exact agg47 | exact agg126 | exact agg124) : aggB Tryz.prog ty k = true := h
theorem ceKPlace1 {ty : TypeId} (h : cellB Tryz.prog ty = true := by with_reducible first | exact cell3 | exact cell4 | exact cell43 | exact cell45) : cellB Tryz.prog ty = true := h
def PlaceI (os : List Ob) (t : Int) (r : Int) : Prop := (r = -1 ∧ ∀ o ∈ os, o.h ≠ t) ∨ ∃ (j : Nat) (o : Ob), r = j ∧ os[j]? = some o ∧ o.h = t ∧ ∀ (i : Nat) q, i < j → os[i]? = some q → q.h ≠ t
theorem PlaceI.leads {os : List Ob} {t r : Int} (h : PlaceI os t r) (h0 : t ≠ 0) : decide (0 ≤ r) = leadsB os t := by
  rw [Bool.eq_iff_iff, decide_eq_true_eq, leadsB_iff]
  rcases h with ⟨rfl, h⟩ | ⟨j, o, rfl, hj, ho, _⟩
  · constructor
    · intro h; omega
    · rintro (h1 | ⟨o, ho, h1⟩)
      · exact absurd h1 h0
      · exact absurd h1 (h o ho)
  · exact ⟨fun _ => .inr ⟨o, List.mem_of_getElem? hj, ho⟩, fun _ => by omega⟩
def PlacePost (w : World) (os : List Ob) (t : Int) (e : Ending) (w' : World) : Prop := ∃ r : Int, e = .returned (.int .i64 r) ∧ PlaceI os t r ∧ Below w.heap.size w w'
set_option maxRecDepth 100000 in
set_option maxHeartbeats 4000000 in
theorem place206 (od : Int) (oa : Option Addr) (os : List Ob) (oc : Nat) (nx t0 t1 t2 t3 : Int) (fa : Option Addr) (fl fc : Nat) (hol : os.length ≤ 1000) (t : Int) (w : World) (ha : RowIs w oa (os.flatMap obV)) :
    Calls Tryz.prog 206 #[.agg #[.int .i64 od, .slice oa os.length oc, .int .i64 nx, .int .i64 t0, .int .i64 t1, .int .i64 t2, .int .i64 t3, .slice fa fl fc], .int .i64 t] w (PlacePost w os t) := by
  have hp := Hp.start w
  have HA := Lib.hid ha
  clear ha
  go_enter Tryz.func206, Tryz.ntmps206
  go_wp2_with (first | go_skip | ((first | ((with_reducible refine pre_box _ _ rfl ?_); refine lB hp rfl (sTm rfl) rfl ?_; clear hp; intro b w1 hp) | ((with_reducible refine pre_load _ _ rfl ?_); first | refine lO hp rfl (sTm rfl) ceKPlace1 aa5 ?_ | refine lRO hp rfl (sTm rfl) ceKPlace1 (by first | exact HX.out 0 _ rfl | exact HX.out 1 _ rfl | exact HX.out 2 _ rfl) ?_ | refine lA hp rfl (sTm rfl) gaKPlace0 aa5 ?_ | refine lR hp rfl (sTm rfl) gaKPlace0 HX.out ?_) | ((with_reducible refine pre_store _ _ _ rfl ?_); (first | refine sO hp rfl (sTm rfl) ceKPlace1 aa5 ?_ | refine sA hp rfl (sTm rfl) (sTm rfl) gaKPlace0 aa5 ?_ | refine sG hp rfl (sTm rfl) (sTm rfl) gaKPlace0 aa5 ?_); clear hp; intro w1 hp; simp only [spl, zSet, sSet] at hp) | ((with_reducible refine pre_build _ _ _ rfl ?_); refine lS hp rfl (by intro w; go_simp; rfl) ?_; clear hp; intro b w1 hp; simp only [List.length_cons, List.length_nil, Nat.reduceAdd] at hp)); simp only [put_some, put_none, sSet, zSet]))
  obtain ⟨b1, rfl⟩ := hp.id0
  go_loopg [5] os.length (fun k i wr => ∃ j : Nat, k + j = os.length ∧ i = .int .i64 j ∧ RowKit.Hid (∀ (i : Nat) q, i < j → os[i]? = some q → q.h ≠ t) ∧ Hp w.heap.size w wr [⟨b1, [.int .i64 od, .slice oa os.length oc, .int .i64 nx, .int .i64 t0, .int .i64 t1, .int .i64 t2, .int .i64 t3, .slice fa fl fc], 47, 8⟩])
  case atStart => exact ⟨0, by omega, rfl, Lib.hid (fun i y h => by omega), hp⟩
  case round =>
    clear hp
    obtain ⟨j, hkj, rfl, HY, hp⟩ := hrel
    by_cases hlt : j < os.length
    · obtain ⟨bq, off, rfl, hx⟩ := HA.out.elems 5 obV_len (by omega) (by omega)
      have hj := List.getElem?_eq_getElem hlt
      replace hx := hx j _ hj
      have HJ := Lib.hid hj
      clear hj
      generalize os[j] = x at hx HJ
      obtain ⟨xh, xp, xo, wa, ws, wc, la, ls, lc⟩ := x
      simp only [obV] at hx
      have HX := Lib.hid hx
      clear hx
      have e1 : (0 : Int) ≤ (j : Int) := by omega
      have e2 : (j : Int) < (os.length : Int) := by omega
      by_cases hne : xh = t
      · have HNE := Lib.hid hne
        have e3 : (xh == t) = true := by simpa using hne
        clear hne
        go_wp2_with (first | go_skip | ((first | ((with_reducible refine pre_box _ _ rfl ?_); refine lB hp rfl (sTm rfl) rfl ?_; clear hp; intro b w1 hp) | ((with_reducible refine pre_load _ _ rfl ?_); first | refine lO hp rfl (sTm rfl) ceKPlace1 aa5 ?_ | refine lRO hp rfl (sTm rfl) ceKPlace1 (by first | exact HX.out 0 _ rfl | exact HX.out 1 _ rfl | exact HX.out 2 _ rfl) ?_ | refine lA hp rfl (sTm rfl) gaKPlace0 aa5 ?_ | refine lR hp rfl (sTm rfl) gaKPlace0 HX.out ?_) | ((with_reducible refine pre_store _ _ _ rfl ?_); (first | refine sO hp rfl (sTm rfl) ceKPlace1 aa5 ?_ | refine sA hp rfl (sTm rfl) (sTm rfl) gaKPlace0 aa5 ?_ | refine sG hp rfl (sTm rfl) (sTm rfl) gaKPlace0 aa5 ?_); clear hp; intro w1 hp; simp only [spl, zSet, sSet] at hp) | ((with_reducible refine pre_build _ _ _ rfl ?_); refine lS hp rfl (by intro w; go_simp; rfl) ?_; clear hp; intro b w1 hp; simp only [List.length_cons, List.length_nil, Nat.reduceAdd] at hp)); simp only [put_some, put_none, sSet, zSet]))
        go_ret
        exact ⟨j, rfl, .inr ⟨j, _, rfl, HJ.out, HNE.out, HY.out⟩, hp.below⟩
      · have HNE := Lib.hid hne
        have e3 : (xh == t) = false := by simpa using hne
        clear hne
        go_wp2_with (first | go_skip | ((first | ((with_reducible refine pre_box _ _ rfl ?_); refine lB hp rfl (sTm rfl) rfl ?_; clear hp; intro b w1 hp) | ((with_reducible refine pre_load _ _ rfl ?_); first | refine lO hp rfl (sTm rfl) ceKPlace1 aa5 ?_ | refine lRO hp rfl (sTm rfl) ceKPlace1 (by first | exact HX.out 0 _ rfl | exact HX.out 1 _ rfl | exact HX.out 2 _ rfl) ?_ | refine lA hp rfl (sTm rfl) gaKPlace0 aa5 ?_ | refine lR hp rfl (sTm rfl) gaKPlace0 HX.out ?_) | ((with_reducible refine pre_store _ _ _ rfl ?_); (first | refine sO hp rfl (sTm rfl) ceKPlace1 aa5 ?_ | refine sA hp rfl (sTm rfl) (sTm rfl) gaKPlace0 aa5 ?_ | refine sG hp rfl (sTm rfl) (sTm rfl) gaKPlace0 aa5 ?_); clear hp; intro w1 hp; simp only [spl, zSet, sSet] at hp) | ((with_reducible refine pre_build _ _ _ rfl ?_); refine lS hp rfl (by intro w; go_simp; rfl) ?_; clear hp; intro b w1 hp; simp only [List.length_cons, List.length_nil, Nat.reduceAdd] at hp)); simp only [put_some, put_none, sSet, zSet]))
        go_roundg (gk - 1)
        case measure => omega
        case rel =>
          refine ⟨j + 1, by omega, by go_num, Lib.hid (fun i y hi hy => ?_), hp⟩
          rcases Nat.lt_or_ge i j with h | h
          · exact HY.out i y h hy
          · have : i = j := by omega
            subst this
            rw [HJ.out] at hy; injection hy with hy; subst hy; exact HNE.out
    · have e2 : decide ((j : Int) < (os.length : Int)) = false := by simp; omega
      go_wp2_with (first | go_skip | ((first | ((with_reducible refine pre_box _ _ rfl ?_); refine lB hp rfl (sTm rfl) rfl ?_; clear hp; intro b w1 hp) | ((with_reducible refine pre_load _ _ rfl ?_); first | refine lO hp rfl (sTm rfl) ceKPlace1 aa5 ?_ | refine lRO hp rfl (sTm rfl) ceKPlace1 (by first | exact HX.out 0 _ rfl | exact HX.out 1 _ rfl | exact HX.out 2 _ rfl) ?_ | refine lA hp rfl (sTm rfl) gaKPlace0 aa5 ?_ | refine lR hp rfl (sTm rfl) gaKPlace0 HX.out ?_) | ((with_reducible refine pre_store _ _ _ rfl ?_); (first | refine sO hp rfl (sTm rfl) ceKPlace1 aa5 ?_ | refine sA hp rfl (sTm rfl) (sTm rfl) gaKPlace0 aa5 ?_ | refine sG hp rfl (sTm rfl) (sTm rfl) gaKPlace0 aa5 ?_); clear hp; intro w1 hp; simp only [spl, zSet, sSet] at hp) | ((with_reducible refine pre_build _ _ _ rfl ?_); refine lS hp rfl (by intro w; go_simp; rfl) ?_; clear hp; intro b w1 hp; simp only [List.length_cons, List.length_nil, Nat.reduceAdd] at hp)); simp only [put_some, put_none, sSet, zSet]))
      go_ret
      refine ⟨-1, rfl, .inl ⟨rfl, fun o ho => ?_⟩, hp.below⟩
      obtain ⟨i, hi, rfl⟩ := List.getElem_of_mem ho
      exact HY.out i _ (by omega) (List.getElem?_eq_getElem hi)
theorem RowIs.fix0 {w : World} {b off : Nat} {xs : List Value} (h : RowIs w (some ⟨b, off, none⟩) xs) : ∀ j v, xs[j]? = some v → w.cell? ⟨b, off + j, none⟩ = some v := fun j v hj => by
  obtain ⟨b', off', he, hc⟩ := h j v hj
  injection he with he; injection he with e1 e2; subst e1; subst e2; exact hc
end Go.Proofs.YtaafajaadfgaoaaGreat

/- Parts of the proof. -/
import Derived.Test.YtaafajaadfgaoaaGreatAk1
import Derived.Test.YtaafajaadfgaoaaGreatAk24
import Derived.Test.YtaafajaadfgaoaaGreatAk25
import Derived.Test.YtaafajaadfgaoaaGreatAk5
import Derived.Test.YtaafajaadfgaoaaGreatAk7
import Derived.Test.YtaafajaadfgaoaaGreatAk22
import Derived.Test.YtaafajaadfgaoaaGreatAk2
open List renaming set_cons_zero → zSet, set_cons_succ → sSet
/- The walk of slices.Clone of entries. -/
set_option linter.unusedSimpArgs false
set_option linter.unusedVariables false
namespace Go.Proofs.YtaafajaadfgaoaaGreat
open Go.RowKit
theorem eqn_nilEntries (d : Nat) (n c : Nat) (w : World) : (Op.equalIn (d + 1) 22 (.slice none n c) (.slice none 0 0)).run Tryz.prog w = .ok true w := by
  rw [Op.equalIn]; simp [Sem.run_bind, run_underlying Tryz.underlying22]
theorem eqn_someEntries (d : Nat) (a : Addr) (n c : Nat) (w : World) : (Op.equalIn (d + 1) 22 (.slice (some a) n c) (.slice none 0 0)).run Tryz.prog w = .ok false w := by
  rw [Op.equalIn]; simp [Sem.run_bind, run_underlying Tryz.underlying22]
theorem nil_eq22 (n c : Nat) (w : World) : (binOp .eql 22 (.slice none n c) (.slice none 0 0)).run Tryz.prog w = .ok (.bool true) w := by
  have h : (Op.equalIn 10000 22 (.slice none n c) (.slice none 0 0)).run Tryz.prog w = .ok true w := eqn_nilEntries 9999 n c w
  simp only [binOp]
  simp [Op.equal, Op.maxDepth, h]
theorem some_eq22 (a : Addr) (n c : Nat) (w : World) : (binOp .eql 22 (.slice (some a) n c) (.slice none 0 0)).run Tryz.prog w = .ok (.bool false) w := by
  have h : (Op.equalIn 10000 22 (.slice (some a) n c) (.slice none 0 0)).run Tryz.prog w = .ok false w := eqn_someEntries 9999 a n c w
  simp only [binOp]
  simp [Op.equal, Op.maxDepth, h]
def ClonePostEntries (w : World) (n : Nat) (xs : List Value) (e : Ending) (w' : World) : Prop := ∃ v R, e = .returned v ∧ OwnRow 31 11 v n xs R ∧ Hp w.heap.size w w' R
set_option maxRecDepth 100000 in
set_option maxHeartbeats 4000000 in
theorem clone67 (a : Option Addr) (n c : Nat) (hn : n ≤ 100000) (xs : List Value) (hl : xs.length = n * 11) (h1 : xs.all (·.oneCell') = true) (w : World) (ha : RowIs w a xs) :
    Calls Tryz.prog 67 #[.slice a n c] w (ClonePostEntries w n xs) := by
  obtain ⟨i0, hi0, hz0, hz1, hz2⟩ := info_parts info31
  have hp := Hp.start w
  cases a with
  | none =>
    have hn0 : n = 0 := by
      rcases Nat.eq_zero_or_pos n with h | h
      · exact h
      · obtain ⟨b, off, he, _⟩ := ha.addr (by omega)
        cases he
    subst hn0
    have hx : xs = [] := List.eq_nil_of_length_eq_zero (by simpa using hl)
    subst hx
    clear ha hl h1
    have hq := nil_eq22
    go_enter Tryz.func67, Tryz.ntmps67
    go_wp2
    go_ret
    exact ⟨_, [], rfl, OwnRow.nil _ _, hp⟩
  | some a =>
    have HA := Lib.hid ha
    have HL := Lib.hid hl
    have H1 := Lib.hid h1
    have sm1 : 0 + n ≤ maxLen := by unfold maxLen; omega
    have sm2 : (0 + n) * 88 ≤ 140737488355328 := by omega
    clear ha hl h1
    have hq := some_eq22
    go_enter Tryz.func67, Tryz.ntmps67
    go_wp2_with (first | ((with_reducible refine pre_build _ _ _ rfl ?_); refine wpList_buildSlice_hp hp _ _ _ rfl wy [] 31 (by intro w; go_simp; try rfl) ?_; clear hp; intro b w1 hp; simp only [put_some, put_none, sSet, zSet]) | ((with_reducible refine pre_append _ _ 22 rfl ?_); refine wpList_appendGrowRow (K := []) (R := [⟨b, [], 31, 0 * 11⟩]) (M := []) hp _ _ _ rfl wy i0 _ 88 Tryz.underlying22 hi0 hz0 hz1 hz2 rfl (by decide) (sTm rfl) ⟨rfl, .inr ⟨b, 0, rfl, Nat.le_refl _, Nat.zero_le _, rfl⟩⟩ (some a) n c (sTm rfl) xs HL.out (HA.out.below hp.below) H1.out sm1 sm2 ?_; clear hp; intro v' R' w1 hR' hp; have HR' := Lib.hid hR'; clear hR'; simp only [put_some, put_none, sSet, zSet]) | go_skip)
    go_ret
    exact ⟨v', R', rfl, by simpa using HR'.out, by simpa using hp⟩
end Go.Proofs.YtaafajaadfgaoaaGreat
/- Own rows cut short; the walks of Last and Above. -/
namespace Go.Proofs.YtaafajaadfgaoaaGreat
open Go.RowKit
theorem ceOC0 {ty : TypeId} (h : cellB Tryz.prog ty = true := by with_reducible first | exact cell3 | exact cell4 | exact cell22 | exact cell9 | exact cell37) : cellB Tryz.prog ty = true := h
theorem SubRow.drop {e : TypeId} {c n cap off g k : Nat} {xs : List Value} {R : List Blk} (h : SubRow e c (.slice (some ⟨g, off, none⟩) n cap) n xs R) (hk : k ≤ n) (hn : 0 < n) :
    SubRow e c (.slice (some ⟨g, off + k * c, none⟩) (n - k) (cap - k)) (n - k) (xs.drop (k * c)) R := by
  obtain ⟨hl, ⟨h0, _, _⟩ | ⟨g', off', cap', pre, hv, h1, h2, h3, h4⟩⟩ := h
  · omega
  · injection hv with hv _ hc
    injection hv with hv
    injection hv with hg ho _
    subst hg ho hc
    have hm := Nat.mul_le_mul_right c hk
    refine ⟨by rw [List.length_drop, hl, Nat.sub_mul], .inr ⟨g, off + k * c, cap - k, pre ++ xs.take (k * c), rfl, by omega, by omega, by rw [List.length_append, List.length_take, h3, hl]; omega, ?_⟩⟩
    rw [h4, List.append_assoc, List.take_append_drop]
    have hm2 := Nat.mul_le_mul_right c (show k ≤ cap by omega)
    rw [Nat.sub_mul, show off + k * c + (cap * c - k * c) = off + cap * c by omega]
theorem SubRow.take {e : TypeId} {c n cap off g k : Nat} {xs : List Value} {R : List Blk} (h : SubRow e c (.slice (some ⟨g, off, none⟩) n cap) n xs R) (hk : k ≤ n) (hn : 0 < n) :
    ∃ R', SubRow e c (.slice (some ⟨g, off, none⟩) k cap) k (xs.take (k * c)) R' ∧ ∀ {B : Nat} {w0 w : World} {M : List Blk}, Hp B w0 w (R ++ M) → Hp B w0 w (R' ++ M) := by
  obtain ⟨hl, ⟨h0, _, _⟩ | ⟨g', off', cap', pre, hv, h1, h2, h3, h4⟩⟩ := h
  · omega
  · injection hv with hv _ hc
    injection hv with hv
    injection hv with hg ho _
    subst hg ho hc
    have hm := Nat.mul_le_mul_right c hk
    refine ⟨[⟨g, pre ++ xs.take (k * c), e, off + cap * c⟩], ⟨by rw [List.length_take, hl]; omega, .inr ⟨g, off, cap, pre, rfl, by omega, h2, h3, rfl⟩⟩, fun {B w0 w M} hp => ?_⟩
    subst h4
    refine Hp.less (l2 := xs.drop (k * c)) ?_
    rw [List.append_assoc, List.take_append_drop]; exact hp
theorem ent_drop (es : List Env) (k : Nat) : (es.flatMap envL).drop (k * 11) = (es.drop k).flatMap envL := by
  induction k generalizing es with
  | zero => simp
  | succ k ih =>
    cases es with
    | nil => simp
    | cons e es =>
      rw [List.flatMap_cons, List.drop_succ_cons, ← ih es, show (k + 1) * 11 = 11 + k * 11 by omega, ← List.drop_drop, List.drop_left' (envL_len11 e)]
theorem ent_take (es : List Env) (k : Nat) : (es.flatMap envL).take (k * 11) = (es.take k).flatMap envL := by
  have h1 := ent_drop es k
  have h2 := List.take_append_drop (k * 11) (es.flatMap envL)
  conv at h2 => rhs; rw [← List.take_append_drop k es, List.flatMap_append]
  rw [h1] at h2
  exact List.append_cancel_right h2
theorem check64N (vw nm bs : Int) (im : ByteArray) (ea : Option Addr) (es : List Env) (n ec : Nat) (hn : es.length = n) (b : Bool) (hb : okC ⟨vw, nm, bs, im, ea, es, ec⟩ = b) (hs : Kv.Small ⟨vw, nm, bs, im, ea, es, ec⟩) (w : World) (ha : RowIs w ea (es.flatMap envL)) :
    Calls Tryz.prog 64 #[.agg #[.int .i64 vw, .int .i64 nm, .int .i64 bs, .string im, .slice ea n ec]] w fun e w' => e = .returned (.int .i64 (if b = true then 0 else 1)) ∧ Below w.heap.size w w' := by
  subst hn
  exact check64L vw nm bs im ea es ec b hb hs w ha
theorem last18L (vw nm bs : Int) (im : ByteArray) (ea : Option Addr) (es : List Env) (ec : Nat) (b : Bool) (hb : okC ⟨vw, nm, bs, im, ea, es, ec⟩ = b) (hs : Kv.Small ⟨vw, nm, bs, im, ea, es, ec⟩) (w : World) (ha : RowIs w ea (es.flatMap envL)) :
    Calls Tryz.prog 18 #[.agg #[.int .i64 vw, .int .i64 nm, .int .i64 bs, .string im, .slice ea es.length ec]] w fun e w' => e = .returned (.int .i64 (if b = true then wrap64 (bs + es.length) else 0)) ∧ Below w.heap.size w w' := by
  have hp := Hp.start w
  have HB := Lib.hid hb
  have HSS := Lib.hid hs
  have HA := Lib.hid ha
  have HN : RowKit.Hid (es.length = es.length) := Lib.hid rfl
  clear hb hs ha
  cases b
  all_goals
    go_enter Tryz.func18, Tryz.ntmps18
    go_wp2_with (first | (go_at_call 64; (with_reducible refine (check64N vw nm bs im _ _ _ ec HN.out _ HB.out HSS.out _ (HA.out.below hp.below)).mono ?_); rintro e w1 ⟨rfl, hb⟩; replace hp := hp.call hb; clear hb; simp only [if_true, Bool.false_eq_true, if_false]) | (go_at_call 71; (with_reducible refine (last71 vw nm bs im _ _ ec _).mono ?_); rintro e w1 ⟨rfl, hb⟩; replace hp := hp.call hb; clear hb) | go_skip | ((first | ((with_reducible refine pre_box _ _ rfl ?_); refine lB hp rfl (sTm rfl) rfl ?_; clear hp; intro b w1 hp) | ((with_reducible refine pre_load _ _ rfl ?_); first | refine lO hp rfl (sTm rfl) ceOC0 aa5 ?_ | refine lA hp rfl (sTm rfl) agg24 aa5 ?_) | ((with_reducible refine pre_store _ _ _ rfl ?_); (first | refine sO hp rfl (sTm rfl) ceOC0 aa5 ?_ | refine sA hp rfl (sTm rfl) (sTm rfl) agg24 aa5 ?_ | refine sG hp rfl (sTm rfl) (sTm rfl) agg24 aa5 ?_); clear hp; intro w1 hp; simp only [spl, zSet, sSet] at hp)); simp only [put_some, put_none, sSet, zSet]))
    go_ret
    exact ⟨rfl, hp.below⟩
theorem OwnRow.cap {e : TypeId} {c n m : Nat} {a : Option Addr} {k : Nat} {xs : List Value} {R : List Blk} (h : OwnRow e c (.slice a n k) m xs R) : m ≤ k := by
  obtain ⟨_, ⟨h0, hv, _, _⟩ | ⟨g, cap, hv, h1, h2, _⟩⟩ := h
  · omega
  · injection hv with _ _ hk
    omega
theorem clone_ents (l : List Env) (a : Option Addr) (n c : Nat) (hn : l.length = n) (hl : n ≤ 100000) (w : World) (ha : RowIs w a (l.flatMap envL)) : Calls Tryz.prog 67 #[.slice a n c] w fun e w' => ∃ a c R, e = .returned (.slice a n c) ∧ n ≤ c ∧ OwnRow 31 11 (.slice a n c) n (l.flatMap envL) R ∧ Hp w.heap.size w w' R := by
  subst hn
  refine (clone67 a l.length c hl (l.flatMap envL) (flat_len envL 11 envL_len11 l) (by rw [List.all_flatMap]; exact List.all_eq_true.2 fun x _ => rfl) w ha).mono fun e w' h => ?_
  obtain ⟨v, R, h1, h2, h3⟩ := h
  obtain ⟨a', c', rfl, _⟩ := h2.kept
  exact ⟨a', c', R, h1, h2.cap, h2, h3⟩
theorem ents_row {w : World} {b off : Nat} {es : List Env} (ha : RowIs w (some ⟨b, off, none⟩) (es.flatMap envL)) (k j : Nat) : RowIs w (some ⟨b, off + k * 11, none⟩) (((es.drop k).take j).flatMap envL) := by
  rw [← ent_take, ← ent_drop]
  intro i v hi
  rw [List.getElem?_take] at hi
  split at hi
  · rw [List.getElem?_drop] at hi
    obtain ⟨b', off', he, hc⟩ := ha _ _ hi
    injection he with he; injection he with e1 e2; subst e1 e2
    exact ⟨b, off + k * 11, rfl, by rw [Nat.add_assoc]; exact hc⟩
  · cases hi
end Go.Proofs.YtaafajaadfgaoaaGreat
/- What comes of an entry that comes again, of a client's next one, and of many: the plain laws. No program in sight. -/
namespace Go.Proofs.YtaafajaadfgaoaaGreat
theorem mayE_facts {e : Env} (h : mayE e = true) : 1 ≤ e.nu ∧ e.nu ≤ 900000000 ∧ 0 ≤ e.vi ∧ e.vi ≤ 900000000 ∧ ((e.cl = 0 ∧ e.sq = 0) ∨ (e.cl ≠ 0 ∧ 1 ≤ e.cl ∧ e.cl ≤ 4 ∧ 1 ≤ e.sq ∧ e.sq ≤ 1000000)) := by
  unfold mayE inM at h
  by_cases hc : e.cl = 0
  · simp only [hc, if_true] at h; simp at h; omega
  · simp only [hc, if_false] at h; simp at h; omega
end Go.Proofs.YtaafajaadfgaoaaGreat
/- Runs of entries over a state: the plain laws. No program in sight. -/
namespace Go.Proofs.YtaafajaadfgaoaaGreat
noncomputable def runP (s : Sv) : List Env → Sv
  | [] => s
  | e :: r => runP (applyP s e).1 r
end Go.Proofs.YtaafajaadfgaoaaGreat
/- Heaps that are laid and read, by their parts; the chapter's examples of heaps. -/
namespace Go.Proofs.YtaafajaadfgaoaaGreat
open Go.RowKit
theorem RowIs.fixC {w : World} {b off : Nat} {xs : List Value} (h : RowIs w (some ⟨b, off, none⟩) xs) : ∀ j v, xs[j]? = some v → w.cell? ⟨b, off + j, none⟩ = some v := fun j v hj => by
  obtain ⟨b', off', he, hc⟩ := h j v hj
  injection he with he; injection he with e1 e2; subst e1; subst e2; exact hc
theorem obsB_sm {l k : List Ob} (h : ObsSm l k) : l.flatMap obB = k.flatMap obB := by
  have : l.map obB = k.map obB := by
    apply List.ext_getElem?
    intro i
    rw [List.getElem?_map, List.getElem?_map]
    rcases Nat.lt_or_ge i l.length with hi | hi
    · have ha := List.getElem?_eq_getElem hi
      have hb := List.getElem?_eq_getElem (l := k) (i := i) (by have := h.1; omega)
      obtain ⟨h1, h2, h3, h4, h5⟩ := h.2 i _ _ ha hb
      rw [ha, hb]
      simp only [Option.map_some, obB, h1, h2, h4, h5]
    · rw [List.getElem?_eq_none hi, List.getElem?_eq_none (by have := h.1; omega)]
  rw [List.flatMap_def, List.flatMap_def, this]
theorem heapB_sm {x y : Hv} (h : x.Sm y) : heapB x = heapB y := by
  unfold heapB headB
  rw [h.od, h.nx, h.t0, h.t1, h.t2, h.t3, obsB_sm h.os, h.os.1]
theorem stateB_sm {x y : Sv} (h : x.Sm y) : stateB x = stateB y := by
  unfold stateB; rw [heapB_sm h.1, h.2]
theorem HvO.kept {y : Hv} {R : List Blk} (h : HvO y R) : Kept R fun w => y.Is w := by
  obtain ⟨RO, RF, M, rfl, h⟩ := h
  exact h.kept
theorem SubRow.cap {e : TypeId} {c n m : Nat} {a : Option Addr} {k : Nat} {xs : List Value} {R : List Blk} (h : SubRow e c (.slice a n k) m xs R) (hn : n = m) : m ≤ k := by
  obtain ⟨a', k', hv, hk, _⟩ := h.kept
  injection hv with _ _ hk'
  omega
def b28 : List Nat := [0, 0, 0, 3, 0, 0, 0, 1, 0, 0, 0, 0, 0, 0, 0, 0, 0, 0, 0, 0, 0, 0, 0, 0, 0, 0, 0, 0]
theorem right_one3 : hrightB (oneHv 3) = true := hright_one (by decide) (by decide)
end Go.Proofs.YtaafajaadfgaoaaGreat
/- The walk of fold: a record is done on what is kept. -/
namespace Go.Proofs.YtaafajaadfgaoaaGreat
open Go.RowKit
theorem cell26 : cellB Tryz.prog 26 = true := by kernel_rfl
def lastK (x : Kv) : Int := x.bs + x.es.length
theorem ok_facts {x : Kv} (h : okC x = true) : (0 ≤ x.vw ∧ x.vw ≤ 900000000) ∧ (0 ≤ x.nm ∧ x.nm ≤ x.vw) ∧ (0 ≤ x.bs ∧ x.bs ≤ 900000000) ∧ x.es.length ≤ 4000 := by
  unfold okC at h
  simp only [Bool.and_eq_true, inM, decide_eq_true_eq] at h
  exact ⟨h.1, h.2.1, h.2.2.1, h.2.2.2.1⟩
end Go.Proofs.YtaafajaadfgaoaaGreat
/- The walk of fold: another log is taken. -/
namespace Go.Proofs.YtaafajaadfgaoaaGreat
open Go.RowKit
theorem SubRow.cut {e : TypeId} {c n cap k : Nat} {a : Option Addr} {xs : List Value} {R : List Blk} (h : SubRow e c (.slice a n cap) n xs R) (hk : k ≤ n) :
    ∃ R', SubRow e c (.slice a k cap) k (xs.take (k * c)) R' ∧ ∀ (B : Nat) (w0 w : World) (M : List Blk), Hp B w0 w (R ++ M) → Hp B w0 w (R' ++ M) := by
  obtain ⟨hl, ⟨h0, ⟨a', hv⟩, hr⟩ | ⟨g', off', cap', pre, hv, h1, h2, h3, h4⟩⟩ := h
  · injection hv with _ _ hc
    subst h0 hc hr
    obtain rfl : k = 0 := by omega
    have hx : xs = [] := List.eq_nil_of_length_eq_zero (by simpa using hl)
    subst hx
    exact ⟨[], by simpa using SubRow.nil e c a, fun _ _ _ _ hp => hp⟩
  · injection hv with hv _ hc
    subst hv hc
    have hm := Nat.mul_le_mul_right c hk
    refine ⟨[⟨g', pre ++ xs.take (k * c), e, off' + cap * c⟩], ⟨by rw [List.length_take, hl]; omega, .inr ⟨g', off', cap, pre, rfl, by omega, h2, h3, rfl⟩⟩, fun B w0 w M hp => ?_⟩
    subst h4
    refine Hp.less (l2 := xs.drop (k * c)) ?_
    rw [List.append_assoc, List.take_append_drop]; exact hp
end Go.Proofs.YtaafajaadfgaoaaGreat
/- The walks of New of states, the program's. -/
namespace Go.Proofs.YtaafajaadfgaoaaGreat
open Go.RowKit
theorem gaHNewT0 {ty : TypeId} {k : Nat} (h : aggB Tryz.prog ty k = true := by with_reducible first | exact agg50 | exact agg47 | exact agg124) : aggB Tryz.prog ty k = true := h
theorem ceHNewT1 {ty : TypeId} (h : cellB Tryz.prog ty = true := by with_reducible first | exact cell3 | exact cell4 | exact cell43 | exact cell45 | exact cell48 | exact cell37) : cellB Tryz.prog ty = true := h
set_option maxRecDepth 100000 in
set_option maxHeartbeats 4000000 in
theorem news127_yes (o : Int) (h : regionB o = true) (w : World) : Calls Tryz.prog 127 #[.int .i64 o] w (NewPostS w (oneHv o) 0) := by
  have hp := Hp.start w
  have K := Lib.hid (newh81_yes o h)
  clear h
  go_enter Tryz.func127, Tryz.ntmps127
  go_wp2_with (first | (go_at_call 81; ((with_reducible refine (K.out _).mono ?_); rintro e w1 ⟨⟨od, oa, os, oc, nx, t0, t1, t2, t3, fa, fs, fc⟩, R, rfl, hsm, hk, hp5⟩; replace hp := hp.join hp5; have HSM := Lib.hid hsm; have HK := Lib.hid hk; clear hp5 hsm hk; simp only [List.cons_append, List.nil_append, hvL] at hp ⊢)) | go_skip | ((first | ((with_reducible refine pre_alloc _ rfl ?_); refine lZ hp rfl (by with_reducible first | exact zero50 | exact zero47) ?_; clear hp; intro b w1 hp) | ((with_reducible refine pre_box _ _ rfl ?_); refine lB hp rfl (sTm rfl) rfl ?_; clear hp; intro b w1 hp) | ((with_reducible refine pre_load _ _ rfl ?_); first | refine lO hp rfl (sTm rfl) ceHNewT1 aa14 ?_ | refine lA hp rfl (sTm rfl) gaHNewT0 aa14 ?_) | ((with_reducible refine pre_store _ _ _ rfl ?_); (first | refine sO hp rfl (sTm rfl) ceHNewT1 aa14 ?_ | refine sA hp rfl (sTm rfl) (sTm rfl) gaHNewT0 aa14 ?_ | refine sG hp rfl (sTm rfl) (sTm rfl) gaHNewT0 aa14 ?_); clear hp; intro w1 hp; simp only [spl, zSet, sSet] at hp) | ((with_reducible refine pre_build _ _ _ rfl ?_); refine lS hp rfl (by intro w; go_simp; rfl) ?_; clear hp; intro b w1 hp; simp only [List.length_cons, List.length_nil, Nat.reduceAdd] at hp)); simp only [put_some, put_none, sSet, zSet]))
  exact bodyPost_ret (results_many (rs := [.cell 2 50, .tmp 3]) Tryz.results127 (.cell rfl (hp.loadAgg agg50 at1 0 _ (by rfl) (by rfl)) (.tmp rfl .nil))) rfl ⟨⟨⟨od, oa, os, oc, nx, t0, t1, t2, t3, fa, fs, fc⟩, none, [], 0⟩, R, rfl, ⟨HSM.out, rfl⟩, (HK.out.mono (fun _ h => h) (fun w h => ⟨h, RowIs.nil _ _⟩)), hp.tail.tail⟩
end Go.Proofs.YtaafajaadfgaoaaGreat
/- The walk of New, and what the examples lay. -/
namespace Go.Proofs.YtaafajaadfgaoaaGreat
open Go.RowKit
theorem gaOI0 {ty : TypeId} {k : Nat} (h : aggB Tryz.prog ty k = true := by with_reducible first | exact agg24 | exact agg50 | exact agg33 | exact agg31) : aggB Tryz.prog ty k = true := h
theorem ceOI1 {ty : TypeId} (h : cellB Tryz.prog ty = true := by with_reducible first | exact cell3 | exact cell4 | exact cell37) : cellB Tryz.prog ty = true := h
theorem zero33 : zeroL Tryz.prog 33 = some ([.int .i64 0, .int .i64 0, .int .i64 0, .int .i64 0, .string ⟨#[]⟩, .int .i64 0, .int .i64 0, .int .i64 0, .int .i64 0, .int .i64 0, .int .i64 0, .int .i64 0, .int .i64 0, .int .i64 0, .int .i64 0, .int .i64 0, .slice none 0 0], 17) := by kernel_rfl
def st3 : Sv := ⟨oneHv 3, none, [], 0⟩
def b36 : List Nat := stateB st3
theorem b36_bytes : Bytes b36 := by
  intro x hx
  have : b36 = [0, 0, 0, 28] ++ b28 ++ [0, 0, 0, 0] := rfl
  rw [this] at hx
  simp [b28] at hx
  omega
theorem st3_right : StR st3 := ⟨hright_of right_one3, rfl⟩
theorem stateR_36 : stateR b36 = some (clearS st3) := stateR_put st3_right ⟨(fun o ho => by cases ho), (fun r hr => by cases hr)⟩
def im3 : ByteArray := strOfNums (nI b36)
theorem strB_im3 : strB im3 = b36 := strB_of b36_bytes
theorem im3_size : im3.size = 36 := by rw [← strB_len, strB_im3]; rfl
theorem stateR_im3 : stateR (strB im3) = some (clearS st3) := by rw [strB_im3]; exact stateR_36
def GotSK (w : World) (e : Ending) (w' : World) : Prop := ∃ od oa os oc nx t0 t1 t2 t3 fa fs fc ra rs rc R, e = .returned (.tuple #[.agg #[.int .i64 od, .slice oa (List.length os) oc, .int .i64 nx, .int .i64 t0, .int .i64 t1, .int .i64 t2, .int .i64 t3, .slice fa (List.length fs) fc, .slice ra (List.length rs) rc], .int .i64 0]) ∧ Sv.Sm ⟨⟨od, oa, os, oc, nx, t0, t1, t2, t3, fa, fs, fc⟩, ra, rs, rc⟩ st3 ∧ Kept R (fun w => Sv.Is w ⟨⟨od, oa, os, oc, nx, t0, t1, t2, t3, fa, fs, fc⟩, ra, rs, rc⟩) ∧ Hp w.heap.size w w' R
theorem newt_3 (w : World) : Calls Tryz.prog 127 #[.int .i64 3] w (GotSK w) := by
  refine (news127_yes 3 rfl w).mono fun e w' h => ?_
  obtain ⟨y, R, h1, h2, h3, h4⟩ := h
  obtain ⟨⟨od, oa, os, oc, nx, t0, t1, t2, t3, fa, fs, fc⟩, ra, rs, rc⟩ := y
  exact ⟨od, oa, os, oc, nx, t0, t1, t2, t3, fa, fs, fc, ra, rs, rc, R, h1, h2, h3, h4⟩
theorem puts_3 (od : Int) (oa : Option Addr) (os : List Ob) (oc : Nat) (nx t0 t1 t2 t3 : Int) (fa : Option Addr) (fs : List Bl) (fc : Nat) (ra : Option Addr) (rs : List Rw) (rc : Nat) (hsm : Sv.Sm ⟨⟨od, oa, os, oc, nx, t0, t1, t2, t3, fa, fs, fc⟩, ra, rs, rc⟩ st3) (w : World) (hx0 : Sv.Is w ⟨⟨od, oa, os, oc, nx, t0, t1, t2, t3, fa, fs, fc⟩, ra, rs, rc⟩) :
    Calls Tryz.prog 22 #[.agg #[.int .i64 od, .slice oa os.length oc, .int .i64 nx, .int .i64 t0, .int .i64 t1, .int .i64 t2, .int .i64 t3, .slice fa fs.length fc, .slice ra rs.length rc]] w fun e w' => ∃ a c R, e = .returned (.tuple #[.slice a 36 c, .int .i64 0]) ∧ Kept R (fun w => RowIs w a (b36.flatMap byV)) ∧ Hp w.heap.size w w' R := by
  have hb : stB ⟨⟨od, oa, os, oc, nx, t0, t1, t2, t3, fa, fs, fc⟩, ra, rs, rc⟩ = true := (stB_sm hsm).trans (st_yes st3_right)
  have h := puts22_yes _ hb w hx0
  rw [stateB_sm hsm] at h
  refine h.mono fun e w' h => ?_
  obtain ⟨a, c, R, h1, h2, h3⟩ := h
  exact ⟨a, c, R, h1, h2.keptS, h3⟩
set_option maxRecDepth 100000 in
set_option maxHeartbeats 8000000 in
theorem newo_3 (w : World) : Calls Tryz.prog 89 #[.int .i64 3] w fun e w' => e = .returned (.tuple #[.agg #[.int .i64 0, .int .i64 0, .int .i64 0, .string im3, .slice none 0 0], .int .i64 0]) ∧ Below w.heap.size w w' := by
  have hp := Hp.start w
  have HNI : RowKit.Hid ((nI b36).length = 36) := Lib.hid (by rw [nI_len]; rfl)
  go_enter Tryz.func89, Tryz.ntmps89
  go_wp2_with (first | (go_at_call 127; (with_reducible refine (newt_3 _).mono ?_); rintro e w1 ⟨od, oa, os, oc, nx, t0, t1, t2, t3, fa, fs, fc, ra, rs, rc, RN, rfl, hsm, hk, hpn⟩; replace hp := hp.join hpn; have HSM := Lib.hid hsm; have HK := Lib.hid hk; clear hpn hsm hk; simp only [List.cons_append, List.nil_append] at hp) | (go_at_call 22; (with_reducible refine (puts_3 od oa os oc nx t0 t1 t2 t3 fa fs fc ra rs rc HSM.out _ (HK.out.at hp (fun p hm => by simp [hm]))).mono ?_); rintro e w1 ⟨ab, cb, RB, rfl, hkb, hpn⟩; replace hp := hp.join hpn; have HKB := Lib.hid hkb; clear hpn hkb; simp only [List.cons_append, List.nil_append] at hp) | ((with_reducible refine pre_convert _ _ _ rfl ?_); refine wpList_conv_row 57 9 5 _ rfl wy Tryz.underlying57 Tryz.underlying5 Tryz.underlying9 ab 36 cb (sTm rfl) (nI b36) HNI.out (by rw [nI_cells]; exact HKB.out.at hp (by intro p hp2; simp [hp2])) ?_; simp only [put_some, put_none, sSet, zSet]) | go_skip | ((first | ((with_reducible refine pre_alloc _ rfl ?_); refine lZ hp rfl (by with_reducible first | exact zero24 | exact zero50 | exact zero33 | exact zero31) ?_; clear hp; intro b w1 hp) | ((with_reducible refine pre_box _ _ rfl ?_); refine lB hp rfl (sTm rfl) rfl ?_; clear hp; intro b w1 hp) | ((with_reducible refine pre_load _ _ rfl ?_); first | refine lO hp rfl (sTm rfl) ceOI1 aa5 ?_ | refine lA hp rfl (sTm rfl) gaOI0 aa5 ?_) | ((with_reducible refine pre_store _ _ _ rfl ?_); (first | refine sO hp rfl (sTm rfl) ceOI1 aa5 ?_ | refine sA hp rfl (sTm rfl) (sTm rfl) gaOI0 aa5 ?_ | refine sG hp rfl (sTm rfl) (sTm rfl) gaOI0 aa5 ?_); clear hp; intro w1 hp; simp only [spl, zSet, sSet] at hp)); simp only [put_some, put_none, sSet, zSet]))
  exact bodyPost_ret (results_many (rs := [.cell 2 24, .tmp 3]) Tryz.results89 (.cell rfl (hp.loadAgg agg24 at1 0 _ (by rfl) (by rfl)) (.tmp rfl .nil))) rfl ⟨rfl, hp.below⟩
end Go.Proofs.YtaafajaadfgaoaaGreat
/- The chapter's examples of Fold. -/
namespace Go.Proofs.YtaafajaadfgaoaaGreat
open Go.RowKit
def En (n : Int) : Env := ⟨n, 0, 0, 0, ⟨0, 0, 0, 0, 0, 0, 0⟩⟩
def okP (x : Kv) : Bool := inM x.vw 0 900000000 && (inM x.nm 0 x.vw && (inM x.bs 0 900000000 && (decide (x.es.length ≤ 4000) && (folB x.bs 0 x.es && entsB x.nm 0 x.es))))
theorem okC_im3 {x : Kv} (h : okP x = true) (hi : x.im = im3) : okC x = true := by
  unfold okP at h
  simp only [Bool.and_eq_true] at h
  obtain ⟨h1, h2, h3, h4, h5, h6⟩ := h
  unfold okC
  rw [h1, h2, h3, h4, h5, h6, hi, stateR_im3]; rfl
theorem im3_small : im3.size ≤ 1000000 := by rw [im3_size]; decide
end Go.Proofs.YtaafajaadfgaoaaGreat

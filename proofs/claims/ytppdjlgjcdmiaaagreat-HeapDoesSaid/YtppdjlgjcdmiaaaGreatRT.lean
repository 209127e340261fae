/- The walks of the document's Take and Give. -/
import Derived.Test.YtppdjlgjcdmiaaaGreatRR
import Derived.Test.YtppdjlgjcdmiaaaGreatQG
import Derived.Test.YtppdjlgjcdmiaaaGreatQB
import Derived.Test.YtppdjlgjcdmiaaaGreatQE
set_option linter.unusedSimpArgs false
set_option linter.unusedVariables false
namespace Go.Proofs.YtppdjlgjcdmiaaaGreat
open Go.RowKit
theorem ceRT0 {ty : TypeId} (h : cellB Tryz.prog ty = true := by with_reducible first | exact cell3 | exact cell4 | exact cell24 | exact cell32) : cellB Tryz.prog ty = true := h
def TakeNoR (w : World) (c : Int) (e : Ending) (w' : World) : Prop := e = .returned (.tuple #[.agg #[.int .i64 0, .int .i64 0], .slice none 0 0, .int .i64 c]) ∧ Below w.heap.size w w'
def TakeOkR (w : World) (want : Int) (fs : List Bl) (e : Ending) (w' : World) : Prop := ∃ (b : Bl) (a : Option Addr) (k : Nat) (R : List Blk), e = .returned (.tuple #[.agg #[.int .i64 b.p, .int .i64 want], .slice a (takenL fs b want).length k, .int .i64 0]) ∧ LeastT want fs b ∧
  OwnRow 64 2 (.slice a (takenL fs b want).length k) (takenL fs b want).length ((takenL fs b want).flatMap blV) R ∧ Hp w.heap.size w w' R
theorem Hp.subR {B : Nat} {w0 w : World} {L L' : List Blk} (hp : Hp B w0 w L) (h : L'.Sublist L) : Hp B w0 w L' :=
  ⟨hp.below, hp.size, (h.map _).nodup hp.nodup, fun p hpL => hp.own p (h.subset hpL)⟩
theorem BestAt.no {l : List Bl} {want i : Int} (h : BestAt l want l.length i) (hg : greatB l want = false) : i = -1 := by
  have := h.great
  rw [hg] at this
  rcases h with ⟨h, _⟩ | ⟨k, z, rfl, _⟩
  · exact h
  · simp at this
theorem BestAt.yes {l : List Bl} {want i : Int} (h : BestAt l want l.length i) (hg : greatB l want = true) : ∃ (k : Nat) (z : Bl), i = (k : Int) ∧ k < l.length ∧ l[k]? = some z ∧ want ≤ z.o ∧ ∀ (k' : Nat) x, k' < l.length → l[k']? = some x → want ≤ x.o → z.o ≤ x.o ∧ (x.o = z.o → k ≤ k') := by
  have := h.great
  rw [hg] at this
  rcases h with ⟨rfl, _⟩ | h
  · simp at this
  · exact h
set_option maxRecDepth 100000 in
set_option maxHeartbeats 4000000 in
theorem take95_arg (order want : Int) (fs : List Bl) (a : Option Addr) (c : Nat) (hl : fs.length ≤ 600) (w : World) (ha : RowIs w a (fs.flatMap blV)) (h : rightB order fs = false ∨ want < 0 ∨ order < want) : Calls Tryz.prog 95 #[.int .i64 order, .slice a fs.length c, .int .i64 want] w (TakeNoR w 1) := by
  have hp := Hp.start w
  have HA := Lib.hid ha
  clear ha
  have hw : (rightB order fs = false ∧ True) ∨ (rightB order fs = true ∧ decide (want < 0) = true) ∨ (rightB order fs = true ∧ decide (want < 0) = false ∧ decide (order < want) = true) := by
    cases hr : rightB order fs with
    | false => exact .inl ⟨rfl, trivial⟩
    | true =>
      right
      by_cases h1 : want < 0
      · exact .inl ⟨rfl, decide_eq_true h1⟩
      · right
        rcases h with h | h | h
        · rw [hr] at h; cases h
        · exact absurd h h1
        · exact ⟨rfl, decide_eq_false h1, decide_eq_true h⟩
  clear h
  rcases hw with ⟨hr, h1⟩ | ⟨hr, h1⟩ | ⟨hr, h1, h2⟩
  all_goals
    have HE := Lib.hid hr
    clear hr
    go_enter Tryz.func95, Tryz.ntmps95
    go_wp2_with (first | (go_at_call 64; (with_reducible refine (right64 order fs _ c hl _ (HA.out.below hp.below)).mono ?_); rintro e w1 ⟨rfl, hb⟩; rw [HE.out]; replace hp := hp.call hb; clear hb) | go_skip | ((first | ((with_reducible refine pre_alloc _ rfl ?_); refine lZ hp rfl zero64 ?_; clear hp; intro b w1 hp) | ((with_reducible refine pre_box _ _ rfl ?_); refine lB hp rfl (slot_tmp rfl) rfl ?_; clear hp; intro b w1 hp) | ((with_reducible refine pre_load _ _ rfl ?_); first | refine lO hp rfl (slot_tmp rfl) ceRT0 aa5 ?_ | refine lA hp rfl (slot_tmp rfl) agg64 aa5 ?_) | ((with_reducible refine pre_store _ _ _ rfl ?_); (first | refine sO hp rfl (slot_tmp rfl) ceRT0 aa5 ?_ | refine sA hp rfl (slot_tmp rfl) (slot_tmp rfl) agg64 aa5 ?_ | refine sG hp rfl (slot_tmp rfl) (slot_tmp rfl) agg64 aa5 ?_); clear hp; intro w1 hp; simp only [spl, List.set_cons_zero, List.set_cons_succ] at hp) | ((with_reducible refine pre_build _ _ _ rfl ?_); refine lS hp rfl (by intro w; go_simp; rfl) ?_; clear hp; intro b w1 hp; simp only [List.length_cons, List.length_nil, Nat.reduceAdd] at hp)); simp only [put_some, put_none, List.set_cons_succ, List.set_cons_zero]))
    exact bodyPost_ret (results_many (rs := [.cell 6 64, .tmp 7, .tmp 8]) Tryz.results95 (.cell rfl (hp.loadAgg agg64 at0 0 _ (by rfl) (by rfl)) (.tmp rfl (.tmp rfl .nil)))) rfl ⟨rfl, hp.below⟩
set_option maxRecDepth 100000 in
set_option maxHeartbeats 4000000 in
theorem take95_full (order want : Int) (fs : List Bl) (a : Option Addr) (c : Nat) (hl : fs.length ≤ 600) (w : World) (ha : RowIs w a (fs.flatMap blV)) (hr : rightB order fs = true) (h0 : 0 ≤ want) (h1 : want ≤ order) (hg : greatB fs want = false) : Calls Tryz.prog 95 #[.int .i64 order, .slice a fs.length c, .int .i64 want] w (TakeNoR w 40) := by
  have hp := Hp.start w
  have HA := Lib.hid ha
  have HE := Lib.hid hr
  have HG := Lib.hid hg
  have e1 : decide (want < 0) = false := by simp; omega
  have e2 : decide (order < want) = false := by simp; omega
  clear ha hr h0 h1 hg
  go_enter Tryz.func95, Tryz.ntmps95
  go_wp2_with (first | (go_at_call 64; (with_reducible refine (right64 order fs _ c hl _ (HA.out.below hp.below)).mono ?_); rintro e w1 ⟨rfl, hb⟩; rw [HE.out]; replace hp := hp.call hb; clear hb) | (go_at_call 119; (with_reducible refine (best119 fs a c hl want _ (HA.out.below hp.below)).mono ?_); rintro e w1 ⟨r, rfl, hbest, hb⟩; replace hp := hp.call hb; clear hb; obtain rfl := hbest.no HG.out; clear hbest) | go_skip | ((first | ((with_reducible refine pre_alloc _ rfl ?_); refine lZ hp rfl zero64 ?_; clear hp; intro b w1 hp) | ((with_reducible refine pre_box _ _ rfl ?_); refine lB hp rfl (slot_tmp rfl) rfl ?_; clear hp; intro b w1 hp) | ((with_reducible refine pre_load _ _ rfl ?_); first | refine lO hp rfl (slot_tmp rfl) ceRT0 aa5 ?_ | refine lA hp rfl (slot_tmp rfl) agg64 aa5 ?_) | ((with_reducible refine pre_store _ _ _ rfl ?_); (first | refine sO hp rfl (slot_tmp rfl) ceRT0 aa5 ?_ | refine sA hp rfl (slot_tmp rfl) (slot_tmp rfl) agg64 aa5 ?_ | refine sG hp rfl (slot_tmp rfl) (slot_tmp rfl) agg64 aa5 ?_); clear hp; intro w1 hp; simp only [spl, List.set_cons_zero, List.set_cons_succ] at hp) | ((with_reducible refine pre_build _ _ _ rfl ?_); refine lS hp rfl (by intro w; go_simp; rfl) ?_; clear hp; intro b w1 hp; simp only [List.length_cons, List.length_nil, Nat.reduceAdd] at hp)); simp only [put_some, put_none, List.set_cons_succ, List.set_cons_zero]))
  exact bodyPost_ret (results_many (rs := [.cell 6 64, .tmp 7, .tmp 8]) Tryz.results95 (.cell rfl (hp.loadAgg agg64 at0 0 _ (by rfl) (by rfl)) (.tmp rfl (.tmp rfl .nil)))) rfl ⟨rfl, hp.below⟩
theorem BestAt.uniq {l : List Bl} {want : Int} {k : Nat} {z : Bl} (hz : l[k]? = some z) (hw : want ≤ z.o) (h : ∀ (k' : Nat) x, k' < l.length → l[k']? = some x → want ≤ x.o → z.o ≤ x.o ∧ (x.o = z.o → k ≤ k')) : ∀ i, BestAt l want l.length i → i = (k : Int) := by
  intro i hi
  have hk := (List.getElem?_eq_some_iff.1 hz).1
  obtain ⟨k2, z2, rfl, h1, h2, h3, h4⟩ := hi.yes (great_yes hz hw)
  obtain ⟨a1, a2⟩ := h k2 z2 h1 h2 h3
  obtain ⟨b1, b2⟩ := h4 k z hk hz hw
  have := a2 (by omega)
  have := b2 (by omega)
  omega
theorem best_ex {l : List Bl} {want : Int} (hg : greatB l want = true) : ∃ (k : Nat) (z : Bl), l[k]? = some z ∧ want ≤ z.o ∧ ∀ (k' : Nat) x, k' < l.length → l[k']? = some x → want ≤ x.o → z.o ≤ x.o ∧ (x.o = z.o → k ≤ k') := by
  unfold greatB at hg
  induction l with
  | nil => simp at hg
  | cons x r ih =>
    by_cases hr : (r.any fun y => decide (want ≤ y.o)) = true
    · obtain ⟨k, z, hz, hw, h⟩ := ih hr
      by_cases hx : want ≤ x.o ∧ x.o ≤ z.o
      · refine ⟨0, x, rfl, hx.1, fun k' y hk' hy hwy => ?_⟩
        cases k' with
        | zero => simp at hy; subst hy; exact ⟨Int.le_refl _, fun _ => Nat.le_refl _⟩
        | succ k' =>
          have := (h k' y (by simpa using hk') (by simpa using hy) hwy).1
          exact ⟨by omega, fun _ => Nat.zero_le _⟩
      · refine ⟨k + 1, z, by simpa using hz, hw, fun k' y hk' hy hwy => ?_⟩
        cases k' with
        | zero => simp at hy; subst hy; exact ⟨by omega, fun he => by omega⟩
        | succ k' =>
          have := h k' y (by simpa using hk') (by simpa using hy) hwy
          exact ⟨this.1, fun he => by have := this.2 he; omega⟩
    · have hx : want ≤ x.o := by simpa [hr] using hg
      refine ⟨0, x, rfl, hx, fun k' y hk' hy hwy => ?_⟩
      cases k' with
      | zero => simp at hy; subst hy; exact ⟨Int.le_refl _, fun _ => Nat.le_refl _⟩
      | succ k' =>
        exact absurd (List.any_eq_true.2 ⟨y, List.mem_of_getElem? (by simpa using hy), by simpa using hwy⟩) hr
set_option maxRecDepth 100000 in
set_option maxHeartbeats 8000000 in
theorem take95_ok (order want : Int) (fs : List Bl) (a : Option Addr) (c : Nat) (hl : fs.length ≤ 600) (w : World) (ha : RowIs w a (fs.flatMap blV)) (hr : rightB order fs = true) (h0 : 0 ≤ want) (h1 : want ≤ order) (hg : greatB fs want = true) : Calls Tryz.prog 95 #[.int .i64 order, .slice a fs.length c, .int .i64 want] w (TakeOkR w want fs) := by
  obtain ⟨k, z, hz, hw, hbest⟩ := best_ex hg
  have hk := (List.getElem?_eq_some_iff.1 hz).1
  have hp := Hp.start w
  have hr2 := hr
  unfold rightB regionB at hr2
  simp only [Bool.and_eq_true, decide_eq_true_eq] at hr2
  obtain ⟨⟨g3, g8⟩, hgood⟩ := hr2
  have HBY := Lib.hid (BestAt.uniq hz hw hbest)
  have HLT := Lib.hid (best_least (od := order) hgood.disj hz hw hbest)
  obtain ⟨bq, off, rfl, hx⟩ := ha.elems 2 blV_len (by omega) (by omega)
  replace hx := hx k _ hz
  have hmay := (hgood k _ hz).1
  obtain ⟨tp, to⟩ := z
  obtain ⟨m1, m2, m3, m4, m5, m6⟩ := may_facts g8 hmay
  simp only [blV] at hx
  simp only at hw
  have HX := Lib.hid hx
  have HA := Lib.hid ha
  have HE := Lib.hid hr
  have e1 : decide (want < 0) = false := by simp; omega
  have e2 : decide (order < want) = false := by simp; omega
  have e3 : decide ((k : Int) < 0) = false := by simp
  have e4 : (0 : Int) ≤ (k : Int) := by omega
  have e5 : (k : Int) < (fs.length : Int) := by omega
  obtain ⟨N, hN⟩ : ∃ N : Nat, N = (to - want).toNat := ⟨_, rfl⟩
  have HNI : RowKit.Hid ((N : Int) = to - want) := Lib.hid (by omega)
  have HMM := Lib.hid (And.intro m1 (And.intro m3 (And.intro m4 m6)))
  have HTK : RowKit.Hid (takenL fs ⟨tp, to⟩ want = splitL (without fs ⟨tp, to⟩) tp to N) := Lib.hid (by rw [hN]; rfl)
  have hwl := (without_sub fs ⟨tp, to⟩).length_le
  clear ha hr hg hx hz hbest hgood hmay m1 m2 m3 m4 m5 m6 hk hN
  go_enter Tryz.func95, Tryz.ntmps95
  go_wp2_with (first | (go_at_call 64; (with_reducible refine (right64 order fs _ c hl _ (HA.out.below hp.below)).mono ?_); rintro e w1 ⟨rfl, hb⟩; rw [HE.out]; replace hp := hp.call hb; clear hb) | (go_at_call 119; (with_reducible refine (best119 fs (some ⟨bq, off, none⟩) c hl want _ (HA.out.below hp.below)).mono ?_); rintro e w1 ⟨r, rfl, hbest, hb⟩; replace hp := hp.call hb; clear hb; obtain rfl := HBY.out r hbest; clear hbest) | (go_at_call 120; (with_reducible refine (without120 fs (some ⟨bq, off, none⟩) c (by omega) tp to _ (HA.out.below hp.below)).mono ?_); rintro e w1 ⟨v, RO, rfl, hro, hpo⟩; replace hp := hp.join hpo; have HRO := Lib.hid hro; clear hro hpo; simp only [List.cons_append, List.nil_append] at hp) | go_skip | ((first | ((with_reducible refine pre_alloc _ rfl ?_); refine lZ hp rfl zero64 ?_; clear hp; intro b w1 hp) | ((with_reducible refine pre_box _ _ rfl ?_); refine lB hp rfl (slot_tmp rfl) rfl ?_; clear hp; intro b w1 hp) | ((with_reducible refine pre_load _ _ rfl ?_); first | refine lO hp rfl (slot_tmp rfl) ceRT0 aa5 ?_ | refine lA hp rfl (slot_tmp rfl) agg64 aa5 ?_ | refine lR hp rfl (slot_tmp rfl) agg64 HX.out ?_) | ((with_reducible refine pre_store _ _ _ rfl ?_); (first | refine sO hp rfl (slot_tmp rfl) ceRT0 aa5 ?_ | refine sA hp rfl (slot_tmp rfl) (slot_tmp rfl) agg64 aa5 ?_ | refine sG hp rfl (slot_tmp rfl) (slot_tmp rfl) agg64 aa5 ?_); clear hp; intro w1 hp; simp only [spl, List.set_cons_zero, List.set_cons_succ] at hp) | ((with_reducible refine pre_build _ _ _ rfl ?_); refine lS hp rfl (by intro w; go_simp; rfl) ?_; clear hp; intro b w1 hp; simp only [List.length_cons, List.length_nil, Nat.reduceAdd] at hp)); simp only [put_some, put_none, List.set_cons_succ, List.set_cons_zero]))
  obtain ⟨b10, rfl⟩ := hp.id0
  obtain ⟨b6, rfl⟩ := hp.id1
  go_loopg [11] N (fun k v wr => ∃ (co : Int) (out : List Bl) (RO M : List Blk), RowKit.Hid (co = want + k ∧ k ≤ N) ∧ RowKit.Hid (splitL out tp co k = splitL (without fs ⟨tp, to⟩) tp to N) ∧ RowKit.Hid (out.length + k = (without fs ⟨tp, to⟩).length + N) ∧ RowKit.Hid (OwnRow 64 2 v out.length (out.flatMap blV) RO) ∧
    Hp w.heap.size w wr (⟨b10, [.int .i64 tp, .int .i64 co], 64, 2⟩ :: ⟨b6, [.int .i64 0, .int .i64 0], 64, 2⟩ :: (RO ++ M)))
  case atStart => exact ⟨to, _, RO, [], Lib.hid (by have := HNI.out; omega), Lib.hid rfl, Lib.hid rfl, HRO, by simpa using hp⟩
  case round =>
    clear hp HRO
    obtain ⟨co, out, RO, M, HCO, HSP, HLN, HRO, hp⟩ := hrel
    obtain ⟨hco, hkN0⟩ := HCO.out
    rcases Nat.eq_zero_or_pos gk with h00 | hgk
    · subst h00
      have HCW : RowKit.Hid (co = want) := Lib.hid (by omega)
      have HEQ : RowKit.Hid (takenL fs ⟨tp, to⟩ want = out) := Lib.hid (by rw [HTK.out, ← HSP.out]; rfl)
      have e6 : decide (want < co) = false := by simp; omega
      obtain ⟨a5, k5, rfl, _⟩ := HRO.out.kept
      clear hco
      go_wp2_with (first | go_skip | ((first | ((with_reducible refine pre_alloc _ rfl ?_); refine lZ hp rfl zero64 ?_; clear hp; intro b w1 hp) | ((with_reducible refine pre_box _ _ rfl ?_); refine lB hp rfl (slot_tmp rfl) rfl ?_; clear hp; intro b w1 hp) | ((with_reducible refine pre_load _ _ rfl ?_); first | refine lO hp rfl (slot_tmp rfl) ceRT0 aa5 ?_ | refine lA hp rfl (slot_tmp rfl) agg64 aa5 ?_) | ((with_reducible refine pre_store _ _ _ rfl ?_); (first | refine sO hp rfl (slot_tmp rfl) ceRT0 aa5 ?_ | refine sA hp rfl (slot_tmp rfl) (slot_tmp rfl) agg64 aa5 ?_ | refine sG hp rfl (slot_tmp rfl) (slot_tmp rfl) agg64 aa5 ?_); clear hp; intro w1 hp; simp only [spl, List.set_cons_zero, List.set_cons_succ] at hp) | ((with_reducible refine pre_build _ _ _ rfl ?_); refine lS hp rfl (by intro w; go_simp; rfl) ?_; clear hp; intro b w1 hp; simp only [List.length_cons, List.length_nil, Nat.reduceAdd] at hp)); simp only [put_some, put_none, List.set_cons_succ, List.set_cons_zero]))
      refine bodyPost_ret (results_many (rs := [.cell 6 64, .tmp 7, .tmp 8]) Tryz.results95 (.cell rfl (hp.loadAgg agg64 at1 0 _ (by rfl) (by rfl)) (.tmp rfl (.tmp rfl .nil)))) rfl ⟨⟨tp, to⟩, a5, k5, RO, ?_, HLT.out, ?_, ?_⟩
      · rw [HEQ.out, HCW.out]; rfl
      · rw [HEQ.out]; exact HRO.out
      · exact hp.tail.tail.subR (List.sublist_append_left _ _)
    · obtain ⟨nk, hnk⟩ : ∃ nk, gk = nk + 1 := ⟨gk - 1, by omega⟩
      obtain ⟨nco, hnco⟩ : ∃ n : Int, n = co - 1 := ⟨_, rfl⟩
      obtain ⟨m1, m3, m4, m6⟩ := HMM.out
      have hni := HNI.out
      have hln := HLN.out
      have hkN : gk ≤ N := hkN0
      have h8n : nco ≤ 8 := by omega
      have hpw := pw_le h8n
      have hpp := pw_pos nco
      have hol1 : out.length ≤ 1000 := by omega
      have ew1 : wrap64 (co - 1) = nco := by rw [IntWalk.wrap64_in _ ⟨by omega, by omega⟩]; omega
      obtain ⟨q, hq⟩ : ∃ q : Int, q = tp + pw nco := ⟨_, rfl⟩
      have ew2 : wrap64 (tp + pw nco) = q := by rw [IntWalk.wrap64_in _ ⟨by omega, by have := pw_pos to; omega⟩]; omega
      have e6 : decide (want < co) = true := by simp; omega
      obtain ⟨a5, k5, rfl, ko⟩ := HRO.out.kept
      have KO := Lib.hid ko
      have EW1 := Lib.hid ew1
      have HNK := Lib.hid hnk
      have HCN : RowKit.Hid (nco = want + ((nk : Nat) : Int) ∧ nk ≤ N) := Lib.hid (by omega)
      have HSN : RowKit.Hid (splitL (withL out ⟨q, nco⟩) tp nco nk = splitL (without fs ⟨tp, to⟩) tp to N) := Lib.hid (by
        have h := HSP.out
        rw [hnk, splitL] at h
        rw [hq, hnco]; exact h)
      have HLM : RowKit.Hid ((withL out ⟨q, nco⟩).length + nk = (without fs ⟨tp, to⟩).length + N) := Lib.hid (by rw [withL_len]; omega)
      clear hnk hnco m1 m3 m4 m6 hni hln hkN hkN0 hpw hpp hq ko hco hgk
      go_wp2_with (first | go_skip | ((first | ((with_reducible refine pre_alloc _ rfl ?_); refine lZ hp rfl zero64 ?_; clear hp; intro b w1 hp) | ((with_reducible refine pre_box _ _ rfl ?_); refine lB hp rfl (slot_tmp rfl) rfl ?_; clear hp; intro b w1 hp) | ((with_reducible refine pre_load _ _ rfl ?_); first | refine lO hp rfl (slot_tmp rfl) ceRT0 aa5 ?_ | refine lA hp rfl (slot_tmp rfl) agg64 aa5 ?_) | ((with_reducible refine pre_store _ _ _ rfl ?_); (first | refine sO hp rfl (slot_tmp rfl) ceRT0 aa5 ?_ | refine sA hp rfl (slot_tmp rfl) (slot_tmp rfl) agg64 aa5 ?_ | refine sG hp rfl (slot_tmp rfl) (slot_tmp rfl) agg64 aa5 ?_); clear hp; intro w1 hp; simp only [spl, List.set_cons_zero, List.set_cons_succ] at hp) | ((with_reducible refine pre_build _ _ _ rfl ?_); refine lS hp rfl (by intro w; go_simp; rfl) ?_; clear hp; intro b w1 hp; simp only [List.length_cons, List.length_nil, Nat.reduceAdd] at hp)); simp only [put_some, put_none, List.set_cons_succ, List.set_cons_zero]))
      refine wp_region_keeps [_, _] (Keeps.two hp.drew at0 at1) [] [(0, true), (1, true), (2, true), (3, true), (4, true), (7, true), (8, true), (5, false), (6, true), (9, true), (10, false), (11, false)] (by kernel_rfl) (by kernel_rfl) rfl (by kernel_rfl) (fun _ _ d _ _ h => by cases d <;> exact h) ?_
      replace hp := hp.drew
      repeat' (with_reducible refine plan_is ?_); first | (with_reducible refine plan_nil ?_) | ((with_reducible refine plan_t ?_); refine plan_tk rfl ?_; (first | ((with_reducible refine tk_mv _ rfl ?_); refine tM rfl ?_) | ((with_reducible refine tk_ld _ _ rfl ?_); refine tO rfl (slot_tmp rfl) cell3 aa5 ?_) | refine tG (fun w _ => (by go_simp; try rfl)) ?_); try simp only [put_some, put_none, eval_tmp, eval_const, List.set_cons_succ, List.set_cons_zero, List.getD_cons_succ, List.getD_cons_zero, wrap_eq]) | (refine plan_do rfl (fun K hK => ?_); go_wp2_with (first | (go_at_call 71; (with_reducible refine (size71 _ h8n _).mono ?_); rintro e w' ⟨rfl, rfl⟩) | (go_at_call 121; (with_reducible refine (with121 out a5 k5 hol1 _ _ _ (KO.out.at hp (by intro p hp2; simp [hp2]))).mono ?_); rintro e w1 ⟨v2, RO2, rfl, hro, hpo⟩; replace hp := hp.join hpo; have HRO2 := Lib.hid hro; clear hro hpo; simp only [List.cons_append, List.nil_append] at hp) | go_skip); (refine hK.out _ _ (.inr (Keeps.two hp aa5 aa5)) ?_); clear hK K; try simp only [put_some, put_none, eval_tmp, eval_const, List.set_cons_succ, List.set_cons_zero, List.getD_cons_succ, List.getD_cons_zero, wrap_eq])
      go_wp2_with (first | go_skip | ((first | ((with_reducible refine pre_alloc _ rfl ?_); refine lZ hp rfl zero64 ?_; clear hp; intro b w1 hp) | ((with_reducible refine pre_box _ _ rfl ?_); refine lB hp rfl (slot_tmp rfl) rfl ?_; clear hp; intro b w1 hp) | ((with_reducible refine pre_load _ _ rfl ?_); first | refine lO hp rfl (slot_tmp rfl) ceRT0 aa5 ?_ | refine lA hp rfl (slot_tmp rfl) agg64 aa5 ?_) | ((with_reducible refine pre_store _ _ _ rfl ?_); (first | refine sO hp rfl (slot_tmp rfl) ceRT0 aa5 ?_ | refine sA hp rfl (slot_tmp rfl) (slot_tmp rfl) agg64 aa5 ?_ | refine sG hp rfl (slot_tmp rfl) (slot_tmp rfl) agg64 aa5 ?_); clear hp; intro w1 hp; simp only [spl, List.set_cons_zero, List.set_cons_succ] at hp) | ((with_reducible refine pre_build _ _ _ rfl ?_); refine lS hp rfl (by intro w; go_simp; rfl) ?_; clear hp; intro b w1 hp; simp only [List.length_cons, List.length_nil, Nat.reduceAdd] at hp)); simp only [put_some, put_none, List.set_cons_succ, List.set_cons_zero]))
      go_roundg nk
      case measure => have := HNK.out; omega
      case rel =>
        refine ⟨nco, withL out ⟨q, nco⟩, RO2, RO ++ M, HCN, HSN, HLM, HRO2, ?_⟩
        have h := hp
        rw [EW1.out] at h
        exact h.reorder (List.Perm.cons _ (List.Perm.cons _ (by first | exact List.perm_append_comm | (rw [List.append_assoc]; exact List.perm_append_comm) | (simp only [List.append_assoc]; exact (List.perm_append_comm (l₁ := RO ++ M)).trans (by simp)))))
end Go.Proofs.YtppdjlgjcdmiaaaGreat

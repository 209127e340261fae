import Derived.Test.YtcjbepaclbhjaaaTjQE
import Derived.Test.YtcjbepaclbhjaaaTjQB
import Derived.Test.YtcjbepaclbhjaaaTjQA
/- The walk of buddy.Give. -/
set_option linter.unusedSimpArgs false
set_option linter.unusedVariables false
namespace Go.Proofs.Ytcjbepaclbhjaaa
open Go.RowKit
theorem ceGW0 {ty : TypeId} (h : cellB Try.prog ty = true := by with_reducible first | exact cell3 | exact cell4 | exact cell25 | exact cell28) : cellB Try.prog ty = true := h
def GiveOk (w : World) (s : List Bl) (e : Ending) (w' : World) : Prop := ∃ (a : Option Addr) (k : Nat) (R : List Blk), e = .returned (.tuple #[.slice a s.length k, .int .i64 0]) ∧ OwnRow 45 2 (.slice a s.length k) s.length (s.flatMap blV) R ∧ Hp w.heap.size w w' R
theorem RowIs.box {w : World} {b : Nat} {q r : Int} (h : RowIs w (some ⟨b, 0, none⟩) [.int .i64 q, .int .i64 r]) : BoxIs w b q r := fun j v hj => by
  obtain ⟨b', off', he, hc⟩ := h j v hj
  injection he with he; injection he with e1 e2; subst e1; subst e2; exact hc
theorem good_in {od : Int} {l : List Bl} (h8 : od ≤ 8) (h : Good od l) : ∀ x ∈ l, InB x.p x.o := fun x hx => by
  obtain ⟨i, hi, rfl⟩ := List.getElem_of_mem hx
  obtain ⟨a, b, c, d, _⟩ := may_facts h8 (h i _ (List.getElem?_eq_getElem hi)).1
  exact ⟨a, b, c, d⟩
theorem Hp.subG {B : Nat} {w0 w : World} {L L' : List Blk} (hp : Hp B w0 w L) (h : L'.Sublist L) : Hp B w0 w L' :=
  ⟨hp.below, hp.size, (h.map _).nodup hp.nodup, fun p hpL => hp.own p (h.subset hpL)⟩
theorem OwnRow.cons2 {e : TypeId} {c n : Nat} {v : Value} {xs : List Value} {R : List Blk} (h : OwnRow e c v (n + 1) xs R) : ∃ g cap, v = .slice (some ⟨g, 0, none⟩) (n + 1) cap ∧ n + 1 ≤ cap ∧ cap ≤ maxLen ∧ R = [⟨g, xs, e, cap * c⟩] := by
  obtain ⟨_, ⟨h0, _⟩ | h⟩ := h
  · omega
  · exact h
theorem IndexP.no {l : List Bl} {v : Bl} {r : Int} (h : IndexP l v r) (hn : v ∉ l) : r = -1 := by
  rcases h with ⟨h, _⟩ | ⟨j, _, hj⟩
  · exact h
  · exact absurd (List.mem_of_getElem? hj) hn
theorem IndexP.yes {l : List Bl} {v : Bl} {r : Int} (h : IndexP l v r) (hn : v ∈ l) : ∃ j : Nat, r = j ∧ l[j]? = some v := by
  rcases h with ⟨_, h⟩ | h
  · exact absurd hn h
  · exact h
theorem insL_bl {l : List Bl} {b : Bl} {k : Nat} : insL 2 (l.flatMap blV) (blV b) k = (l.take k ++ b :: l.drop k).flatMap blV := by
  have h1 := flat_drop 2 blV_len l k
  unfold insL
  rw [h1, List.flatMap_append, List.flatMap_cons]
  congr 1
  have h2 : l.flatMap blV = (l.take k).flatMap blV ++ (l.drop k).flatMap blV := by rw [← List.flatMap_append, List.take_append_drop]
  rcases Nat.le_total k l.length with h | h
  · have h3 : ((l.take k).flatMap blV).length = k * 2 := by rw [lit_len, List.length_take, Nat.min_eq_left h]
    rw [h2, ← h3, List.take_left]
  · rw [List.take_of_length_le h, List.take_of_length_le (by rw [lit_len]; omega)]
def GiveRel (od : Int) (fs : List Bl) (b0 : Bl) (k : Nat) (l : List Bl) (b : Bl) : Prop := GiveAt od l b ∧ giveF od (od - b0.o).toNat fs b0 = giveF od k l b ∧ l.length ≤ 600 ∧ k = (od - b.o).toNat
theorem GiveRel.done {od : Int} {fs : List Bl} {b0 b : Bl} {k : Nat} {l : List Bl} (h : GiveRel od fs b0 k l b) (hn : ¬ (b.o < od ∧ twinP b ∈ l)) {i : Nat} (hi : AtB l b.p i) : l.take i ++ b :: l.drop i = givenL od fs b0 := by
  rw [withL_at hi h.1.ne]
  unfold givenL
  rw [h.2.1, giveF_no hn]
theorem GiveRel.go {od : Int} {fs : List Bl} {b0 b : Bl} {k : Nat} {l : List Bl} (h : GiveRel od fs b0 k l b) (h8 : od ≤ 8) (h1 : b.o < od) (h2 : twinP b ∈ l) {j : Nat} (hj : l[j]? = some (twinP b)) : 0 < k ∧ GiveRel od fs b0 (k - 1) (l.eraseIdx j) (mergeB b) := by
  obtain ⟨g1, g2, g3, g4⟩ := h
  have hk : 0 < k := by omega
  refine ⟨hk, ?_⟩
  rw [erase_without g1.disj.sorted.nodup hj]
  refine ⟨g1.step h8 h1 h2, ?_, ?_, ?_⟩
  · rw [g2]
    obtain ⟨m, rfl⟩ : ∃ m, k = m + 1 := ⟨k - 1, by omega⟩
    rw [giveF_go h1 h2]; rfl
  · have := (without_sub l (twinP b)).length_le; omega
  · unfold mergeB; simp only; omega
theorem ins_in {B : Nat} {w0 w : World} {x y : Blk} {R : List Blk} (hp : Hp B w0 w (x :: y :: R)) : Hp B w0 w (x :: (R ++ [y])) := hp.reorder (List.Perm.cons _ ((List.perm_append_comm (l₁ := [y]) (l₂ := R))))
theorem del181 {B : Nat} {w0 w : World} {x : Blk} {g cap : Nat} {l : List Bl} {M : List Blk} (hp : Hp B w0 w (x :: ⟨g, l.flatMap blV, 45, cap * 2⟩ :: M)) (hl : l.length ≤ 1000) (hcap : l.length ≤ cap) {i m : Nat} (hm : l.length = m + 1) (hi : i < l.length) :
    Calls Try.prog 81 #[.slice (some ⟨g, 0, none⟩) l.length cap, .int .i64 i, .int .i64 ((i : Int) + 1)] w (Deld B w0 g m cap ((l.eraseIdx i).flatMap blV) (x :: M)) := by
  have h := del81 (hp.reorder (List.Perm.swap _ _ _)) hl hcap (j := i + 1) rfl rfl hm hi
  rw [show ((i + 1 : Nat) : Int) = (i : Int) + 1 by omega] at h
  exact h
set_option maxRecDepth 100000 in
set_option maxHeartbeats 8000000 in
theorem give65_ok (order : Int) (fs : List Bl) (a : Option Addr) (c : Nat) (hl : fs.length ≤ 600) (p o : Int) (w : World) (ha : RowIs w a (fs.flatMap blV)) (hr : rightB order fs = true) (hm : mayB order p o = true) (hc : meetsB fs p o = false) : Calls Try.prog 65 #[.int .i64 order, .slice a fs.length c, .agg #[.int .i64 p, .int .i64 o]] w (GiveOk w (givenL order fs ⟨p, o⟩)) := by
  have hp := Hp.start w
  have HA := Lib.hid ha
  have HE : RowKit.Hid (errI (rightB order fs) = 0) := Lib.hid (by rw [hr]; rfl)
  have h2 := hr
  unfold rightB regionB at h2
  simp only [Bool.and_eq_true, decide_eq_true_eq] at h2
  obtain ⟨⟨g3, g8⟩, hg⟩ := h2
  have HIN := Lib.hid (good_in g8 hg)
  have HM := Lib.hid hm
  have HC := Lib.hid hc
  have HIB : RowKit.Hid (InB p o) := Lib.hid (by obtain ⟨a, b, c, d, _⟩ := may_facts g8 (mayB_may hm); exact ⟨a, b, c, d⟩)
  have HG0 : RowKit.Hid (GiveRel order fs ⟨p, o⟩ (order - o).toNat fs ⟨p, o⟩) := Lib.hid ⟨⟨hg.disj, mayB_may hm, fun x hx hmm => by
    have : meetsB fs p o = true := List.any_eq_true.2 ⟨x, hx, by obtain ⟨xp, xo⟩ := x; simpa [meetB, MeetP] using hmm⟩
    rw [hc] at this; cases this⟩, rfl, hl, rfl⟩
  clear ha hr hg hm hc
  go_enter Try.func65, Try.ntmps65
  go_wp2_with (first | (go_at_call 23; (with_reducible refine (check23 order fs a c hl _ (HA.out.below hp.below)).mono ?_); rintro e w1 ⟨rfl, hb⟩; rw [HE.out]; replace hp := hp.call hb; clear hb) | (go_at_call 38; (with_reducible refine (may38 order g3 g8 _ _ _).mono ?_); rintro e w1 ⟨rfl, hb⟩; rw [HM.out]; replace hp := hp.call hb; clear hb) | (go_at_call 72; (with_reducible refine (containsm72 fs a c hl p o HIN.out HIB.out _ _ (HA.out.below hp.below) (hp.lt (Hp.mem at0)).2 (hp.rowIs at0).box).mono ?_); rintro e w1 ⟨rfl, hb⟩; rw [HC.out]; replace hp := hp.call hb; clear hb) | (go_at_call 25; (with_reducible refine (clone25 a fs.length c (by omega) _ (lit_len fs) (blsOne fs) _ (HA.out.below hp.below)).mono ?_); rintro e w1 ⟨v8, R8, rfl, hr, hp2⟩; replace hp := hp.join hp2; have HR := Lib.hid hr; clear hr hp2; simp only [List.cons_append, List.nil_append] at hp) | go_skip | ((first | ((with_reducible refine pre_alloc _ rfl ?_); refine lZ hp rfl zero45 ?_; clear hp; intro b w1 hp) | ((with_reducible refine pre_box _ _ rfl ?_); refine lB hp rfl (slot_tmp rfl) rfl ?_; clear hp; intro b w1 hp) | ((with_reducible refine pre_load _ _ rfl ?_); first | refine lO hp rfl (slot_tmp rfl) ceGW0 aa5 ?_ | refine lA hp rfl (slot_tmp rfl) agg45 aa5 ?_) | ((with_reducible refine pre_store _ _ _ rfl ?_); (first | refine sO hp rfl (slot_tmp rfl) ceGW0 aa5 ?_ | refine sA hp rfl (slot_tmp rfl) (slot_tmp rfl) agg45 aa5 ?_ | refine sG hp rfl (slot_tmp rfl) (slot_tmp rfl) agg45 aa5 ?_); clear hp; intro w1 hp; simp only [spl, List.set_cons_zero, List.set_cons_succ] at hp) | ((with_reducible refine pre_build _ _ _ rfl ?_); refine lS hp rfl (by intro w; go_simp; rfl) ?_; clear hp; intro b w1 hp; simp only [List.length_cons, List.length_nil, Nat.reduceAdd] at hp)); simp only [put_some, put_none, List.set_cons_succ, List.set_cons_zero]))
  obtain ⟨b5, rfl⟩ := hp.id0
  go_loopg [8] (order - o).toNat (fun k v wr => ∃ (q s : Int) (l : List Bl) (R : List Blk), RowKit.Hid (GiveRel order fs ⟨p, o⟩ k l ⟨q, s⟩) ∧ RowKit.Hid (OwnRow 45 2 v l.length (l.flatMap blV) R) ∧ Hp w.heap.size w wr (⟨b5, [.int .i64 q, .int .i64 s], 45, 2⟩ :: R))
  case atStart => exact ⟨p, o, fs, R8, HG0, HR, hp⟩
  case round =>
    clear hp HR
    obtain ⟨q, s, l, R, HG, HR, hp⟩ := hrel
    have hl1 : l.length ≤ 1000 := by have := HG.out.2.2.1; omega
    obtain ⟨ki, hki⟩ := at_exB HG.out.1.disj.sorted q
    have HKI := Lib.hid hki
    have HKL : RowKit.Hid (ki ≤ l.length) := Lib.hid hki.1
    obtain ⟨m1, m2, m3, m4, m5, _⟩ := may_facts g8 HG.out.1.may
    clear hki
    by_cases ho : s < order
    · have e1 : decide (s < order) = true := decide_eq_true ho
      by_cases ht : twinP ⟨q, s⟩ ∈ l
      · have HYI : RowKit.Hid ((⟨twP q s, s⟩ : Bl) ∈ l) := Lib.hid (by rw [← twinP_eq]; exact ht)
        have HTI := Lib.hid ht
        have HSO := Lib.hid ho
        have hpos := List.length_pos_of_mem ht
        obtain ⟨nn, hnn⟩ : ∃ nn, l.length = nn + 1 := ⟨l.length - 1, by omega⟩
        have hrr := HR.out
        rw [hnn] at hrr
        obtain ⟨g, k8, rfl, hcap, hmax, rfl⟩ := hrr.cons2
        rw [← hnn] at hcap
        have HNN := Lib.hid hnn
        rw [← hnn]
        have HCAP := Lib.hid hcap
        have HMAX := Lib.hid hmax
        have ew : wrap64 (s + 1) = s + 1 := IntWalk.wrap64_in _ ⟨by omega, by omega⟩
        clear hrr hcap hmax hnn hpos ht ho
        obtain ⟨X, HMG, hX⟩ : ∃ X, RowKit.Hid (mergeB ⟨q, s⟩ = ⟨X, s + 1⟩) ∧ ((twP q s < q ∧ X = twP q s) ∨ (q ≤ twP q s ∧ X = q)) := by
          by_cases hlt : twP q s < q
          · exact ⟨_, Lib.hid (by unfold mergeB; rw [twinP_eq]; simp only; rw [show min q (twP q s) = twP q s by omega]), .inl ⟨hlt, rfl⟩⟩
          · exact ⟨_, Lib.hid (by unfold mergeB; rw [twinP_eq]; simp only; rw [show min q (twP q s) = q by omega]), .inr ⟨by omega, rfl⟩⟩
        rcases hX with ⟨hlt, rfl⟩ | ⟨hlt, rfl⟩
        all_goals
          go_wp2_with (first | (go_at_call 39; (with_reducible refine (twin39 _ _ m1 m2 m3 m4 m5 _).mono ?_); rintro e w1 ⟨rfl, hb⟩; replace hp := hp.call hb; clear hb) | (go_at_call 80; (with_reducible refine (idx80 l (some ⟨g, 0, none⟩) k8 hl1 _ _ _ (hp.rowIs at1)).mono ?_); rintro e w1 ⟨r, rfl, hidx, hb⟩; replace hp := hp.call hb; clear hb; obtain ⟨j, rfl, hj⟩ := hidx.yes HYI.out; have HJ := Lib.hid hj; have HXP := Lib.hid (flat_get blV 2 blV_len l j 0 _ _ hj rfl); have hjl := (List.getElem?_eq_some_iff.1 hj).1; obtain ⟨j1, hj1⟩ : ∃ j1, j1 = j + 1 := ⟨_, rfl⟩; have ej0 : decide ((j : Int) < 0) = false := (by simp); have ej1 : (0 : Int) ≤ (j : Int) := (by omega); have ej2 : (j : Int) < (l.length : Int) := (by omega); have ejw : wrap64 ((j : Int) + 1) = (j1 : Int) := (by rw [IntWalk.wrap64_in _ ⟨by omega, by omega⟩]; omega); have HJL := Lib.hid hjl; have HJ1 := Lib.hid hj1; clear hidx hj hjl hj1) | go_skip | ((first | ((with_reducible refine pre_alloc _ rfl ?_); refine lZ hp rfl zero45 ?_; clear hp; intro b w1 hp) | ((with_reducible refine pre_box _ _ rfl ?_); refine lB hp rfl (slot_tmp rfl) rfl ?_; clear hp; intro b w1 hp) | ((with_reducible refine pre_load _ _ rfl ?_); first | refine lO hp rfl (slot_tmp rfl) ceGW0 aa5 ?_ | refine lA hp rfl (slot_tmp rfl) agg45 aa5 ?_) | ((with_reducible refine pre_store _ _ _ rfl ?_); (first | refine sO hp rfl (slot_tmp rfl) ceGW0 aa5 ?_ | refine sA hp rfl (slot_tmp rfl) (slot_tmp rfl) agg45 aa5 ?_ | refine sG hp rfl (slot_tmp rfl) (slot_tmp rfl) agg45 aa5 ?_); clear hp; intro w1 hp; simp only [spl, List.set_cons_zero, List.set_cons_succ] at hp) | ((with_reducible refine pre_build _ _ _ rfl ?_); refine lS hp rfl (by intro w; go_simp; rfl) ?_; clear hp; intro b w1 hp; simp only [List.length_cons, List.length_nil, Nat.reduceAdd] at hp)); simp only [put_some, put_none, List.set_cons_succ, List.set_cons_zero]))
          refine wp_region_keeps [_, _] (Keeps.two hp.drew at0 at1) [12] [(0, true), (1, true), (2, true), (3, true), (4, true), (5, true), (6, true), (7, true), (8, true), (9, true), (10, true), (11, true), (12, false)] (by kernel_rfl) (by kernel_rfl) rfl (by kernel_rfl) (fun _ _ d _ _ h => by cases d <;> exact h) ?_
          replace hp := hp.drew
          repeat' (with_reducible refine plan_is ?_); first | (with_reducible refine plan_nil ?_) | ((with_reducible refine plan_t ?_); refine plan_tk rfl ?_; (first | ((with_reducible refine tk_mv _ rfl ?_); refine tM rfl ?_) | ((with_reducible refine tk_ld _ _ rfl ?_); first | refine tL rfl (slot_tmp rfl) (fun w hS => hS.loadOne cell3 at1 _ _ HXP.out) ?_ | refine tO rfl (slot_tmp rfl) cell3 aa5 ?_) | refine tG (fun w _ => (by go_simp; try rfl)) ?_); try simp only [put_some, put_none, eval_tmp, eval_const, List.set_cons_succ, List.set_cons_zero, List.getD_cons_succ, List.getD_cons_zero, wrap_eq]) | (refine plan_do rfl (fun K hK => ?_); go_wp2_with (first | go_skip | (((with_reducible refine pre_store _ _ _ rfl ?_); (first | refine sO hp rfl (slot_tmp rfl) ceGW0 aa5 ?_ | refine sA hp rfl (slot_tmp rfl) (slot_tmp rfl) agg45 aa5 ?_ | refine sG hp rfl (slot_tmp rfl) (slot_tmp rfl) agg45 aa5 ?_); clear hp; intro w1 hp; simp only [spl, List.set_cons_zero, List.set_cons_succ] at hp); simp only [put_some, put_none, List.set_cons_succ, List.set_cons_zero])); (first | refine hK.out _ _ (.inl rfl) ?_ | refine hK.out _ _ (.inr (Keeps.two hp aa5 aa5)) ?_); clear hK K; try simp only [put_some, put_none, eval_tmp, eval_const, List.set_cons_succ, List.set_cons_zero, List.getD_cons_succ, List.getD_cons_zero, wrap_eq])
          go_wp2_with (first | (go_at_call 81; (with_reducible refine (del181 hp hl1 HCAP.out HNN.out HJL.out).mono ?_); clear hp; rintro e w1 ⟨rfl, hp⟩) | go_skip | ((first | ((with_reducible refine pre_alloc _ rfl ?_); refine lZ hp rfl zero45 ?_; clear hp; intro b w1 hp) | ((with_reducible refine pre_box _ _ rfl ?_); refine lB hp rfl (slot_tmp rfl) rfl ?_; clear hp; intro b w1 hp) | ((with_reducible refine pre_load _ _ rfl ?_); first | refine lO hp rfl (slot_tmp rfl) ceGW0 aa5 ?_ | refine lA hp rfl (slot_tmp rfl) agg45 aa5 ?_) | ((with_reducible refine pre_store _ _ _ rfl ?_); (first | refine sO hp rfl (slot_tmp rfl) ceGW0 aa5 ?_ | refine sA hp rfl (slot_tmp rfl) (slot_tmp rfl) agg45 aa5 ?_ | refine sG hp rfl (slot_tmp rfl) (slot_tmp rfl) agg45 aa5 ?_); clear hp; intro w1 hp; simp only [spl, List.set_cons_zero, List.set_cons_succ] at hp) | ((with_reducible refine pre_build _ _ _ rfl ?_); refine lS hp rfl (by intro w; go_simp; rfl) ?_; clear hp; intro b w1 hp; simp only [List.length_cons, List.length_nil, Nat.reduceAdd] at hp)); simp only [put_some, put_none, List.set_cons_succ, List.set_cons_zero]))
          go_roundg (gk - 1)
          case measure => have := (HG.out.go g8 HSO.out HTI.out (by rw [twinP_eq]; exact HJ.out)).1; omega
          case rel =>
            have hgo := (HG.out.go g8 HSO.out HTI.out (by rw [twinP_eq]; exact HJ.out)).2
            rw [HMG.out] at hgo
            have hel : (l.eraseIdx j).length = nn := by rw [List.length_eraseIdx_of_lt HJL.out]; have := HNN.out; omega
            refine ⟨_, _, l.eraseIdx j, [⟨g, (l.eraseIdx j).flatMap blV, 45, k8 * 2⟩], Lib.hid hgo, Lib.hid ⟨by rw [lit_len], .inr ⟨g, k8, ?_, ?_, HMAX.out, rfl⟩⟩, ?_⟩
            · rw [hel]
            · rw [hel]; have := HCAP.out; have := HNN.out; omega
            · first | exact hp.reorder (List.Perm.swap _ _ _) | (have h := hp; rw [Int.min_eq_left (by omega)] at h; exact h.reorder (List.Perm.swap _ _ _)) | (have h := hp; rw [Int.min_eq_right (by omega)] at h; exact h.reorder (List.Perm.swap _ _ _)) | (have h := hp; rw [if_neg (by omega)] at h; exact h.reorder (List.Perm.swap _ _ _)) | (have h := hp; rw [if_pos (by omega)] at h; exact h.reorder (List.Perm.swap _ _ _))
      · have HDN : RowKit.Hid (l.take ki ++ ⟨q, s⟩ :: l.drop ki = givenL order fs ⟨p, o⟩) := Lib.hid (HG.out.done (fun h => ht h.2) HKI.out)
        have HNI : RowKit.Hid ((⟨twP q s, s⟩ : Bl) ∉ l) := Lib.hid (by rw [← twinP_eq]; exact ht)
        obtain ⟨a8, k8, rfl, kr⟩ := HR.out.kept
        have KR := Lib.hid kr
        clear kr ht ho
        go_wp2_with (first | (go_at_call 39; (with_reducible refine (twin39 _ _ m1 m2 m3 m4 m5 _).mono ?_); rintro e w1 ⟨rfl, hb⟩; replace hp := hp.call hb; clear hb) | (go_at_call 80; (with_reducible refine (idx80 l a8 k8 hl1 _ _ _ (KR.out.at hp (by intro p hp2; simp [hp2]))).mono ?_); rintro e w1 ⟨r, rfl, hidx, hb⟩; replace hp := hp.call hb; clear hb; obtain rfl := hidx.no HNI.out; clear hidx) | (go_at_call 82; (with_reducible refine (bs82 l a8 k8 hl1 q ki HKI.out _ (KR.out.at hp (by intro p hp2; simp [hp2]))).mono ?_); rintro e w1 ⟨rfl, hb⟩; replace hp := hp.call hb; clear hb) | (go_at_call 84; (with_reducible refine (ins84 l.length ki hl1 HKL.out (l.flatMap blV) (.slice a8 l.length k8) [.int .i64 q, .int .i64 s] rfl rfl (blsOne l) _ _ _ HR.out (ins_in hp)).mono ?_); clear hp; rintro e w1 ⟨v9, R9, rfl, hr9, hp⟩; have HR9 := Lib.hid hr9; clear hr9) | go_skip | ((first | ((with_reducible refine pre_alloc _ rfl ?_); refine lZ hp rfl zero45 ?_; clear hp; intro b w1 hp) | ((with_reducible refine pre_box _ _ rfl ?_); refine lB hp rfl (slot_tmp rfl) rfl ?_; clear hp; intro b w1 hp) | ((with_reducible refine pre_load _ _ rfl ?_); first | refine lO hp rfl (slot_tmp rfl) ceGW0 aa5 ?_ | refine lA hp rfl (slot_tmp rfl) agg45 aa5 ?_) | ((with_reducible refine pre_store _ _ _ rfl ?_); (first | refine sO hp rfl (slot_tmp rfl) ceGW0 aa5 ?_ | refine sA hp rfl (slot_tmp rfl) (slot_tmp rfl) agg45 aa5 ?_ | refine sG hp rfl (slot_tmp rfl) (slot_tmp rfl) agg45 aa5 ?_); clear hp; intro w1 hp; simp only [spl, List.set_cons_zero, List.set_cons_succ] at hp) | ((with_reducible refine pre_build _ _ _ rfl ?_); refine lS hp rfl (by intro w; go_simp; rfl) ?_; clear hp; intro b w1 hp; simp only [List.length_cons, List.length_nil, Nat.reduceAdd] at hp)); simp only [put_some, put_none, List.set_cons_succ, List.set_cons_zero]))
        obtain ⟨a9, k9, rfl, _⟩ := HR9.out.kept
        go_ret2
        have hlen : (givenL order fs ⟨p, o⟩).length = l.length + 1 := by
          rw [← HDN.out]; have := HKL.out; simp; omega
        refine ⟨a9, k9, R9, by rw [hlen]; rfl, ?_, hp.subG (List.sublist_append_left _ _)⟩
        rw [hlen, ← HDN.out, ← insL_bl]; exact HR9.out
    · have e1 : decide (s < order) = false := decide_eq_false ho
      have HDN : RowKit.Hid (l.take ki ++ ⟨q, s⟩ :: l.drop ki = givenL order fs ⟨p, o⟩) := Lib.hid (HG.out.done (fun h => ho h.1) HKI.out)
      obtain ⟨a8, k8, rfl, kr⟩ := HR.out.kept
      have KR := Lib.hid kr
      clear kr ho
      go_wp2_with (first | (go_at_call 82; (with_reducible refine (bs82 l a8 k8 hl1 q ki HKI.out _ (KR.out.at hp (by intro p hp2; simp [hp2]))).mono ?_); rintro e w1 ⟨rfl, hb⟩; replace hp := hp.call hb; clear hb) | (go_at_call 84; (with_reducible refine (ins84 l.length ki hl1 HKL.out (l.flatMap blV) (.slice a8 l.length k8) [.int .i64 q, .int .i64 s] rfl rfl (blsOne l) _ _ _ HR.out (ins_in hp)).mono ?_); clear hp; rintro e w1 ⟨v9, R9, rfl, hr9, hp⟩; have HR9 := Lib.hid hr9; clear hr9) | go_skip | ((first | ((with_reducible refine pre_alloc _ rfl ?_); refine lZ hp rfl zero45 ?_; clear hp; intro b w1 hp) | ((with_reducible refine pre_box _ _ rfl ?_); refine lB hp rfl (slot_tmp rfl) rfl ?_; clear hp; intro b w1 hp) | ((with_reducible refine pre_load _ _ rfl ?_); first | refine lO hp rfl (slot_tmp rfl) ceGW0 aa5 ?_ | refine lA hp rfl (slot_tmp rfl) agg45 aa5 ?_) | ((with_reducible refine pre_store _ _ _ rfl ?_); (first | refine sO hp rfl (slot_tmp rfl) ceGW0 aa5 ?_ | refine sA hp rfl (slot_tmp rfl) (slot_tmp rfl) agg45 aa5 ?_ | refine sG hp rfl (slot_tmp rfl) (slot_tmp rfl) agg45 aa5 ?_); clear hp; intro w1 hp; simp only [spl, List.set_cons_zero, List.set_cons_succ] at hp) | ((with_reducible refine pre_build _ _ _ rfl ?_); refine lS hp rfl (by intro w; go_simp; rfl) ?_; clear hp; intro b w1 hp; simp only [List.length_cons, List.length_nil, Nat.reduceAdd] at hp)); simp only [put_some, put_none, List.set_cons_succ, List.set_cons_zero]))
      obtain ⟨a9, k9, rfl, _⟩ := HR9.out.kept
      go_ret2
      have hlen : (givenL order fs ⟨p, o⟩).length = l.length + 1 := by
            rw [← HDN.out]; have := HKL.out; simp; omega
      refine ⟨a9, k9, R9, by rw [hlen]; rfl, ?_, hp.subG (List.sublist_append_left _ _)⟩
      rw [hlen, ← HDN.out, ← insL_bl]; exact HR9.out
def RowAt (w : World) (M : List Blk) (a : Option Addr) (xs : List Value) : Prop := ∀ (w1 : World) (L : List Blk), Hp w.heap.size w w1 L → (∀ p ∈ M, p ∈ L) → RowIs w1 a xs
theorem RowAt.at {w w1 : World} {M L : List Blk} {a : Option Addr} {xs : List Value} (h : RowAt w M a xs) (hp : Hp w.heap.size w w1 L) (hm : ∀ p ∈ M, p ∈ L) : RowIs w1 a xs := h w1 L hp hm
end Go.Proofs.Ytcjbepaclbhjaaa

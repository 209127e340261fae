/- Parts of the proof. -/
import Derived.Test.YtcjbepaclbhjaaaGreatCl22
import Derived.Test.YtcjbepaclbhjaaaGreatCl0
import Derived.Test.YtcjbepaclbhjaaaGreatCl2
open List renaming set_cons_zero → zSet, set_cons_succ → sSet
/- Votes as values, and rows of them. -/
set_option linter.unusedSimpArgs false
set_option linter.unusedVariables false
namespace Go.Proofs.YtcjbepaclbhjaaaGreat
open Go.RowKit
theorem ceCVa0 {ty : TypeId} (h : cellB Tryz.prog ty = true := by with_reducible first | exact cell3 | exact cell4 | exact cell22) : cellB Tryz.prog ty = true := h
theorem agg27 : aggB Tryz.prog 27 6 = true := by kernel_rfl
theorem cell25 : cellB Tryz.prog 25 = true := by kernel_rfl
theorem zero27 : zeroL Tryz.prog 27 = some ([.int .i64 0, .int .i64 0, .int .i64 0, .int .i64 0, .int .i64 0, .slice none 0 0], 6) := by kernel_rfl
theorem info27 : (Tryz.prog.info? 27).map (fun i => (i.zero, i.size, i.bytes)) = some (some (.agg #[.int .i64 0, .int .i64 0, .int .i64 0, .int .i64 0, .int .i64 0, .slice none 0 0]), 6, 64) := by kernel_rfl
structure Vt where
  nd : Int
  nm : Int
  bs : Int
  nu : Int
  cm : Int
  a : Option Addr
  es : List Env
  c : Nat
def vtV (v : Vt) : List Value := [.int .i64 v.nd, .int .i64 v.nm, .int .i64 v.bs, .int .i64 v.nu, .int .i64 v.cm, .slice v.a v.es.length v.c]
theorem vtV_len (v : Vt) : (vtV v).length = 6 := rfl
theorem vts_one (l : List Vt) : (l.flatMap vtV).all (·.oneCell') = true := by
  rw [List.all_flatMap]; exact List.all_eq_true.2 fun x _ => rfl
def Vt.Is (w : World) (v : Vt) : Prop := RowIs w v.a (v.es.flatMap envL)
theorem Vt.Is.below {w w' : World} {v : Vt} (h : v.Is w) (hb : Below w.heap.size w w') : v.Is w' := RowIs.below h hb
def Vt.Sm (x y : Vt) : Prop := x.nd = y.nd ∧ x.nm = y.nm ∧ x.bs = y.bs ∧ x.nu = y.nu ∧ x.cm = y.cm ∧ x.es = y.es
theorem Vt.Sm.refl (x : Vt) : x.Sm x := ⟨rfl, rfl, rfl, rfl, rfl, rfl⟩
theorem Vt.Sm.symm {x y : Vt} (h : x.Sm y) : y.Sm x := by
  obtain ⟨h1, h2, h3, h4, h5, h6⟩ := h
  exact ⟨h1.symm, h2.symm, h3.symm, h4.symm, h5.symm, h6.symm⟩
theorem Vt.Sm.trans {x y z : Vt} (h : x.Sm y) (k : y.Sm z) : x.Sm z := by
  obtain ⟨h1, h2, h3, h4, h5, h6⟩ := h
  obtain ⟨k1, k2, k3, k4, k5, k6⟩ := k
  exact ⟨h1.trans k1, h2.trans k2, h3.trans k3, h4.trans k4, h5.trans k5, h6.trans k6⟩
def VtsSm (l k : List Vt) : Prop := l.length = k.length ∧ ∀ (i : Nat) a b, l[i]? = some a → k[i]? = some b → a.Sm b
theorem VtsSm.snoc {l k : List Vt} {x y : Vt} (h : VtsSm l k) (hxy : x.Sm y) : VtsSm (l ++ [x]) (k ++ [y]) := by
  refine ⟨by rw [List.length_append, List.length_append, h.1]; rfl, fun i a b ha hb => ?_⟩
  by_cases hi : i < l.length
  · rw [List.getElem?_append_left hi] at ha
    rw [List.getElem?_append_left (by rw [← h.1]; exact hi)] at hb
    exact h.2 i a b ha hb
  · have h1 := (List.getElem?_eq_some_iff.1 ha).1
    rw [List.length_append, List.length_singleton] at h1
    have hq : i = l.length := by omega
    subst hq
    rw [List.getElem?_append_right (Nat.le_refl _), Nat.sub_self] at ha
    rw [List.getElem?_append_right (by rw [h.1]; exact Nat.le_refl _), h.1, Nat.sub_self] at hb
    simp at ha hb
    subst ha hb
    exact hxy
def OwnVs : List Vt → List Blk → Prop
  | [], _ => True
  | y :: ys, M => ∃ R M', OwnRow 47 11 (.slice y.a y.es.length y.c) y.es.length (y.es.flatMap envL) R ∧ M.Perm (R ++ M') ∧ OwnVs ys M'
theorem OwnVs.blk : ∀ {ys : List Vt} {M N : List Blk}, OwnVs ys M → M.Perm N → OwnVs ys N
  | [], _, _, _, _ => trivial
  | _ :: _, _, _, ⟨R, M', h1, h2, h3⟩, hp => ⟨R, M', h1, hp.symm.trans h2, h3⟩
theorem OwnVs.more : ∀ {ys : List Vt} {M : List Blk} (N : List Blk), OwnVs ys M → OwnVs ys (N ++ M)
  | [], _, _, _ => trivial
  | _ :: _, _, N, ⟨R, M', h1, h2, h3⟩ => ⟨R, N ++ M', h1, (List.Perm.append_left N h2).trans (by rw [← List.append_assoc, ← List.append_assoc]; exact List.Perm.append_right M' List.perm_append_comm), h3.more N⟩
theorem OwnVs.snoc : ∀ {ys : List Vt} {M R : List Blk} {y : Vt}, OwnVs ys M → OwnRow 47 11 (.slice y.a y.es.length y.c) y.es.length (y.es.flatMap envL) R → OwnVs (ys ++ [y]) (M ++ R)
  | [], _, R, _, _, hy => ⟨R, _, hy, List.perm_append_comm, trivial⟩
  | _ :: _, _, R, _, ⟨R0, M', h1, h2, h3⟩, hy => ⟨R0, M' ++ R, h1, (List.Perm.append_right R h2).trans (by rw [List.append_assoc]), h3.snoc hy⟩
theorem OwnVs.sub {zs ys : List Vt} (h : zs.Sublist ys) : ∀ {M : List Blk}, OwnVs ys M → OwnVs zs M := by
  induction h with
  | slnil => intro M h; exact h
  | cons a _ ih => rintro M ⟨R, M', _, h2, h3⟩; exact (ih (h3.more R)).blk h2.symm
  | cons_cons a _ ih => rintro M ⟨R, M', h1, h2, h3⟩; exact ⟨R, M', h1, h2, ih h3⟩
theorem OwnVs.perm {zs ys : List Vt} (h : ys.Perm zs) : ∀ {M : List Blk}, OwnVs ys M → OwnVs zs M := by
  induction h with
  | nil => intro M h; exact h
  | cons a _ ih => rintro M ⟨R, M', h1, h2, h3⟩; exact ⟨R, M', h1, h2, ih h3⟩
  | swap a b l =>
    rintro M ⟨R, M', h1, h2, R2, M2, h3, h4, h5⟩
    refine ⟨R2, R ++ M2, h3, (h2.trans (List.Perm.append_left R h4)).trans ?_, R, M2, h1, List.Perm.refl _, h5⟩
    rw [← List.append_assoc, ← List.append_assoc]
    exact List.Perm.append_right M2 List.perm_append_comm
  | trans _ _ h1 h2 => intro M h; exact h2 (h1 h)
theorem OwnVs.kept : ∀ {ys : List Vt} {M : List Blk}, OwnVs ys M → Kept M fun w => ∀ y ∈ ys, y.Is w
  | [], M, _ => Kept.none_ (fun _ y hy => by cases hy) M
  | y :: ys, M, ⟨R, M', h1, h2, h3⟩ => fun B w0 w L hp hm z hz => by
    rcases List.mem_cons.1 hz with rfl | hz
    · obtain ⟨a, k, hv, hk⟩ := h1.kept
      injection hv with hv _ _
      subst hv
      exact hk B w0 w L hp fun p hp2 => hm p (h2.mem_iff.2 (List.mem_append_left _ hp2))
    · exact h3.kept B w0 w L hp (fun p hp2 => hm p (h2.mem_iff.2 (List.mem_append_right _ hp2))) z hz
def OwnVtPost (w : World) (nd nm bs nu cm : Int) (es : List Env) (e : Ending) (w' : World) : Prop :=
  ∃ (a2 : Option Addr) (c2 : Nat) (R : List Blk), e = .returned (.agg #[.int .i64 nd, .int .i64 nm, .int .i64 bs, .int .i64 nu, .int .i64 cm, .slice a2 es.length c2]) ∧ OwnRow 47 11 (.slice a2 es.length c2) es.length (es.flatMap envL) R ∧ Hp w.heap.size w w' R
set_option maxRecDepth 100000 in
set_option maxHeartbeats 4000000 in
theorem own28 (nd nm bs nu cm : Int) (va : Option Addr) (es : List Env) (vc : Nat) (hl : es.length ≤ 100000) (w : World) (ha : RowIs w va (es.flatMap envL)) :
    Calls Tryz.prog 28 #[.agg #[.int .i64 nd, .int .i64 nm, .int .i64 bs, .int .i64 nu, .int .i64 cm, .slice va es.length vc]] w (OwnVtPost w nd nm bs nu cm es) := by
  have hp := Hp.start w
  have HA := Lib.hid ha
  have HFL : RowKit.Hid ((es.flatMap envL).length = es.length * 11) := Lib.hid (flat_len envL 11 envL_len11 es)
  have HONE : RowKit.Hid ((es.flatMap envL).all (·.oneCell') = true) := Lib.hid (by rw [List.all_flatMap]; exact List.all_eq_true.2 fun x _ => rfl)
  clear ha
  go_enter Tryz.func28, Tryz.ntmps28
  go_wp2_with (first | (go_at_call 60; (with_reducible refine (clone60 va es.length vc (by omega) _ HFL.out HONE.out _ (HA.out.below hp.below)).mono ?_); rintro e w1 ⟨v2, R2, rfl, hr2, hp2⟩; obtain ⟨a2, c2, rfl, _⟩ := hr2.kept; replace hp := hp.join hp2; have HK2 := Lib.hid hr2; clear hp2 hr2; simp only [List.cons_append, List.nil_append] at hp) | go_skip | ((first | ((with_reducible refine pre_alloc _ rfl ?_); refine lZ hp rfl zero27 ?_; clear hp; intro b w1 hp) | ((with_reducible refine pre_box _ _ rfl ?_); refine lB hp rfl (sTm rfl) rfl ?_; clear hp; intro b w1 hp) | ((with_reducible refine pre_load _ _ rfl ?_); first | refine lO hp rfl (sTm rfl) ceCVa0 aa5 ?_ | refine lA hp rfl (sTm rfl) agg27 aa5 ?_) | ((with_reducible refine pre_store _ _ _ rfl ?_); (first | refine sO hp rfl (sTm rfl) ceCVa0 aa5 ?_ | refine sA hp rfl (sTm rfl) (sTm rfl) agg27 aa5 ?_ | refine sG hp rfl (sTm rfl) (sTm rfl) agg27 aa5 ?_); clear hp; intro w1 hp; simp only [spl, zSet, sSet] at hp)); simp only [put_some, put_none, sSet, zSet]))
  exact bodyPost_ret (results_one (rs := [.cell 2 27]) Tryz.results28 (.cell rfl (hp.loadAgg agg27 at0 0 _ (by rfl) (by rfl)) .nil)) rfl ⟨a2, c2, R2, rfl, HK2.out, hp.kp⟩
end Go.Proofs.YtcjbepaclbhjaaaGreat
/- Votes that come in: the numbers of their entries are in range, and they have the capacity. -/
namespace Go.Proofs.YtcjbepaclbhjaaaGreat
open Go.RowKit Go.ChangeShapes Go.WideShapes Go.ChangeAt Go.Deep
section
variable {H : Type} {enc : TypeId × Value → H} {w : World} {base : Nat} {spare : Nat → Bool} {held : Bool} {cs : List Value}
def Vt.Fit (x : Vt) : Prop := x.es.length ≤ x.c ∧ ∀ e ∈ x.es, I64 e.nu
theorem reads_vote (h : Reads H enc Tryz.prog w base spare held 27 cs) : ∃ x : Vt, cs = vtV x ∧ (x.Is w ∧ x.Fit) := by
  obtain ⟨hl, hz⟩ := h.struct Tryz.underlying27
  rw [show Tryz.prog.cellsOf 27 = 6 by kernel_rfl] at hl
  match cs, hl with
  | [v0, v1, v2, v3, v4, v5], _ =>
    obtain ⟨a0, h0, _⟩ := (hz 0 _ rfl 0 1 rfl (by kernel_rfl)).int Tryz.underlying3
    obtain ⟨a1, h1, _⟩ := (hz 1 _ rfl 1 1 rfl (by kernel_rfl)).int Tryz.underlying3
    obtain ⟨a2, h2, _⟩ := (hz 2 _ rfl 2 1 rfl (by kernel_rfl)).int Tryz.underlying3
    obtain ⟨a3, h3, _⟩ := (hz 3 _ rfl 3 1 rfl (by kernel_rfl)).int Tryz.underlying3
    obtain ⟨a4, h4, _⟩ := (hz 4 _ rfl 4 1 rfl (by kernel_rfl)).int Tryz.underlying3
    have hr := hz 5 _ rfl 5 1 rfl (by kernel_rfl)
    obtain ⟨a, l0, c, h5, _, _⟩ := hr.slice envL (fun _ => True) 11 (by decide) envL_len11 Tryz.underlying22 (by kernel_rfl) (fun cs h => reads_entryK h)
    simp at h0 h1 h2 h3 h4 h5
    subst h0 h1 h2 h3 h4 h5
    obtain ⟨l, h8, h6, h7⟩ := reads_entriesC hr
    refine ⟨⟨a0, a1, a2, a3, a4, a, l, c⟩, ?_, h6, h8 ▸ h7.1, h7.2⟩
    simp only [vtV, h8]
theorem reads_votes {v : Value} (h : Reads H enc Tryz.prog w base spare held 25 [v]) : ∃ (a : Option Addr) (l : List Vt) (c : Nat), v = .slice a l.length c ∧ RowIs w a (l.flatMap vtV) ∧ ∀ x ∈ l, x.Is w ∧ x.Fit := by
  obtain ⟨a, l, c, h1, h2, h3⟩ := h.slice vtV (fun x => x.Is w ∧ x.Fit) 6 (by decide) vtV_len Tryz.underlying25 (by kernel_rfl) (fun cs h => reads_vote h)
  simp at h1
  exact ⟨a, l, c, h1, h2, h3⟩
end
end Go.Proofs.YtcjbepaclbhjaaaGreat
/- The walk of slices.Insert at votes (made from tab/YN). -/
namespace Go.Proofs.YtcjbepaclbhjaaaGreat
open Go.RowKit
theorem size27 : (Tryz.prog.info? 27).map (·.size) = some 6 := by kernel_rfl
def insLV (c : Nat) (xs news : List Value) (i : Nat) : List Value := xs.take (i * c) ++ (news ++ xs.drop (i * c))
def InsPostV (B : Nat) (w0 : World) (n : Nat) (xs : List Value) (M : List Blk) (e : Ending) (w' : World) : Prop := ∃ v' R', e = .returned v' ∧ OwnRow 27 6 v' n xs R' ∧ Hp B w0 w' (R' ++ M)
set_option maxRecDepth 100000 in
set_option maxHeartbeats 4000000 in
theorem ins44_end (n : Nat) (hn : n ≤ 1000) (xs : List Value) (v : Value) {B : Nat} {w0 w : World} {R M : List Blk} (news : List Value) (hnl : news.length = 6) (hn1 : news.all (·.oneCell') = true) (bv : Nat) (ev : TypeId) (mv : Nat) (hR : OwnRow 27 6 v n xs R) (hp : Hp B w0 w (⟨bv, news, ev, mv⟩ :: (R ++ M))) :
    Calls Tryz.prog 44 #[v, .int .i64 n, .slice (some ⟨bv, 0, none⟩) 1 1] w (InsPostV B w0 (n + 1) (insLV 6 xs news n) M) := by
  obtain ⟨i0, hi0, hz0, hz1, hz2⟩ := info_parts info27
  have HNL : RowKit.Hid (news.length = 1 * 6) := Lib.hid (by rw [hnl])
  have HN1 := Lib.hid hn1
  have HR := Lib.hid hR
  have hxl := hR.1
  have HI : RowKit.Hid (insLV 6 xs news n = xs ++ news) := Lib.hid (by unfold insLV; rw [List.take_of_length_le (by omega), List.drop_eq_nil_of_le (by omega), List.append_nil])
  have sm1 : n + 1 ≤ maxLen := by unfold maxLen; omega
  have sm2 : (n + 1) * 64 ≤ 140737488355328 := by omega
  rcases hR with ⟨_, ⟨h0, hv, hx, hr⟩ | ⟨g, cap, hv, hnc, hcm, hr⟩⟩
  · subst h0 hv hx hr
    clear hnl hn1 hxl
    go_enter Tryz.func44, Tryz.ntmps44
    go_wp2_with (first | ((with_reducible refine pre_append _ _ 25 rfl ?_); refine wpList_appendGrow (K := []) hp _ _ _ rfl wy i0 _ 64 Tryz.underlying25 hi0 hz0 hz1 hz2 rfl (by decide) (sTm rfl) HR.out 1 1 (sTm rfl) HNL.out (by decide) HN1.out sm1 sm2 ?_; clear hp; intro v' R' w1 hR' hp; have HR' := Lib.hid hR'; clear hR'; simp only [put_some, put_none, sSet, zSet]) | go_skip)
    go_ret
    exact ⟨v', R', rfl, by rw [HI.out]; exact HR'.out, hp⟩
  · subst hv hr
    clear hnl hn1 hxl
    go_enter Tryz.func44, Tryz.ntmps44
    go_wp2_with (first | ((with_reducible refine pre_append _ _ 25 rfl ?_); refine wpList_appendGrow (K := []) hp _ _ _ rfl wy i0 _ 64 Tryz.underlying25 hi0 hz0 hz1 hz2 rfl (by decide) (sTm rfl) HR.out 1 1 (sTm rfl) HNL.out (by decide) HN1.out sm1 sm2 ?_; clear hp; intro v' R' w1 hR' hp; have HR' := Lib.hid hR'; clear hR'; simp only [put_some, put_none, sSet, zSet]) | go_skip)
    all_goals
      go_ret
      exact ⟨v', R', rfl, by rw [HI.out]; exact HR'.out, hp⟩
theorem ins_lenV (n i : Nat) (hi : i ≤ n) (xs news : List Value) (hx : xs.length = n * 6) (hn : news.length = 1 * 6) : (insLV 6 xs news i).length = (n + 1) * 6 := by
  unfold insLV; rw [List.length_append, List.length_append, List.length_take, List.length_drop]; omega
theorem Hp.sub2V {B : Nat} {w0 w : World} {L : List Blk} {p q r : Blk} (hp : Hp B w0 w (p :: q :: r :: L)) : Hp B w0 w ([p] ++ L) := by
  have hs : List.Sublist (p :: L) (p :: q :: r :: L) := List.Sublist.cons_cons p ((List.sublist_cons_self r L).trans (List.sublist_cons_self q _))
  exact ⟨hp.below, hp.size, (hs.map _).nodup hp.nodup, fun x hx => hp.own x (hs.subset hx)⟩
theorem ins_aV (i : Nat) (xs zs news : List Value) (h : (xs.take (i * 6)).length = i * 6) : (xs.take (i * 6) ++ zs).take (i * 6) ++ (news ++ (xs.take (i * 6) ++ zs).drop (i * 6 + 1 * 6)) = xs.take (i * 6) ++ (news ++ zs.drop 6) := by
  generalize xs.take (i * 6) = ys at h ⊢
  rw [List.take_append_of_le_length (by omega), List.take_of_length_le (by omega), List.drop_append, List.drop_eq_nil_of_le (by omega), List.nil_append, h]
  congr 3; omega
theorem ins_bV (n i : Nat) (hi : i < n) (xs zs news : List Value) (hx : xs.length = n * 6) (hz : zs.length = (n + 1 - i) * 6) (hn : news.length = 1 * 6) :
    (xs.take (i * 6) ++ (news ++ zs.drop 6)).take ((i + 1) * 6) ++ (xs.drop (i * 6) ++ (xs.take (i * 6) ++ (news ++ zs.drop 6)).drop ((i + 1) * 6 + (n - i) * 6)) = insLV 6 xs news i := by
  have h : (xs.take (i * 6)).length = i * 6 := by rw [List.length_take]; omega
  unfold insLV
  generalize xs.take (i * 6) = ys at h ⊢
  have hl : (ys ++ (news ++ zs.drop 6)).length ≤ (i + 1) * 6 + (n - i) * 6 := by rw [List.length_append, List.length_append, List.length_drop]; omega
  rw [List.drop_eq_nil_of_le hl, List.append_nil, ← List.append_assoc, ← List.append_assoc, List.take_append_of_le_length (by rw [List.length_append]; omega), List.take_of_length_le (by rw [List.length_append]; omega)]
set_option maxRecDepth 100000 in
set_option maxHeartbeats 4000000 in
theorem ins44_grow (n i : Nat) (hn : n ≤ 1000) (hi : i < n) (xs : List Value) (hxl : xs.length = n * 6) (g cap : Nat) (hnc : n ≤ cap) (hcap : cap < n + 1) {B : Nat} {w0 w : World} {M : List Blk} (news : List Value) (hnl : news.length = 6) (hn1 : news.all (·.oneCell') = true) (hx1 : xs.all (·.oneCell') = true) (bv : Nat) (ev : TypeId) (mv : Nat) (hp : Hp B w0 w (⟨bv, news, ev, mv⟩ :: ⟨g, xs, 27, cap * 6⟩ :: M)) :
    Calls Tryz.prog 44 #[.slice (some ⟨g, 0, none⟩) n cap, .int .i64 i, .slice (some ⟨bv, 0, none⟩) 1 1] w (InsPostV B w0 (n + 1) (insLV 6 xs news i) M) := by
  obtain ⟨i0, hi0, hz0, hz1, hz2⟩ := info_parts info27
  have HNL : RowKit.Hid (news.length = 1 * 6) := Lib.hid (by rw [hnl])
  have HN1 := Lib.hid hn1
  have HX1 := Lib.hid hx1
  have HTL : RowKit.Hid ((xs.take (i * 6)).length = i * 6) := Lib.hid (by rw [List.length_take]; omega)
  have HTK : RowKit.Hid (∀ (j : Nat) u, (xs.take (i * 6))[j]? = some u → xs[j]? = some u) := Lib.hid (fun j u hj => by
    rw [List.getElem?_take] at hj
    split at hj
    · exact hj
    · cases hj)
  have HKZ : RowKit.Hid (((n : Int) + 1 - (i : Int)) = ((n + 1 - i : Nat) : Int)) := Lib.hid (by omega)
  have HSUM : RowKit.Hid (i + (n + 1 - i) = n + 1) := Lib.hid (by omega)
  have HMIN : RowKit.Hid (Nat.min 1 (n + 1 - i) = 1) := Lib.hid (Nat.min_eq_left (by omega))
  have k0 : 0 < n + 1 - i := by omega
  have kg : cap < i + (n + 1 - i) := by omega
  have k63 : i + (n + 1 - i) ≤ maxLen := by unfold maxLen; omega
  have kby : (i + (n + 1 - i)) * 64 ≤ 100000000 := by omega
  have f1 : (0 : Int) ≤ (i : Int) := by omega
  have f2 : (i : Int) ≤ (n : Int) := by omega
  have f3 : (i : Int) ≤ (cap : Int) := by omega
  have f4 : ((i : Int) == (n : Int)) = false := by simp; omega
  have f5 : (cap : Int) < (n : Int) + 1 := by omega
  have f6 : ¬ (cap = i) := by omega
  have HXL := Lib.hid hxl
  have HIL := Lib.hid (ins_lenV n i (by omega) xs news hxl (by rw [hnl]))
  clear hnl hn1 hx1 hxl
  go_enter Tryz.func44, Tryz.ntmps44
  go_wp2_with (first | (at_builtin; refine wpList_appendZeros hp _ _ 27 _ _ rfl wy Tryz.underlying25 .i64 Tryz.underlying3 i0 _ hi0 hz0 6 64 hz1 hz2 rfl (by decide) g i cap (sTm rfl) (xs.take (i * 6)) HTL.out (fun j u hj => hp.cell at1 (HTK.out j u hj)) _ (n + 1 - i) HKZ.out (sTm rfl) k0 kg k63 kby ?_; clear hp; intro g2 cap2 w1 hc2 hcm2 hp; rw [HSUM.out] at hc2 ⊢; generalize hzs : (Builtin.zeroCells _ (n + 1 - i)).toList = zs at hp; have HZL := Lib.hid (show zs.length = (n + 1 - i) * 6 by rw [← hzs, Array.length_toList, size_zeroCells]; rfl); clear hzs; have f7 : ¬ (cap2 = i) := (by omega); have f8 : ¬ (cap2 = i + 1) := (by omega); have f9 : (i : Int) ≤ (cap2 : Int) := (by omega); have HFIT : RowKit.Hid (i * 6 + 1 * 6 ≤ (xs.take (i * 6) ++ zs).length) := Lib.hid (by rw [List.length_append, HTL.out, HZL.out]; omega); simp only [put_some, put_none, sSet, zSet]) | ((with_reducible refine pre_copy _ _ _ _ rfl ?_); refine wpList_copyAt hp _ _ 27 _ _ rfl wy Tryz.underlying25 6 size27 g2 (i * 6) (n + 1 - i) (cap2 - i) (sTm rfl) bv 0 1 1 (sTm rfl) 0 _ _ at0 1 HMIN.out news HNL.out HFIT.out (fun j u hj => hp.cell at1 (by rw [Nat.zero_add]; exact hj)) HN1.out ?_; clear hp; intro v2 w1 hp; simp only [zSet] at hp; simp only [put_some, put_none, sSet, zSet]) | go_skip)
  have HL1 : RowKit.Hid ((xs.take (i * 6) ++ zs).take (i * 6) ++ (news ++ (xs.take (i * 6) ++ zs).drop (i * 6 + 1 * 6)) = xs.take (i * 6) ++ (news ++ zs.drop 6)) := Lib.hid (ins_aV i xs zs news HTL.out)
  rw [HL1.out] at hp
  have HMIN2 : RowKit.Hid (Nat.min (n - i) (n - i) = n - i) := Lib.hid (Nat.min_self _)
  have HDL : RowKit.Hid ((xs.drop (i * 6)).length = (n - i) * 6) := Lib.hid (by rw [List.length_drop, HXL.out]; omega)
  have HFIT2 : RowKit.Hid ((i + 1) * 6 + (n - i) * 6 ≤ (xs.take (i * 6) ++ (news ++ zs.drop 6)).length) := Lib.hid (by rw [List.length_append, List.length_append, List.length_drop, HTL.out, HNL.out, HZL.out]; omega)
  have HD1 : RowKit.Hid ((xs.drop (i * 6)).all (·.oneCell') = true) := Lib.hid (by rw [List.all_eq_true]; intro u hu; exact List.all_eq_true.1 HX1.out u (List.mem_of_mem_drop hu))
  have HDK : RowKit.Hid (∀ (j : Nat) u, (xs.drop (i * 6))[j]? = some u → xs[i * 6 + j]? = some u) := Lib.hid (fun j u hj => by rw [List.getElem?_drop] at hj; exact hj)
  have HW1 : RowKit.Hid (wrap64 ((i : Int) + 1) = (i : Int) + 1) := Lib.hid (by unfold wrap64; omega)
  have f10 : ((i : Int) + 1).toNat = i + 1 := by omega
  have f11 : (0 : Int) ≤ (i : Int) + 1 := by omega
  have f12 : (i : Int) + 1 ≤ (n : Int) + 1 := by omega
  refine wp_region_keeps _ (Keeps.all hp.drew) [8] [(0, true), (1, true), (2, true), (3, true), (4, true), (5, true), (6, true), (7, true), (8, false)] (by kernel_rfl) (by kernel_rfl) rfl (by kernel_rfl) (fun _ _ d _ _ h => by cases d <;> exact h) ?_
  replace hp := hp.drew
  repeat' (with_reducible refine plan_is ?_); first | (with_reducible refine plan_nil ?_) | ((with_reducible refine plan_t ?_); refine plan_tk rfl ?_; (first | ((with_reducible refine tk_mv _ rfl ?_); refine tM rfl ?_) | refine tG (fun w _ => (by go_simp; try rfl)) ?_); try simp only [put_some, put_none, eval_tmp, eval_const, sSet, zSet, List.getD_cons_succ, List.getD_cons_zero, wrap_eq, HW1.out]) | (refine plan_do rfl (fun K hK => ?_); go_wp2_with (((with_reducible refine pre_copy _ _ _ _ rfl ?_); refine wpList_copyAt hp _ _ 27 _ _ rfl wy Tryz.underlying25 6 size27 g2 ((i + 1) * 6) (n - i) (cap2 - (i + 1)) (sTm rfl) g (i * 6) (n - i) (cap - i) (sTm rfl) 0 _ _ at0 (n - i) HMIN2.out (xs.drop (i * 6)) HDL.out HFIT2.out (fun j u hj => hp.cell at2 (HDK.out j u hj)) HD1.out ?_; clear hp; intro v2 w1 hp; simp only [zSet] at hp; simp only [put_some, put_none, sSet, zSet])); (first | refine hK.out _ _ (.inl rfl) ?_ | refine hK.out _ _ (.inr (kall hp)) ?_); clear hK K; try simp only [put_some, put_none, eval_tmp, eval_const, sSet, zSet, List.getD_cons_succ, List.getD_cons_zero, wrap_eq, HW1.out])
  go_wp2_with fail
  go_ret
  refine ⟨_, [⟨g2, insLV 6 xs news i, 27, cap2 * 6⟩], rfl, ⟨HIL.out, .inr ⟨g2, cap2, rfl, hc2, hcm2, rfl⟩⟩, ?_⟩
  rw [ins_bV n i hi xs zs news HXL.out HZL.out HNL.out] at hp
  exact hp.sub2V
theorem over66 {B : Nat} {w0 w : World} {L : List Blk} {bv g ev mv nv cap od : Nat} {news l : List Value} {eg : TypeId} (hp : Hp B w0 w (⟨bv, news, ev, mv⟩ :: ⟨g, l, eg, nv⟩ :: L)) (hnv : nv ≠ 0) (lb cb : Nat) :
    (callFunc 66 #[.slice (some ⟨bv, 0, none⟩) 1 1, .slice (some ⟨g, od, none⟩) lb cb]).run Tryz.prog w = .ok (.value (.bool false)) w := by
  have hne : bv ≠ g := by
    have := hp.nodup
    simp only [List.map_cons, List.nodup_cons, List.mem_cons] at this
    exact fun h => this.1 (.inl h)
  rw [run_callFunc_extern Tryz.func66 (by kernel_rfl) (by kernel_rfl) (by kernel_rfl) (e := Extern.SlicesOverlaps.overlaps #[25, 25] #[4]) (by kernel_rfl),
    Lib.run_overlaps_apart w 25 4 27 Tryz.underlying25 6 (fun w => (run_isAgg_agg agg27 w).2) ⟨bv, 0, none⟩ ⟨g, od, none⟩ 1 1 lb cb hne ev eg mv nv (hp.shape at0) (hp.shape at1) hnv (hp.free at0 0) (hp.free at0 mv)]
  rfl
theorem ins_cV (n i : Nat) (hi : i < n) (xs l2 : List Value) (hx : xs.length = n * 6) (h2 : l2.length = 6) :
    (xs ++ l2).take ((i + 1) * 6) ++ (xs.drop (i * 6) ++ (xs ++ l2).drop ((i + 1) * 6 + (n - i) * 6)) = xs.take ((i + 1) * 6) ++ xs.drop (i * 6) := by
  generalize xs.drop (i * 6) = ds
  rw [List.take_append_of_le_length (by omega), List.drop_eq_nil_of_le (by rw [List.length_append]; omega), List.append_nil]
theorem ins_dV (n i : Nat) (hi : i < n) (xs news : List Value) (hx : xs.length = n * 6) :
    (xs.take ((i + 1) * 6) ++ xs.drop (i * 6)).take (i * 6) ++ (news ++ (xs.take ((i + 1) * 6) ++ xs.drop (i * 6)).drop (i * 6 + 1 * 6)) = insLV 6 xs news i := by
  unfold insLV
  rw [List.take_append_of_le_length (by rw [List.length_take]; omega), List.take_take, Nat.min_eq_left (by omega), List.drop_append, List.drop_eq_nil_of_le (by rw [List.length_take]; omega), List.nil_append, List.length_take, Nat.min_eq_left (by omega), show i * 6 + 1 * 6 - (i + 1) * 6 = 0 by omega, List.drop_zero]
set_option maxRecDepth 100000 in
set_option maxHeartbeats 4000000 in
theorem ins44_room (n i : Nat) (hn : n ≤ 1000) (hi : i < n) (xs : List Value) (hxl : xs.length = n * 6) (g cap : Nat) (hcm : cap ≤ maxLen) (hcap : n + 1 ≤ cap) {B : Nat} {w0 w : World} {M : List Blk} (news : List Value) (hnl : news.length = 6) (hn1 : news.all (·.oneCell') = true) (hx1 : xs.all (·.oneCell') = true) (bv : Nat) (ev : TypeId) (mv : Nat) (hp : Hp B w0 w (⟨bv, news, ev, mv⟩ :: ⟨g, xs, 27, cap * 6⟩ :: M)) :
    Calls Tryz.prog 44 #[.slice (some ⟨g, 0, none⟩) n cap, .int .i64 i, .slice (some ⟨bv, 0, none⟩) 1 1] w (InsPostV B w0 (n + 1) (insLV 6 xs news i) M) := by
  obtain ⟨l2, hl2, hp2⟩ := (hp.reorder (List.Perm.swap _ _ _)).more 6 (by omega)
  replace hp := hp2.reorder (List.Perm.swap _ _ _)
  clear hp2
  have HNL : RowKit.Hid (news.length = 1 * 6) := Lib.hid (by rw [hnl])
  have HN1 := Lib.hid hn1
  have HMIN : RowKit.Hid (Nat.min 1 (n + 1 - i) = 1) := Lib.hid (Nat.min_eq_left (by omega))
  have HMIN3 : RowKit.Hid (Nat.min (n + 1 - i) (n - i) = n - i) := Lib.hid (Nat.min_eq_right (by omega))
  have HDL : RowKit.Hid ((xs.drop (i * 6)).length = (n - i) * 6) := Lib.hid (by rw [List.length_drop, hxl]; omega)
  have HD1 : RowKit.Hid ((xs.drop (i * 6)).all (·.oneCell') = true) := Lib.hid (by rw [List.all_eq_true]; intro u hu; exact List.all_eq_true.1 hx1 u (List.mem_of_mem_drop hu))
  have HDK : RowKit.Hid (∀ (j : Nat) u, (xs.drop (i * 6))[j]? = some u → (xs ++ l2)[i * 6 + j]? = some u) := Lib.hid (fun j u hj => by
    rw [List.getElem?_drop] at hj
    rw [List.getElem?_append_left (List.getElem?_eq_some_iff.1 hj).1]; exact hj)
  have HFIT3 : RowKit.Hid ((i + 1) * 6 + (n - i) * 6 ≤ (xs ++ l2).length) := Lib.hid (by rw [List.length_append, hxl, hl2]; omega)
  have HFIT4 : RowKit.Hid (i * 6 + 1 * 6 ≤ (xs.take ((i + 1) * 6) ++ xs.drop (i * 6)).length) := Lib.hid (by rw [List.length_append, List.length_take, List.length_drop, hxl]; omega)
  have HC := Lib.hid (ins_cV n i hi xs l2 hxl hl2)
  have HDD := Lib.hid (ins_dV n i hi xs news hxl)
  have HIL := Lib.hid (ins_lenV n i (by omega) xs news hxl (by rw [hnl]))
  have hov : ∀ od lb cb, (callFunc 66 #[.slice (some ⟨bv, 0, none⟩) 1 1, .slice (some ⟨g, od, none⟩) lb cb]).run Tryz.prog w = .ok (.value (.bool false)) w := fun od lb cb => over66 (od := od) (cap := 0) hp (by omega) lb cb
  have f1 : (0 : Int) ≤ (i : Int) := by omega
  have f2 : (i : Int) ≤ (n : Int) := by omega
  have f3 : (i : Int) ≤ (cap : Int) := by omega
  have f4 : ((i : Int) == (n : Int)) = false := by simp; omega
  have f5 : decide ((cap : Int) < (n : Int) + 1) = false := by simp; omega
  have f6 : ¬ (cap = i) := by omega
  have f7 : ¬ (cap = i + 1) := by omega
  have HW1 : RowKit.Hid (wrap64 ((i : Int) + 1) = (i : Int) + 1) := Lib.hid (by unfold wrap64; omega)
  have f10 : ((i : Int) + 1).toNat = i + 1 := by omega
  have f11 : (0 : Int) ≤ (i : Int) + 1 := by omega
  have f12 : (i : Int) + 1 ≤ (n : Int) + 1 := by omega
  have f13 : (n : Int) + 1 ≤ (cap : Int) := by omega
  have f14 : (0 : Int) ≤ (n : Int) + 1 := by omega
  have f15 : ((n : Int) + 1).toNat = n + 1 := by omega
  have f16 : (i : Int) ≤ (n : Int) + 1 := by omega
  clear hnl hn1 hx1 hxl hl2
  go_enter Tryz.func44, Tryz.ntmps44
  go_wp2_with (first | (simp only [hov]; done) | go_skip)
  refine wp_region_keeps _ (Keeps.all hp.drew) [8] [(0, true), (1, true), (2, true), (3, true), (4, true), (5, true), (6, true), (7, true), (8, false)] (by kernel_rfl) (by kernel_rfl) rfl (by kernel_rfl) (fun _ _ d _ _ h => by cases d <;> exact h) ?_
  replace hp := hp.drew
  repeat' (with_reducible refine plan_is ?_); first | (with_reducible refine plan_nil ?_) | ((with_reducible refine plan_t ?_); refine plan_tk rfl ?_; (first | ((with_reducible refine tk_mv _ rfl ?_); refine tM rfl ?_) | refine tG (fun w _ => (by go_simp; try rfl)) ?_); try simp only [put_some, put_none, eval_tmp, eval_const, sSet, zSet, List.getD_cons_succ, List.getD_cons_zero, wrap_eq, HW1.out]) | (refine plan_do rfl (fun K hK => ?_); go_wp2_with (((with_reducible refine pre_copy _ _ _ _ rfl ?_); refine wpList_copyAt hp _ _ 27 _ _ rfl wy Tryz.underlying25 6 size27 g ((i + 1) * 6) (n - i) (cap - (i + 1)) (sTm rfl) g (i * 6) (n + 1 - i) (cap - i) (sTm rfl) 1 _ _ at1 (n - i) HMIN3.out (xs.drop (i * 6)) HDL.out HFIT3.out (fun j u hj => hp.cell at1 (HDK.out j u hj)) HD1.out ?_; clear hp; intro v2 w1 hp; simp only [sSet, zSet] at hp; simp only [put_some, put_none, sSet, zSet])); (first | refine hK.out _ _ (.inl rfl) ?_ | refine hK.out _ _ (.inr (kall hp)) ?_); clear hK K; try simp only [put_some, put_none, eval_tmp, eval_const, sSet, zSet, List.getD_cons_succ, List.getD_cons_zero, wrap_eq, HW1.out])
  rw [HC.out] at hp
  go_wp2_with (first | ((with_reducible refine pre_copy _ _ _ _ rfl ?_); refine wpList_copyAt hp _ _ 27 _ _ rfl wy Tryz.underlying25 6 size27 g (i * 6) (n + 1 - i) (cap - i) (sTm rfl) bv 0 1 1 (sTm rfl) 1 _ _ at1 1 HMIN.out news HNL.out HFIT4.out (fun j u hj => hp.cell at0 (by rw [Nat.zero_add]; exact hj)) HN1.out ?_; clear hp; intro v3 w1 hp; simp only [sSet, zSet] at hp; simp only [put_some, put_none, sSet, zSet]) | go_skip)
  rw [HDD.out] at hp
  go_ret
  refine ⟨_, [⟨g, insLV 6 xs news i, 27, cap * 6⟩], rfl, ⟨HIL.out, .inr ⟨g, cap, rfl, by omega, hcm, rfl⟩⟩, hp.tail⟩
theorem ins44 (n i : Nat) (hn : n ≤ 1000) (hi : i ≤ n) (xs : List Value) (v : Value) {B : Nat} {w0 w : World} {R M : List Blk} (news : List Value) (hnl : news.length = 6) (hn1 : news.all (·.oneCell') = true) (hx1 : xs.all (·.oneCell') = true) (bv : Nat) (ev : TypeId) (mv : Nat) (hR : OwnRow 27 6 v n xs R) (hp : Hp B w0 w (⟨bv, news, ev, mv⟩ :: (R ++ M))) :
    Calls Tryz.prog 44 #[v, .int .i64 i, .slice (some ⟨bv, 0, none⟩) 1 1] w (InsPostV B w0 (n + 1) (insLV 6 xs news i) M) := by
  rcases Nat.eq_or_lt_of_le hi with h | h
  · subst h
    exact ins44_end i hn xs v news hnl hn1 bv ev mv hR hp
  · obtain ⟨hxl, ⟨h0, _⟩ | ⟨g, cap, hv, hnc, hcm, hr⟩⟩ := hR
    · omega
    · subst hv hr
      rcases Nat.lt_or_ge cap (n + 1) with h2 | h2
      · exact ins44_grow n i hn h xs hxl g cap hnc h2 news hnl hn1 hx1 bv ev mv hp
      · exact ins44_room n i hn h xs hxl g cap hcm h2 news hnl hn1 hx1 bv ev mv hp
end Go.Proofs.YtcjbepaclbhjaaaGreat

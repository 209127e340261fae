/- Parts of the proof. -/
import Derived.Test.YtcjbepaclbhjaaaGreatKd1
import Derived.Test.YtcjbepaclbhjaaaGreatKd41
import Derived.Test.YtcjbepaclbhjaaaGreatKd38
open List renaming set_cons_zero → zSet, set_cons_succ → sSet
/- The walks of the document's Own, Vote and Add of votes. -/
set_option linter.unusedSimpArgs false
set_option linter.unusedVariables false
namespace Go.Proofs.YtcjbepaclbhjaaaGreat
open Go.RowKit Go.Lib
def ROwnP (w : World) (nd nm bs nu cm : Int) (es : List Env) (e : Ending) (w' : World) : Prop :=
  ∃ (a2 : Option Addr) (c2 : Nat) (R : List Blk), e = .returned (.agg #[.int .i64 nd, .int .i64 nm, .int .i64 bs, .int .i64 nu, .int .i64 cm, .slice a2 es.length c2]) ∧ Kept R (fun w => RowIs w a2 (es.flatMap envL)) ∧ Hp w.heap.size w w' R
set_option maxRecDepth 100000 in
set_option maxHeartbeats 4000000 in
theorem rown9 (nd nm bs nu cm : Int) (va : Option Addr) (es : List Env) (vc : Nat) (hl : es.length ≤ 100000) (w : World) (ha : RowIs w va (es.flatMap envL)) :
    Calls Tryz.prog 9 #[.agg #[.int .i64 nd, .int .i64 nm, .int .i64 bs, .int .i64 nu, .int .i64 cm, .slice va es.length vc]] w (ROwnP w nd nm bs nu cm es) := by
  obtain ⟨i0, hi0, hz0, hz1, hz2⟩ := info_parts info47
  have hp := Hp.start w
  have HA := Lib.hid ha
  have HFL : RowKit.Hid ((es.flatMap envL).length = es.length * 11) := Lib.hid (flat_len envL 11 envL_len11 es)
  have HONE : RowKit.Hid ((es.flatMap envL).all (·.oneCell') = true) := Lib.hid (by rw [List.all_flatMap]; exact List.all_eq_true.2 fun x _ => rfl)
  have HS1 : RowKit.Hid (es.length ≤ maxLen) := Lib.hid (by unfold maxLen; omega)
  have HS2 : RowKit.Hid (es.length * 88 ≤ 140737488355328) := Lib.hid (by omega)
  clear ha
  go_enter Tryz.func9, Tryz.ntmps9
  go_wp2_with (first | ((with_reducible refine pre_append _ _ 22 rfl ?_); refine wpList_appendRowK hp _ _ 22 rfl wy 47 i0 _ 11 88 Tryz.underlying22 hi0 hz0 hz1 hz2 rfl (by decide) (sTm rfl) va es.length vc (sTm rfl) _ HFL.out (HA.out.below hp.below) HONE.out HS1.out HS2.out ?_; clear hp; intro a2 c2 R2 w1 hk2 _ hp; have HK2 := Lib.hid hk2; clear hk2; simp only [List.cons_append, List.nil_append] at hp; simp only [put_some, put_none, sSet, zSet]) | go_skip | (first | (refine hA1 ?_; clear hp; intro b w1 hp) | refine hL0 ?_ | (refine hS0 ?_; clear hp; intro w1 hp)))
  exact bodyPost_ret (results_one (rs := [.cell 2 27]) Tryz.results9 (.cell rfl (hp.loadAgg agg27 at0 0 _ (by rfl) (by rfl)) .nil)) rfl ⟨a2, c2, R2, rfl, HK2.out, hp.kp⟩
def RVoteP (w : World) (b : Bool) (id nm bs nu cm : Int) (es : List Env) (e : Ending) (w' : World) : Prop :=
  (b = false ∧ e = .returned (.agg #[.int .i64 0, .int .i64 0, .int .i64 0, .int .i64 0, .int .i64 0, .slice none 0 0]) ∧ Below w.heap.size w w') ∨
  (b = true ∧ ∃ (a : Option Addr) (c : Nat) (R : List Blk), e = .returned (.agg #[.int .i64 id, .int .i64 nm, .int .i64 bs, .int .i64 nu, .int .i64 cm, .slice a es.length c]) ∧ Kept R (fun w => RowIs w a (es.flatMap envL)) ∧ Hp w.heap.size w w' R)
set_option maxRecDepth 100000 in
set_option maxHeartbeats 4000000 in
theorem rvote12 (id cm vw nm bs : Int) (im : ByteArray) (ea : Option Addr) (es : List Env) (ec : Nat) (hel : es.length ≤ 100000) (b : Bool) (hb : okC ⟨vw, nm, bs, im, ea, es, ec⟩ = b) (hs : Kv.Small ⟨vw, nm, bs, im, ea, es, ec⟩) (w : World) (ha : RowIs w ea (es.flatMap envL)) :
    Calls Tryz.prog 12 #[.int .i64 id, .agg #[.int .i64 vw, .int .i64 nm, .int .i64 bs, .string im, .slice ea es.length ec], .int .i64 cm] w (RVoteP w b id nm bs (wrap64 (bs + es.length)) cm es) := by
  have hp := Hp.start w
  have HA := Lib.hid ha
  have HSM := Lib.hid hs
  have HB := Lib.hid hb
  clear ha hs hb
  cases b with
  | false =>
    go_enter Tryz.func12, Tryz.ntmps12
    go_wp2_with (first | (go_at_call 31; (with_reducible refine (right1531L vw nm bs im _ es ec _ HB.out HSM.out _ (HA.out.below hp.below)).mono ?_); rintro e w1 ⟨rfl, hb⟩; replace hp := hp.call hb; clear hb) | go_skip | (first | (refine hA1 ?_; clear hp; intro b w1 hp) | refine hL0 ?_ | (refine hS0 ?_; clear hp; intro w1 hp)))
    refine bodyPost_ret (results_one (rs := [.cell 6 27]) Tryz.results12 (.cell rfl (hp.loadAgg agg27 at0 0 _ (by rfl) (by rfl)) .nil)) rfl ?_
    exact Or.inl ⟨rfl, rfl, hp.below⟩
  | true =>
    go_enter Tryz.func12, Tryz.ntmps12
    go_wp2_with (first | (go_at_call 31; (with_reducible refine (right1531L vw nm bs im _ es ec _ HB.out HSM.out _ (HA.out.below hp.below)).mono ?_); rintro e w1 ⟨rfl, hb⟩; replace hp := hp.call hb; clear hb) | go_skip | (first | (refine hA1 ?_; clear hp; intro b w1 hp) | refine hL0 ?_ | (refine hS0 ?_; clear hp; intro w1 hp)))
    refine wp_region_keeps [_] (Keeps.one hp.drew at1) [11, 12] [(0, true), (1, true), (2, true), (3, true), (4, true), (5, true), (7, true), (8, true), (9, true), (6, false), (10, true), (11, false), (12, false)] (by kernel_rfl) (by kernel_rfl) rfl (by kernel_rfl) (fun _ _ d _ _ h => by cases d <;> exact h) ?_
    replace hp := hp.drew
    repeat' (with_reducible refine plan_is ?_); first | (with_reducible refine plan_nil ?_) | refine tk22 ?_ | (refine plan_do rfl (fun K hK => ?_); go_wp2_with (first | (go_at_call 32; (with_reducible refine (last1532 vw nm bs im _ _ _ _).mono ?_); rintro e w1 ⟨rfl, hb⟩; replace hp := hp.call hb; clear hb) | (go_at_call 9; (with_reducible refine (rown9 id nm bs _ cm ea es ec hel _ (HA.out.below hp.below)).mono ?_); rintro e w1 ⟨a3, c3, R3, rfl, hk3, hp2⟩; replace hp := hp.join hp2; have HK3 := Lib.hid hk3; clear hp2 hk3; simp only [List.cons_append, List.nil_append, List.append_assoc] at hp) | go_skip | (refine hS0 ?_; clear hp; intro w1 hp)); (first | refine hK.out _ _ (.inl rfl) ?_ | refine hK.out _ _ (.inr (Keeps.one hp aa5)) ?_); clear hK K; try simp only [put_some, put_none, eval_tmp, eval_const, sSet, zSet, List.getD_cons_succ, List.getD_cons_zero, wrap_eq])
    go_wp2_with (first | go_skip | (first | (refine hA1 ?_; clear hp; intro b w1 hp) | refine hL0 ?_ | (refine hS0 ?_; clear hp; intro w1 hp)))
    refine bodyPost_ret (results_one (rs := [.cell 6 27]) Tryz.results12 (.cell rfl (hp.loadAgg agg27 at0 0 _ (by rfl) (by rfl)) .nil)) rfl ?_
    exact Or.inr ⟨rfl, a3, c3, R3, rfl, HK3.out, hp.kp⟩
def RAddAt (c : Int) (v : Vt) (K : List Vt) (inn : Bool) (zs : List Vt) : Prop :=
  (inn = false ∧ (∀ x ∈ K, leV c x = true) ∧ zs = K) ∨ (inn = true ∧ ∃ A b B, K = A ++ b :: B ∧ (∀ x ∈ A, leV c x = true) ∧ leV c b = false ∧ zs = A ++ v :: b :: B)
theorem RAddAt.nil (c : Int) (v : Vt) : RAddAt c v [] false [] := .inl ⟨rfl, (fun x hx => (by cases hx)), rfl⟩
theorem RAddAt.low {c : Int} {v x : Vt} {K zs : List Vt} (h : RAddAt c v K false zs) (hx : leV c x = true) : RAddAt c v (K ++ [x]) false (zs ++ [x]) := by
  rcases h with ⟨_, h1, h2⟩ | ⟨h, _⟩
  · refine .inl ⟨rfl, fun y hy => ?_, by rw [h2]⟩
    rcases List.mem_append.1 hy with hy | hy
    · exact h1 y hy
    · rw [List.mem_singleton.1 hy]; exact hx
  · cases h
theorem RAddAt.high {c : Int} {v x : Vt} {K zs : List Vt} (h : RAddAt c v K false zs) (hx : leV c x = false) : RAddAt c v (K ++ [x]) true (zs ++ [v] ++ [x]) := by
  rcases h with ⟨_, h1, h2⟩ | ⟨h, _⟩
  · exact .inr ⟨rfl, K, x, [], rfl, h1, hx, by rw [h2]; simp⟩
  · cases h
theorem RAddAt.on {c : Int} {v x : Vt} {K zs : List Vt} (h : RAddAt c v K true zs) : RAddAt c v (K ++ [x]) true (zs ++ [x]) := by
  rcases h with ⟨h, _⟩ | ⟨_, A, b, B, h1, h2, h3, h4⟩
  · cases h
  · exact .inr ⟨rfl, A, b, B ++ [x], by rw [h1]; simp, h2, h3, by rw [h4]; simp⟩
theorem tw_all (p : Vt → Bool) : ∀ (A : List Vt) (R : List Vt), (∀ x ∈ A, p x = true) → (A ++ R).takeWhile p = A ++ R.takeWhile p ∧ (A ++ R).dropWhile p = R.dropWhile p
  | [], _, _ => ⟨rfl, rfl⟩
  | a :: A, R, h => by
    have ha := h a (by simp)
    have ih := tw_all p A R (fun x hx => h x (by simp [hx]))
    simp [ha, ih.1, ih.2]
theorem RAddAt.end_ {v : Vt} {l zs : List Vt} {inn : Bool} (h : RAddAt v.nd v (keepV v.nd l) inn zs) : (if inn = true then zs else zs ++ [v]) = addV l v := by
  unfold addV
  rcases h with ⟨h0, h1, h2⟩ | ⟨h0, A, b, B, h1, h2, h3, h4⟩
  · have ht := tw_all (leV v.nd) (keepV v.nd l) [] h1
    rw [List.append_nil] at ht
    rw [ht.1, ht.2, h0, h2]; simp
  · rw [h1]
    have ht := tw_all (leV v.nd) A (b :: B) h2
    rw [ht.1, ht.2, h0, h4]; simp [h3]
theorem keep_take {c : Int} {l : List Vt} {q : Nat} {x : Vt} (h : l[q]? = some x) : keepV c (l.take (q + 1)) = if eqN c x = true then keepV c (l.take q) else keepV c (l.take q) ++ [x] := by
  rw [List.take_add_one, h]; exact keep_snoc c _ x
def RAddRel (w : World) (l : List Vt) (v : Vt) (b3 : Nat) (q : Nat) (inn : Bool) (x : Value) (wr : World) : Prop :=
  ∃ (zs ys : List Vt) (n : Nat) (R M : List Blk), RowKit.Hid (RAddAt v.nd v (keepV v.nd (l.take q)) inn zs) ∧ RowKit.Hid (VtsSm zs ys) ∧ RowKit.Hid (n ≤ 2 * q) ∧ RowKit.Hid (ys.length = n) ∧ RowKit.Hid (OwnRow 27 6 x n (ys.flatMap vtV) R) ∧ RowKit.Hid (Kept M fun w => ∀ y ∈ ys, y.Is w) ∧ Hp w.heap.size w wr (⟨b3, vtV v, 27, 6⟩ :: (R ++ M))
def RAddP (w : World) (l : List Vt) (v : Vt) (e : Ending) (w' : World) : Prop :=
  ∃ (a : Option Addr) (n k : Nat) (ys : List Vt) (R : List Blk), e = .returned (.slice a n k) ∧ ys.length = n ∧ VtsSm (addV l v) ys ∧ Kept R (fun w => RowIs w a (ys.flatMap vtV) ∧ ∀ y ∈ ys, y.Is w) ∧ Hp w.heap.size w w' R
theorem kept_snoc {ys : List Vt} {M R : List Blk} {y : Vt} (h : Kept M fun w => ∀ y ∈ ys, y.Is w) (hy : Kept R fun w => RowIs w y.a (y.es.flatMap envL)) : Kept (M ++ R) fun w => ∀ z ∈ ys ++ [y], z.Is w :=
  (h.and hy).mono (fun _ hp => hp) fun w ⟨h1, h2⟩ z hz => by
    rcases List.mem_append.1 hz with hz | hz
    · exact h1 z hz
    · rw [List.mem_singleton.1 hz]; exact h2
theorem len_snoc {ys : List Vt} {n : Nat} (y : Vt) (h : ys.length = n) : (ys ++ [y]).length = n + 1 := by rw [List.length_append, h]; rfl
set_option maxRecDepth 100000 in
set_option maxHeartbeats 16000000 in
theorem radd17 (l : List Vt) (a : Option Addr) (k q : Nat) (hq : l.length = q) (hl : q ≤ 500) (hes : ∀ v ∈ l, v.es.length ≤ 100000) (nd nm bs nu cm : Int) (va : Option Addr) (es : List Env) (vc : Nat) (hel : es.length ≤ 100000) (w : World) (ha : RowIs w a (l.flatMap vtV)) (hlv : ∀ v ∈ l, v.Is w) (hva : RowIs w va (es.flatMap envL)) :
    Calls Tryz.prog 17 #[.slice a q k, .agg #[.int .i64 nd, .int .i64 nm, .int .i64 bs, .int .i64 nu, .int .i64 cm, .slice va es.length vc]] w (RAddP w l ⟨nd, nm, bs, nu, cm, va, es, vc⟩) := by
  subst hq
  obtain ⟨i0, hi0, hz0, hz1, hz2⟩ := info_parts info27
  have hp := Hp.start w
  have HA := Lib.hid ha
  have HES := Lib.hid hes
  have HLV := Lib.hid hlv
  have HVA := Lib.hid hva
  clear ha hes hlv hva
  go_enter Tryz.func17, Tryz.ntmps17
  go_wp2_with (first | go_skip | (first | (refine hA1 ?_; clear hp; intro b w1 hp) | refine hL0 ?_ | (refine hS0 ?_; clear hp; intro w1 hp)))
  obtain ⟨b3, hb3⟩ := hp.id0
  subst hb3
  go_loopg [5, 6, 7] l.length (fun k x i j wr => ∃ (q : Nat) (inn : Bool), k + q = l.length ∧ i = .bool inn ∧ j = .int .i64 q ∧ RAddRel w l ⟨nd, nm, bs, nu, cm, va, es, vc⟩ b3 q inn x wr)
  case atStart => exact ⟨0, false, by omega, rfl, rfl, [], [], 0, [], [], Lib.hid (RAddAt.nil _ _), Lib.hid ⟨rfl, fun i a b h => by simp at h⟩, Lib.hid (by omega), Lib.hid rfl, Lib.hid (OwnRow.nil _ _), Lib.hid (Kept.none_ (fun w o ho => by cases ho) _), hp⟩
  case round =>
    clear hp
    obtain ⟨q, inn, hkq, rfl, rfl, zs, ys, n, R, M, HAT, HSM, HN, HYL, HR, HM, hp⟩ := hrel
    simp only [vtV] at hp
    by_cases hlt : q < l.length
    · obtain ⟨bq, off, rfl, hx⟩ := HA.out.elems 6 vtV_len (by omega) (by omega)
      have hj := List.getElem?_eq_getElem hlt
      replace hx := hx q _ hj
      have hmem := List.getElem_mem hlt
      have hv := HLV.out _ hmem
      have hxl := HES.out _ hmem
      have hkt := keep_take (c := nd) hj
      clear hj hmem
      generalize l[q] = x at hx hv hxl hkt
      have hsn := VtsSm.snoc HSM.out (Vt.Sm.refl x)
      obtain ⟨xd, xm, xb, xu, xc, xa, xs, xk⟩ := x
      simp only [vtV] at hx
      simp only at hxl
      have HX := Lib.hid hx
      have HXA : RowKit.Hid (RowIs w xa (xs.flatMap envL)) := Lib.hid hv
      have HXL := Lib.hid hxl
      have HKT := Lib.hid hkt
      have HS5 : RowKit.Hid (n + 1 ≤ maxLen) := Lib.hid (by have := HN.out; unfold maxLen; omega)
      have HS6 : RowKit.Hid ((n + 1) * 64 ≤ 140737488355328) := Lib.hid (by have := HN.out; omega)
      have HS7 : RowKit.Hid (n + 1 + 1 ≤ maxLen) := Lib.hid (by have := HN.out; unfold maxLen; omega)
      have HS8 : RowKit.Hid ((n + 1 + 1) * 64 ≤ 140737488355328) := Lib.hid (by have := HN.out; omega)
      clear hx hv hxl hkt hsn
      have f1 : (0 : Int) ≤ (q : Int) := by omega
      have f2 : (q : Int) < (l.length : Int) := by omega
      by_cases hnd : xd = nd
      · have e1 : (xd == nd) = true := by simpa using hnd
        have HKE : RowKit.Hid (keepV nd (l.take (q + 1)) = keepV nd (l.take q)) := Lib.hid (by rw [HKT.out, if_pos (by exact e1)])
        clear hnd HKT
        go_wp2_with (first | go_skip | (first | (refine hA0 ?_; clear hp; intro b w1 hp) | refine hL5 ?_ | (refine hS0 ?_; clear hp; intro w1 hp)))
        refine wp_region_keeps _ (Keeps.all hp.drew) [] [(0, true), (1, true), (2, true), (3, true), (4, true), (5, true), (6, true), (7, true)] (by kernel_rfl) (by kernel_rfl) rfl (by kernel_rfl) (fun _ _ d _ _ h => by cases d <;> exact h) ?_
        replace hp := hp.drew
        repeat' (with_reducible refine plan_is ?_); first | (with_reducible refine plan_nil ?_) | refine tk23 ?_
        go_wp2_with (first | go_skip | (first | (refine hA0 ?_; clear hp; intro b w1 hp) | refine hL5 ?_ | (refine hS0 ?_; clear hp; intro w1 hp)))
        go_roundg (gk - 1)
        case measure => omega
        case rel => exact ⟨q + 1, inn, by omega, rfl, by go_num, zs, ys, n, R, M, Lib.hid (by rw [HKE.out]; exact HAT.out), HSM, Lib.hid (by have := HN.out; omega), HYL, HR, HM, hp⟩
      · have e1 : (xd == nd) = false := by simpa using hnd
        have HKE : RowKit.Hid (keepV nd (l.take (q + 1)) = keepV nd (l.take q) ++ [⟨xd, xm, xb, xu, xc, xa, xs, xk⟩]) := Lib.hid (by rw [HKT.out, if_neg (by show ¬ (xd == nd) = true; rw [e1]; decide)])
        clear hnd HKT
        cases inn with
        | true =>
          go_wp2_with (first | go_skip | (first | (refine hA0 ?_; clear hp; intro b w1 hp) | refine hL5 ?_ | (refine hS0 ?_; clear hp; intro w1 hp)))
          refine wp_region_keeps _ (Keeps.all hp.drew) [] [(0, true), (1, true), (2, true), (3, true), (4, true), (5, true), (6, true), (7, true)] (by kernel_rfl) (by kernel_rfl) rfl (by kernel_rfl) (fun _ _ d _ _ h => by cases d <;> exact h) ?_
          replace hp := hp.drew
          repeat' (with_reducible refine plan_is ?_); first | (with_reducible refine plan_nil ?_) | refine tk23 ?_
          go_wp2_with (first | go_skip | (first | (refine hA0 ?_; clear hp; intro b w1 hp) | refine hL5 ?_ | (refine hS0 ?_; clear hp; intro w1 hp)))
          refine wp_region_keeps _ (Keeps.all hp.drew) [] [(0, true), (1, true), (2, true), (3, true), (4, true), (5, true), (6, true), (7, true), (8, true), (9, true), (10, true), (11, true)] (by kernel_rfl) (by kernel_rfl) rfl (by kernel_rfl) (fun _ _ d _ _ h => by cases d <;> exact h) ?_
          replace hp := hp.drew
          repeat' (with_reducible refine plan_is ?_); first | (with_reducible refine plan_nil ?_) | refine tk24 ?_
          go_wp2_with (first | (go_at_call 9; (with_reducible refine (rown9 xd xm xb xu xc xa xs xk HXL.out _ (HXA.out.below hp.below)).mono ?_); rintro e w1 ⟨a4, c4, R4, rfl, hk4, hp2⟩; replace hp := hp.join hp2; have HK4 := Lib.hid hk4; clear hp2 hk4; simp only [List.cons_append, List.nil_append, List.append_assoc] at hp) | ((with_reducible refine pre_append _ _ 25 rfl ?_); refine wpList_appendGrow (K := [_, _]) (R := R) hp _ _ _ rfl wy i0 _ 64 Tryz.underlying25 hi0 hz0 hz1 hz2 rfl (by decide) (sTm rfl) HR.out 1 1 (sTm rfl) (by rfl) (by decide) (by rfl) HS5.out HS6.out ?_; clear hp HR; intro v' R' w1 hR' hp; have HR := Lib.hid hR'; clear hR'; simp only [List.cons_append, List.nil_append] at hp; simp only [put_some, put_none, sSet, zSet]) | go_skip | (first | (refine hA0 ?_; clear hp; intro b w1 hp) | refine hL5 ?_ | (refine hS0 ?_; clear hp; intro w1 hp)))
          go_roundg (gk - 1)
          case measure => omega
          case rel => exact ⟨q + 1, true, by omega, rfl, by go_num, _, ys ++ [⟨xd, xm, xb, xu, xc, a4, xs, c4⟩], n + 1, R', M ++ R4, Lib.hid (by rw [HKE.out]; exact HAT.out.on), Lib.hid (VtsSm.snoc HSM.out (x := ⟨xd, xm, xb, xu, xc, xa, xs, xk⟩) ⟨rfl, rfl, rfl, rfl, rfl, rfl⟩), Lib.hid (by have := HN.out; omega), Lib.hid (len_snoc _ HYL.out), Lib.hid (by rw [List.flatMap_append]; exact HR.out), Lib.hid (kept_snoc (y := ⟨xd, xm, xb, xu, xc, a4, xs, c4⟩) HM.out HK4.out), (by simp only [vtV]; exact hp.kp)⟩
        | false =>
          by_cases hgt : nd < xd
          · have e2 : decide (nd < xd) = true := by simpa using hgt
            have HLE : RowKit.Hid (leV nd ⟨xd, xm, xb, xu, xc, xa, xs, xk⟩ = false) := Lib.hid (by simp [leV]; omega)
            clear hgt
            go_wp2_with (first | go_skip | (first | (refine hA0 ?_; clear hp; intro b w1 hp) | refine hL5 ?_ | (refine hS0 ?_; clear hp; intro w1 hp)))
            refine wp_region_keeps _ (Keeps.all hp.drew) [] [(0, true), (1, true), (2, true), (3, true), (4, true), (5, true), (6, true), (7, true)] (by kernel_rfl) (by kernel_rfl) rfl (by kernel_rfl) (fun _ _ d _ _ h => by cases d <;> exact h) ?_
            replace hp := hp.drew
            repeat' (with_reducible refine plan_is ?_); first | (with_reducible refine plan_nil ?_) | refine tk23 ?_
            go_wp2_with (first | go_skip | (first | (refine hA0 ?_; clear hp; intro b w1 hp) | refine hL5 ?_ | (refine hS0 ?_; clear hp; intro w1 hp)))
            refine wp_region_keeps _ (Keeps.all hp.drew) [] [(0, true), (1, true), (2, true), (3, true), (4, true), (5, true), (6, true), (7, true), (8, true), (9, true), (10, true), (11, true)] (by kernel_rfl) (by kernel_rfl) rfl (by kernel_rfl) (fun _ _ d _ _ h => by cases d <;> exact h) ?_
            replace hp := hp.drew
            repeat' (with_reducible refine plan_is ?_); first | (with_reducible refine plan_nil ?_) | refine tk24 ?_
            go_wp2_with (first | (go_at_call 9; (with_reducible refine (rown9 nd nm bs nu cm va es vc hel _ (HVA.out.below hp.below)).mono ?_); rintro e w1 ⟨a3, c3, R3, rfl, hk3, hp2⟩; replace hp := hp.join hp2; have HK3 := Lib.hid hk3; clear hp2 hk3; simp only [List.cons_append, List.nil_append, List.append_assoc] at hp) | (go_at_call 9; (with_reducible refine (rown9 xd xm xb xu xc xa xs xk HXL.out _ (HXA.out.below hp.below)).mono ?_); rintro e w1 ⟨a4, c4, R4, rfl, hk4, hp2⟩; replace hp := hp.join hp2; have HK4 := Lib.hid hk4; clear hp2 hk4; simp only [List.cons_append, List.nil_append, List.append_assoc] at hp) | ((with_reducible refine pre_append _ _ 25 rfl ?_); refine wpList_appendGrow (K := [_, _]) (R := R) hp _ _ _ rfl wy i0 _ 64 Tryz.underlying25 hi0 hz0 hz1 hz2 rfl (by decide) (sTm rfl) HR.out 1 1 (sTm rfl) (by rfl) (by decide) (by rfl) HS5.out HS6.out ?_; clear hp HR; intro v' R' w1 hR' hp; have HR := Lib.hid hR'; clear hR'; simp only [List.cons_append, List.nil_append] at hp; simp only [put_some, put_none, sSet, zSet]) | ((with_reducible refine pre_append _ _ 25 rfl ?_); refine wpList_appendGrow (K := [_, _, _]) (R := R') hp _ _ _ rfl wy i0 _ 64 Tryz.underlying25 hi0 hz0 hz1 hz2 rfl (by decide) (sTm rfl) HR.out 1 1 (sTm rfl) (by rfl) (by decide) (by rfl) HS7.out HS8.out ?_; clear hp HR; intro v2 R2 w1 hR' hp; have HR := Lib.hid hR'; clear hR'; simp only [List.cons_append, List.nil_append] at hp; simp only [put_some, put_none, sSet, zSet]) | go_skip | (first | (refine hA0 ?_; clear hp; intro b w1 hp) | refine hL5 ?_ | (refine hS0 ?_; clear hp; intro w1 hp)))
            go_roundg (gk - 1)
            case measure => omega
            case rel => exact ⟨q + 1, true, by omega, rfl, by go_num, _, ys ++ [⟨nd, nm, bs, nu, cm, a3, es, c3⟩] ++ [⟨xd, xm, xb, xu, xc, a4, xs, c4⟩], n + 1 + 1, R2, M ++ R3 ++ R4, Lib.hid (by rw [HKE.out]; exact HAT.out.high HLE.out), Lib.hid (VtsSm.snoc (VtsSm.snoc HSM.out (x := ⟨nd, nm, bs, nu, cm, va, es, vc⟩) ⟨rfl, rfl, rfl, rfl, rfl, rfl⟩) (x := ⟨xd, xm, xb, xu, xc, xa, xs, xk⟩) ⟨rfl, rfl, rfl, rfl, rfl, rfl⟩), Lib.hid (by have := HN.out; omega), Lib.hid (len_snoc _ (len_snoc _ HYL.out)), Lib.hid (by rw [List.flatMap_append, List.flatMap_append]; exact HR.out), Lib.hid (kept_snoc (y := ⟨xd, xm, xb, xu, xc, a4, xs, c4⟩) (kept_snoc (y := ⟨nd, nm, bs, nu, cm, a3, es, c3⟩) HM.out HK3.out) HK4.out), (by simp only [vtV]; exact hp.kp)⟩
          · have e2 : decide (nd < xd) = false := by simp; omega
            have HLE : RowKit.Hid (leV nd ⟨xd, xm, xb, xu, xc, xa, xs, xk⟩ = true) := Lib.hid (by simp [leV]; omega)
            clear hgt
            go_wp2_with (first | go_skip | (first | (refine hA0 ?_; clear hp; intro b w1 hp) | refine hL5 ?_ | (refine hS0 ?_; clear hp; intro w1 hp)))
            refine wp_region_keeps _ (Keeps.all hp.drew) [] [(0, true), (1, true), (2, true), (3, true), (4, true), (5, true), (6, true), (7, true)] (by kernel_rfl) (by kernel_rfl) rfl (by kernel_rfl) (fun _ _ d _ _ h => by cases d <;> exact h) ?_
            replace hp := hp.drew
            repeat' (with_reducible refine plan_is ?_); first | (with_reducible refine plan_nil ?_) | refine tk23 ?_
            go_wp2_with (first | go_skip | (first | (refine hA0 ?_; clear hp; intro b w1 hp) | refine hL5 ?_ | (refine hS0 ?_; clear hp; intro w1 hp)))
            refine wp_region_keeps _ (Keeps.all hp.drew) [] [(0, true), (1, true), (2, true), (3, true), (4, true), (5, true), (6, true), (7, true), (8, true), (9, true), (10, true), (11, true)] (by kernel_rfl) (by kernel_rfl) rfl (by kernel_rfl) (fun _ _ d _ _ h => by cases d <;> exact h) ?_
            replace hp := hp.drew
            repeat' (with_reducible refine plan_is ?_); first | (with_reducible refine plan_nil ?_) | refine tk24 ?_
            go_wp2_with (first | (go_at_call 9; (with_reducible refine (rown9 xd xm xb xu xc xa xs xk HXL.out _ (HXA.out.below hp.below)).mono ?_); rintro e w1 ⟨a4, c4, R4, rfl, hk4, hp2⟩; replace hp := hp.join hp2; have HK4 := Lib.hid hk4; clear hp2 hk4; simp only [List.cons_append, List.nil_append, List.append_assoc] at hp) | ((with_reducible refine pre_append _ _ 25 rfl ?_); refine wpList_appendGrow (K := [_, _]) (R := R) hp _ _ _ rfl wy i0 _ 64 Tryz.underlying25 hi0 hz0 hz1 hz2 rfl (by decide) (sTm rfl) HR.out 1 1 (sTm rfl) (by rfl) (by decide) (by rfl) HS5.out HS6.out ?_; clear hp HR; intro v' R' w1 hR' hp; have HR := Lib.hid hR'; clear hR'; simp only [List.cons_append, List.nil_append] at hp; simp only [put_some, put_none, sSet, zSet]) | go_skip | (first | (refine hA0 ?_; clear hp; intro b w1 hp) | refine hL5 ?_ | (refine hS0 ?_; clear hp; intro w1 hp)))
            go_roundg (gk - 1)
            case measure => omega
            case rel => exact ⟨q + 1, false, by omega, rfl, by go_num, _, ys ++ [⟨xd, xm, xb, xu, xc, a4, xs, c4⟩], n + 1, R', M ++ R4, Lib.hid (by rw [HKE.out]; exact HAT.out.low HLE.out), Lib.hid (VtsSm.snoc HSM.out (x := ⟨xd, xm, xb, xu, xc, xa, xs, xk⟩) ⟨rfl, rfl, rfl, rfl, rfl, rfl⟩), Lib.hid (by have := HN.out; omega), Lib.hid (len_snoc _ HYL.out), Lib.hid (by rw [List.flatMap_append]; exact HR.out), Lib.hid (kept_snoc (y := ⟨xd, xm, xb, xu, xc, a4, xs, c4⟩) HM.out HK4.out), (by simp only [vtV]; exact hp.kp)⟩
    · obtain rfl : q = l.length := by omega
      have f2 : decide ((l.length : Int) < (l.length : Int)) = false := by simp
      have hat := HAT.out
      rw [List.take_length] at hat
      have HEN := Lib.hid hat.end_
      have HS5 : RowKit.Hid (n + 1 ≤ maxLen) := Lib.hid (by have := HN.out; unfold maxLen; omega)
      have HS6 : RowKit.Hid ((n + 1) * 64 ≤ 140737488355328) := Lib.hid (by have := HN.out; omega)
      clear hkq hlt hat
      cases inn with
      | true =>
        obtain ⟨ax, kx, rfl, hk⟩ := HR.out.kept
        have HKR := Lib.hid hk
        clear hk
        go_wp2_with (first | go_skip | (first | (refine hA1 ?_; clear hp; intro b w1 hp) | refine hL0 ?_ | (refine hS0 ?_; clear hp; intro w1 hp)))
        go_ret
        exact ⟨ax, n, kx, ys, R ++ M, rfl, HYL.out, HEN.out ▸ HSM.out, HKR.out.and HM.out, hp.tail⟩
      | false =>
        go_wp2_with (first | (go_at_call 9; (with_reducible refine (rown9 nd nm bs nu cm va es vc hel _ (HVA.out.below hp.below)).mono ?_); rintro e w1 ⟨a3, c3, R3, rfl, hk3, hp2⟩; replace hp := hp.join hp2; have HK3 := Lib.hid hk3; clear hp2 hk3; simp only [List.cons_append, List.nil_append, List.append_assoc] at hp) | ((with_reducible refine pre_append _ _ 25 rfl ?_); refine wpList_appendGrow (K := [_, _]) (R := R) hp _ _ _ rfl wy i0 _ 64 Tryz.underlying25 hi0 hz0 hz1 hz2 rfl (by decide) (sTm rfl) HR.out 1 1 (sTm rfl) (by rfl) (by decide) (by rfl) HS5.out HS6.out ?_; clear hp HR; intro v' R' w1 hR' hp; have HR := Lib.hid hR'; clear hR'; simp only [List.cons_append, List.nil_append] at hp; simp only [put_some, put_none, sSet, zSet]) | go_skip | (first | (refine hA0 ?_; clear hp; intro b w1 hp) | refine hL5 ?_ | (refine hS0 ?_; clear hp; intro w1 hp)))
        obtain ⟨ax, kx, rfl, hk⟩ := HR.out.kept
        go_ret
        exact ⟨ax, n + 1, kx, ys ++ [⟨nd, nm, bs, nu, cm, a3, es, c3⟩], R' ++ (M ++ R3), rfl, len_snoc _ HYL.out, HEN.out ▸ VtsSm.snoc HSM.out (x := ⟨nd, nm, bs, nu, cm, va, es, vc⟩) ⟨rfl, rfl, rfl, rfl, rfl, rfl⟩, (by rw [List.flatMap_append]; exact hk.and (kept_snoc (y := ⟨nd, nm, bs, nu, cm, a3, es, c3⟩) HM.out HK3.out)), hp.kp⟩
end Go.Proofs.YtcjbepaclbhjaaaGreat

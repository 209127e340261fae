/- Parts of the proof. -/
import Derived.Test.YtcjbepaclbhjaaaGreatCl38
import Derived.Test.YtcjbepaclbhjaaaGreatCl37
open List renaming set_cons_zero → zSet, set_cons_succ → sSet
/- The walk of the law ChangeKeeps. -/
set_option linter.unusedSimpArgs false
set_option linter.unusedVariables false
namespace Go.Proofs.YtcjbepaclbhjaaaGreat
open Go.RowKit Go.Lib
theorem gaCXk0 {ty : TypeId} {k : Nat} (h : aggB Tryz.prog ty k = true := by with_reducible first | exact agg24 | exact agg51 | exact agg27 | exact agg47) : aggB Tryz.prog ty k = true := h
theorem ceCXk1 {ty : TypeId} (h : cellB Tryz.prog ty = true := by with_reducible first | exact cell3 | exact cell4 | exact cell22) : cellB Tryz.prog ty = true := h
theorem mays_of : ∀ {l : List Env} {nm v : Int}, entsB nm v l = true → ∀ e ∈ l, mayE e = true
  | [], _, _, _, e, he => by cases he
  | a :: r, nm, v, h, e, he => by
    have h' : (mayE a && (inM a.vi v nm && entsB nm a.vi r)) = true := h
    simp only [Bool.and_eq_true] at h'
    rcases List.mem_cons.1 he with rfl | he
    · exact h'.1
    · exact mays_of h'.2.2 e he
def toVp (v : Vt) : Vp := ⟨v.nd, v.nm, v.bs, v.nu, v.cm, v.es⟩
theorem right_vp {v : Vt} (h : checkV v.nd v.nm v.bs v.nu v.cm v.es = true) : (toVp v).Right := by
  unfold checkV headV inM at h
  simp only [Bool.and_eq_true, decide_eq_true_eq] at h
  obtain ⟨⟨_, _, h3, h4, h5⟩, h6, h7, _⟩ := h
  exact ⟨h3, h4, h5, mays_of h6, by show v.nu = v.bs + v.es.length; rw [h7]; unfold wrap64; omega⟩
structure KeepsAt (l : List Vt) (n : Int) (e : Env) (q : Nat) (sm : Bool) : Prop where
  ok : ∀ v ∈ l.take q, checkV v.nd v.nm v.bs v.nu v.cm v.es = true
  hi : ∀ v ∈ l.take q, n < v.nm → e ∈ v.es
  eq : ∀ v ∈ l.take q, v.nm = n → e.nu ≤ v.nu → e ∈ v.es
  some_ : sm = true → ∃ v ∈ l.take q, n ≤ v.nm ∧ e ∈ v.es
theorem KeepsAt.step {l : List Vt} {n : Int} {e : Env} {q : Nat} {sm s2 : Bool} {v : Vt} (h : KeepsAt l n e q sm) (hv : l[q]? = some v) (h1 : checkV v.nd v.nm v.bs v.nu v.cm v.es = true) (h2 : n < v.nm → e ∈ v.es) (h3 : v.nm = n → e.nu ≤ v.nu → e ∈ v.es) (h4 : s2 = true → sm = true ∨ (n ≤ v.nm ∧ e ∈ v.es)) : KeepsAt l n e (q + 1) s2 := by
  have ht : l.take (q + 1) = l.take q ++ [v] := by rw [List.take_add_one, hv]; rfl
  refine ⟨fun x hx => ?_, fun x hx => ?_, fun x hx => ?_, fun hs => ?_⟩
  · rw [ht, List.mem_append, List.mem_singleton] at hx
    rcases hx with hx | rfl
    · exact h.ok x hx
    · exact h1
  · rw [ht, List.mem_append, List.mem_singleton] at hx
    rcases hx with hx | rfl
    · exact h.hi x hx
    · exact h2
  · rw [ht, List.mem_append, List.mem_singleton] at hx
    rcases hx with hx | rfl
    · exact h.eq x hx
    · exact h3
  · rcases h4 hs with h4 | h4
    · obtain ⟨x, hx, hx2⟩ := h.some_ h4
      exact ⟨x, by rw [ht, List.mem_append]; exact .inl hx, hx2⟩
    · exact ⟨v, by rw [ht]; simp, h4⟩
theorem keeps_vt {l : List Vt} {n : Int} {e : Env} {nodes view cm : Int} {k : Kv} {f : List Env} {s : Int} (h : KeepsAt l n e l.length true) (hs : ChSpec nodes view l k cm (some (f, s))) (hc : cm < e.nu) : e ∈ f := by
  obtain ⟨m, x, t, h1, _, _, rfl, _⟩ := hs
  obtain ⟨g1, g2, g3, g4⟩ := h
  rw [List.take_length] at g1 g2 g3 g4
  obtain ⟨v0, hv0, hv1⟩ := g4 rfl
  have hm : ∀ {v : Vp}, v ∈ l.map toVp → ∃ y ∈ l, v = toVp y := fun hv => by
    obtain ⟨y, hy, rfl⟩ := List.mem_map.1 hv
    exact ⟨y, hy, rfl⟩
  refine keeps_plain (l := l.map toVp) (b := toVp x) (n := n) (c := cm) (e := e) (fun v hv => ?_) (List.mem_map.2 ⟨x, List.mem_of_getElem? h1.get, rfl⟩) (fun v hv => ?_) (fun v hv => ?_) (fun v hv => ?_) ⟨toVp v0, List.mem_map.2 ⟨v0, hv0, rfl⟩, hv1⟩ hc
  · obtain ⟨y, hy, rfl⟩ := hm hv
    exact right_vp (g1 y hy)
  · obtain ⟨y, hy, rfl⟩ := hm hv
    obtain ⟨i, hi, rfl⟩ := List.getElem_of_mem hy
    exact h1.top i _ (List.getElem?_eq_getElem hi)
  · obtain ⟨y, hy, rfl⟩ := hm hv
    exact g2 y hy
  · obtain ⟨y, hy, rfl⟩ := hm hv
    exact g3 y hy
def HasR (r : Bool) (x : Env) (ys : List Env) : Prop := r = true ↔ x ∈ ys
theorem has_lit (nd nm bs nu cm : Int) (va : Option Addr) (es : List Env) (vc : Nat) (xn xv xl xq xk xh xi xm xc xx xt : Int) (hl : es.length ≤ 100000) (r : Bool) (hr : HasR r ⟨xn, xv, xl, xq, ⟨xk, xh, xi, xm, xc, xx, xt⟩⟩ es) (w : World) (ha : RowIs w va (es.flatMap envL)) :
    Calls Tryz.prog 21 #[.agg #[.int .i64 nd, .int .i64 nm, .int .i64 bs, .int .i64 nu, .int .i64 cm, .slice va es.length vc], .agg #[.int .i64 xn, .int .i64 xv, .int .i64 xl, .int .i64 xq, .int .i64 xk, .int .i64 xh, .int .i64 xi, .int .i64 xm, .int .i64 xc, .int .i64 xx, .int .i64 xt]] w fun e w' => e = .returned (.bool r) ∧ Below w.heap.size w w' :=
  has21 nd nm bs nu cm va es vc ⟨xn, xv, xl, xq, ⟨xk, xh, xi, xm, xc, xx, xt⟩⟩ hl r hr w ha
theorem check_y (nd nm bs nu cm : Int) (va : Option Addr) (es : List Env) (vc : Nat) (hl : es.length ≤ 100000) (w : World) (ha : RowIs w va (es.flatMap envL)) (hb : checkV nd nm bs nu cm es = true) :
    Calls Tryz.prog 13 #[.agg #[.int .i64 nd, .int .i64 nm, .int .i64 bs, .int .i64 nu, .int .i64 cm, .slice va es.length vc]] w (RetI w 0) := check_lit nd nm bs nu cm va es _ vc rfl hl w ha true hb
theorem check_n (nd nm bs nu cm : Int) (va : Option Addr) (es : List Env) (vc : Nat) (hl : es.length ≤ 100000) (w : World) (ha : RowIs w va (es.flatMap envL)) (hb : checkV nd nm bs nu cm es = false) :
    Calls Tryz.prog 13 #[.agg #[.int .i64 nd, .int .i64 nm, .int .i64 bs, .int .i64 nu, .int .i64 cm, .slice va es.length vc]] w (RetI w 150) := check_lit nd nm bs nu cm va es _ vc rfl hl w ha false hb
set_option maxRecDepth 100000 in
set_option maxHeartbeats 16000000 in
theorem law5 (nodes view : Int) (la : Option Addr) (l : List Vt) (lk : Nat) (vw nm bs : Int) (im : ByteArray) (ea : Option Addr) (es : List Env) (ec : Nat) (cm nn : Int) (x : Env) (w : World) (hl : RowIs w la (l.flatMap vtV)) (hlv : ∀ v ∈ l, v.Is w) (hlc : ∀ v ∈ l, v.es.length ≤ v.c) (hk : RowIs w ea (es.flatMap envL)) :
    Calls Tryz.prog 5 #[.int .i64 nodes, .int .i64 view, .slice la l.length lk, .agg #[.int .i64 vw, .int .i64 nm, .int .i64 bs, .string im, .slice ea es.length ec], .int .i64 cm, .int .i64 nn, .agg (envL x).toArray] w fun e w' => e = .returned (.bool true) ∧ Below w.heap.size w w' := by
  have hp := Hp.start w
  obtain ⟨xn, xv, xl, xq, ⟨xk, xh, xi, xm, xc, xx, xt⟩⟩ := x
  have HKA := Lib.hid hk
  have HL := Lib.hid hl
  have HLV := Lib.hid hlv
  have HLC := Lib.hid hlc
  simp only [envL, opL, List.cons_append, List.nil_append]
  clear hk hl hlv hlc
  go_enter Tryz.func5, Tryz.ntmps5
  go_wp2_with (first | (go_at_call 7; (with_reducible refine (big7 l la lk vw nm bs im ea es ec _ (HL.out.below hp.below)).mono ?_); rintro e w1 ⟨bb, rfl, hbb, hb⟩; replace hp := hp.call hb; clear hb; cases bb) | go_skip | ((first | ((with_reducible refine pre_alloc _ rfl ?_); refine lZ hp rfl zero51 ?_; clear hp; intro b w1 hp) | ((with_reducible refine pre_box _ _ rfl ?_); refine lB hp rfl (sTm rfl) rfl ?_; clear hp; intro b w1 hp) | ((with_reducible refine pre_load _ _ rfl ?_); first | refine lO hp rfl (sTm rfl) ceCXk1 aa5 ?_ | refine lA hp rfl (sTm rfl) gaCXk0 aa5 ?_) | ((with_reducible refine pre_store _ _ _ rfl ?_); (first | refine sO hp rfl (sTm rfl) ceCXk1 aa5 ?_ | refine sA hp rfl (sTm rfl) (sTm rfl) gaCXk0 aa5 ?_ | refine sG hp rfl (sTm rfl) (sTm rfl) gaCXk0 aa5 ?_); clear hp; intro w1 hp; simp only [spl, zSet, sSet] at hp)); simp only [put_some, put_none, sSet, zSet]))
  · obtain ⟨hl50, hk3, him, hes⟩ := hbb (by first | rfl | trivial)
    have HLN : RowKit.Hid (l.length ≤ 1000) := Lib.hid (by omega)
    have HES : RowKit.Hid (∀ v ∈ l, v.es.length ≤ 100000) := Lib.hid (fun v hv => Nat.le_trans (hes v hv) (by decide))
    have HEC : RowKit.Hid (∀ v ∈ l, v.es.length ≤ 100000 ∧ v.es.length ≤ v.c) := Lib.hid (fun v hv => ⟨HES.out v hv, HLC.out v hv⟩)
    have HSM : RowKit.Hid (Kv.Small ⟨vw, nm, bs, im, ea, es, ec⟩) := Lib.hid ⟨by show es.length ≤ 100000; omega, by show im.size ≤ 1000000; omega⟩
    clear hbb hes him hk3 HLC
    obtain ⟨b13, hb13⟩ := hp.id0
    obtain ⟨b10, hb10⟩ := hp.id1
    subst hb13 hb10
    go_loopg [15, 16] l.length (fun k s i wr => ∃ (q : Nat) (sm : Bool), k + q = l.length ∧ s = .bool sm ∧ i = .int .i64 q ∧ RowKit.Hid (KeepsAt l nn ⟨xn, xv, xl, xq, ⟨xk, xh, xi, xm, xc, xx, xt⟩⟩ q sm) ∧ Hp w.heap.size w wr [⟨b13, [.int .i64 xn, .int .i64 xv, .int .i64 xl, .int .i64 xq, .int .i64 xk, .int .i64 xh, .int .i64 xi, .int .i64 xm, .int .i64 xc, .int .i64 xx, .int .i64 xt], 47, 11⟩, ⟨b10, [.int .i64 vw, .int .i64 nm, .int .i64 bs, .string im, .slice ea es.length ec], 24, 5⟩])
    case atStart => exact ⟨0, false, by omega, rfl, rfl, Lib.hid ⟨fun v hv => (by simp at hv), fun v hv => (by simp at hv), fun v hv => (by simp at hv), fun h => (by cases h)⟩, hp⟩
    case round =>
      clear hp
      obtain ⟨q, sm, hkq, rfl, rfl, HKP, hp⟩ := hrel
      by_cases hlt : q < l.length
      · obtain ⟨bq, off, rfl, hx⟩ := HL.out.elems 6 vtV_len (by omega) (by omega)
        have hj := List.getElem?_eq_getElem hlt
        replace hx := hx q _ hj
        have hmem := List.getElem_mem hlt
        have hya := HLV.out _ hmem
        have hyl := HES.out _ hmem
        have HJ := Lib.hid hj
        clear hj hmem
        generalize l[q] = y at hx HJ hya hyl
        obtain ⟨yd, ym, yb, yu, yc, ya, ys, yk2⟩ := y
        simp only [vtV] at hx hyl
        have HX := Lib.hid hx
        have HYA : RowKit.Hid (RowIs w ya (ys.flatMap envL)) := Lib.hid hya
        have HYL := Lib.hid hyl
        have f1 : (0 : Int) ≤ (q : Int) := by omega
        have f2 : (q : Int) < (l.length : Int) := by omega
        clear hx hya hyl
        cases hck : checkV yd ym yb yu yc ys with
        | false =>
          have HCK := Lib.hid hck
          clear hck
          go_wp2_with (first | (go_at_call 13; (with_reducible refine (check_n yd ym yb yu yc ya ys yk2 HYL.out _ (HYA.out.below hp.below) HCK.out).mono ?_); rintro e w1 ⟨rfl, hb⟩; replace hp := hp.call hb; clear hb) | (go_at_call 19; (with_reducible refine (votes19 _).mono ?_); rintro e w1 ⟨rfl, hb⟩; replace hp := hp.call hb; clear hb) | go_skip | ((first | ((with_reducible refine pre_alloc _ rfl ?_); refine lZ hp rfl zero51 ?_; clear hp; intro b w1 hp) | ((with_reducible refine pre_box _ _ rfl ?_); refine lB hp rfl (sTm rfl) rfl ?_; clear hp; intro b w1 hp) | ((with_reducible refine pre_load _ _ rfl ?_); first | refine lO hp rfl (sTm rfl) ceCXk1 aa5 ?_ | refine lRO hp rfl (sTm rfl) ceCXk1 (by first | exact HX.out 0 _ rfl | exact HX.out 1 _ rfl | exact HX.out 2 _ rfl | exact HX.out 3 _ rfl) ?_ | refine lA hp rfl (sTm rfl) gaCXk0 aa5 ?_ | refine lR hp rfl (sTm rfl) gaCXk0 HX.out ?_) | ((with_reducible refine pre_store _ _ _ rfl ?_); (first | refine sO hp rfl (sTm rfl) ceCXk1 aa5 ?_ | refine sA hp rfl (sTm rfl) (sTm rfl) gaCXk0 aa5 ?_ | refine sG hp rfl (sTm rfl) (sTm rfl) gaCXk0 aa5 ?_); clear hp; intro w1 hp; simp only [spl, zSet, sSet] at hp)); simp only [put_some, put_none, sSet, zSet]))
          (go_ret; exact ⟨rfl, hp.below⟩)
        | true =>
          have HCK := Lib.hid hck
          clear hck
          by_cases hlow : ym < nn
          · have d1 : decide (ym < nn) = true := by simpa using hlow
            have HNX : RowKit.Hid (KeepsAt l nn ⟨xn, xv, xl, xq, ⟨xk, xh, xi, xm, xc, xx, xt⟩⟩ (q + 1) sm) := Lib.hid (HKP.out.step HJ.out HCK.out (fun h => (by simp only at h; omega)) (fun h => (by simp only at h; omega)) (fun h => .inl h))
            clear hlow
            go_wp2_with (first | (go_at_call 13; (with_reducible refine (check_y yd ym yb yu yc ya ys yk2 HYL.out _ (HYA.out.below hp.below) HCK.out).mono ?_); rintro e w1 ⟨rfl, hb⟩; replace hp := hp.call hb; clear hb) | go_skip | ((first | ((with_reducible refine pre_alloc _ rfl ?_); refine lZ hp rfl zero51 ?_; clear hp; intro b w1 hp) | ((with_reducible refine pre_box _ _ rfl ?_); refine lB hp rfl (sTm rfl) rfl ?_; clear hp; intro b w1 hp) | ((with_reducible refine pre_load _ _ rfl ?_); first | refine lO hp rfl (sTm rfl) ceCXk1 aa5 ?_ | refine lRO hp rfl (sTm rfl) ceCXk1 (by first | exact HX.out 0 _ rfl | exact HX.out 1 _ rfl | exact HX.out 2 _ rfl | exact HX.out 3 _ rfl) ?_ | refine lA hp rfl (sTm rfl) gaCXk0 aa5 ?_ | refine lR hp rfl (sTm rfl) gaCXk0 HX.out ?_) | ((with_reducible refine pre_store _ _ _ rfl ?_); (first | refine sO hp rfl (sTm rfl) ceCXk1 aa5 ?_ | refine sA hp rfl (sTm rfl) (sTm rfl) gaCXk0 aa5 ?_ | refine sG hp rfl (sTm rfl) (sTm rfl) gaCXk0 aa5 ?_); clear hp; intro w1 hp; simp only [spl, zSet, sSet] at hp)); simp only [put_some, put_none, sSet, zSet]))
            go_roundg (gk - 1)
            case measure => omega
            case rel => exact ⟨q + 1, sm, by omega, rfl, by go_num, HNX, hp⟩
          · have d1 : decide (ym < nn) = false := by simpa using hlow
            obtain ⟨r, hr⟩ : ∃ r : Bool, r = true ↔ (⟨xn, xv, xl, xq, ⟨xk, xh, xi, xm, xc, xx, xt⟩⟩ : Env) ∈ ys := by
              by_cases h : (⟨xn, xv, xl, xq, ⟨xk, xh, xi, xm, xc, xx, xt⟩⟩ : Env) ∈ ys
              · exact ⟨true, by simp [h]⟩
              · exact ⟨false, by simp [h]⟩
            have HHR : RowKit.Hid (HasR r ⟨xn, xv, xl, xq, ⟨xk, xh, xi, xm, xc, xx, xt⟩⟩ ys) := Lib.hid hr
            by_cases hhi : nn < ym
            · have d2 : decide (nn < ym) = true := by simpa using hhi
              have d3 : (ym == nn) = false := by rw [beq_eq_false_iff_ne]; omega
              cases r with
              | false =>
                clear hr hhi hlow
                go_wp2_with (first | (go_at_call 13; (with_reducible refine (check_y yd ym yb yu yc ya ys yk2 HYL.out _ (HYA.out.below hp.below) HCK.out).mono ?_); rintro e w1 ⟨rfl, hb⟩; replace hp := hp.call hb; clear hb) | go_skip | ((first | ((with_reducible refine pre_alloc _ rfl ?_); refine lZ hp rfl zero51 ?_; clear hp; intro b w1 hp) | ((with_reducible refine pre_box _ _ rfl ?_); refine lB hp rfl (sTm rfl) rfl ?_; clear hp; intro b w1 hp) | ((with_reducible refine pre_load _ _ rfl ?_); first | refine lO hp rfl (sTm rfl) ceCXk1 aa5 ?_ | refine lRO hp rfl (sTm rfl) ceCXk1 (by first | exact HX.out 0 _ rfl | exact HX.out 1 _ rfl | exact HX.out 2 _ rfl | exact HX.out 3 _ rfl) ?_ | refine lA hp rfl (sTm rfl) gaCXk0 aa5 ?_ | refine lR hp rfl (sTm rfl) gaCXk0 HX.out ?_) | ((with_reducible refine pre_store _ _ _ rfl ?_); (first | refine sO hp rfl (sTm rfl) ceCXk1 aa5 ?_ | refine sA hp rfl (sTm rfl) (sTm rfl) gaCXk0 aa5 ?_ | refine sG hp rfl (sTm rfl) (sTm rfl) gaCXk0 aa5 ?_); clear hp; intro w1 hp; simp only [spl, zSet, sSet] at hp)); simp only [put_some, put_none, sSet, zSet]))
                refine wp_region_keeps _ (Keeps.all hp.drew) [] [(0, true), (1, true), (2, true), (3, true), (4, true), (5, true), (6, true), (7, true), (8, true), (9, true), (10, true), (11, true), (12, true), (13, false), (14, true), (15, true), (16, true), (17, true), (18, true), (19, true), (20, true), (21, true), (22, true), (23, true), (24, true), (25, true), (26, true), (27, true), (28, true), (29, true), (30, true), (31, true), (32, true), (33, true), (34, true), (35, true), (36, true), (37, true), (38, true), (39, true), (40, false), (41, true), (42, true), (43, true)] (by kernel_rfl) (by kernel_rfl) rfl (by kernel_rfl) (fun _ _ d _ _ h => by cases d <;> exact h) ?_
                replace hp := hp.drew
                repeat' (with_reducible refine plan_is ?_); first | (with_reducible refine plan_nil ?_) | ((with_reducible refine plan_t ?_); refine plan_tk rfl ?_; (first | ((with_reducible refine tk_gd _ _ rfl ?_); refine tS (by first | exact wanted_no rfl rfl rfl rfl | exact wanted_nu rfl rfl rfl rfl) ?_) | ((with_reducible refine tk_mv _ rfl ?_); refine tM rfl ?_) | ((with_reducible refine tk_ld _ _ rfl ?_); first | refine tA rfl (sTm rfl) (by with_reducible first | exact agg27 | exact agg47) aa5 ?_ | refine tO rfl (sTm rfl) cell3 aa5 ?_ | refine tR rfl (sTm rfl) (by with_reducible first | exact agg27 | exact agg47) HX.out ?_ | refine tRO rfl (sTm rfl) cell3 (HX.out 0 _ rfl) ?_ | refine tRO rfl (sTm rfl) cell3 (HX.out 1 _ rfl) ?_ | refine tRO rfl (sTm rfl) cell3 (HX.out 2 _ rfl) ?_ | refine tRO rfl (sTm rfl) cell3 (HX.out 3 _ rfl) ?_) | refine tG (fun w _ => (by go_simp; try rfl)) ?_); try simp only [put_some, put_none, eval_tmp, eval_const, sSet, zSet, List.getD_cons_succ, List.getD_cons_zero, wrap_eq]) | (refine plan_do rfl (fun K hK => ?_); go_wp2_with (first | (go_at_call 21; (with_reducible refine (has_lit yd ym yb yu yc ya ys yk2 xn xv xl xq xk xh xi xm xc xx xt HYL.out _ HHR.out _ (HYA.out.below hp.below)).mono ?_); rintro e w1 ⟨rfl, hb⟩; replace hp := hp.call hb; clear hb) | go_skip); (refine hK.out _ _ (.inr (kall hp)) ?_); clear hK K; try simp only [put_some, put_none, eval_tmp, eval_const, sSet, zSet, List.getD_cons_succ, List.getD_cons_zero, wrap_eq])
                go_wp2_with (first | (go_at_call 19; (with_reducible refine (votes19 _).mono ?_); rintro e w1 ⟨rfl, hb⟩; replace hp := hp.call hb; clear hb) | go_skip | ((first | ((with_reducible refine pre_alloc _ rfl ?_); refine lZ hp rfl zero51 ?_; clear hp; intro b w1 hp) | ((with_reducible refine pre_box _ _ rfl ?_); refine lB hp rfl (sTm rfl) rfl ?_; clear hp; intro b w1 hp) | ((with_reducible refine pre_load _ _ rfl ?_); first | refine lO hp rfl (sTm rfl) ceCXk1 aa5 ?_ | refine lRO hp rfl (sTm rfl) ceCXk1 (by first | exact HX.out 0 _ rfl | exact HX.out 1 _ rfl | exact HX.out 2 _ rfl | exact HX.out 3 _ rfl) ?_ | refine lA hp rfl (sTm rfl) gaCXk0 aa5 ?_ | refine lR hp rfl (sTm rfl) gaCXk0 HX.out ?_) | ((with_reducible refine pre_store _ _ _ rfl ?_); (first | refine sO hp rfl (sTm rfl) ceCXk1 aa5 ?_ | refine sA hp rfl (sTm rfl) (sTm rfl) gaCXk0 aa5 ?_ | refine sG hp rfl (sTm rfl) (sTm rfl) gaCXk0 aa5 ?_); clear hp; intro w1 hp; simp only [spl, zSet, sSet] at hp)); simp only [put_some, put_none, sSet, zSet]))
                (go_ret; exact ⟨rfl, hp.below⟩)
              | true =>
                have hin := hr.1 rfl
                have HNX : RowKit.Hid (KeepsAt l nn ⟨xn, xv, xl, xq, ⟨xk, xh, xi, xm, xc, xx, xt⟩⟩ (q + 1) true) := Lib.hid (HKP.out.step HJ.out HCK.out (fun _ => hin) (fun _ _ => hin) (fun _ => .inr ⟨(by show nn ≤ ym; omega), hin⟩))
                clear hr hhi hlow hin
                cases sm
                all_goals
                  go_wp2_with (first | (go_at_call 13; (with_reducible refine (check_y yd ym yb yu yc ya ys yk2 HYL.out _ (HYA.out.below hp.below) HCK.out).mono ?_); rintro e w1 ⟨rfl, hb⟩; replace hp := hp.call hb; clear hb) | go_skip | ((first | ((with_reducible refine pre_alloc _ rfl ?_); refine lZ hp rfl zero51 ?_; clear hp; intro b w1 hp) | ((with_reducible refine pre_box _ _ rfl ?_); refine lB hp rfl (sTm rfl) rfl ?_; clear hp; intro b w1 hp) | ((with_reducible refine pre_load _ _ rfl ?_); first | refine lO hp rfl (sTm rfl) ceCXk1 aa5 ?_ | refine lRO hp rfl (sTm rfl) ceCXk1 (by first | exact HX.out 0 _ rfl | exact HX.out 1 _ rfl | exact HX.out 2 _ rfl | exact HX.out 3 _ rfl) ?_ | refine lA hp rfl (sTm rfl) gaCXk0 aa5 ?_ | refine lR hp rfl (sTm rfl) gaCXk0 HX.out ?_) | ((with_reducible refine pre_store _ _ _ rfl ?_); (first | refine sO hp rfl (sTm rfl) ceCXk1 aa5 ?_ | refine sA hp rfl (sTm rfl) (sTm rfl) gaCXk0 aa5 ?_ | refine sG hp rfl (sTm rfl) (sTm rfl) gaCXk0 aa5 ?_); clear hp; intro w1 hp; simp only [spl, zSet, sSet] at hp)); simp only [put_some, put_none, sSet, zSet]))
                  refine wp_region_keeps _ (Keeps.all hp.drew) [] [(0, true), (1, true), (2, true), (3, true), (4, true), (5, true), (6, true), (7, true), (8, true), (9, true), (10, true), (11, true), (12, true), (13, false), (14, true), (15, true), (16, true), (17, true), (18, true), (19, true), (20, true), (21, true), (22, true), (23, true), (24, true), (25, true), (26, true), (27, true), (28, true), (29, true), (30, true), (31, true), (32, true), (33, true), (34, true), (35, true), (36, true), (37, true), (38, true), (39, true), (40, false), (41, true), (42, true), (43, true)] (by kernel_rfl) (by kernel_rfl) rfl (by kernel_rfl) (fun _ _ d _ _ h => by cases d <;> exact h) ?_
                  replace hp := hp.drew
                  repeat' (with_reducible refine plan_is ?_); first | (with_reducible refine plan_nil ?_) | ((with_reducible refine plan_t ?_); refine plan_tk rfl ?_; (first | ((with_reducible refine tk_gd _ _ rfl ?_); refine tS (by first | exact wanted_no rfl rfl rfl rfl | exact wanted_nu rfl rfl rfl rfl) ?_) | ((with_reducible refine tk_mv _ rfl ?_); refine tM rfl ?_) | ((with_reducible refine tk_ld _ _ rfl ?_); first | refine tA rfl (sTm rfl) (by with_reducible first | exact agg27 | exact agg47) aa5 ?_ | refine tO rfl (sTm rfl) cell3 aa5 ?_ | refine tR rfl (sTm rfl) (by with_reducible first | exact agg27 | exact agg47) HX.out ?_ | refine tRO rfl (sTm rfl) cell3 (HX.out 0 _ rfl) ?_ | refine tRO rfl (sTm rfl) cell3 (HX.out 1 _ rfl) ?_ | refine tRO rfl (sTm rfl) cell3 (HX.out 2 _ rfl) ?_ | refine tRO rfl (sTm rfl) cell3 (HX.out 3 _ rfl) ?_) | refine tG (fun w _ => (by go_simp; try rfl)) ?_); try simp only [put_some, put_none, eval_tmp, eval_const, sSet, zSet, List.getD_cons_succ, List.getD_cons_zero, wrap_eq]) | (refine plan_do rfl (fun K hK => ?_); go_wp2_with (first | (go_at_call 21; (with_reducible refine (has_lit yd ym yb yu yc ya ys yk2 xn xv xl xq xk xh xi xm xc xx xt HYL.out _ HHR.out _ (HYA.out.below hp.below)).mono ?_); rintro e w1 ⟨rfl, hb⟩; replace hp := hp.call hb; clear hb) | go_skip); (refine hK.out _ _ (.inr (kall hp)) ?_); clear hK K; try simp only [put_some, put_none, eval_tmp, eval_const, sSet, zSet, List.getD_cons_succ, List.getD_cons_zero, wrap_eq])
                  go_wp2_with (first | go_skip | ((first | ((with_reducible refine pre_alloc _ rfl ?_); refine lZ hp rfl zero51 ?_; clear hp; intro b w1 hp) | ((with_reducible refine pre_box _ _ rfl ?_); refine lB hp rfl (sTm rfl) rfl ?_; clear hp; intro b w1 hp) | ((with_reducible refine pre_load _ _ rfl ?_); first | refine lO hp rfl (sTm rfl) ceCXk1 aa5 ?_ | refine lRO hp rfl (sTm rfl) ceCXk1 (by first | exact HX.out 0 _ rfl | exact HX.out 1 _ rfl | exact HX.out 2 _ rfl | exact HX.out 3 _ rfl) ?_ | refine lA hp rfl (sTm rfl) gaCXk0 aa5 ?_ | refine lR hp rfl (sTm rfl) gaCXk0 HX.out ?_) | ((with_reducible refine pre_store _ _ _ rfl ?_); (first | refine sO hp rfl (sTm rfl) ceCXk1 aa5 ?_ | refine sA hp rfl (sTm rfl) (sTm rfl) gaCXk0 aa5 ?_ | refine sG hp rfl (sTm rfl) (sTm rfl) gaCXk0 aa5 ?_); clear hp; intro w1 hp; simp only [spl, zSet, sSet] at hp)); simp only [put_some, put_none, sSet, zSet]))
                  refine wp_region_keeps _ (Keeps.all hp.drew) [] [(0, true), (1, true), (2, true), (3, true), (4, true), (5, true), (6, true), (7, false), (8, true), (9, false)] (by kernel_rfl) (by kernel_rfl) rfl (by kernel_rfl) (fun _ _ d _ _ h => by cases d <;> exact h) ?_
                  replace hp := hp.drew
                  repeat' (with_reducible refine plan_is ?_); first | (with_reducible refine plan_nil ?_) | ((with_reducible refine plan_t ?_); refine plan_tk rfl ?_; (first | ((with_reducible refine tk_gd _ _ rfl ?_); refine tS (by first | exact wanted_no rfl rfl rfl rfl | exact wanted_nu rfl rfl rfl rfl) ?_) | ((with_reducible refine tk_mv _ rfl ?_); refine tM rfl ?_) | ((with_reducible refine tk_ld _ _ rfl ?_); first | refine tA rfl (sTm rfl) (by with_reducible first | exact agg27 | exact agg47) aa5 ?_ | refine tR rfl (sTm rfl) (by with_reducible first | exact agg27 | exact agg47) HX.out ?_) | refine tG (fun w _ => (by go_simp; try rfl)) ?_); try simp only [put_some, put_none, eval_tmp, eval_const, sSet, zSet, List.getD_cons_succ, List.getD_cons_zero, wrap_eq]) | (refine plan_do rfl (fun K hK => ?_); go_wp2_with (first | (go_at_call 21; (with_reducible refine (has_lit yd ym yb yu yc ya ys yk2 xn xv xl xq xk xh xi xm xc xx xt HYL.out _ HHR.out _ (HYA.out.below hp.below)).mono ?_); rintro e w1 ⟨rfl, hb⟩; replace hp := hp.call hb; clear hb) | go_skip); (refine hK.out _ _ (.inr (kall hp)) ?_); clear hK K; try simp only [put_some, put_none, eval_tmp, eval_const, sSet, zSet, List.getD_cons_succ, List.getD_cons_zero, wrap_eq])
                  go_wp2_with (first | go_skip | ((first | ((with_reducible refine pre_alloc _ rfl ?_); refine lZ hp rfl zero51 ?_; clear hp; intro b w1 hp) | ((with_reducible refine pre_box _ _ rfl ?_); refine lB hp rfl (sTm rfl) rfl ?_; clear hp; intro b w1 hp) | ((with_reducible refine pre_load _ _ rfl ?_); first | refine lO hp rfl (sTm rfl) ceCXk1 aa5 ?_ | refine lRO hp rfl (sTm rfl) ceCXk1 (by first | exact HX.out 0 _ rfl | exact HX.out 1 _ rfl | exact HX.out 2 _ rfl | exact HX.out 3 _ rfl) ?_ | refine lA hp rfl (sTm rfl) gaCXk0 aa5 ?_ | refine lR hp rfl (sTm rfl) gaCXk0 HX.out ?_) | ((with_reducible refine pre_store _ _ _ rfl ?_); (first | refine sO hp rfl (sTm rfl) ceCXk1 aa5 ?_ | refine sA hp rfl (sTm rfl) (sTm rfl) gaCXk0 aa5 ?_ | refine sG hp rfl (sTm rfl) (sTm rfl) gaCXk0 aa5 ?_); clear hp; intro w1 hp; simp only [spl, zSet, sSet] at hp)); simp only [put_some, put_none, sSet, zSet]))
                  go_roundg (gk - 1)
                  case measure => omega
                  case rel => exact ⟨q + 1, true, by omega, rfl, by go_num, HNX, hp⟩
            · have d2 : decide (nn < ym) = false := by simpa using hhi
              have hem : ym = nn := by omega
              have d3 : (ym == nn) = true := by simpa using hem
              by_cases hnu : xn ≤ yu
              · have d4 : decide (xn ≤ yu) = true := by simpa using hnu
                cases r with
                | false =>
                  clear hr hhi hlow hem hnu
                  go_wp2_with (first | (go_at_call 13; (with_reducible refine (check_y yd ym yb yu yc ya ys yk2 HYL.out _ (HYA.out.below hp.below) HCK.out).mono ?_); rintro e w1 ⟨rfl, hb⟩; replace hp := hp.call hb; clear hb) | go_skip | ((first | ((with_reducible refine pre_alloc _ rfl ?_); refine lZ hp rfl zero51 ?_; clear hp; intro b w1 hp) | ((with_reducible refine pre_box _ _ rfl ?_); refine lB hp rfl (sTm rfl) rfl ?_; clear hp; intro b w1 hp) | ((with_reducible refine pre_load _ _ rfl ?_); first | refine lO hp rfl (sTm rfl) ceCXk1 aa5 ?_ | refine lRO hp rfl (sTm rfl) ceCXk1 (by first | exact HX.out 0 _ rfl | exact HX.out 1 _ rfl | exact HX.out 2 _ rfl | exact HX.out 3 _ rfl) ?_ | refine lA hp rfl (sTm rfl) gaCXk0 aa5 ?_ | refine lR hp rfl (sTm rfl) gaCXk0 HX.out ?_) | ((with_reducible refine pre_store _ _ _ rfl ?_); (first | refine sO hp rfl (sTm rfl) ceCXk1 aa5 ?_ | refine sA hp rfl (sTm rfl) (sTm rfl) gaCXk0 aa5 ?_ | refine sG hp rfl (sTm rfl) (sTm rfl) gaCXk0 aa5 ?_); clear hp; intro w1 hp; simp only [spl, zSet, sSet] at hp)); simp only [put_some, put_none, sSet, zSet]))
                  refine wp_region_keeps _ (Keeps.all hp.drew) [] [(0, true), (1, true), (2, true), (3, true), (4, true), (5, true), (6, true), (7, true), (8, true), (9, true), (10, true), (11, true), (12, true), (13, false), (14, true), (15, true), (16, true), (17, true), (18, true), (19, true), (20, true), (21, true), (22, true), (23, true), (24, true), (25, true), (26, true), (27, true), (28, true), (29, true), (30, true), (31, true), (32, true), (33, true), (34, true), (35, true), (36, true), (37, true), (38, true), (39, true), (40, false), (41, true), (42, true), (43, true)] (by kernel_rfl) (by kernel_rfl) rfl (by kernel_rfl) (fun _ _ d _ _ h => by cases d <;> exact h) ?_
                  replace hp := hp.drew
                  repeat' (with_reducible refine plan_is ?_); first | (with_reducible refine plan_nil ?_) | ((with_reducible refine plan_t ?_); refine plan_tk rfl ?_; (first | ((with_reducible refine tk_gd _ _ rfl ?_); refine tS (by first | exact wanted_no rfl rfl rfl rfl | exact wanted_nu rfl rfl rfl rfl) ?_) | ((with_reducible refine tk_mv _ rfl ?_); refine tM rfl ?_) | ((with_reducible refine tk_ld _ _ rfl ?_); first | refine tA rfl (sTm rfl) (by with_reducible first | exact agg27 | exact agg47) aa5 ?_ | refine tO rfl (sTm rfl) cell3 aa5 ?_ | refine tR rfl (sTm rfl) (by with_reducible first | exact agg27 | exact agg47) HX.out ?_ | refine tRO rfl (sTm rfl) cell3 (HX.out 0 _ rfl) ?_ | refine tRO rfl (sTm rfl) cell3 (HX.out 1 _ rfl) ?_ | refine tRO rfl (sTm rfl) cell3 (HX.out 2 _ rfl) ?_ | refine tRO rfl (sTm rfl) cell3 (HX.out 3 _ rfl) ?_) | refine tG (fun w _ => (by go_simp; try rfl)) ?_); try simp only [put_some, put_none, eval_tmp, eval_const, sSet, zSet, List.getD_cons_succ, List.getD_cons_zero, wrap_eq]) | (refine plan_do rfl (fun K hK => ?_); go_wp2_with (first | (go_at_call 21; (with_reducible refine (has_lit yd ym yb yu yc ya ys yk2 xn xv xl xq xk xh xi xm xc xx xt HYL.out _ HHR.out _ (HYA.out.below hp.below)).mono ?_); rintro e w1 ⟨rfl, hb⟩; replace hp := hp.call hb; clear hb) | go_skip); (refine hK.out _ _ (.inr (kall hp)) ?_); clear hK K; try simp only [put_some, put_none, eval_tmp, eval_const, sSet, zSet, List.getD_cons_succ, List.getD_cons_zero, wrap_eq])
                  go_wp2_with (first | (go_at_call 19; (with_reducible refine (votes19 _).mono ?_); rintro e w1 ⟨rfl, hb⟩; replace hp := hp.call hb; clear hb) | go_skip | ((first | ((with_reducible refine pre_alloc _ rfl ?_); refine lZ hp rfl zero51 ?_; clear hp; intro b w1 hp) | ((with_reducible refine pre_box _ _ rfl ?_); refine lB hp rfl (sTm rfl) rfl ?_; clear hp; intro b w1 hp) | ((with_reducible refine pre_load _ _ rfl ?_); first | refine lO hp rfl (sTm rfl) ceCXk1 aa5 ?_ | refine lRO hp rfl (sTm rfl) ceCXk1 (by first | exact HX.out 0 _ rfl | exact HX.out 1 _ rfl | exact HX.out 2 _ rfl | exact HX.out 3 _ rfl) ?_ | refine lA hp rfl (sTm rfl) gaCXk0 aa5 ?_ | refine lR hp rfl (sTm rfl) gaCXk0 HX.out ?_) | ((with_reducible refine pre_store _ _ _ rfl ?_); (first | refine sO hp rfl (sTm rfl) ceCXk1 aa5 ?_ | refine sA hp rfl (sTm rfl) (sTm rfl) gaCXk0 aa5 ?_ | refine sG hp rfl (sTm rfl) (sTm rfl) gaCXk0 aa5 ?_); clear hp; intro w1 hp; simp only [spl, zSet, sSet] at hp)); simp only [put_some, put_none, sSet, zSet]))
                  (go_ret; exact ⟨rfl, hp.below⟩)
                | true =>
                  have hin := hr.1 rfl
                  have HNX : RowKit.Hid (KeepsAt l nn ⟨xn, xv, xl, xq, ⟨xk, xh, xi, xm, xc, xx, xt⟩⟩ (q + 1) true) := Lib.hid (HKP.out.step HJ.out HCK.out (fun _ => hin) (fun _ _ => hin) (fun _ => .inr ⟨(by show nn ≤ ym; omega), hin⟩))
                  clear hr hhi hlow hin hem hnu
                  cases sm
                  all_goals
                    go_wp2_with (first | (go_at_call 13; (with_reducible refine (check_y yd ym yb yu yc ya ys yk2 HYL.out _ (HYA.out.below hp.below) HCK.out).mono ?_); rintro e w1 ⟨rfl, hb⟩; replace hp := hp.call hb; clear hb) | go_skip | ((first | ((with_reducible refine pre_alloc _ rfl ?_); refine lZ hp rfl zero51 ?_; clear hp; intro b w1 hp) | ((with_reducible refine pre_box _ _ rfl ?_); refine lB hp rfl (sTm rfl) rfl ?_; clear hp; intro b w1 hp) | ((with_reducible refine pre_load _ _ rfl ?_); first | refine lO hp rfl (sTm rfl) ceCXk1 aa5 ?_ | refine lRO hp rfl (sTm rfl) ceCXk1 (by first | exact HX.out 0 _ rfl | exact HX.out 1 _ rfl | exact HX.out 2 _ rfl | exact HX.out 3 _ rfl) ?_ | refine lA hp rfl (sTm rfl) gaCXk0 aa5 ?_ | refine lR hp rfl (sTm rfl) gaCXk0 HX.out ?_) | ((with_reducible refine pre_store _ _ _ rfl ?_); (first | refine sO hp rfl (sTm rfl) ceCXk1 aa5 ?_ | refine sA hp rfl (sTm rfl) (sTm rfl) gaCXk0 aa5 ?_ | refine sG hp rfl (sTm rfl) (sTm rfl) gaCXk0 aa5 ?_); clear hp; intro w1 hp; simp only [spl, zSet, sSet] at hp)); simp only [put_some, put_none, sSet, zSet]))
                    refine wp_region_keeps _ (Keeps.all hp.drew) [] [(0, true), (1, true), (2, true), (3, true), (4, true), (5, true), (6, true), (7, true), (8, true), (9, true), (10, true), (11, true), (12, true), (13, false), (14, true), (15, true), (16, true), (17, true), (18, true), (19, true), (20, true), (21, true), (22, true), (23, true), (24, true), (25, true), (26, true), (27, true), (28, true), (29, true), (30, true), (31, true), (32, true), (33, true), (34, true), (35, true), (36, true), (37, true), (38, true), (39, true), (40, false), (41, true), (42, true), (43, true)] (by kernel_rfl) (by kernel_rfl) rfl (by kernel_rfl) (fun _ _ d _ _ h => by cases d <;> exact h) ?_
                    replace hp := hp.drew
                    repeat' (with_reducible refine plan_is ?_); first | (with_reducible refine plan_nil ?_) | ((with_reducible refine plan_t ?_); refine plan_tk rfl ?_; (first | ((with_reducible refine tk_gd _ _ rfl ?_); refine tS (by first | exact wanted_no rfl rfl rfl rfl | exact wanted_nu rfl rfl rfl rfl) ?_) | ((with_reducible refine tk_mv _ rfl ?_); refine tM rfl ?_) | ((with_reducible refine tk_ld _ _ rfl ?_); first | refine tA rfl (sTm rfl) (by with_reducible first | exact agg27 | exact agg47) aa5 ?_ | refine tO rfl (sTm rfl) cell3 aa5 ?_ | refine tR rfl (sTm rfl) (by with_reducible first | exact agg27 | exact agg47) HX.out ?_ | refine tRO rfl (sTm rfl) cell3 (HX.out 0 _ rfl) ?_ | refine tRO rfl (sTm rfl) cell3 (HX.out 1 _ rfl) ?_ | refine tRO rfl (sTm rfl) cell3 (HX.out 2 _ rfl) ?_ | refine tRO rfl (sTm rfl) cell3 (HX.out 3 _ rfl) ?_) | refine tG (fun w _ => (by go_simp; try rfl)) ?_); try simp only [put_some, put_none, eval_tmp, eval_const, sSet, zSet, List.getD_cons_succ, List.getD_cons_zero, wrap_eq]) | (refine plan_do rfl (fun K hK => ?_); go_wp2_with (first | (go_at_call 21; (with_reducible refine (has_lit yd ym yb yu yc ya ys yk2 xn xv xl xq xk xh xi xm xc xx xt HYL.out _ HHR.out _ (HYA.out.below hp.below)).mono ?_); rintro e w1 ⟨rfl, hb⟩; replace hp := hp.call hb; clear hb) | go_skip); (refine hK.out _ _ (.inr (kall hp)) ?_); clear hK K; try simp only [put_some, put_none, eval_tmp, eval_const, sSet, zSet, List.getD_cons_succ, List.getD_cons_zero, wrap_eq])
                    go_wp2_with (first | go_skip | ((first | ((with_reducible refine pre_alloc _ rfl ?_); refine lZ hp rfl zero51 ?_; clear hp; intro b w1 hp) | ((with_reducible refine pre_box _ _ rfl ?_); refine lB hp rfl (sTm rfl) rfl ?_; clear hp; intro b w1 hp) | ((with_reducible refine pre_load _ _ rfl ?_); first | refine lO hp rfl (sTm rfl) ceCXk1 aa5 ?_ | refine lRO hp rfl (sTm rfl) ceCXk1 (by first | exact HX.out 0 _ rfl | exact HX.out 1 _ rfl | exact HX.out 2 _ rfl | exact HX.out 3 _ rfl) ?_ | refine lA hp rfl (sTm rfl) gaCXk0 aa5 ?_ | refine lR hp rfl (sTm rfl) gaCXk0 HX.out ?_) | ((with_reducible refine pre_store _ _ _ rfl ?_); (first | refine sO hp rfl (sTm rfl) ceCXk1 aa5 ?_ | refine sA hp rfl (sTm rfl) (sTm rfl) gaCXk0 aa5 ?_ | refine sG hp rfl (sTm rfl) (sTm rfl) gaCXk0 aa5 ?_); clear hp; intro w1 hp; simp only [spl, zSet, sSet] at hp)); simp only [put_some, put_none, sSet, zSet]))
                    refine wp_region_keeps _ (Keeps.all hp.drew) [] [(0, true), (1, true), (2, true), (3, true), (4, true), (5, true), (6, true), (7, false), (8, true), (9, false)] (by kernel_rfl) (by kernel_rfl) rfl (by kernel_rfl) (fun _ _ d _ _ h => by cases d <;> exact h) ?_
                    replace hp := hp.drew
                    repeat' (with_reducible refine plan_is ?_); first | (with_reducible refine plan_nil ?_) | ((with_reducible refine plan_t ?_); refine plan_tk rfl ?_; (first | ((with_reducible refine tk_gd _ _ rfl ?_); refine tS (by first | exact wanted_no rfl rfl rfl rfl | exact wanted_nu rfl rfl rfl rfl) ?_) | ((with_reducible refine tk_mv _ rfl ?_); refine tM rfl ?_) | ((with_reducible refine tk_ld _ _ rfl ?_); first | refine tA rfl (sTm rfl) (by with_reducible first | exact agg27 | exact agg47) aa5 ?_ | refine tR rfl (sTm rfl) (by with_reducible first | exact agg27 | exact agg47) HX.out ?_) | refine tG (fun w _ => (by go_simp; try rfl)) ?_); try simp only [put_some, put_none, eval_tmp, eval_const, sSet, zSet, List.getD_cons_succ, List.getD_cons_zero, wrap_eq]) | (refine plan_do rfl (fun K hK => ?_); go_wp2_with (first | (go_at_call 21; (with_reducible refine (has_lit yd ym yb yu yc ya ys yk2 xn xv xl xq xk xh xi xm xc xx xt HYL.out _ HHR.out _ (HYA.out.below hp.below)).mono ?_); rintro e w1 ⟨rfl, hb⟩; replace hp := hp.call hb; clear hb) | go_skip); (refine hK.out _ _ (.inr (kall hp)) ?_); clear hK K; try simp only [put_some, put_none, eval_tmp, eval_const, sSet, zSet, List.getD_cons_succ, List.getD_cons_zero, wrap_eq])
                    go_wp2_with (first | go_skip | ((first | ((with_reducible refine pre_alloc _ rfl ?_); refine lZ hp rfl zero51 ?_; clear hp; intro b w1 hp) | ((with_reducible refine pre_box _ _ rfl ?_); refine lB hp rfl (sTm rfl) rfl ?_; clear hp; intro b w1 hp) | ((with_reducible refine pre_load _ _ rfl ?_); first | refine lO hp rfl (sTm rfl) ceCXk1 aa5 ?_ | refine lRO hp rfl (sTm rfl) ceCXk1 (by first | exact HX.out 0 _ rfl | exact HX.out 1 _ rfl | exact HX.out 2 _ rfl | exact HX.out 3 _ rfl) ?_ | refine lA hp rfl (sTm rfl) gaCXk0 aa5 ?_ | refine lR hp rfl (sTm rfl) gaCXk0 HX.out ?_) | ((with_reducible refine pre_store _ _ _ rfl ?_); (first | refine sO hp rfl (sTm rfl) ceCXk1 aa5 ?_ | refine sA hp rfl (sTm rfl) (sTm rfl) gaCXk0 aa5 ?_ | refine sG hp rfl (sTm rfl) (sTm rfl) gaCXk0 aa5 ?_); clear hp; intro w1 hp; simp only [spl, zSet, sSet] at hp)); simp only [put_some, put_none, sSet, zSet]))
                    go_roundg (gk - 1)
                    case measure => omega
                    case rel => exact ⟨q + 1, true, by omega, rfl, by go_num, HNX, hp⟩
              · have d4 : decide (xn ≤ yu) = false := by simpa using hnu
                have HNX : RowKit.Hid (KeepsAt l nn ⟨xn, xv, xl, xq, ⟨xk, xh, xi, xm, xc, xx, xt⟩⟩ (q + 1) (sm || r)) := Lib.hid (HKP.out.step HJ.out HCK.out (fun h => (by simp only at h; omega)) (fun _ h => (by simp only at h; omega)) (fun h => (by
                  rw [Bool.or_eq_true] at h
                  rcases h with h | h
                  · exact .inl h
                  · exact .inr ⟨(by show nn ≤ ym; omega), hr.1 h⟩)))
                clear hr hhi hlow hem hnu
                cases sm
                all_goals
                  go_wp2_with (first | (go_at_call 13; (with_reducible refine (check_y yd ym yb yu yc ya ys yk2 HYL.out _ (HYA.out.below hp.below) HCK.out).mono ?_); rintro e w1 ⟨rfl, hb⟩; replace hp := hp.call hb; clear hb) | go_skip | ((first | ((with_reducible refine pre_alloc _ rfl ?_); refine lZ hp rfl zero51 ?_; clear hp; intro b w1 hp) | ((with_reducible refine pre_box _ _ rfl ?_); refine lB hp rfl (sTm rfl) rfl ?_; clear hp; intro b w1 hp) | ((with_reducible refine pre_load _ _ rfl ?_); first | refine lO hp rfl (sTm rfl) ceCXk1 aa5 ?_ | refine lRO hp rfl (sTm rfl) ceCXk1 (by first | exact HX.out 0 _ rfl | exact HX.out 1 _ rfl | exact HX.out 2 _ rfl | exact HX.out 3 _ rfl) ?_ | refine lA hp rfl (sTm rfl) gaCXk0 aa5 ?_ | refine lR hp rfl (sTm rfl) gaCXk0 HX.out ?_) | ((with_reducible refine pre_store _ _ _ rfl ?_); (first | refine sO hp rfl (sTm rfl) ceCXk1 aa5 ?_ | refine sA hp rfl (sTm rfl) (sTm rfl) gaCXk0 aa5 ?_ | refine sG hp rfl (sTm rfl) (sTm rfl) gaCXk0 aa5 ?_); clear hp; intro w1 hp; simp only [spl, zSet, sSet] at hp)); simp only [put_some, put_none, sSet, zSet]))
                  refine wp_region_keeps _ (Keeps.all hp.drew) [] [(0, true), (1, true), (2, true), (3, true), (4, true), (5, true), (6, true), (7, true), (8, true), (9, true), (10, true), (11, true), (12, true), (13, false), (14, true), (15, true), (16, true), (17, true), (18, true), (19, true), (20, true), (21, true), (22, true), (23, true), (24, true), (25, true), (26, true), (27, true), (28, true), (29, true), (30, true), (31, true), (32, true), (33, true), (34, true), (35, true), (36, true), (37, true), (38, true), (39, true), (40, false), (41, true), (42, true), (43, true)] (by kernel_rfl) (by kernel_rfl) rfl (by kernel_rfl) (fun _ _ d _ _ h => by cases d <;> exact h) ?_
                  replace hp := hp.drew
                  repeat' (with_reducible refine plan_is ?_); first | (with_reducible refine plan_nil ?_) | ((with_reducible refine plan_t ?_); refine plan_tk rfl ?_; (first | ((with_reducible refine tk_gd _ _ rfl ?_); refine tS (by first | exact wanted_no rfl rfl rfl rfl | exact wanted_nu rfl rfl rfl rfl) ?_) | ((with_reducible refine tk_mv _ rfl ?_); refine tM rfl ?_) | ((with_reducible refine tk_ld _ _ rfl ?_); first | refine tA rfl (sTm rfl) (by with_reducible first | exact agg27 | exact agg47) aa5 ?_ | refine tO rfl (sTm rfl) cell3 aa5 ?_ | refine tR rfl (sTm rfl) (by with_reducible first | exact agg27 | exact agg47) HX.out ?_ | refine tRO rfl (sTm rfl) cell3 (HX.out 0 _ rfl) ?_ | refine tRO rfl (sTm rfl) cell3 (HX.out 1 _ rfl) ?_ | refine tRO rfl (sTm rfl) cell3 (HX.out 2 _ rfl) ?_ | refine tRO rfl (sTm rfl) cell3 (HX.out 3 _ rfl) ?_) | refine tG (fun w _ => (by go_simp; try rfl)) ?_); try simp only [put_some, put_none, eval_tmp, eval_const, sSet, zSet, List.getD_cons_succ, List.getD_cons_zero, wrap_eq]) | (refine plan_do rfl (fun K hK => ?_); go_wp2_with (first | (go_at_call 21; (with_reducible refine (has_lit yd ym yb yu yc ya ys yk2 xn xv xl xq xk xh xi xm xc xx xt HYL.out _ HHR.out _ (HYA.out.below hp.below)).mono ?_); rintro e w1 ⟨rfl, hb⟩; replace hp := hp.call hb; clear hb) | go_skip); (refine hK.out _ _ (.inr (kall hp)) ?_); clear hK K; try simp only [put_some, put_none, eval_tmp, eval_const, sSet, zSet, List.getD_cons_succ, List.getD_cons_zero, wrap_eq])
                  go_wp2_with (first | go_skip | ((first | ((with_reducible refine pre_alloc _ rfl ?_); refine lZ hp rfl zero51 ?_; clear hp; intro b w1 hp) | ((with_reducible refine pre_box _ _ rfl ?_); refine lB hp rfl (sTm rfl) rfl ?_; clear hp; intro b w1 hp) | ((with_reducible refine pre_load _ _ rfl ?_); first | refine lO hp rfl (sTm rfl) ceCXk1 aa5 ?_ | refine lRO hp rfl (sTm rfl) ceCXk1 (by first | exact HX.out 0 _ rfl | exact HX.out 1 _ rfl | exact HX.out 2 _ rfl | exact HX.out 3 _ rfl) ?_ | refine lA hp rfl (sTm rfl) gaCXk0 aa5 ?_ | refine lR hp rfl (sTm rfl) gaCXk0 HX.out ?_) | ((with_reducible refine pre_store _ _ _ rfl ?_); (first | refine sO hp rfl (sTm rfl) ceCXk1 aa5 ?_ | refine sA hp rfl (sTm rfl) (sTm rfl) gaCXk0 aa5 ?_ | refine sG hp rfl (sTm rfl) (sTm rfl) gaCXk0 aa5 ?_); clear hp; intro w1 hp; simp only [spl, zSet, sSet] at hp)); simp only [put_some, put_none, sSet, zSet]))
                  refine wp_region_keeps _ (Keeps.all hp.drew) [] [(0, true), (1, true), (2, true), (3, true), (4, true), (5, true), (6, true), (7, false), (8, true), (9, false)] (by kernel_rfl) (by kernel_rfl) rfl (by kernel_rfl) (fun _ _ d _ _ h => by cases d <;> exact h) ?_
                  replace hp := hp.drew
                  repeat' (with_reducible refine plan_is ?_); first | (with_reducible refine plan_nil ?_) | ((with_reducible refine plan_t ?_); refine plan_tk rfl ?_; (first | ((with_reducible refine tk_gd _ _ rfl ?_); refine tS (by first | exact wanted_no rfl rfl rfl rfl | exact wanted_nu rfl rfl rfl rfl) ?_) | ((with_reducible refine tk_mv _ rfl ?_); refine tM rfl ?_) | ((with_reducible refine tk_ld _ _ rfl ?_); first | refine tA rfl (sTm rfl) (by with_reducible first | exact agg27 | exact agg47) aa5 ?_ | refine tR rfl (sTm rfl) (by with_reducible first | exact agg27 | exact agg47) HX.out ?_) | refine tG (fun w _ => (by go_simp; try rfl)) ?_); try simp only [put_some, put_none, eval_tmp, eval_const, sSet, zSet, List.getD_cons_succ, List.getD_cons_zero, wrap_eq]) | (refine plan_do rfl (fun K hK => ?_); go_wp2_with (first | (go_at_call 21; (with_reducible refine (has_lit yd ym yb yu yc ya ys yk2 xn xv xl xq xk xh xi xm xc xx xt HYL.out _ HHR.out _ (HYA.out.below hp.below)).mono ?_); rintro e w1 ⟨rfl, hb⟩; replace hp := hp.call hb; clear hb) | go_skip); (refine hK.out _ _ (.inr (kall hp)) ?_); clear hK K; try simp only [put_some, put_none, eval_tmp, eval_const, sSet, zSet, List.getD_cons_succ, List.getD_cons_zero, wrap_eq])
                  go_wp2_with (first | go_skip | ((first | ((with_reducible refine pre_alloc _ rfl ?_); refine lZ hp rfl zero51 ?_; clear hp; intro b w1 hp) | ((with_reducible refine pre_box _ _ rfl ?_); refine lB hp rfl (sTm rfl) rfl ?_; clear hp; intro b w1 hp) | ((with_reducible refine pre_load _ _ rfl ?_); first | refine lO hp rfl (sTm rfl) ceCXk1 aa5 ?_ | refine lRO hp rfl (sTm rfl) ceCXk1 (by first | exact HX.out 0 _ rfl | exact HX.out 1 _ rfl | exact HX.out 2 _ rfl | exact HX.out 3 _ rfl) ?_ | refine lA hp rfl (sTm rfl) gaCXk0 aa5 ?_ | refine lR hp rfl (sTm rfl) gaCXk0 HX.out ?_) | ((with_reducible refine pre_store _ _ _ rfl ?_); (first | refine sO hp rfl (sTm rfl) ceCXk1 aa5 ?_ | refine sA hp rfl (sTm rfl) (sTm rfl) gaCXk0 aa5 ?_ | refine sG hp rfl (sTm rfl) (sTm rfl) gaCXk0 aa5 ?_); clear hp; intro w1 hp; simp only [spl, zSet, sSet] at hp)); simp only [put_some, put_none, sSet, zSet]))
                  go_roundg (gk - 1)
                  case measure => omega
                  case rel => exact ⟨q + 1, _, by omega, rfl, by go_num, HNX, hp⟩
      · obtain rfl : q = l.length := by omega
        have f2 : decide ((l.length : Int) < (l.length : Int)) = false := by simp
        clear hkq hlt
        rcases ch_total nodes view l ⟨vw, nm, bs, im, ea, es, ec⟩ cm with hs | ⟨f, s, hs⟩
        · have HS := Lib.hid hs
          clear hs
          go_wp2_with (first | (go_at_call 22; (with_reducible refine (choose22 nodes view la l lk vw nm bs im ea es ec cm HLN.out HEC.out HSM.out _ (HKA.out.below hp.below) (HL.out.below hp.below) (fun y hy => (HLV.out y hy).below hp.below)).mono ?_); rintro e w1 hq; obtain ⟨rfl, hb⟩ := ch_none HS.out hq; replace hp := hp.call hb; clear hb hq) | (go_at_call 19; (with_reducible refine (votes19 _).mono ?_); rintro e w1 ⟨rfl, hb⟩; replace hp := hp.call hb; clear hb) | (go_at_call 23; (with_reducible refine (chooses23 _).mono ?_); rintro e w1 ⟨rfl, hb⟩; replace hp := hp.call hb; clear hb) | go_skip | ((first | ((with_reducible refine pre_alloc _ rfl ?_); refine lZ hp rfl zero51 ?_; clear hp; intro b w1 hp) | ((with_reducible refine pre_box _ _ rfl ?_); refine lB hp rfl (sTm rfl) rfl ?_; clear hp; intro b w1 hp) | ((with_reducible refine pre_load _ _ rfl ?_); first | refine lO hp rfl (sTm rfl) ceCXk1 aa5 ?_ | refine lA hp rfl (sTm rfl) gaCXk0 aa5 ?_) | ((with_reducible refine pre_store _ _ _ rfl ?_); (first | refine sO hp rfl (sTm rfl) ceCXk1 aa5 ?_ | refine sA hp rfl (sTm rfl) (sTm rfl) gaCXk0 aa5 ?_ | refine sG hp rfl (sTm rfl) (sTm rfl) gaCXk0 aa5 ?_); clear hp; intro w1 hp; simp only [spl, zSet, sSet] at hp)); simp only [put_some, put_none, sSet, zSet]))
          (go_ret; exact ⟨rfl, hp.below⟩)
        · have HS := Lib.hid hs
          have HFL := Lib.hid (ch_len hs HES.out)
          by_cases hcm : xn ≤ cm
          · have d1 : decide (xn ≤ cm) = true := by simpa using hcm
            clear hs hcm
            cases sm
            all_goals
              go_wp2_with (first | (go_at_call 22; (with_reducible refine (choose22 nodes view la l lk vw nm bs im ea es ec cm HLN.out HEC.out HSM.out _ (HKA.out.below hp.below) (HL.out.below hp.below) (fun y hy => (HLV.out y hy).below hp.below)).mono ?_); rintro e w1 hq; obtain ⟨a1, c1, R1, rfl, hk, hp2⟩ := ch_some HS.out hq; replace hp := hp.join hp2; have HK1 := Lib.hid hk; clear hq hk hp2; try simp only [List.cons_append, List.nil_append, List.append_assoc] at hp) | (go_at_call 19; (with_reducible refine (votes19 _).mono ?_); rintro e w1 ⟨rfl, hb⟩; replace hp := hp.call hb; clear hb) | (go_at_call 23; (with_reducible refine (chooses23 _).mono ?_); rintro e w1 ⟨rfl, hb⟩; replace hp := hp.call hb; clear hb) | go_skip | ((first | ((with_reducible refine pre_alloc _ rfl ?_); refine lZ hp rfl zero51 ?_; clear hp; intro b w1 hp) | ((with_reducible refine pre_box _ _ rfl ?_); refine lB hp rfl (sTm rfl) rfl ?_; clear hp; intro b w1 hp) | ((with_reducible refine pre_load _ _ rfl ?_); first | refine lO hp rfl (sTm rfl) ceCXk1 aa5 ?_ | refine lA hp rfl (sTm rfl) gaCXk0 aa5 ?_) | ((with_reducible refine pre_store _ _ _ rfl ?_); (first | refine sO hp rfl (sTm rfl) ceCXk1 aa5 ?_ | refine sA hp rfl (sTm rfl) (sTm rfl) gaCXk0 aa5 ?_ | refine sG hp rfl (sTm rfl) (sTm rfl) gaCXk0 aa5 ?_); clear hp; intro w1 hp; simp only [spl, zSet, sSet] at hp)); simp only [put_some, put_none, sSet, zSet]))
              (go_ret; exact ⟨rfl, hp.below⟩)
          · have d1 : decide (xn ≤ cm) = false := by simpa using hcm
            cases sm with
            | false =>
              clear hs hcm
              go_wp2_with (first | (go_at_call 22; (with_reducible refine (choose22 nodes view la l lk vw nm bs im ea es ec cm HLN.out HEC.out HSM.out _ (HKA.out.below hp.below) (HL.out.below hp.below) (fun y hy => (HLV.out y hy).below hp.below)).mono ?_); rintro e w1 hq; obtain ⟨a1, c1, R1, rfl, hk, hp2⟩ := ch_some HS.out hq; replace hp := hp.join hp2; have HK1 := Lib.hid hk; clear hq hk hp2; try simp only [List.cons_append, List.nil_append, List.append_assoc] at hp) | (go_at_call 19; (with_reducible refine (votes19 _).mono ?_); rintro e w1 ⟨rfl, hb⟩; replace hp := hp.call hb; clear hb) | (go_at_call 23; (with_reducible refine (chooses23 _).mono ?_); rintro e w1 ⟨rfl, hb⟩; replace hp := hp.call hb; clear hb) | go_skip | ((first | ((with_reducible refine pre_alloc _ rfl ?_); refine lZ hp rfl zero51 ?_; clear hp; intro b w1 hp) | ((with_reducible refine pre_box _ _ rfl ?_); refine lB hp rfl (sTm rfl) rfl ?_; clear hp; intro b w1 hp) | ((with_reducible refine pre_load _ _ rfl ?_); first | refine lO hp rfl (sTm rfl) ceCXk1 aa5 ?_ | refine lA hp rfl (sTm rfl) gaCXk0 aa5 ?_) | ((with_reducible refine pre_store _ _ _ rfl ?_); (first | refine sO hp rfl (sTm rfl) ceCXk1 aa5 ?_ | refine sA hp rfl (sTm rfl) (sTm rfl) gaCXk0 aa5 ?_ | refine sG hp rfl (sTm rfl) (sTm rfl) gaCXk0 aa5 ?_); clear hp; intro w1 hp; simp only [spl, zSet, sSet] at hp)); simp only [put_some, put_none, sSet, zSet]))
              (go_ret; exact ⟨rfl, hp.below⟩)
            | true =>
              have HIN : RowKit.Hid ((⟨xn, xv, xl, xq, ⟨xk, xh, xi, xm, xc, xx, xt⟩⟩ : Env) ∈ f) := Lib.hid (keeps_vt HKP.out hs (by show cm < xn; omega))
              clear hs hcm
              go_wp2_with (first | (go_at_call 22; (with_reducible refine (choose22 nodes view la l lk vw nm bs im ea es ec cm HLN.out HEC.out HSM.out _ (HKA.out.below hp.below) (HL.out.below hp.below) (fun y hy => (HLV.out y hy).below hp.below)).mono ?_); rintro e w1 hq; obtain ⟨a1, c1, R1, rfl, hk, hp2⟩ := ch_some HS.out hq; replace hp := hp.join hp2; have HK1 := Lib.hid hk; clear hq hk hp2; try simp only [List.cons_append, List.nil_append, List.append_assoc] at hp) | go_skip | ((first | ((with_reducible refine pre_alloc _ rfl ?_); refine lZ hp rfl zero51 ?_; clear hp; intro b w1 hp) | ((with_reducible refine pre_box _ _ rfl ?_); refine lB hp rfl (sTm rfl) rfl ?_; clear hp; intro b w1 hp) | ((with_reducible refine pre_load _ _ rfl ?_); first | refine lO hp rfl (sTm rfl) ceCXk1 aa5 ?_ | refine lA hp rfl (sTm rfl) gaCXk0 aa5 ?_) | ((with_reducible refine pre_store _ _ _ rfl ?_); (first | refine sO hp rfl (sTm rfl) ceCXk1 aa5 ?_ | refine sA hp rfl (sTm rfl) (sTm rfl) gaCXk0 aa5 ?_ | refine sG hp rfl (sTm rfl) (sTm rfl) gaCXk0 aa5 ?_); clear hp; intro w1 hp; simp only [spl, zSet, sSet] at hp)); simp only [put_some, put_none, sSet, zSet]))
              obtain ⟨b17, hb17⟩ := hp.id0
              subst hb17
              have HE17 : RowKit.Hid (w1.cell? ⟨b17, 16, none⟩ = some (.slice a1 f.length c1)) := Lib.hid (hp.cell at0 rfl)
              have HB13 : RowKit.Hid (∀ (j : Nat) (v : Value), ([.int .i64 xn, .int .i64 xv, .int .i64 xl, .int .i64 xq, .int .i64 xk, .int .i64 xh, .int .i64 xi, .int .i64 xm, .int .i64 xc, .int .i64 xx, .int .i64 xt] : List Value)[j]? = some v → w1.cell? ⟨b13, 0 + j, none⟩ = some v) := Lib.hid (fun j v hv => by rw [Nat.zero_add]; exact hp.cell at1 hv)
              have HRF : RowKit.Hid (RowIs w1 a1 (f.flatMap envL)) := Lib.hid (HK1.out.at hp (fun p hm => by simp [hm]))
              have HBV := Lib.hid hp.below
              clear HKA HL HLV HK1
              replace hp := Hp.start w1
              go_loopg [20] f.length (fun gk i wr => ∃ j : Nat, gk + j = f.length ∧ i = .int .i64 j ∧ RowKit.Hid (¬ (⟨xn, xv, xl, xq, ⟨xk, xh, xi, xm, xc, xx, xt⟩⟩ : Env) ∈ f.take j) ∧ Hp w1.heap.size w1 wr [])
              case atStart => exact ⟨0, by omega, rfl, Lib.hid (by simp), hp⟩
              case round =>
                clear hp
                obtain ⟨j, hkj, rfl, HNO, hp⟩ := hrel
                by_cases hlt : j < f.length
                · obtain ⟨bq, off, rfl, hx⟩ := HRF.out.elems 11 envL_len11 (by omega) (by omega)
                  have hj := List.getElem?_eq_getElem hlt
                  replace hx := hx j _ hj
                  have htk : f.take (j + 1) = f.take j ++ [f[j]] := by rw [List.take_add_one, hj]; rfl
                  clear hj
                  generalize f[j] = y at hx htk
                  obtain ⟨yn, yv, yl, yq, ⟨yk, yh, yi, ym2, yc2, yx, yt⟩⟩ := y
                  simp only [envL, opL, List.cons_append, List.nil_append] at hx
                  have HX := Lib.hid hx
                  have e1 : (0 : Int) ≤ (j : Int) := by omega
                  have e2 : (j : Int) < (f.length : Int) := by omega
                  clear hx
                  by_cases hxy : (⟨yn, yv, yl, yq, ⟨yk, yh, yi, ym2, yc2, yx, yt⟩⟩ : Env) = ⟨xn, xv, xl, xq, ⟨xk, xh, xi, xm, xc, xx, xt⟩⟩
                  · simp only [Env.mk.injEq, Opv.mk.injEq] at hxy
                    obtain ⟨rfl, rfl, rfl, rfl, rfl, rfl, rfl, rfl, rfl, rfl, rfl⟩ := hxy
                    clear htk
                    go_wp2_with (first | ((with_reducible refine pre_load 22 _ rfl ?_); refine lRO hp rfl (sTm rfl) cell22 HE17.out ?_; simp only [put_some, put_none, sSet, zSet]) | go_skip | ((first | ((with_reducible refine pre_box _ _ rfl ?_); refine lB hp rfl (sTm rfl) rfl ?_; clear hp; intro b w1 hp) | ((with_reducible refine pre_load _ _ rfl ?_); first | refine lO hp rfl (sTm rfl) ceCXk1 aa5 ?_ | refine lA hp rfl (sTm rfl) agg47 aa5 ?_) | ((with_reducible refine pre_store _ _ _ rfl ?_); (first | refine sO hp rfl (sTm rfl) ceCXk1 aa5 ?_ | refine sA hp rfl (sTm rfl) (sTm rfl) agg47 aa5 ?_ | refine sG hp rfl (sTm rfl) (sTm rfl) agg47 aa5 ?_); clear hp; intro w1 hp; simp only [spl, zSet, sSet] at hp)); simp only [put_some, put_none, sSet, zSet]))
                    refine wp_region_keeps _ (Keeps.all hp.drew) [] [(0, true), (1, true), (2, true), (3, true), (4, true), (5, true), (6, true)] (by kernel_rfl) (by kernel_rfl) rfl (by kernel_rfl) (fun _ _ d _ _ h => by cases d <;> exact h) ?_
                    replace hp := hp.drew
                    repeat' (with_reducible refine plan_is ?_); first | (with_reducible refine plan_nil ?_) | ((with_reducible refine plan_t ?_); refine plan_tk rfl ?_; (first | ((with_reducible refine tk_mv _ rfl ?_); refine tM rfl ?_) | ((with_reducible refine tk_ld _ _ rfl ?_); first | refine tL rfl (sTm rfl) (fun w hS => hS.rowOne cell22 HE17.out) ?_ | refine tL rfl (sTm rfl) (fun w hS => hS.rowAgg agg47 HX.out rfl) ?_ | refine tL rfl (sTm rfl) (fun w hS => hS.rowAgg agg47 HB13.out rfl) ?_ | refine tA rfl (sTm rfl) agg47 aa5 ?_ | refine tO rfl (sTm rfl) cell22 aa5 ?_) | refine tG (fun w _ => (by go_simp; try rfl)) ?_); try simp only [put_some, put_none, eval_tmp, eval_const, sSet, zSet, List.getD_cons_succ, List.getD_cons_zero, wrap_eq])
                    go_wp2_with (first | (go_at_call 19; (with_reducible refine (votes19 _).mono ?_); rintro e w1 ⟨rfl, hb⟩; replace hp := hp.call hb; clear hb) | (go_at_call 23; (with_reducible refine (chooses23 _).mono ?_); rintro e w1 ⟨rfl, hb⟩; replace hp := hp.call hb; clear hb) | go_skip | ((first | ((with_reducible refine pre_box _ _ rfl ?_); refine lB hp rfl (sTm rfl) rfl ?_; clear hp; intro b w1 hp) | ((with_reducible refine pre_load _ _ rfl ?_); first | refine lO hp rfl (sTm rfl) ceCXk1 aa5 ?_ | refine lA hp rfl (sTm rfl) agg47 aa5 ?_) | ((with_reducible refine pre_store _ _ _ rfl ?_); (first | refine sO hp rfl (sTm rfl) ceCXk1 aa5 ?_ | refine sA hp rfl (sTm rfl) (sTm rfl) agg47 aa5 ?_ | refine sG hp rfl (sTm rfl) (sTm rfl) agg47 aa5 ?_); clear hp; intro w1 hp; simp only [spl, zSet, sSet] at hp)); simp only [put_some, put_none, sSet, zSet]))
                    go_ret
                    exact ⟨rfl, HBV.out.trans (hp.below.mono HBV.out.size)⟩
                  · have hno : ¬ (⟨xn, xv, xl, xq, ⟨xk, xh, xi, xm, xc, xx, xt⟩⟩ : Env) ∈ f.take (j + 1) := by
                      rw [htk, List.mem_append, List.mem_singleton]
                      rintro (h | h)
                      · exact HNO.out h
                      · exact hxy h.symm
                    have HN2 := Lib.hid hno
                    have hw := env_ne hxy
                    simp only at hw
                    clear hno hxy htk
                    rcases hw with hn | ⟨rfl, hn⟩ | ⟨rfl, rfl, hn⟩ | ⟨rfl, rfl, rfl, hn⟩ | ⟨rfl, rfl, rfl, rfl, hn⟩ | ⟨rfl, rfl, rfl, rfl, rfl, hn⟩ | ⟨rfl, rfl, rfl, rfl, rfl, rfl, hn⟩ | ⟨rfl, rfl, rfl, rfl, rfl, rfl, rfl, hn⟩ | ⟨rfl, rfl, rfl, rfl, rfl, rfl, rfl, rfl, hn⟩ | ⟨rfl, rfl, rfl, rfl, rfl, rfl, rfl, rfl, rfl, hn⟩ | ⟨rfl, rfl, rfl, rfl, rfl, rfl, rfl, rfl, rfl, rfl, hn⟩
                    all_goals
                      have e3 := beq_false_of_ne hn
                      clear hn
                      go_wp2_with (first | ((with_reducible refine pre_load 22 _ rfl ?_); refine lRO hp rfl (sTm rfl) cell22 HE17.out ?_; simp only [put_some, put_none, sSet, zSet]) | go_skip | ((first | ((with_reducible refine pre_box _ _ rfl ?_); refine lB hp rfl (sTm rfl) rfl ?_; clear hp; intro b w1 hp) | ((with_reducible refine pre_load _ _ rfl ?_); first | refine lO hp rfl (sTm rfl) ceCXk1 aa5 ?_ | refine lA hp rfl (sTm rfl) agg47 aa5 ?_) | ((with_reducible refine pre_store _ _ _ rfl ?_); (first | refine sO hp rfl (sTm rfl) ceCXk1 aa5 ?_ | refine sA hp rfl (sTm rfl) (sTm rfl) agg47 aa5 ?_ | refine sG hp rfl (sTm rfl) (sTm rfl) agg47 aa5 ?_); clear hp; intro w1 hp; simp only [spl, zSet, sSet] at hp)); simp only [put_some, put_none, sSet, zSet]))
                      refine wp_region_keeps _ (Keeps.all hp.drew) [] [(0, true), (1, true), (2, true), (3, true), (4, true), (5, true), (6, true)] (by kernel_rfl) (by kernel_rfl) rfl (by kernel_rfl) (fun _ _ d _ _ h => by cases d <;> exact h) ?_
                      replace hp := hp.drew
                      repeat' (with_reducible refine plan_is ?_); first | (with_reducible refine plan_nil ?_) | ((with_reducible refine plan_t ?_); refine plan_tk rfl ?_; (first | ((with_reducible refine tk_mv _ rfl ?_); refine tM rfl ?_) | ((with_reducible refine tk_ld _ _ rfl ?_); first | refine tL rfl (sTm rfl) (fun w hS => hS.rowOne cell22 HE17.out) ?_ | refine tL rfl (sTm rfl) (fun w hS => hS.rowAgg agg47 HX.out rfl) ?_ | refine tL rfl (sTm rfl) (fun w hS => hS.rowAgg agg47 HB13.out rfl) ?_ | refine tA rfl (sTm rfl) agg47 aa5 ?_ | refine tO rfl (sTm rfl) cell22 aa5 ?_) | refine tG (fun w _ => (by go_simp; try rfl)) ?_); try simp only [put_some, put_none, eval_tmp, eval_const, sSet, zSet, List.getD_cons_succ, List.getD_cons_zero, wrap_eq])
                      go_wp2_with (first | go_skip | ((first | ((with_reducible refine pre_box _ _ rfl ?_); refine lB hp rfl (sTm rfl) rfl ?_; clear hp; intro b w1 hp) | ((with_reducible refine pre_load _ _ rfl ?_); first | refine lO hp rfl (sTm rfl) ceCXk1 aa5 ?_ | refine lA hp rfl (sTm rfl) agg47 aa5 ?_) | ((with_reducible refine pre_store _ _ _ rfl ?_); (first | refine sO hp rfl (sTm rfl) ceCXk1 aa5 ?_ | refine sA hp rfl (sTm rfl) (sTm rfl) agg47 aa5 ?_ | refine sG hp rfl (sTm rfl) (sTm rfl) agg47 aa5 ?_); clear hp; intro w1 hp; simp only [spl, zSet, sSet] at hp)); simp only [put_some, put_none, sSet, zSet]))
                      go_roundg (gk - 1)
                      case measure => omega
                      case rel => exact ⟨j + 1, by omega, congrArg (Value.int .i64) (by have := HFL.out; push_cast; unfold wrap64; omega), HN2, hp⟩
                · obtain rfl : j = f.length := by omega
                  have hno := HNO.out
                  rw [List.take_length] at hno
                  exact absurd HIN.out hno
  · go_wp2_with (first | go_skip | ((first | ((with_reducible refine pre_alloc _ rfl ?_); refine lZ hp rfl zero51 ?_; clear hp; intro b w1 hp) | ((with_reducible refine pre_box _ _ rfl ?_); refine lB hp rfl (sTm rfl) rfl ?_; clear hp; intro b w1 hp) | ((with_reducible refine pre_load _ _ rfl ?_); first | refine lO hp rfl (sTm rfl) ceCXk1 aa5 ?_ | refine lA hp rfl (sTm rfl) gaCXk0 aa5 ?_) | ((with_reducible refine pre_store _ _ _ rfl ?_); (first | refine sO hp rfl (sTm rfl) ceCXk1 aa5 ?_ | refine sA hp rfl (sTm rfl) (sTm rfl) gaCXk0 aa5 ?_ | refine sG hp rfl (sTm rfl) (sTm rfl) gaCXk0 aa5 ?_); clear hp; intro w1 hp; simp only [spl, zSet, sSet] at hp)); simp only [put_some, put_none, sSet, zSet]))
    (go_ret; exact ⟨rfl, hp.below⟩)
end Go.Proofs.YtcjbepaclbhjaaaGreat

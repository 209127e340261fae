/- Parts of the proof. -/
import Derived.Test.YtcjbepaclbhjaaaGreatCj28
import Derived.Test.YtcjbepaclbhjaaaGreatCj13
import Derived.Test.YtcjbepaclbhjaaaGreatCj23
import Derived.Test.YtcjbepaclbhjaaaGreatCj11
import Derived.Test.YtcjbepaclbhjaaaGreatCj30
import Derived.Test.YtcjbepaclbhjaaaGreatCj0
open List renaming set_cons_zero → zSet, set_cons_succ → sSet
/- The walks of the document: rows that are the same, copies, a row behind a number. -/
set_option linter.unusedSimpArgs false
set_option linter.unusedVariables false
namespace Go.Proofs.YtcjbepaclbhjaaaGreat
open Go.RowKit
theorem gaQRb0 {ty : TypeId} {k : Nat} (h : aggB Tryz.prog ty k = true := by with_reducible first | exact agg24 | exact agg47 | exact agg51) : aggB Tryz.prog ty k = true := h
theorem ceQRb1 {ty : TypeId} (h : cellB Tryz.prog ty = true := by with_reducible first | exact cell3 | exact cell4 | exact cell22 | exact cell9 | exact cell49) : cellB Tryz.prog ty = true := h
theorem ceQRb2 {ty : TypeId} (h : cellB Tryz.prog ty = true := by with_reducible first | exact cell3 | exact cell4 | exact cell22) : cellB Tryz.prog ty = true := h
set_option maxRecDepth 100000 in
set_option maxHeartbeats 4000000 in
theorem entries12S (l : List Env) (a a' : Option Addr) (n n' c c' : Nat) (hn : l.length = n) (hn' : l.length = n') (hl : l.length ≤ 100000) (w : World) (ha : RowIs w a (l.flatMap envL)) (ha' : RowIs w a' (l.flatMap envL)) :
    Calls Tryz.prog 30 #[.slice a n c, .slice a' n' c'] w fun e w' => e = .returned (.bool true) ∧ Below w.heap.size w w' := by
  subst hn hn'
  have HA := Lib.hid ha
  have HB := Lib.hid ha'
  clear ha ha'
  have hp := Hp.start w
  go_enter Tryz.func30, Tryz.ntmps30
  go_wp2_with (first | go_skip | ((first | ((with_reducible refine pre_alloc _ rfl ?_); refine lZ hp rfl (by with_reducible first | exact zero24 | exact zero51) ?_; clear hp; intro b w1 hp) | ((with_reducible refine pre_box _ _ rfl ?_); refine lB hp rfl (sTm rfl) rfl ?_; clear hp; intro b w1 hp) | ((with_reducible refine pre_load _ _ rfl ?_); first | refine lO hp rfl (sTm rfl) ceQRb1 aa5 ?_ | refine lA hp rfl (sTm rfl) gaQRb0 aa5 ?_) | ((with_reducible refine pre_store _ _ _ rfl ?_); (first | refine sO hp rfl (sTm rfl) ceQRb1 aa5 ?_ | refine sA hp rfl (sTm rfl) (sTm rfl) gaQRb0 aa5 ?_ | refine sG hp rfl (sTm rfl) (sTm rfl) gaQRb0 aa5 ?_); clear hp; intro w1 hp; simp only [spl, zSet, sSet] at hp)); simp only [put_some, put_none, sSet, zSet]))
  go_loopg [5] l.length (fun k i wr => ∃ q : Nat, k + q = l.length ∧ i = .int .i64 q ∧ Hp w.heap.size w wr [])
  case atStart => exact ⟨0, by omega, rfl, hp⟩
  case round =>
    clear hp
    obtain ⟨q, hkq, rfl, hp⟩ := hrel
    by_cases hlt : q < l.length
    · obtain ⟨bq, off, rfl, hx⟩ := HA.out.elems 11 envL_len11 (by omega) (by omega)
      obtain ⟨br, ofr, rfl, hy⟩ := HB.out.elems 11 envL_len11 (by omega) (by omega)
      have hj := List.getElem?_eq_getElem hlt
      replace hx := hx q _ hj
      replace hy := hy q _ hj
      clear hj
      generalize l[q] = en at hx hy
      obtain ⟨nu, vi, cl, sq, ⟨kk, hh, ii, nn, cc, vv, tt⟩⟩ := en
      simp only [envL, opL, List.cons_append, List.nil_append] at hx hy
      have HX := Lib.hid hx
      have HY := Lib.hid hy
      have f1 : (0 : Int) ≤ (q : Int) := by omega
      have f2 : (q : Int) < (l.length : Int) := by omega
      clear hx hy
      go_wp2_with (first | go_skip | ((first | ((with_reducible refine pre_box _ _ rfl ?_); refine lB hp rfl (sTm rfl) rfl ?_; clear hp; intro b w1 hp) | ((with_reducible refine pre_load _ _ rfl ?_); first | refine lO hp rfl (sTm rfl) ceQRb2 aa5 ?_ | refine lA hp rfl (sTm rfl) agg47 aa5 ?_ | refine lR hp rfl (sTm rfl) agg47 HX.out ?_ | refine lR hp rfl (sTm rfl) agg47 HY.out ?_) | ((with_reducible refine pre_store _ _ _ rfl ?_); (first | refine sO hp rfl (sTm rfl) ceQRb2 aa5 ?_ | refine sA hp rfl (sTm rfl) (sTm rfl) agg47 aa5 ?_ | refine sG hp rfl (sTm rfl) (sTm rfl) agg47 aa5 ?_); clear hp; intro w1 hp; simp only [spl, zSet, sSet] at hp)); simp only [put_some, put_none, sSet, zSet]))
      refine wp_region_keeps _ (Keeps.all hp.drew) [] [(0, true), (1, true), (2, true), (3, true), (4, true), (5, true), (6, true), (7, true), (8, true)] (by kernel_rfl) (by kernel_rfl) rfl (by kernel_rfl) (fun _ _ d _ _ h => by cases d <;> exact h) ?_
      replace hp := hp.drew
      repeat' (with_reducible refine plan_is ?_); first | (with_reducible refine plan_nil ?_) | ((with_reducible refine plan_t ?_); refine plan_tk rfl ?_; (first | ((with_reducible refine tk_mv _ rfl ?_); refine tM rfl ?_) | ((with_reducible refine tk_ld _ _ rfl ?_); first | refine tA rfl (sTm rfl) agg47 aa5 ?_ | refine tR rfl (sTm rfl) agg47 HX.out ?_ | refine tR rfl (sTm rfl) agg47 HY.out ?_) | refine tG (fun w _ => (by go_simp; try rfl)) ?_); try simp only [put_some, put_none, eval_tmp, eval_const, sSet, zSet, List.getD_cons_succ, List.getD_cons_zero, wrap_eq])
      go_wp2_with (first | go_skip | ((first | ((with_reducible refine pre_box _ _ rfl ?_); refine lB hp rfl (sTm rfl) rfl ?_; clear hp; intro b w1 hp) | ((with_reducible refine pre_load _ _ rfl ?_); first | refine lO hp rfl (sTm rfl) ceQRb2 aa5 ?_ | refine lA hp rfl (sTm rfl) agg47 aa5 ?_ | refine lR hp rfl (sTm rfl) agg47 HX.out ?_ | refine lR hp rfl (sTm rfl) agg47 HY.out ?_) | ((with_reducible refine pre_store _ _ _ rfl ?_); (first | refine sO hp rfl (sTm rfl) ceQRb2 aa5 ?_ | refine sA hp rfl (sTm rfl) (sTm rfl) agg47 aa5 ?_ | refine sG hp rfl (sTm rfl) (sTm rfl) agg47 aa5 ?_); clear hp; intro w1 hp; simp only [spl, zSet, sSet] at hp)); simp only [put_some, put_none, sSet, zSet]))
      go_roundg (gk - 1)
      case measure => omega
      case rel => exact ⟨q + 1, by omega, by go_num, hp⟩
    · obtain rfl : q = l.length := by omega
      have e2 : decide ((l.length : Int) < (l.length : Int)) = false := by simp
      go_wp2_with (first | go_skip | ((first | ((with_reducible refine pre_alloc _ rfl ?_); refine lZ hp rfl (by with_reducible first | exact zero24 | exact zero51) ?_; clear hp; intro b w1 hp) | ((with_reducible refine pre_box _ _ rfl ?_); refine lB hp rfl (sTm rfl) rfl ?_; clear hp; intro b w1 hp) | ((with_reducible refine pre_load _ _ rfl ?_); first | refine lO hp rfl (sTm rfl) ceQRb1 aa5 ?_ | refine lA hp rfl (sTm rfl) gaQRb0 aa5 ?_) | ((with_reducible refine pre_store _ _ _ rfl ?_); (first | refine sO hp rfl (sTm rfl) ceQRb1 aa5 ?_ | refine sA hp rfl (sTm rfl) (sTm rfl) gaQRb0 aa5 ?_ | refine sG hp rfl (sTm rfl) (sTm rfl) gaQRb0 aa5 ?_); clear hp; intro w1 hp; simp only [spl, zSet, sSet] at hp)); simp only [put_some, put_none, sSet, zSet]))
      go_ret
      exact ⟨rfl, hp.below⟩
end Go.Proofs.YtcjbepaclbhjaaaGreat
/- The walks of the document's Same and All of votes, where they are the same, and of its Own. -/
namespace Go.Proofs.YtcjbepaclbhjaaaGreat
open Go.RowKit
theorem ceCVe0 {ty : TypeId} (h : cellB Tryz.prog ty = true := by with_reducible first | exact cell3 | exact cell4 | exact cell22) : cellB Tryz.prog ty = true := h
set_option maxRecDepth 100000 in
set_option maxHeartbeats 4000000 in
theorem same11_yes (nd nm bs nu cm : Int) (va vb : Option Addr) (es : List Env) (vc vd : Nat) (hl : es.length ≤ 100000) (w : World) (ha : RowIs w va (es.flatMap envL)) (hb : RowIs w vb (es.flatMap envL)) :
    Calls Tryz.prog 11 #[.agg #[.int .i64 nd, .int .i64 nm, .int .i64 bs, .int .i64 nu, .int .i64 cm, .slice va es.length vc], .agg #[.int .i64 nd, .int .i64 nm, .int .i64 bs, .int .i64 nu, .int .i64 cm, .slice vb es.length vd]] w fun e w' => e = .returned (.bool true) ∧ Below w.heap.size w w' := by
  have hp := Hp.start w
  have HA := Lib.hid ha
  have HB := Lib.hid hb
  clear ha hb
  go_enter Tryz.func11, Tryz.ntmps11
  go_wp2_with (first | (go_at_call 30; (with_reducible refine (entries12S es va vb _ _ vc vd rfl rfl hl _ (HA.out.below hp.below) (HB.out.below hp.below)).mono ?_); rintro e w1 ⟨rfl, hb⟩; replace hp := hp.call hb; clear hb) | go_skip | ((first | ((with_reducible refine pre_alloc _ rfl ?_); refine lZ hp rfl zero27 ?_; clear hp; intro b w1 hp) | ((with_reducible refine pre_box _ _ rfl ?_); refine lB hp rfl (sTm rfl) rfl ?_; clear hp; intro b w1 hp) | ((with_reducible refine pre_load _ _ rfl ?_); first | refine lO hp rfl (sTm rfl) ceCVe0 aa5 ?_ | refine lA hp rfl (sTm rfl) agg27 aa5 ?_) | ((with_reducible refine pre_store _ _ _ rfl ?_); (first | refine sO hp rfl (sTm rfl) ceCVe0 aa5 ?_ | refine sA hp rfl (sTm rfl) (sTm rfl) agg27 aa5 ?_ | refine sG hp rfl (sTm rfl) (sTm rfl) agg27 aa5 ?_); clear hp; intro w1 hp; simp only [spl, zSet, sSet] at hp)); simp only [put_some, put_none, sSet, zSet]))
  go_ret
  exact ⟨rfl, hp.below⟩
set_option maxRecDepth 100000 in
set_option maxHeartbeats 4000000 in
theorem all16_yes (l k : List Vt) (a b : Option Addr) (n c d : Nat) (hl : l.length = n) (hk : k.length = n) (hn : n ≤ 1000) (hsm : VtsSm l k) (hes : ∀ v ∈ l, v.es.length ≤ 100000) (w : World)
    (ha : RowIs w a (l.flatMap vtV)) (hb : RowIs w b (k.flatMap vtV)) (hla : ∀ v ∈ l, v.Is w) (hkb : ∀ v ∈ k, v.Is w) :
    Calls Tryz.prog 16 #[.slice a n c, .slice b n d] w fun e w' => e = .returned (.bool true) ∧ Below w.heap.size w w' := by
  have hp := Hp.start w
  have HA := Lib.hid ha
  have HB := Lib.hid hb
  have HSM := Lib.hid hsm
  have HES := Lib.hid hes
  have HLA := Lib.hid hla
  have HKB := Lib.hid hkb
  clear ha hb hsm hes hla hkb
  go_enter Tryz.func16, Tryz.ntmps16
  go_wp2_with (first | go_skip | ((first | ((with_reducible refine pre_box _ _ rfl ?_); refine lB hp rfl (sTm rfl) rfl ?_; clear hp; intro b w1 hp) | ((with_reducible refine pre_load _ _ rfl ?_); first | refine lO hp rfl (sTm rfl) (by with_reducible first | exact cell3 | exact cell4) aa5 ?_ | refine lA hp rfl (sTm rfl) agg27 aa5 ?_) | ((with_reducible refine pre_store _ _ _ rfl ?_); (first | refine sO hp rfl (sTm rfl) (by with_reducible first | exact cell3 | exact cell4) aa5 ?_ | refine sA hp rfl (sTm rfl) (sTm rfl) agg27 aa5 ?_ | refine sG hp rfl (sTm rfl) (sTm rfl) agg27 aa5 ?_); clear hp; intro w1 hp; simp only [spl, zSet, sSet] at hp)); simp only [put_some, put_none, sSet, zSet]))
  go_loopg [5] n (fun k i wr => ∃ q : Nat, k + q = n ∧ i = .int .i64 q ∧ Hp w.heap.size w wr [])
  case atStart => exact ⟨0, by omega, rfl, hp⟩
  case round =>
    clear hp
    obtain ⟨q, hkq, rfl, hp⟩ := hrel
    by_cases hlt : q < n
    · obtain ⟨bq, off, rfl, hx⟩ := HA.out.elems 6 vtV_len (by omega) (by omega)
      obtain ⟨br, ofr, rfl, hy⟩ := HB.out.elems 6 vtV_len (by omega) (by omega)
      have hjx := List.getElem?_eq_getElem (show q < l.length by omega)
      have hjy := List.getElem?_eq_getElem (show q < k.length by omega)
      replace hx := hx q _ hjx
      replace hy := hy q _ hjy
      have hs := HSM.out.2 q _ _ hjx hjy
      have hel := HES.out _ (List.mem_of_getElem? hjx)
      have h1 := HLA.out _ (List.mem_of_getElem? hjx)
      have h2 := HKB.out _ (List.mem_of_getElem? hjy)
      clear hjx hjy
      generalize l[q] = x at hx hs hel h1
      generalize k[q] = y at hy hs h2
      obtain ⟨nd, nm, bs, nu, cm, va, es, vc⟩ := x
      obtain ⟨nd2, nm2, bs2, nu2, cm2, vb, es2, vd⟩ := y
      obtain ⟨g1, g2, g3, g4, g5, g6⟩ := hs
      simp only at g1 g2 g3 g4 g5 g6
      subst g1 g2 g3 g4 g5 g6
      simp only [vtV] at hx hy
      simp only at hel
      have HX := Lib.hid hx
      have HY := Lib.hid hy
      have HA1 : RowKit.Hid (RowIs w va (es.flatMap envL)) := Lib.hid h1
      have HB1 : RowKit.Hid (RowIs w vb (es.flatMap envL)) := Lib.hid h2
      clear hx hy h1 h2
      have e1 : (0 : Int) ≤ (q : Int) := by omega
      have e2 : (q : Int) < (n : Int) := by omega
      go_wp2_with (first | go_skip | ((first | ((with_reducible refine pre_box _ _ rfl ?_); refine lB hp rfl (sTm rfl) rfl ?_; clear hp; intro b w1 hp) | ((with_reducible refine pre_load _ _ rfl ?_); first | refine lO hp rfl (sTm rfl) (by with_reducible first | exact cell3 | exact cell4) aa5 ?_ | refine lA hp rfl (sTm rfl) agg27 aa5 ?_) | ((with_reducible refine pre_store _ _ _ rfl ?_); (first | refine sO hp rfl (sTm rfl) (by with_reducible first | exact cell3 | exact cell4) aa5 ?_ | refine sA hp rfl (sTm rfl) (sTm rfl) agg27 aa5 ?_ | refine sG hp rfl (sTm rfl) (sTm rfl) agg27 aa5 ?_); clear hp; intro w1 hp; simp only [spl, zSet, sSet] at hp)); simp only [put_some, put_none, sSet, zSet]))
      refine wp_region_keeps _ (Keeps.all hp.drew) [] [(0, true), (1, true), (2, true), (3, true), (4, true), (5, true), (6, true), (7, true), (8, false), (9, true)] (by kernel_rfl) (by kernel_rfl) rfl (by kernel_rfl) (fun _ _ d _ _ h => by cases d <;> exact h) ?_
      replace hp := hp.drew
      repeat' (with_reducible refine plan_is ?_); first | (with_reducible refine plan_nil ?_) | ((with_reducible refine plan_t ?_); refine plan_tk rfl ?_; (first | ((with_reducible refine tk_mv _ rfl ?_); refine tM rfl ?_) | ((with_reducible refine tk_ld _ _ rfl ?_); first | refine tA rfl (sTm rfl) agg27 aa5 ?_ | refine tR rfl (sTm rfl) agg27 HX.out ?_ | refine tR rfl (sTm rfl) agg27 HY.out ?_) | refine tG (fun w _ => (by go_simp; try rfl)) ?_); try simp only [put_some, put_none, eval_tmp, eval_const, sSet, zSet, List.getD_cons_succ, List.getD_cons_zero, wrap_eq]) | (refine plan_do rfl (fun K hK => ?_); go_wp2_with (first | (go_at_call 11; (with_reducible refine (same11_yes nd nm bs nu cm va vb es vc vd hel _ (HA1.out.below hp.below) (HB1.out.below hp.below)).mono ?_); rintro e w1 ⟨rfl, hb⟩; replace hp := hp.call hb; clear hb) | go_skip); (refine hK.out _ _ (.inr (kall hp)) ?_); clear hK K; try simp only [put_some, put_none, eval_tmp, eval_const, sSet, zSet, List.getD_cons_succ, List.getD_cons_zero, wrap_eq])
      go_wp2_with (first | go_skip | ((first | ((with_reducible refine pre_box _ _ rfl ?_); refine lB hp rfl (sTm rfl) rfl ?_; clear hp; intro b w1 hp) | ((with_reducible refine pre_load _ _ rfl ?_); first | refine lO hp rfl (sTm rfl) (by with_reducible first | exact cell3 | exact cell4) aa5 ?_ | refine lA hp rfl (sTm rfl) agg27 aa5 ?_ | refine lR hp rfl (sTm rfl) agg27 HX.out ?_ | refine lR hp rfl (sTm rfl) agg27 HY.out ?_) | ((with_reducible refine pre_store _ _ _ rfl ?_); (first | refine sO hp rfl (sTm rfl) (by with_reducible first | exact cell3 | exact cell4) aa5 ?_ | refine sA hp rfl (sTm rfl) (sTm rfl) agg27 aa5 ?_ | refine sG hp rfl (sTm rfl) (sTm rfl) agg27 aa5 ?_); clear hp; intro w1 hp; simp only [spl, zSet, sSet] at hp)); simp only [put_some, put_none, sSet, zSet]))
      go_roundg (gk - 1)
      case measure => omega
      case rel => exact ⟨q + 1, by omega, by go_num, hp⟩
    · have e2 : decide ((q : Int) < (n : Int)) = false := by simp; omega
      go_wp2_with (first | go_skip | ((first | ((with_reducible refine pre_box _ _ rfl ?_); refine lB hp rfl (sTm rfl) rfl ?_; clear hp; intro b w1 hp) | ((with_reducible refine pre_load _ _ rfl ?_); first | refine lO hp rfl (sTm rfl) (by with_reducible first | exact cell3 | exact cell4) aa5 ?_ | refine lA hp rfl (sTm rfl) agg27 aa5 ?_) | ((with_reducible refine pre_store _ _ _ rfl ?_); (first | refine sO hp rfl (sTm rfl) (by with_reducible first | exact cell3 | exact cell4) aa5 ?_ | refine sA hp rfl (sTm rfl) (sTm rfl) agg27 aa5 ?_ | refine sG hp rfl (sTm rfl) (sTm rfl) agg27 aa5 ?_); clear hp; intro w1 hp; simp only [spl, zSet, sSet] at hp)); simp only [put_some, put_none, sSet, zSet]))
      go_ret
      exact ⟨rfl, hp.below⟩
end Go.Proofs.YtcjbepaclbhjaaaGreat
/- 'clear' of the end of a row of the call's own, any number of elements. No program in sight. -/
namespace Go.Proofs.YtcjbepaclbhjaaaGreat
open Go.RowKit Go.Lib
theorem zcells_len (z : Array Value) (n : Nat) : (Builtin.zeroCells z n).toList.length = n * z.size := by
  unfold Builtin.zeroCells; simp
theorem zcells_one {z : Array Value} (hz : z.toList.all (·.oneCell') = true) (n : Nat) : (Builtin.zeroCells z n).toList.all (·.oneCell') = true := by
  rcases Nat.eq_zero_or_pos z.size with h0 | h0
  · have : (Builtin.zeroCells z n).toList = [] := List.eq_nil_of_length_eq_zero (by rw [zcells_len, h0]; rfl)
    rw [this]; rfl
  · unfold Builtin.zeroCells
    rw [List.all_eq_true]
    intro v hv
    simp only [Array.toList_map, List.mem_map] at hv
    obtain ⟨i, _, rfl⟩ := hv
    have hl : i % z.size < z.size := Nat.mod_lt _ h0
    rw [getElem!_pos z _ hl]
    exact List.all_eq_true.1 hz _ (by simp)
section
variable {P : Program} {ops : Array Oper} {rest : List Oper} {o : Oper} {a : Act} {w : World} {Q : Exit → Act → World → Prop} {w0 : World} {L : List Blk}
theorem wpList_clearEnd {B : Nat} {e : TypeId} {g off cap c : Nat} {l : List Value} {M : List Blk} (hp : Hp B w0 w (⟨g, l, e, cap * c⟩ :: M)) (t : TypeId) (x : Operand) (ho : o.op = .call { callee := .builtin .clear, args := #[x], argTypes := #[t] }) (hw : Region.wanted o (yielded ops a.tmps) = true)
    (ht : P.underlying t = some (.slice e)) (z : Value) (hz : ∀ w, (zeroValue e).run P w = .ok z w) (q cc : Nat) (hx : a.eval x = .slice (some ⟨g, off, none⟩) q cc) (hq : 0 < q) (hc : z.cells.size = c) (h1 : z.cells.toList.all (·.oneCell') = true)
    (hoff : off = l.length) (hfit : l.length + q * c ≤ cap * c)
    (h : ∀ v w', Hp B w0 w' (⟨g, l, e, cap * c⟩ :: M) → wpList P ops Q rest (a.put o.dst v) w') : wpList P ops Q (o :: rest) a w := by
  refine BigFrame.wpList_want hw fun K hK => ?_
  subst hoff
  obtain ⟨k, rfl⟩ : ∃ k, q = k + 1 := ⟨q - 1, by omega⟩
  obtain ⟨zs, hzs⟩ : ∃ zs, (Builtin.zeroCells z.cells (k + 1)).toList = zs := ⟨_, rfl⟩
  have hlen : zs.length = (k + 1) * c := by rw [← hzs, zcells_len, hc]
  have h1' : zs.all (·.oneCell') = true := by rw [← hzs]; exact zcells_one h1 _
  obtain ⟨l2, hl2, hp2⟩ := hp.more ((k + 1) * c) hfit
  obtain ⟨w', hst, hp'⟩ := Hp.storeCells (P := P) l.length zs w _ (l ++ l2) 0 hp2 (i := 0) rfl (by rw [List.length_append, hl2, hlen]; omega) h1'
  rw [Nat.add_zero] at hp'
  have key : (Builtin.clear_ #[t] o.type #[.slice (some ⟨g, l.length, none⟩) (k + 1) cc]).run P w = .ok (.tuple #[]) w' := by
    simp [Builtin.clear_, run_underlying ht, hz, hzs, hst]
  have hp3 : Hp B w0 w' (⟨g, spl (l ++ l2) l.length zs, e, cap * c⟩ :: M) := hp'
  rw [spl_append _ _ _ (by rw [hl2, hlen])] at hp3
  unfold Oper.wp execOp
  simp only [ho, resolve, invoke, builtin, Sem.run_bind, Sem.run_pure, Result.andThen_ok, List.map_toArray, List.map_cons, List.map_nil, hx, key]
  refine hK _ _ (h _ w' ?_)
  refine ⟨hp3.below, hp3.size, by simpa using hp3.nodup, fun p hp => ?_⟩
  rcases List.mem_cons.1 hp with rfl | hp
  · obtain ⟨h1, cs, h2, h3, h4⟩ := hp3.own _ (List.mem_cons_self ..)
    refine ⟨h1, cs, h2, h3, ?_⟩
    simp only at h4 ⊢
    have := congrArg (List.take l.length) h4
    rw [List.take_take, List.length_append, Nat.min_eq_left (by omega), List.take_append_of_le_length (Nat.le_refl _), List.take_length] at this
    exact this
  · exact hp3.own p (List.mem_cons_of_mem _ hp)
end
end Go.Proofs.YtcjbepaclbhjaaaGreat
/- What DeleteFunc of votes keeps: the plain part. -/
namespace Go.Proofs.YtcjbepaclbhjaaaGreat
open Go.RowKit Go.Lib
theorem IdxV.no {p : Vt → Bool} {l : List Vt} {r : Int} (h : IdxV p l r) (hn : ∀ (i : Nat) y, l[i]? = some y → p y = false) : r = -1 := by
  rcases h with ⟨h, _⟩ | ⟨m, x, _, h1, h2, _⟩
  · exact h
  · rw [hn m x h1] at h2; cases h2
theorem IdxV.is {p : Vt → Bool} {l : List Vt} {r : Int} (h : IdxV p l r) {m : Nat} {x : Vt} (hm : l[m]? = some x) (hx : p x = true) (hn : ∀ (i : Nat) y, i < m → l[i]? = some y → p y = false) : r = m := by
  rcases h with ⟨_, h⟩ | ⟨m', x', rfl, h1, h2, h3⟩
  · rw [h m x hm] at hx; cases hx
  · rcases Nat.lt_trichotomy m m' with g | g | g
    · rw [h3 m x g hm] at hx; cases hx
    · rw [g]
    · rw [hn m' x' g h1] at h2; cases h2
theorem idx_ways (p : Vt → Bool) : ∀ l : List Vt, (∀ (i : Nat) y, l[i]? = some y → p y = false) ∨ ∃ (m : Nat) (x : Vt), l[m]? = some x ∧ p x = true ∧ ∀ (i : Nat) y, i < m → l[i]? = some y → p y = false
  | [] => .inl fun i y h => by simp at h
  | a :: r => by
    cases ha : p a with
    | true => exact .inr ⟨0, a, rfl, ha, fun i y h => by omega⟩
    | false =>
      rcases idx_ways p r with h | ⟨m, x, h1, h2, h3⟩
      · refine .inl fun i y hy => ?_
        cases i with
        | zero => simp at hy; rw [← hy]; exact ha
        | succ i => exact h i y (by simpa using hy)
      · refine .inr ⟨m + 1, x, by simpa using h1, h2, fun i y hi hy => ?_⟩
        cases i with
        | zero => simp at hy; rw [← hy]; exact ha
        | succ i => exact h3 i y (by omega) (by simpa using hy)
def keepV (c : Int) (l : List Vt) : List Vt := l.filter fun x => !eqN c x
structure DelAt (c : Int) (l zs : List Vt) (q j : Nat) : Prop where
  len : zs.length = l.length
  lt : q < j
  jl : j ≤ l.length
  kept : zs.take q = keepV c (l.take j)
  rest : zs.drop j = l.drop j
theorem keep_snoc (c : Int) (l : List Vt) (x : Vt) : keepV c (l ++ [x]) = if eqN c x = true then keepV c l else keepV c l ++ [x] := by
  unfold keepV
  rw [List.filter_append]
  cases h : eqN c x <;> simp [h]
theorem DelAt.start {c : Int} {l : List Vt} {m : Nat} {x : Vt} (hm : l[m]? = some x) (hx : eqN c x = true) (hn : ∀ (i : Nat) y, i < m → l[i]? = some y → eqN c y = false) : DelAt c l l m (m + 1) := by
  have hlt := (List.getElem?_eq_some_iff.1 hm).1
  refine ⟨rfl, by omega, by omega, ?_, rfl⟩
  rw [List.take_add_one, hm]
  show l.take m = keepV c (l.take m ++ [x])
  rw [keep_snoc, if_pos hx]
  unfold keepV
  refine (List.filter_eq_self.2 fun y hy => ?_).symm
  obtain ⟨i, hi, rfl⟩ := List.getElem_of_mem hy
  rw [List.length_take] at hi
  rw [List.getElem_take, hn i _ (by omega) (List.getElem?_eq_getElem (by omega))]; rfl
theorem DelAt.get {c : Int} {l zs : List Vt} {q j : Nat} (h : DelAt c l zs q j) (hj : j < l.length) : zs[j]? = l[j]? := by
  have h1 := congrArg (fun k => k[0]?) h.rest
  simpa using h1
theorem DelAt.skip {c : Int} {l zs : List Vt} {q j : Nat} {x : Vt} (h : DelAt c l zs q j) (hx : l[j]? = some x) (hp : eqN c x = true) : DelAt c l zs q (j + 1) := by
  have hlt := (List.getElem?_eq_some_iff.1 hx).1
  refine ⟨h.len, by have := h.lt; omega, by omega, ?_, ?_⟩
  · rw [List.take_add_one, hx]
    show _ = keepV c (l.take j ++ [x])
    rw [keep_snoc, if_pos hp]; exact h.kept
  · have := congrArg (List.drop 1) h.rest
    rw [List.drop_drop, List.drop_drop] at this
    exact this
theorem DelAt.move {c : Int} {l zs : List Vt} {q j : Nat} {x : Vt} (h : DelAt c l zs q j) (hx : l[j]? = some x) (hp : eqN c x = false) : DelAt c l (zs.set q x) (q + 1) (j + 1) := by
  have hlt := (List.getElem?_eq_some_iff.1 hx).1
  have h1 := h.lt
  have h2 := h.len
  refine ⟨by rw [List.length_set]; exact h.len, by omega, by omega, ?_, ?_⟩
  · rw [List.take_add_one (l := l), hx]
    show _ = keepV c (l.take j ++ [x])
    rw [keep_snoc, if_neg (by rw [hp]; decide), ← h.kept, List.take_add_one, List.take_set_of_le (Nat.le_refl _), List.getElem?_set_self (by omega)]
    rfl
  · rw [List.drop_set_of_lt (by omega)]
    have := congrArg (List.drop 1) h.rest
    rw [List.drop_drop, List.drop_drop] at this
    exact this
theorem DelAt.done {c : Int} {l zs : List Vt} {q : Nat} (h : DelAt c l zs q l.length) : zs.take q = keepV c l ∧ (keepV c l).length = q := by
  have h1 := h.kept
  rw [List.take_length] at h1
  refine ⟨h1, ?_⟩
  rw [← h1, List.length_take]
  have := h.lt; have := h.len
  omega
end Go.Proofs.YtcjbepaclbhjaaaGreat

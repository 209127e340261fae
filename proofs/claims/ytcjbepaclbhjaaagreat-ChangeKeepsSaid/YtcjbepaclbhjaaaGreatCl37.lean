/- Parts of the proof. -/
import Derived.Test.YtcjbepaclbhjaaaGreatCl35
import Derived.Test.YtcjbepaclbhjaaaGreatCl36
import Derived.Test.YtcjbepaclbhjaaaGreatCl34
open List renaming set_cons_zero → zSet, set_cons_succ → sSet
/- The walks of the examples of votes. -/
set_option linter.unusedSimpArgs false
set_option linter.unusedVariables false
namespace Go.Proofs.YtcjbepaclbhjaaaGreat
open Go.RowKit
theorem ceCVo0 {ty : TypeId} (h : cellB Tryz.prog ty = true := by with_reducible first | exact cell3 | exact cell4 | exact cell22) : cellB Tryz.prog ty = true := h
def VotePL (w : World) (nd nm : Int) (n : Nat) (e : Ending) (w' : World) : Prop := ∃ (a : Option Addr) (c : Nat) (R : List Blk), e = .returned (.agg #[.int .i64 nd, .int .i64 nm, .int .i64 0, .int .i64 (n : Int), .int .i64 0, .slice a n c]) ∧ Kept R (fun w => RowIs w a ((kE n).flatMap envL)) ∧ Hp w.heap.size w w' R
set_option maxRecDepth 100000 in
set_option maxHeartbeats 4000000 in
theorem vote45 (nd nm : Int) (n : Nat) (hn : n ≤ 4) (w : World) : Calls Tryz.prog 45 #[.int .i64 nd, .int .i64 nm, .int .i64 (n : Int)] w (VotePL w nd nm n) := by
  have hp := Hp.start w
  have HN := Lib.hid hn
  clear hn
  go_enter Tryz.func45, Tryz.ntmps45
  go_wp2_with (first | (go_at_call 68; (with_reducible refine (row68 n HN.out _).mono ?_); rintro e w1 ⟨a, c, R, rfl, _, hk, hpn⟩; replace hp := hp.join hpn; have HK := Lib.hid hk; clear hpn hk; simp only [List.cons_append, List.nil_append] at hp) | go_skip | ((first | ((with_reducible refine pre_alloc _ rfl ?_); refine lZ hp rfl zero27 ?_; clear hp; intro b w1 hp) | ((with_reducible refine pre_box _ _ rfl ?_); refine lB hp rfl (sTm rfl) rfl ?_; clear hp; intro b w1 hp) | ((with_reducible refine pre_load _ _ rfl ?_); first | refine lO hp rfl (sTm rfl) (by with_reducible first | exact cell3 | exact cell4) aa5 ?_ | refine lA hp rfl (sTm rfl) agg27 aa5 ?_) | ((with_reducible refine pre_store _ _ _ rfl ?_); (first | refine sO hp rfl (sTm rfl) (by with_reducible first | exact cell3 | exact cell4) aa5 ?_ | refine sA hp rfl (sTm rfl) (sTm rfl) agg27 aa5 ?_ | refine sG hp rfl (sTm rfl) (sTm rfl) agg27 aa5 ?_); clear hp; intro w1 hp; simp only [spl, zSet, sSet] at hp) | ((with_reducible refine pre_build _ _ _ rfl ?_); refine lS hp rfl (by intro w; go_simp; rfl) ?_; clear hp; intro b w1 hp; simp only [List.length_cons, List.length_nil, Nat.reduceAdd] at hp)); simp only [put_some, put_none, sSet, zSet]))
  exact bodyPost_ret (results_one (rs := [.cell 6 27]) Tryz.results45 (.cell rfl (hp.loadAgg agg27 at0 0 _ (by rfl) (by rfl)) .nil)) rfl ⟨a, c, R, rfl, HK.out, hp.kp⟩
theorem vote_201 (w : World) : Calls Tryz.prog 45 #[.int .i64 2, .int .i64 0, .int .i64 1] w (VotePL w 2 0 1) := vote45 2 0 1 (by decide) w
theorem vote_102 (w : World) : Calls Tryz.prog 45 #[.int .i64 1, .int .i64 0, .int .i64 2] w (VotePL w 1 0 2) := vote45 1 0 2 (by decide) w
theorem vote_203 (w : World) : Calls Tryz.prog 45 #[.int .i64 2, .int .i64 0, .int .i64 3] w (VotePL w 2 0 3) := vote45 2 0 3 (by decide) w
theorem add_lit (l : List Vt) (a : Option Addr) (q k : Nat) (hq : l.length = q) (hl : q ≤ 1000) (hes : ∀ v ∈ l, v.es.length ≤ 100000) (nd nm bs nu cm : Int) (va : Option Addr) (es : List Env) (m vc : Nat) (hm : es.length = m) (hel : m ≤ 100000) (w : World) (ha : RowIs w a (l.flatMap vtV)) (hlv : ∀ v ∈ l, v.Is w) (hva : RowIs w va (es.flatMap envL)) :
    Calls Tryz.prog 15 #[.slice a q k, .agg #[.int .i64 nd, .int .i64 nm, .int .i64 bs, .int .i64 nu, .int .i64 cm, .slice va m vc]] w (AddPost w l ⟨nd, nm, bs, nu, cm, va, es, vc⟩) := by
  subst hq hm
  exact add15 l a k hl hes nd nm bs nu cm va es vc hel w ha hlv hva
theorem own_row {e : TypeId} {c n : Nat} {v : Value} {xs : List Value} {R : List Blk} (h : OwnRow e c v n xs R) (hn : 0 < n) : ∃ g cap, v = .slice (some ⟨g, 0, none⟩) n cap ∧ R = [⟨g, xs, e, cap * c⟩] := by
  obtain ⟨_, ⟨h0, _⟩ | ⟨g, cap, hv, _, _, hr⟩⟩ := h
  · omega
  · exact ⟨g, cap, hv, hr⟩
def AddA (w : World) (e : Ending) (w' : World) : Prop := ∃ (g cap : Nat) (x1 x2 x3 x4 x5 x6 x7 x8 x9 x10 : Value), e = .returned (.slice (some ⟨g, 0, none⟩) 2 cap) ∧ Hp w.heap.size w w' [⟨g, [.int .i64 1, x1, x2, x3, x4, x5, .int .i64 2, x6, x7, x8, x9, x10], 27, cap * 6⟩]
def AddB (w : World) (e : Ending) (w' : World) : Prop := ∃ (g cap : Nat) (x1 x2 x3 x4 x5 : Value), e = .returned (.slice (some ⟨g, 0, none⟩) 1 cap) ∧ Hp w.heap.size w w' [⟨g, [x1, x2, x3, .int .i64 3, x4, x5], 27, cap * 6⟩]
theorem add_A (ad a1 a2 : Option Addr) (c1 c2 : Nat) (w : World) (ha : RowIs w ad [.int .i64 2, .int .i64 0, .int .i64 0, .int .i64 1, .int .i64 0, .slice a1 1 c1]) (h1 : RowIs w a1 ((kE 1).flatMap envL)) (h2 : RowIs w a2 ((kE 2).flatMap envL)) :
    Calls Tryz.prog 15 #[.slice ad 1 1, .agg #[.int .i64 1, .int .i64 0, .int .i64 0, .int .i64 2, .int .i64 0, .slice a2 2 c2]] w (AddA w) := by
  refine (add_lit [⟨2, 0, 0, 1, 0, a1, kE 1, c1⟩] ad 1 1 rfl (by decide) (by intro v hv; obtain rfl := List.mem_singleton.1 hv; exact (by decide : (kE 1).length ≤ 100000)) 1 0 0 2 0 a2 (kE 2) 2 c2 rfl (by decide) w ha (by intro v hv; obtain rfl := List.mem_singleton.1 hv; exact h1) h2).mono fun e w' h => ?_
  obtain ⟨x, ys, R, M, rfl, hy, hr, _, hp⟩ := h
  have hy' : ys.map vstrip = [⟨1, 0, 0, 2, 0, none, kE 2, 0⟩, ⟨2, 0, 0, 1, 0, none, kE 1, 0⟩] := hy.trans rfl
  have h2 : ys.length = 2 := by have := congrArg List.length hy'; simpa using this
  rcases ys with _ | ⟨y0, _ | ⟨y1, _ | ⟨y2, ys⟩⟩⟩
  · simp at h2
  · simp at h2
  · simp only [List.map_cons, List.map_nil, List.cons.injEq, and_true, vstrip, Vt.mk.injEq] at hy'
    obtain ⟨g, cap, rfl, rfl⟩ := own_row hr (by simp)
    have e0 := hy'.1.1
    have e1 := hy'.2.1
    have h : Hp w.heap.size w w' [⟨g, [y0, y1].flatMap vtV, 27, cap * 6⟩] := hp.kp
    simp only [List.flatMap_cons, List.flatMap_nil, vtV, List.cons_append, List.nil_append, e0, e1] at h
    exact ⟨g, cap, _, _, _, _, _, _, _, _, _, _, rfl, h⟩
  · simp at h2
theorem add_B (ad a1 a2 : Option Addr) (c1 c2 : Nat) (w : World) (ha : RowIs w ad [.int .i64 2, .int .i64 0, .int .i64 0, .int .i64 1, .int .i64 0, .slice a1 1 c1]) (h1 : RowIs w a1 ((kE 1).flatMap envL)) (h2 : RowIs w a2 ((kE 3).flatMap envL)) :
    Calls Tryz.prog 15 #[.slice ad 1 1, .agg #[.int .i64 2, .int .i64 0, .int .i64 0, .int .i64 3, .int .i64 0, .slice a2 3 c2]] w (AddB w) := by
  refine (add_lit [⟨2, 0, 0, 1, 0, a1, kE 1, c1⟩] ad 1 1 rfl (by decide) (by intro v hv; obtain rfl := List.mem_singleton.1 hv; exact (by decide : (kE 1).length ≤ 100000)) 2 0 0 3 0 a2 (kE 3) 3 c2 rfl (by decide) w ha (by intro v hv; obtain rfl := List.mem_singleton.1 hv; exact h1) h2).mono fun e w' h => ?_
  obtain ⟨x, ys, R, M, rfl, hy, hr, _, hp⟩ := h
  have hy' : ys.map vstrip = [⟨2, 0, 0, 3, 0, none, kE 3, 0⟩] := hy.trans rfl
  have h2 : ys.length = 1 := by have := congrArg List.length hy'; simpa using this
  obtain ⟨y0, rfl⟩ := List.length_eq_one_iff.1 h2
  simp only [List.map_cons, List.map_nil, List.cons.injEq, and_true, vstrip, Vt.mk.injEq] at hy'
  obtain ⟨g, cap, rfl, rfl⟩ := own_row hr (by simp)
  have e0 := hy'.2.2.2.1
  have h : Hp w.heap.size w w' [⟨g, [y0].flatMap vtV, 27, cap * 6⟩] := hp.kp
  simp only [List.flatMap_cons, List.flatMap_nil, vtV, List.cons_append, List.nil_append, e0] at h
  exact ⟨g, cap, _, _, _, _, _, rfl, h⟩
def RetI (w : World) (n : Int) (e : Ending) (w' : World) : Prop := e = .returned (.int .i64 n) ∧ Below w.heap.size w w'
theorem check_lit (nd nm bs nu cm : Int) (va : Option Addr) (es : List Env) (m vc : Nat) (hm : es.length = m) (hl : m ≤ 100000) (w : World) (ha : RowIs w va (es.flatMap envL)) (b : Bool) (hb : checkV nd nm bs nu cm es = b) :
    Calls Tryz.prog 13 #[.agg #[.int .i64 nd, .int .i64 nm, .int .i64 bs, .int .i64 nu, .int .i64 cm, .slice va m vc]] w (CkPost w b) := by
  subst hm hb
  exact check13L nd nm bs nu cm va es vc hl w ha
theorem check_3 (a : Option Addr) (c : Nat) (w : World) (ha : RowIs w a ((kE 3).flatMap envL)) : Calls Tryz.prog 13 #[.agg #[.int .i64 2, .int .i64 0, .int .i64 0, .int .i64 3, .int .i64 1, .slice a 3 c]] w (RetI w 0) :=
  check_lit 2 0 0 3 1 a (kE 3) 3 c rfl (by decide) w ha true (by kernel_rfl)
theorem check_0 (w : World) : Calls Tryz.prog 13 #[.agg #[.int .i64 0, .int .i64 0, .int .i64 0, .int .i64 0, .int .i64 0, .slice none 0 0]] w (RetI w 150) :=
  check_lit 0 0 0 0 0 none [] 0 0 rfl (by decide) w (RowIs.nil _ _) false (by kernel_rfl)
set_option maxRecDepth 100000 in
set_option maxHeartbeats 8000000 in
theorem votes19 (w : World) : Calls Tryz.prog 19 #[] w fun e w' => e = .returned (.bool true) ∧ Below w.heap.size w w' := by
  have hp := Hp.start w
  go_enter Tryz.func19, Tryz.ntmps19
  go_wp2_with (first | (go_at_call 45; (with_reducible refine (vote_201 _).mono ?_); rintro e w1 ⟨a1, c1, R1, rfl, hk, hpn⟩; replace hp := hp.join hpn; have HK1 := Lib.hid hk; clear hpn hk; simp only [List.cons_append, List.nil_append] at hp) | (go_at_call 45; (with_reducible refine (vote_102 _).mono ?_); rintro e w1 ⟨a2, c2, R2, rfl, hk, hpn⟩; replace hp := hp.join hpn; have HK2 := Lib.hid hk; clear hpn hk; simp only [List.cons_append, List.nil_append] at hp) | (go_at_call 45; (with_reducible refine (vote_203 _).mono ?_); rintro e w1 ⟨a2, c2, R2, rfl, hk, hpn⟩; replace hp := hp.join hpn; have HK2 := Lib.hid hk; clear hpn hk; simp only [List.cons_append, List.nil_append] at hp) | (go_at_call 15; (with_reducible refine (add_A _ _ _ _ _ _ (hp.rowIs at0) (HK1.out.at hp (fun p hm => by simp [hm])) (HK2.out.at hp (fun p hm => by simp [hm]))).mono ?_); rintro e w1 ⟨g1, k1, x1, x2, x3, x4, x5, x6, x7, x8, x9, x10, rfl, hpn⟩; have hq : Hp w.heap.size w w1 [⟨g1, [.int .i64 1, x1, x2, x3, x4, x5, .int .i64 2, x6, x7, x8, x9, x10], 27, k1 * 6⟩] := (hp.join hpn).kp; clear hp hpn HK1 HK2; have hp := hq; clear hq) | (go_at_call 15; (with_reducible refine (add_B _ _ _ _ _ _ (hp.rowIs at0) (HK1.out.at hp (fun p hm => by simp [hm])) (HK2.out.at hp (fun p hm => by simp [hm]))).mono ?_); rintro e w1 ⟨g2, k2, y1, y2, y3, y4, y5, rfl, hpn⟩; have hq : Hp w.heap.size w w1 [⟨g1, [.int .i64 1, x1, x2, x3, x4, x5, .int .i64 2, x6, x7, x8, x9, x10], 27, k1 * 6⟩, ⟨g2, [y1, y2, y3, .int .i64 3, y4, y5], 27, k2 * 6⟩] := (hp.join hpn).kp; clear hp hpn HK1 HK2; have hp := hq; clear hq) | (go_at_call 46; (with_reducible refine (three46 _).mono ?_); rintro e w1 ⟨ak, ck, RK, rfl, _, hkk, hpn⟩; replace hp := hp.join hpn; have HKK := Lib.hid hkk; clear hpn hkk; simp only [List.cons_append, List.nil_append] at hp) | (go_at_call 10; (with_reducible refine (vote_3 _ _ _ (HKK.out.at hp (fun p hm => by simp [hm]))).mono ?_); rintro e w1 ⟨av, cv, RV, rfl, hk, hpn⟩; replace hp := hp.join hpn; have HKV := Lib.hid hk; clear hpn hk HKK; simp only [List.cons_append, List.nil_append] at hp) | (go_at_call 13; (with_reducible refine (check_3 _ _ _ (HKV.out.at hp (fun p hm => by simp [hm]))).mono ?_); rintro e w1 ⟨rfl, hb⟩; replace hp := hp.call hb; clear hb) | (go_at_call 13; (with_reducible refine (check_0 _).mono ?_); rintro e w1 ⟨rfl, hb⟩; replace hp := hp.call hb; clear hb) | go_skip | ((first | ((with_reducible refine pre_alloc _ rfl ?_); refine lZ hp rfl zero27 ?_; clear hp; intro b w1 hp) | ((with_reducible refine pre_box _ _ rfl ?_); refine lB hp rfl (sTm rfl) rfl ?_; clear hp; intro b w1 hp) | ((with_reducible refine pre_load _ _ rfl ?_); first | refine lO hp rfl (sTm rfl) ceCVo0 aa5 ?_ | refine lA hp rfl (sTm rfl) agg27 aa5 ?_) | ((with_reducible refine pre_store _ _ _ rfl ?_); (first | refine sO hp rfl (sTm rfl) ceCVo0 aa5 ?_ | refine sA hp rfl (sTm rfl) (sTm rfl) agg27 aa5 ?_ | refine sG hp rfl (sTm rfl) (sTm rfl) agg27 aa5 ?_); clear hp; intro w1 hp; simp only [spl, zSet, sSet] at hp) | ((with_reducible refine pre_build _ _ _ rfl ?_); refine lS hp rfl (by intro w; go_simp; rfl) ?_; clear hp; intro b w1 hp; simp only [List.length_cons, List.length_nil, Nat.reduceAdd] at hp)); simp only [put_some, put_none, sSet, zSet]))
  go_ret
  exact ⟨rfl, hp.below⟩
end Go.Proofs.YtcjbepaclbhjaaaGreat
/- The walks of the examples of Choose and of the law ChangeChooses. -/
namespace Go.Proofs.YtcjbepaclbhjaaaGreat
open Go.RowKit Go.Lib
theorem ceCXh0 {ty : TypeId} (h : cellB Tryz.prog ty = true := by with_reducible first | exact cell3 | exact cell4 | exact cell22) : cellB Tryz.prog ty = true := h
def NoneP (w : World) (e : Ending) (w' : World) : Prop := e = .returned (.tuple #[.agg #[.int .i64 0, .int .i64 0, .int .i64 0, .int .i64 0, .string ⟨#[]⟩, .int .i64 0, .int .i64 0, .int .i64 0, .int .i64 0, .int .i64 0, .int .i64 0, .int .i64 0, .int .i64 0, .int .i64 0, .int .i64 0, .int .i64 0, .slice none 0 0], .int .i64 0, .bool false]) ∧ Below w.heap.size w w'
def SomeP (w : World) (view cm : Int) (f : List Env) (s : Int) (e : Ending) (w' : World) : Prop := ∃ (a : Option Addr) (c : Nat) (R : List Blk), e = .returned (.tuple #[.agg #[.int .i64 3, .int .i64 view, .int .i64 cm, .int .i64 0, .string ⟨#[]⟩, .int .i64 0, .int .i64 0, .int .i64 0, .int .i64 0, .int .i64 0, .int .i64 0, .int .i64 0, .int .i64 0, .int .i64 0, .int .i64 0, .int .i64 0, .slice a f.length c], .int .i64 s, .bool true]) ∧ Kept R (fun w => RowIs w a (f.flatMap envL)) ∧ Hp w.heap.size w w' R
theorem ch_none {w : World} {nodes view : Int} {l : List Vt} {k : Kv} {cm : Int} {e : Ending} {w' : World} (hs : ChSpec nodes view l k cm none) (h : ChooseP w nodes view l k cm e w') : NoneP w e w' := by
  rcases h with ⟨_, h⟩ | ⟨f, s, _, _, _, g, _⟩
  · exact h
  · have := hs.uniq g; cases this
theorem ch_some {w : World} {nodes view : Int} {l : List Vt} {k : Kv} {cm : Int} {e : Ending} {w' : World} {f : List Env} {s : Int} (hs : ChSpec nodes view l k cm (some (f, s))) (h : ChooseP w nodes view l k cm e w') : SomeP w view cm f s e w' := by
  rcases h with ⟨g, _⟩ | ⟨f', s', a, c, R, g, _, he, hk, hp⟩
  · have := hs.uniq g; cases this
  · have := hs.uniq g
    injection this with this
    injection this with h1 h2
    subst h1 h2
    exact ⟨a, c, R, he, hk, hp⟩
theorem ch_total (nodes view : Int) (l : List Vt) (k : Kv) (cm : Int) : ChSpec nodes view l k cm none ∨ ∃ f s, ChSpec nodes view l k cm (some (f, s)) := by
  cases h : enoughB nodes (l.map Vt.nd) with
  | false => exact .inl (.inl h)
  | true =>
    have hlp := enough_ne h
    obtain ⟨m, x, ht⟩ := top_ex l.length l hlp (Nat.le_refl _)
    rw [List.take_length] at ht
    cases ha : adoptB k cm view x.bs x.es with
    | false => exact .inl (.inr ⟨m, x, ht, h, ha⟩)
    | true =>
      obtain ⟨u, hu⟩ := max_ex (l.map Vt.cm) (by rw [List.length_map]; exact hlp)
      exact .inr ⟨_, _, m, x, u, ht, h, ha, rfl, hu, rfl⟩
theorem ch_len {nodes view : Int} {l : List Vt} {k : Kv} {cm : Int} {f : List Env} {s : Int} (h : ChSpec nodes view l k cm (some (f, s))) (hl : ∀ v ∈ l, v.es.length ≤ 100000) : f.length ≤ 100000 := by
  obtain ⟨m, x, t, h1, _, _, rfl, _⟩ := h
  unfold adoptL
  rw [List.length_drop]
  have := hl x (List.mem_of_getElem? h1.get)
  omega
def VotePC (w : World) (nd nm : Int) (n : Nat) (e : Ending) (w' : World) : Prop := ∃ (a : Option Addr) (c : Nat) (R : List Blk), e = .returned (.agg #[.int .i64 nd, .int .i64 nm, .int .i64 0, .int .i64 (n : Int), .int .i64 0, .slice a n c]) ∧ n ≤ c ∧ Kept R (fun w => RowIs w a ((kE n).flatMap envL)) ∧ Hp w.heap.size w w' R
set_option maxRecDepth 100000 in
set_option maxHeartbeats 4000000 in
theorem votec45 (nd nm : Int) (n : Nat) (hn : n ≤ 4) (w : World) : Calls Tryz.prog 45 #[.int .i64 nd, .int .i64 nm, .int .i64 (n : Int)] w (VotePC w nd nm n) := by
  have hp := Hp.start w
  have HN := Lib.hid hn
  clear hn
  go_enter Tryz.func45, Tryz.ntmps45
  go_wp2_with (first | (go_at_call 68; (with_reducible refine (row68 n HN.out _).mono ?_); rintro e w1 ⟨a, c, R, rfl, hc, hk, hpn⟩; replace hp := hp.join hpn; have HK := Lib.hid hk; have HC := Lib.hid hc; clear hpn hk hc; simp only [List.cons_append, List.nil_append] at hp) | go_skip | ((first | ((with_reducible refine pre_alloc _ rfl ?_); refine lZ hp rfl zero27 ?_; clear hp; intro b w1 hp) | ((with_reducible refine pre_box _ _ rfl ?_); refine lB hp rfl (sTm rfl) rfl ?_; clear hp; intro b w1 hp) | ((with_reducible refine pre_load _ _ rfl ?_); first | refine lO hp rfl (sTm rfl) (by with_reducible first | exact cell3 | exact cell4) aa5 ?_ | refine lA hp rfl (sTm rfl) agg27 aa5 ?_) | ((with_reducible refine pre_store _ _ _ rfl ?_); (first | refine sO hp rfl (sTm rfl) (by with_reducible first | exact cell3 | exact cell4) aa5 ?_ | refine sA hp rfl (sTm rfl) (sTm rfl) agg27 aa5 ?_ | refine sG hp rfl (sTm rfl) (sTm rfl) agg27 aa5 ?_); clear hp; intro w1 hp; simp only [spl, zSet, sSet] at hp) | ((with_reducible refine pre_build _ _ _ rfl ?_); refine lS hp rfl (by intro w; go_simp; rfl) ?_; clear hp; intro b w1 hp; simp only [List.length_cons, List.length_nil, Nat.reduceAdd] at hp)); simp only [put_some, put_none, sSet, zSet]))
  exact bodyPost_ret (results_one (rs := [.cell 6 27]) Tryz.results45 (.cell rfl (hp.loadAgg agg27 at0 0 _ (by rfl) (by rfl)) .nil)) rfl ⟨a, c, R, rfl, HC.out, HK.out, hp.kp⟩
theorem vote_103 (w : World) : Calls Tryz.prog 45 #[.int .i64 1, .int .i64 0, .int .i64 3] w (VotePC w 1 0 3) := votec45 1 0 3 (by decide) w
theorem vote_212 (w : World) : Calls Tryz.prog 45 #[.int .i64 2, .int .i64 1, .int .i64 2] w (VotePC w 2 1 2) := votec45 2 1 2 (by decide) w
theorem choose_lit (nodes view : Int) (la : Option Addr) (l : List Vt) (q lc : Nat) (hq : l.length = q) (vw nm bs : Int) (im : ByteArray) (ea : Option Addr) (es : List Env) (s ec : Nat) (hsl : es.length = s) (cm : Int) (hl : q ≤ 1000) (hes : ∀ v ∈ l, v.es.length ≤ 100000 ∧ v.es.length ≤ v.c) (hs : Kv.Small ⟨vw, nm, bs, im, ea, es, ec⟩) (w : World)
    (ha : RowIs w ea (es.flatMap envL)) (hla : RowIs w la (l.flatMap vtV)) (hlv : ∀ v ∈ l, v.Is w) :
    Calls Tryz.prog 22 #[.int .i64 nodes, .int .i64 view, .slice la q lc, .agg #[.int .i64 vw, .int .i64 nm, .int .i64 bs, .string im, .slice ea s ec], .int .i64 cm] w (ChooseP w nodes view l ⟨vw, nm, bs, im, ea, es, ec⟩ cm) := by
  subst hq hsl
  exact choose22 nodes view la l lc vw nm bs im ea es ec cm hl hes hs w ha hla hlv
theorem chx_b (a : Option Addr) (c : Nat) : adoptB ⟨0, 0, 0, im3, a, kE 3, c⟩ 1 4 0 (kE 2) = true := by
  unfold adoptB lastK
  rw [kE_ok 3 (by decide), kE_len, kE_len]
  kernel_rfl
theorem spec_a (a1 a2 a3 : Option Addr) (c1 c2 c3 : Nat) : ChSpec 3 4 [⟨1, 0, 0, 3, 0, a1, kE 3, c1⟩, ⟨2, 1, 0, 2, 0, a2, kE 2, c2⟩] ⟨0, 0, 0, im3, a3, kE 3, c3⟩ 1 (some ([En 2], 1)) := by
  refine ⟨1, ⟨2, 1, 0, 2, 0, a2, kE 2, c2⟩, 0, ⟨rfl, fun i y hy => ?_, fun i y hi hy => ?_⟩, by kernel_rfl, chx_b a3 c3, rfl, ⟨by simp, fun x hx => by simp at hx; omega⟩, by kernel_rfl⟩
  · match i, hy with
    | 0, hy => injection hy with hy; subst hy; exact .inl (by simp only; omega)
    | 1, hy => injection hy with hy; subst hy; exact .inr ⟨rfl, Int.le_refl _⟩
    | n + 2, hy => simp at hy
  · obtain rfl : i = 0 := by omega
    injection hy with hy; subst hy; exact .inl (by simp only; omega)
theorem spec_b (a1 a3 : Option Addr) (c1 c3 : Nat) : ChSpec 3 4 [⟨1, 0, 0, 3, 0, a1, kE 3, c1⟩] ⟨0, 0, 0, im3, a3, kE 3, c3⟩ 1 none := .inl (by kernel_rfl)
theorem row_at0 {w : World} {b off : Nat} {xs : List Value} {v : Value} (h : RowIs w (some ⟨b, off, none⟩) xs) (hv : xs[0]? = some v) : w.cell? ⟨b, off, none⟩ = some v := by
  obtain ⟨b', off', he, hc⟩ := h 0 v hv
  injection he with he
  injection he with h1 h2
  subst h1 h2
  exact hc
theorem choose_a (ad a1 a2 a3 : Option Addr) (c1 c2 c3 : Nat) (h3 : 3 ≤ c1) (h2 : 2 ≤ c2) (w : World) (ha : RowIs w a3 ((kE 3).flatMap envL)) (hd : RowIs w ad [.int .i64 1, .int .i64 0, .int .i64 0, .int .i64 3, .int .i64 0, .slice a1 3 c1, .int .i64 2, .int .i64 1, .int .i64 0, .int .i64 2, .int .i64 0, .slice a2 2 c2])
    (g1 : RowIs w a1 ((kE 3).flatMap envL)) (g2 : RowIs w a2 ((kE 2).flatMap envL)) :
    Calls Tryz.prog 22 #[.int .i64 3, .int .i64 4, .slice ad 2 2, .agg #[.int .i64 0, .int .i64 0, .int .i64 0, .string im3, .slice a3 3 c3], .int .i64 1] w fun e w' => ∃ b off c R, e = .returned (.tuple #[.agg #[.int .i64 3, .int .i64 4, .int .i64 1, .int .i64 0, .string ⟨#[]⟩, .int .i64 0, .int .i64 0, .int .i64 0, .int .i64 0, .int .i64 0, .int .i64 0, .int .i64 0, .int .i64 0, .int .i64 0, .int .i64 0, .int .i64 0, .slice (some ⟨b, off, none⟩) 1 c], .int .i64 1, .bool true]) ∧ Kept R (fun w => w.cell? ⟨b, off, none⟩ = some (.int .i64 2)) ∧ Hp w.heap.size w w' R := by
  refine (choose_lit 3 4 ad [⟨1, 0, 0, 3, 0, a1, kE 3, c1⟩, ⟨2, 1, 0, 2, 0, a2, kE 2, c2⟩] 2 2 rfl 0 0 0 im3 a3 (kE 3) 3 c3 (kE_len 3) 1 (by decide) (fun v hv => ?_) (kE_small 3 (by decide) a3 c3) w ha hd (fun v hv => ?_)).mono fun e w' h => ?_
  · rcases List.mem_cons.1 hv with rfl | hv
    · exact ⟨by show (kE 3).length ≤ _; rw [kE_len]; decide, by show (kE 3).length ≤ c1; rw [kE_len]; exact h3⟩
    · obtain rfl := List.mem_singleton.1 hv
      exact ⟨by show (kE 2).length ≤ _; rw [kE_len]; decide, by show (kE 2).length ≤ c2; rw [kE_len]; exact h2⟩
  · rcases List.mem_cons.1 hv with rfl | hv
    · exact g1
    · obtain rfl := List.mem_singleton.1 hv
      exact g2
  · obtain ⟨a, c, R, rfl, hk, hp⟩ := ch_some (spec_a a1 a2 a3 c1 c2 c3) h
    have hr := hk.at hp (fun p hq => hq)
    obtain ⟨b, off, rfl, _⟩ := hr.elems 11 envL_len11 (by decide) (by decide)
    exact ⟨b, off, c, R, rfl, hk.mono (fun p hq => hq) (fun w hw => row_at0 hw rfl), hp⟩
theorem choose_b (ad a1 a3 : Option Addr) (c1 c3 : Nat) (h3 : 3 ≤ c1) (w : World) (ha : RowIs w a3 ((kE 3).flatMap envL)) (hd : RowIs w ad [.int .i64 1, .int .i64 0, .int .i64 0, .int .i64 3, .int .i64 0, .slice a1 3 c1]) (g1 : RowIs w a1 ((kE 3).flatMap envL)) :
    Calls Tryz.prog 22 #[.int .i64 3, .int .i64 4, .slice ad 1 1, .agg #[.int .i64 0, .int .i64 0, .int .i64 0, .string im3, .slice a3 3 c3], .int .i64 1] w (NoneP w) := by
  refine (choose_lit 3 4 ad [⟨1, 0, 0, 3, 0, a1, kE 3, c1⟩] 1 1 rfl 0 0 0 im3 a3 (kE 3) 3 c3 (kE_len 3) 1 (by decide) (fun v hv => ?_) (kE_small 3 (by decide) a3 c3) w ha hd (fun v hv => ?_)).mono fun e w' h => ch_none (spec_b a1 a3 c1 c3) h
  · obtain rfl := List.mem_singleton.1 hv
    exact ⟨by show (kE 3).length ≤ _; rw [kE_len]; decide, by show (kE 3).length ≤ c1; rw [kE_len]; exact h3⟩
  · obtain rfl := List.mem_singleton.1 hv
    exact g1
set_option maxRecDepth 100000 in
set_option maxHeartbeats 8000000 in
theorem chooses23 (w : World) : Calls Tryz.prog 23 #[] w fun e w' => e = .returned (.bool true) ∧ Below w.heap.size w w' := by
  have hp := Hp.start w
  go_enter Tryz.func23, Tryz.ntmps23
  go_wp2_with (first | (go_at_call 45; (with_reducible refine (vote_103 _).mono ?_); rintro e w1 ⟨a1, c1, R1, rfl, hc, hk, hpn⟩; replace hp := hp.join hpn; have HK1 := Lib.hid hk; have HC1 := Lib.hid hc; clear hpn hk hc; try simp only [List.cons_append, List.nil_append] at hp) | (go_at_call 45; (with_reducible refine (vote_212 _).mono ?_); rintro e w1 ⟨a2, c2, R2, rfl, hc, hk, hpn⟩; replace hp := hp.join hpn; have HK2 := Lib.hid hk; have HC2 := Lib.hid hc; clear hpn hk hc; try simp only [List.cons_append, List.nil_append, List.append_assoc] at hp) | (go_at_call 46; (with_reducible refine (three46 _).mono ?_); rintro e w1 ⟨ak, ck, RK, rfl, _, hkk, hpn⟩; replace hp := hp.join hpn; have HKK := Lib.hid hkk; clear hpn hkk; try simp only [List.cons_append, List.nil_append, List.append_assoc] at hp) | (go_at_call 22; (with_reducible refine (choose_a _ a1 a2 ak c1 c2 ck HC1.out HC2.out _ (HKK.out.at hp (fun p hm => by simp [hm])) (hp.rowIs at0) (HK1.out.at hp (fun p hm => by simp [hm])) (HK2.out.at hp (fun p hm => by simp [hm]))).mono ?_); rintro e w1 ⟨bm, om, cq, RM, rfl, hkm, hpn⟩; replace hp := hp.join hpn; have HKM := Lib.hid hkm; clear hpn hkm HKK HK1 HK2; try simp only [List.cons_append, List.nil_append, List.append_assoc] at hp) | (go_at_call 22; (with_reducible refine (choose_b _ a1 ak c1 ck HC1.out _ (HKK.out.at hp (fun p hm => by simp [hm])) (hp.rowIs at0) (HK1.out.at hp (fun p hm => by simp [hm]))).mono ?_); rintro e w1 ⟨rfl, hb⟩; replace hp := hp.call hb; clear hb) | ((with_reducible refine pre_load _ _ rfl ?_); refine lRO (Hp.start _) rfl (sTm rfl) cell3 (HKM.out.at hp (fun p hm => by simp [hm])) ?_; simp only [put_some, put_none, sSet, zSet]) | go_skip | ((first | ((with_reducible refine pre_alloc _ rfl ?_); refine lZ hp rfl (by with_reducible first | exact zero27 | exact zero51) ?_; clear hp; intro b w1 hp) | ((with_reducible refine pre_box _ _ rfl ?_); refine lB hp rfl (sTm rfl) rfl ?_; clear hp; intro b w1 hp) | ((with_reducible refine pre_load _ _ rfl ?_); first | refine lO hp rfl (sTm rfl) ceCXh0 aa5 ?_ | refine lA hp rfl (sTm rfl) (by with_reducible first | exact agg27 | exact agg51) aa5 ?_) | ((with_reducible refine pre_store _ _ _ rfl ?_); (first | refine sO hp rfl (sTm rfl) ceCXh0 aa5 ?_ | refine sA hp rfl (sTm rfl) (sTm rfl) (by with_reducible first | exact agg27 | exact agg51) aa5 ?_ | refine sG hp rfl (sTm rfl) (sTm rfl) (by with_reducible first | exact agg27 | exact agg51) aa5 ?_); clear hp; intro w1 hp; simp only [spl, zSet, sSet] at hp) | ((with_reducible refine pre_build _ _ _ rfl ?_); refine lS hp rfl (by intro w; go_simp; rfl) ?_; clear hp; intro b w1 hp; simp only [List.length_cons, List.length_nil, Nat.reduceAdd] at hp)); simp only [put_some, put_none, sSet, zSet]))
  go_ret
  exact ⟨rfl, hp.below⟩
end Go.Proofs.YtcjbepaclbhjaaaGreat

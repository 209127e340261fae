/- Parts of the proof. -/
import Derived.Test.YtcjbepaclbhjaaaGreatKe1
import Derived.Test.YtcjbepaclbhjaaaGreatKe43
import Derived.Test.YtcjbepaclbhjaaaGreatKe44
import Derived.Test.YtcjbepaclbhjaaaGreatKe42
import Derived.Test.YtcjbepaclbhjaaaGreatKe22
import Derived.Test.YtcjbepaclbhjaaaGreatKe38
import Derived.Test.YtcjbepaclbhjaaaGreatKe35
open List renaming set_cons_zero → zSet, set_cons_succ → sSet
/- The walk of the document's Choose. -/
set_option linter.unusedSimpArgs false
set_option linter.unusedVariables false
namespace Go.Proofs.YtcjbepaclbhjaaaGreat
open Go.RowKit Go.Lib
def RAdP (w : World) (nv cm : Int) (f : List Env) (e : Ending) (w' : World) : Prop := ∃ (a : Option Addr) (c : Nat) (R : List Blk), e = .returned (.tuple #[.agg #[.int .i64 3, .int .i64 nv, .int .i64 cm, .int .i64 0, .string ⟨#[]⟩, .int .i64 0, .int .i64 0, .int .i64 0, .int .i64 0, .int .i64 0, .int .i64 0, .int .i64 0, .int .i64 0, .int .i64 0, .int .i64 0, .int .i64 0, .slice a f.length c], .bool true]) ∧ Kept R (fun w => RowIs w a (f.flatMap envL)) ∧ Hp w.heap.size w w' R
theorem radopt_f (vw nm bs : Int) (im : ByteArray) (ea : Option Addr) (es : List Env) (ec : Nat) (cm nv nb : Int) (la : Option Addr) (l : List Env) (lc : Nat) (hs : Kv.Small ⟨vw, nm, bs, im, ea, es, ec⟩) (hl : l.length ≤ 100000) (w : World) (ha : RowIs w ea (es.flatMap envL)) (hla : RowIs w la (l.flatMap envL)) (hn : ∀ e ∈ l, I64 e.nu) (h : adoptB ⟨vw, nm, bs, im, ea, es, ec⟩ cm nv nb l = true) (f : List Env) (hf : adoptL cm nb l = f) :
    Calls Tryz.prog 56 #[.agg #[.int .i64 vw, .int .i64 nm, .int .i64 bs, .string im, .slice ea es.length ec], .int .i64 cm, .int .i64 nv, .int .i64 nb, .slice la l.length lc] w (RAdP w nv cm f) := by
  subst hf
  refine (radopt17_yes vw nm bs im ea es ec cm nv nb la l lc hs hl w ha hla hn h _ rfl).mono fun e w' hq => ?_
  obtain ⟨a, c, R, rfl, ho, hp⟩ := hq
  obtain ⟨a', k', hv, hk⟩ := ho.kept
  injection hv with hv _ _
  subst hv
  exact ⟨a, c, R, rfl, hk, hp⟩
def MostOf (cm : Int) (xs : List Int) (m : Int) : Prop := cm ≤ m ∧ (∀ x ∈ xs, x ≤ m) ∧ (m = cm ∨ m ∈ xs)
theorem MostOf.snoc {cm : Int} {xs : List Int} {m y z : Int} (h : MostOf cm xs m) (hz : z = max m y) : MostOf cm (xs ++ [y]) z := by
  obtain ⟨h1, h2, h3⟩ := h
  refine ⟨by omega, fun x hx => ?_, ?_⟩
  · rw [List.mem_append, List.mem_singleton] at hx
    rcases hx with hx | hx
    · have := h2 x hx; omega
    · omega
  · rw [List.mem_append, List.mem_singleton]
    by_cases e : m < y
    · right; right; omega
    · have : z = m := by omega
      rw [this]
      rcases h3 with h | h
      · exact .inl h
      · exact .inr (.inl h)
theorem MostOf.max {cm : Int} {xs : List Int} {m t n : Int} (h : MostOf cm xs m) (g : IsMax xs t) : max cm (min m n) = max cm (min t n) := by
  obtain ⟨h1, h2, h3⟩ := h
  have h4 := h2 t g.1
  rcases h3 with h | h
  · omega
  · have := g.2 m h; omega
theorem max_ex : ∀ xs : List Int, 0 < xs.length → ∃ u, IsMax xs u
  | [], h => by simp at h
  | [x], _ => ⟨x, by simp, fun y hy => by simp at hy; omega⟩
  | x :: y :: r, _ => by
    obtain ⟨u, h1, h2⟩ := max_ex (y :: r) (by simp)
    by_cases e : u < x
    · exact ⟨x, by simp, fun z hz => by
        rcases List.mem_cons.1 hz with rfl | hz
        · omega
        · have := h2 z hz; omega⟩
    · exact ⟨u, List.mem_cons_of_mem _ h1, fun z hz => by
        rcases List.mem_cons.1 hz with rfl | hz
        · omega
        · exact h2 z hz⟩
set_option maxRecDepth 100000 in
set_option maxHeartbeats 16000000 in
theorem rchoose24 (nodes view : Int) (la : Option Addr) (l : List Vt) (lc : Nat) (vw nm bs : Int) (im : ByteArray) (ea : Option Addr) (es : List Env) (ec : Nat) (cm : Int) (hl : l.length ≤ 1000) (hes : ∀ v ∈ l, v.es.length ≤ 100000 ∧ ∀ e ∈ v.es, I64 e.nu) (hs : Kv.Small ⟨vw, nm, bs, im, ea, es, ec⟩) (w : World)
    (ha : RowIs w ea (es.flatMap envL)) (hla : RowIs w la (l.flatMap vtV)) (hlv : ∀ v ∈ l, v.Is w) :
    Calls Tryz.prog 24 #[.int .i64 nodes, .int .i64 view, .slice la l.length lc, .agg #[.int .i64 vw, .int .i64 nm, .int .i64 bs, .string im, .slice ea es.length ec], .int .i64 cm] w (ChooseP w nodes view l ⟨vw, nm, bs, im, ea, es, ec⟩ cm) := by
  obtain ⟨i0, hi0, hz0, hz1, hz2⟩ := info_parts info3
  have hp := Hp.start w
  have HA := Lib.hid ha
  have HLA := Lib.hid hla
  have HL := Lib.hid hl
  have HSS := Lib.hid hs
  have HWN : RowKit.Hid ((l.map Vt.nd).length = l.length) := Lib.hid (List.length_map _)
  clear ha hla hs
  go_enter Tryz.func24, Tryz.ntmps24
  go_wp2_with (first | go_skip | (first | (refine hA0 ?_; clear hp; intro b w1 hp) | refine hL0 ?_ | (refine hS0 ?_; clear hp; intro w1 hp)))
  obtain ⟨b10, hb10⟩ := hp.id0
  obtain ⟨b8, hb8⟩ := hp.id1
  subst hb10 hb8
  go_loopg [13, 14, 15] l.length (fun k v x i wr => ∃ (q : Nat) (t : Int) (R M : List Blk), k + q = l.length ∧ x = .int .i64 t ∧ i = .int .i64 q ∧ RowKit.Hid (OwnRow 3 1 v q (((l.take q).map Vt.nd).flatMap iV) R) ∧ RowKit.Hid (MostOf cm ((l.take q).map Vt.cm) t) ∧ Hp w.heap.size w wr (⟨b10, [.int .i64 0, .int .i64 0, .int .i64 0, .int .i64 0, .string ⟨#[]⟩, .int .i64 0, .int .i64 0, .int .i64 0, .int .i64 0, .int .i64 0, .int .i64 0, .int .i64 0, .int .i64 0, .int .i64 0, .int .i64 0, .int .i64 0, .slice none 0 0], 51, 17⟩ :: ⟨b8, [.int .i64 vw, .int .i64 nm, .int .i64 bs, .string im, .slice ea es.length ec], 24, 5⟩ :: (R ++ M)))
  case atStart => exact ⟨0, cm, [], [], by omega, rfl, rfl, Lib.hid (OwnRow.nil _ _), Lib.hid ⟨Int.le_refl _, fun x hx => (by simp at hx), .inl rfl⟩, hp⟩
  case round =>
    clear hp
    obtain ⟨q, t, R, M, hkq, rfl, rfl, HR, HMO, hp⟩ := hrel
    by_cases hlt : q < l.length
    · obtain ⟨bq, off, rfl, hx⟩ := HLA.out.elems 6 vtV_len (by omega) (by omega)
      have hj := List.getElem?_eq_getElem hlt
      replace hx := hx q _ hj
      have htk : (l.take (q + 1)).map Vt.nd = (l.take q).map Vt.nd ++ [(l[q]).nd] := by rw [List.take_add_one, hj, List.map_append]; rfl
      have htm : (l.take (q + 1)).map Vt.cm = (l.take q).map Vt.cm ++ [(l[q]).cm] := by rw [List.take_add_one, hj, List.map_append]; rfl
      clear hj
      generalize l[q] = y at hx htk htm
      obtain ⟨yd, ym, yb, yu, yc, ya, ys, yk⟩ := y
      simp only [vtV] at hx
      simp only at htk htm
      have HX := Lib.hid hx
      have HTK := Lib.hid htk
      have HTM := Lib.hid htm
      clear hx htk htm
      have e1 : (0 : Int) ≤ (q : Int) := by omega
      have e2 : (q : Int) < (l.length : Int) := by omega
      have HS5 : RowKit.Hid (q + 1 ≤ maxLen) := Lib.hid (by unfold maxLen; omega)
      have HS6 : RowKit.Hid ((q + 1) * 8 ≤ 140737488355328) := Lib.hid (by omega)
      go_wp2_with (first | ((with_reducible refine pre_append _ _ 72 rfl ?_); refine wpList_appendGrow (K := [_, _]) (R := R) (M := M) hp _ _ _ rfl wy i0 _ 8 Tryz.underlying72 hi0 hz0 hz1 hz2 rfl (by decide) (sTm rfl) HR.out 1 1 (sTm rfl) (by rfl) (by decide) (by rfl) HS5.out HS6.out ?_; clear hp HR; intro v' R' w1 hR' hp; have HR := Lib.hid hR'; clear hR'; simp only [List.cons_append, List.nil_append] at hp; simp only [put_some, put_none, sSet, zSet]) | go_skip | (first | (refine hA0 ?_; clear hp; intro b w1 hp) | refine hL24 ?_ | (refine hS0 ?_; clear hp; intro w1 hp)))
      go_roundg (gk - 1)
      case measure => omega
      case rel => exact ⟨q + 1, _, R', M, by omega, rfl, by go_num, Lib.hid (by rw [HTK.out, List.flatMap_append]; exact HR.out), Lib.hid (by rw [HTM.out]; exact HMO.out.snoc rfl), hp⟩
    · obtain rfl : q = l.length := by omega
      have f2 : decide ((l.length : Int) < (l.length : Int)) = false := by simp
      obtain ⟨ax, kx, rfl, hk⟩ := HR.out.kept
      have hmo := HMO.out
      rw [List.take_length] at hk hmo
      have HKR := Lib.hid hk
      have HMX := Lib.hid hmo
      clear hkq hlt hk hmo HR HMO
      cases hen : enoughB nodes (l.map Vt.nd) with
      | false =>
        have HEN := Lib.hid hen
        clear hen hlv hes
        go_wp2_with (first | (go_at_call 54; (with_reducible refine (renough54 nodes (l.map Vt.nd) _ _ _ HWN.out HL.out _ HEN.out _ (HKR.out.at hp (fun p hm => by simp [hm]))).mono ?_); rintro e w1 ⟨rfl, hb⟩; replace hp := hp.call hb; clear hb) | go_skip | (first | (refine hA0 ?_; clear hp; intro b w1 hp) | refine hL0 ?_ | (refine hS0 ?_; clear hp; intro w1 hp)))
        refine bodyPost_ret (results_many (rs := [.cell 10 51, .tmp 11, .tmp 12]) Tryz.results24 (.cell rfl (hp.loadAgg agg51 at0 0 _ (by rfl) (by rfl)) (.tmp rfl (.tmp rfl .nil)))) rfl ?_
        exact Or.inl ⟨Or.inl HEN.out, rfl, hp.below⟩
      | true =>
        have HEN := Lib.hid hen
        have hlp := enough_ne hen
        have HLP0 := Lib.hid hlp
        obtain ⟨m, x, htop⟩ := top_ex l.length l hlp (Nat.le_refl _)
        rw [List.take_length] at htop
        have hml := (List.getElem?_eq_some_iff.1 htop.get).1
        obtain ⟨bq, off, rfl, hx⟩ := HLA.out.elems 6 vtV_len (by omega) (by omega)
        replace hx := hx m _ htop.get
        have hmem := List.mem_of_getElem? htop.get
        have hxl := hes x hmem
        have hxa := hlv x hmem
        have HT := Lib.hid htop
        clear hen hlv hes htop hmem hlp
        cases had : adoptB ⟨vw, nm, bs, im, ea, es, ec⟩ cm view x.bs x.es with
        | false =>
          obtain ⟨xd, xm, xb, xu, xc, xa, xs, xk⟩ := x
          simp only [vtV] at hx hxl had
          have HX := Lib.hid hx
          have HXA : RowKit.Hid (RowIs w xa (xs.flatMap envL)) := Lib.hid hxa
          have HXL := Lib.hid hxl.1
          have HAD := Lib.hid had
          have f1 : (0 : Int) ≤ (m : Int) := by omega
          have f3 : (m : Int) < (l.length : Int) := by omega
          clear hx hxa hxl had hml
          go_wp2_with (first | (go_at_call 54; (with_reducible refine (renough54 nodes (l.map Vt.nd) _ _ _ HWN.out HL.out _ HEN.out _ (HKR.out.at hp (fun p hm => by simp [hm]))).mono ?_); rintro e w1 ⟨rfl, hb⟩; replace hp := hp.call hb; clear hb) | (go_at_call 55; (with_reducible refine (rbest55 l _ lc HL.out HLP0.out _ (HLA.out.below hp.below)).mono ?_); rintro e w1 ⟨m2, y2, rfl, ht, hb⟩; obtain ⟨rfl, rfl⟩ := HT.out.uniq ht; replace hp := hp.call hb; clear hb ht) | (go_at_call 56; (with_reducible refine (radopt17_no vw nm bs im ea es ec cm view xb xa xs xk HSS.out HXL.out _ (HA.out.below hp.below) (HXA.out.below hp.below) HAD.out).mono ?_); rintro e w1 ⟨rfl, hb⟩; replace hp := hp.call hb; clear hb) | go_skip | (first | (refine hA0 ?_; clear hp; intro b w1 hp) | refine hL24 ?_ | (refine hS0 ?_; clear hp; intro w1 hp)))
          refine bodyPost_ret (results_many (rs := [.cell 10 51, .tmp 11, .tmp 12]) Tryz.results24 (.cell rfl (hp.loadAgg agg51 at2 0 _ (by rfl) (by rfl)) (.tmp rfl (.tmp rfl .nil)))) rfl ?_
          exact Or.inl ⟨Or.inr ⟨m, _, HT.out, HEN.out, HAD.out⟩, rfl, hp.below⟩
        | true =>
          have hmax : ∃ u, IsMax (l.map Vt.cm) u := max_ex _ (by rw [List.length_map]; exact HLP0.out)
          obtain ⟨u, hu⟩ := hmax
          have HU := Lib.hid hu
          clear hu
          obtain ⟨xd, xm, xb, xu, xc, xa, xs, xk⟩ := x
          simp only [vtV] at hx hxl had
          have HX := Lib.hid hx
          have HXA : RowKit.Hid (RowIs w xa (xs.flatMap envL)) := Lib.hid hxa
          have HXL := Lib.hid hxl.1
          have HXN := Lib.hid hxl.2
          have HAD := Lib.hid had
          obtain ⟨f, hf⟩ : ∃ f, adoptL cm xb xs = f := ⟨_, rfl⟩
          have HFF := Lib.hid hf
          have HFL : RowKit.Hid (f.length ≤ 100000) := Lib.hid (by rw [← hf]; unfold adoptL; rw [List.length_drop]; have := hxl.1; omega)
          have f1 : (0 : Int) ≤ (m : Int) := by omega
          have f3 : (m : Int) < (l.length : Int) := by omega
          clear hx hxa hxl had hml hf
          go_wp2_with (first | (go_at_call 54; (with_reducible refine (renough54 nodes (l.map Vt.nd) _ _ _ HWN.out HL.out _ HEN.out _ (HKR.out.at hp (fun p hm => by simp [hm]))).mono ?_); rintro e w1 ⟨rfl, hb⟩; replace hp := hp.call hb; clear hb) | (go_at_call 55; (with_reducible refine (rbest55 l _ lc HL.out HLP0.out _ (HLA.out.below hp.below)).mono ?_); rintro e w1 ⟨m2, y2, rfl, ht, hb⟩; obtain ⟨rfl, rfl⟩ := HT.out.uniq ht; replace hp := hp.call hb; clear hb ht) | (go_at_call 56; (with_reducible refine (radopt_f vw nm bs im ea es ec cm view xb xa xs xk HSS.out HXL.out _ (HA.out.below hp.below) (HXA.out.below hp.below) HXN.out HAD.out f HFF.out).mono ?_); rintro e w1 ⟨a3, c3, R3, rfl, hk, hp2⟩; replace hp := hp.join hp2; have HK3 := Lib.hid hk; clear hp2 hk; simp only [List.cons_append, List.nil_append, List.append_assoc] at hp) | go_skip | (first | (refine hA0 ?_; clear hp; intro b w1 hp) | refine hL24 ?_ | (refine hS0 ?_; clear hp; intro w1 hp)))
          refine wp_region_keeps [_, _] (Keeps.two hp.drew at0 at1) [8, 9] [(0, true), (1, true), (2, true), (3, true), (4, true), (5, true), (6, true), (7, false), (8, false), (9, false)] (by kernel_rfl) (by kernel_rfl) rfl (by kernel_rfl) (fun _ _ d _ _ h => by cases d <;> exact h) ?_
          replace hp := hp.drew
          repeat' (with_reducible refine plan_is ?_); first | (with_reducible refine plan_nil ?_) | refine tk25 ?_ | (refine plan_do rfl (fun K hK => ?_); go_wp2_with (first | go_skip | (refine hS0 ?_; clear hp; intro w1 hp)); (first | refine hK.out _ _ (.inl rfl) ?_ | refine hK.out _ _ (.inr (Keeps.two hp aa5 aa5)) ?_); clear hK K; try simp only [put_some, put_none, eval_tmp, eval_const, sSet, zSet, List.getD_cons_succ, List.getD_cons_zero, wrap_eq])
          go_wp2_with (first | go_skip | (first | (refine hA0 ?_; clear hp; intro b w1 hp) | refine hL0 ?_ | (refine hS0 ?_; clear hp; intro w1 hp)))
          refine bodyPost_ret (results_many (rs := [.cell 10 51, .tmp 11, .tmp 12]) Tryz.results24 (.cell rfl (hp.loadAgg agg51 at2 0 _ (by rfl) (by rfl)) (.tmp rfl (.tmp rfl .nil)))) rfl ?_
          exact Or.inr ⟨f, _, a3, c3, R3, ⟨m, _, u, HT.out, HEN.out, HAD.out, HFF.out.symm, HU.out, HMX.out.max HU.out⟩, HFL.out, rfl, HK3.out, hp.kp⟩
end Go.Proofs.YtcjbepaclbhjaaaGreat
/- The walk of change's Check of a vote. -/
namespace Go.Proofs.YtcjbepaclbhjaaaGreat
open Go.RowKit
end Go.Proofs.YtcjbepaclbhjaaaGreat
/- The walks of the examples of Choose and of the law ChangeChooses. -/
namespace Go.Proofs.YtcjbepaclbhjaaaGreat
open Go.RowKit Go.Lib
def NoneP (w : World) (e : Ending) (w' : World) : Prop := e = .returned (.tuple #[.agg #[.int .i64 0, .int .i64 0, .int .i64 0, .int .i64 0, .string ⟨#[]⟩, .int .i64 0, .int .i64 0, .int .i64 0, .int .i64 0, .int .i64 0, .int .i64 0, .int .i64 0, .int .i64 0, .int .i64 0, .int .i64 0, .int .i64 0, .slice none 0 0], .int .i64 0, .bool false]) ∧ Below w.heap.size w w'
def SomeP (w : World) (view cm : Int) (f : List Env) (s : Int) (e : Ending) (w' : World) : Prop := ∃ (a : Option Addr) (c : Nat) (R : List Blk), e = .returned (.tuple #[.agg #[.int .i64 3, .int .i64 view, .int .i64 cm, .int .i64 0, .string ⟨#[]⟩, .int .i64 0, .int .i64 0, .int .i64 0, .int .i64 0, .int .i64 0, .int .i64 0, .int .i64 0, .int .i64 0, .int .i64 0, .int .i64 0, .int .i64 0, .slice a f.length c], .int .i64 s, .bool true]) ∧ Kept R (fun w => RowIs w a (f.flatMap envL)) ∧ Hp w.heap.size w w' R
theorem ch_none {w : World} {nodes view : Int} {l : List Vt} {k : Kv} {cm : Int} {e : Ending} {w' : World} (hs : ChSpec nodes view l k cm none) (h : ChooseP w nodes view l k cm e w') : NoneP w e w' := by
  rcases h with ⟨_, h⟩ | ⟨f, s, _, _, _, g, _⟩
  · exact h
  · have := hs.uniq g; cases this
theorem ch_some {w : World} {nodes view : Int} {l : List Vt} {k : Kv} {cm : Int} {e : Ending} {w' : World} {f : List Env} {s : Int} (hs : ChSpec nodes view l k cm (some (f, s))) (h : ChooseP w nodes view l k cm e w') : SomeP w view cm f s e w' := by
  rcases h with ⟨g, _⟩ | ⟨f', s', a, c, R, g, _, he, hk, hp⟩
  · have := hs.uniq g; cases this
  · have := hs.uniq g
    injection this with this
    injection this with h1 h2
    subst h1 h2
    exact ⟨a, c, R, he, hk, hp⟩
theorem ch_total (nodes view : Int) (l : List Vt) (k : Kv) (cm : Int) : ChSpec nodes view l k cm none ∨ ∃ f s, ChSpec nodes view l k cm (some (f, s)) := by
  cases h : enoughB nodes (l.map Vt.nd) with
  | false => exact .inl (.inl h)
  | true =>
    have hlp := enough_ne h
    obtain ⟨m, x, ht⟩ := top_ex l.length l hlp (Nat.le_refl _)
    rw [List.take_length] at ht
    cases ha : adoptB k cm view x.bs x.es with
    | false => exact .inl (.inr ⟨m, x, ht, h, ha⟩)
    | true =>
      obtain ⟨u, hu⟩ := max_ex (l.map Vt.cm) (by rw [List.length_map]; exact hlp)
      exact .inr ⟨_, _, m, x, u, ht, h, ha, rfl, hu, rfl⟩
theorem ch_len {nodes view : Int} {l : List Vt} {k : Kv} {cm : Int} {f : List Env} {s : Int} (h : ChSpec nodes view l k cm (some (f, s))) (hl : ∀ v ∈ l, v.es.length ≤ 100000) : f.length ≤ 100000 := by
  obtain ⟨m, x, t, h1, _, _, rfl, _⟩ := h
  unfold adoptL
  rw [List.length_drop]
  have := hl x (List.mem_of_getElem? h1.get)
  omega
def VotePC (w : World) (nd nm : Int) (n : Nat) (e : Ending) (w' : World) : Prop := ∃ (a : Option Addr) (c : Nat) (R : List Blk), e = .returned (.agg #[.int .i64 nd, .int .i64 nm, .int .i64 0, .int .i64 (n : Int), .int .i64 0, .slice a n c]) ∧ n ≤ c ∧ Kept R (fun w => RowIs w a ((kE n).flatMap envL)) ∧ Hp w.heap.size w w' R
set_option maxRecDepth 100000 in
set_option maxHeartbeats 4000000 in
theorem votec45 (nd nm : Int) (n : Nat) (hn : n ≤ 4) (w : World) : Calls Tryz.prog 45 #[.int .i64 nd, .int .i64 nm, .int .i64 (n : Int)] w (VotePC w nd nm n) := by
  have hp := Hp.start w
  have HN := Lib.hid hn
  clear hn
  go_enter Tryz.func45, Tryz.ntmps45
  go_wp2_with (first | (go_at_call 68; (with_reducible refine (row68 n HN.out _).mono ?_); rintro e w1 ⟨a, c, R, rfl, hc, hk, hpn⟩; replace hp := hp.join hpn; have HK := Lib.hid hk; have HC := Lib.hid hc; clear hpn hk hc; simp only [List.cons_append, List.nil_append] at hp) | go_skip | (first | (refine hA0 ?_; clear hp; intro b w1 hp) | refine hL0 ?_ | (refine hS0 ?_; clear hp; intro w1 hp)))
  exact bodyPost_ret (results_one (rs := [.cell 6 27]) Tryz.results45 (.cell rfl (hp.loadAgg agg27 at0 0 _ (by rfl) (by rfl)) .nil)) rfl ⟨a, c, R, rfl, HC.out, HK.out, hp.kp⟩
theorem vote_103 (w : World) : Calls Tryz.prog 45 #[.int .i64 1, .int .i64 0, .int .i64 3] w (VotePC w 1 0 3) := votec45 1 0 3 (by decide) w
theorem vote_212 (w : World) : Calls Tryz.prog 45 #[.int .i64 2, .int .i64 1, .int .i64 2] w (VotePC w 2 1 2) := votec45 2 1 2 (by decide) w
theorem choose_lit (nodes view : Int) (la : Option Addr) (l : List Vt) (q lc : Nat) (hq : l.length = q) (vw nm bs : Int) (im : ByteArray) (ea : Option Addr) (es : List Env) (s ec : Nat) (hsl : es.length = s) (cm : Int) (hl : q ≤ 1000) (hes : ∀ v ∈ l, v.es.length ≤ 100000 ∧ v.es.length ≤ v.c) (hs : Kv.Small ⟨vw, nm, bs, im, ea, es, ec⟩) (w : World)
    (ha : RowIs w ea (es.flatMap envL)) (hla : RowIs w la (l.flatMap vtV)) (hlv : ∀ v ∈ l, v.Is w) :
    Calls Tryz.prog 22 #[.int .i64 nodes, .int .i64 view, .slice la q lc, .agg #[.int .i64 vw, .int .i64 nm, .int .i64 bs, .string im, .slice ea s ec], .int .i64 cm] w (ChooseP w nodes view l ⟨vw, nm, bs, im, ea, es, ec⟩ cm) := by
  subst hq hsl
  exact choose22 nodes view la l lc vw nm bs im ea es ec cm hl hes hs w ha hla hlv
theorem chx_b (a : Option Addr) (c : Nat) : adoptB ⟨0, 0, 0, im3, a, kE 3, c⟩ 1 4 0 (kE 2) = true := by
  unfold adoptB lastK
  rw [kE_ok 3 (by decide), kE_len, kE_len]
  kernel_rfl
theorem spec_a (a1 a2 a3 : Option Addr) (c1 c2 c3 : Nat) : ChSpec 3 4 [⟨1, 0, 0, 3, 0, a1, kE 3, c1⟩, ⟨2, 1, 0, 2, 0, a2, kE 2, c2⟩] ⟨0, 0, 0, im3, a3, kE 3, c3⟩ 1 (some ([En 2], 1)) := by
  refine ⟨1, ⟨2, 1, 0, 2, 0, a2, kE 2, c2⟩, 0, ⟨rfl, fun i y hy => ?_, fun i y hi hy => ?_⟩, by kernel_rfl, chx_b a3 c3, rfl, ⟨by simp, fun x hx => by simp at hx; omega⟩, by kernel_rfl⟩
  · match i, hy with
    | 0, hy => injection hy with hy; subst hy; exact .inl (by simp only; omega)
    | 1, hy => injection hy with hy; subst hy; exact .inr ⟨rfl, Int.le_refl _⟩
    | n + 2, hy => simp at hy
  · obtain rfl : i = 0 := by omega
    injection hy with hy; subst hy; exact .inl (by simp only; omega)
theorem spec_b (a1 a3 : Option Addr) (c1 c3 : Nat) : ChSpec 3 4 [⟨1, 0, 0, 3, 0, a1, kE 3, c1⟩] ⟨0, 0, 0, im3, a3, kE 3, c3⟩ 1 none := .inl (by kernel_rfl)
theorem row_at0 {w : World} {b off : Nat} {xs : List Value} {v : Value} (h : RowIs w (some ⟨b, off, none⟩) xs) (hv : xs[0]? = some v) : w.cell? ⟨b, off, none⟩ = some v := by
  obtain ⟨b', off', he, hc⟩ := h 0 v hv
  injection he with he
  injection he with h1 h2
  subst h1 h2
  exact hc
theorem choose_a (ad a1 a2 a3 : Option Addr) (c1 c2 c3 : Nat) (h3 : 3 ≤ c1) (h2 : 2 ≤ c2) (w : World) (ha : RowIs w a3 ((kE 3).flatMap envL)) (hd : RowIs w ad [.int .i64 1, .int .i64 0, .int .i64 0, .int .i64 3, .int .i64 0, .slice a1 3 c1, .int .i64 2, .int .i64 1, .int .i64 0, .int .i64 2, .int .i64 0, .slice a2 2 c2])
    (g1 : RowIs w a1 ((kE 3).flatMap envL)) (g2 : RowIs w a2 ((kE 2).flatMap envL)) :
    Calls Tryz.prog 22 #[.int .i64 3, .int .i64 4, .slice ad 2 2, .agg #[.int .i64 0, .int .i64 0, .int .i64 0, .string im3, .slice a3 3 c3], .int .i64 1] w fun e w' => ∃ b off c R, e = .returned (.tuple #[.agg #[.int .i64 3, .int .i64 4, .int .i64 1, .int .i64 0, .string ⟨#[]⟩, .int .i64 0, .int .i64 0, .int .i64 0, .int .i64 0, .int .i64 0, .int .i64 0, .int .i64 0, .int .i64 0, .int .i64 0, .int .i64 0, .int .i64 0, .slice (some ⟨b, off, none⟩) 1 c], .int .i64 1, .bool true]) ∧ Kept R (fun w => w.cell? ⟨b, off, none⟩ = some (.int .i64 2)) ∧ Hp w.heap.size w w' R := by
  refine (choose_lit 3 4 ad [⟨1, 0, 0, 3, 0, a1, kE 3, c1⟩, ⟨2, 1, 0, 2, 0, a2, kE 2, c2⟩] 2 2 rfl 0 0 0 im3 a3 (kE 3) 3 c3 (kE_len 3) 1 (by decide) (fun v hv => ?_) (kE_small 3 (by decide) a3 c3) w ha hd (fun v hv => ?_)).mono fun e w' h => ?_
  · rcases List.mem_cons.1 hv with rfl | hv
    · exact ⟨by show (kE 3).length ≤ _; rw [kE_len]; decide, by show (kE 3).length ≤ c1; rw [kE_len]; exact h3⟩
    · obtain rfl := List.mem_singleton.1 hv
      exact ⟨by show (kE 2).length ≤ _; rw [kE_len]; decide, by show (kE 2).length ≤ c2; rw [kE_len]; exact h2⟩
  · rcases List.mem_cons.1 hv with rfl | hv
    · exact g1
    · obtain rfl := List.mem_singleton.1 hv
      exact g2
  · obtain ⟨a, c, R, rfl, hk, hp⟩ := ch_some (spec_a a1 a2 a3 c1 c2 c3) h
    have hr := hk.at hp (fun p hq => hq)
    obtain ⟨b, off, rfl, _⟩ := hr.elems 11 envL_len11 (by decide) (by decide)
    exact ⟨b, off, c, R, rfl, hk.mono (fun p hq => hq) (fun w hw => row_at0 hw rfl), hp⟩
theorem choose_b (ad a1 a3 : Option Addr) (c1 c3 : Nat) (h3 : 3 ≤ c1) (w : World) (ha : RowIs w a3 ((kE 3).flatMap envL)) (hd : RowIs w ad [.int .i64 1, .int .i64 0, .int .i64 0, .int .i64 3, .int .i64 0, .slice a1 3 c1]) (g1 : RowIs w a1 ((kE 3).flatMap envL)) :
    Calls Tryz.prog 22 #[.int .i64 3, .int .i64 4, .slice ad 1 1, .agg #[.int .i64 0, .int .i64 0, .int .i64 0, .string im3, .slice a3 3 c3], .int .i64 1] w (NoneP w) := by
  refine (choose_lit 3 4 ad [⟨1, 0, 0, 3, 0, a1, kE 3, c1⟩] 1 1 rfl 0 0 0 im3 a3 (kE 3) 3 c3 (kE_len 3) 1 (by decide) (fun v hv => ?_) (kE_small 3 (by decide) a3 c3) w ha hd (fun v hv => ?_)).mono fun e w' h => ch_none (spec_b a1 a3 c1 c3) h
  · obtain rfl := List.mem_singleton.1 hv
    exact ⟨by show (kE 3).length ≤ _; rw [kE_len]; decide, by show (kE 3).length ≤ c1; rw [kE_len]; exact h3⟩
  · obtain rfl := List.mem_singleton.1 hv
    exact g1
set_option maxRecDepth 100000 in
set_option maxHeartbeats 8000000 in
theorem chooses23 (w : World) : Calls Tryz.prog 23 #[] w fun e w' => e = .returned (.bool true) ∧ Below w.heap.size w w' := by
  have hp := Hp.start w
  go_enter Tryz.func23, Tryz.ntmps23
  go_wp2_with (first | (go_at_call 45; (with_reducible refine (vote_103 _).mono ?_); rintro e w1 ⟨a1, c1, R1, rfl, hc, hk, hpn⟩; replace hp := hp.join hpn; have HK1 := Lib.hid hk; have HC1 := Lib.hid hc; clear hpn hk hc; try simp only [List.cons_append, List.nil_append] at hp) | (go_at_call 45; (with_reducible refine (vote_212 _).mono ?_); rintro e w1 ⟨a2, c2, R2, rfl, hc, hk, hpn⟩; replace hp := hp.join hpn; have HK2 := Lib.hid hk; have HC2 := Lib.hid hc; clear hpn hk hc; try simp only [List.cons_append, List.nil_append, List.append_assoc] at hp) | (go_at_call 46; (with_reducible refine (three46 _).mono ?_); rintro e w1 ⟨ak, ck, RK, rfl, _, hkk, hpn⟩; replace hp := hp.join hpn; have HKK := Lib.hid hkk; clear hpn hkk; try simp only [List.cons_append, List.nil_append, List.append_assoc] at hp) | (go_at_call 22; (with_reducible refine (choose_a _ a1 a2 ak c1 c2 ck HC1.out HC2.out _ (HKK.out.at hp (fun p hm => by simp [hm])) (hp.rowIs at0) (HK1.out.at hp (fun p hm => by simp [hm])) (HK2.out.at hp (fun p hm => by simp [hm]))).mono ?_); rintro e w1 ⟨bm, om, cq, RM, rfl, hkm, hpn⟩; replace hp := hp.join hpn; have HKM := Lib.hid hkm; clear hpn hkm HKK HK1 HK2; try simp only [List.cons_append, List.nil_append, List.append_assoc] at hp) | (go_at_call 22; (with_reducible refine (choose_b _ a1 ak c1 ck HC1.out _ (HKK.out.at hp (fun p hm => by simp [hm])) (hp.rowIs at0) (HK1.out.at hp (fun p hm => by simp [hm]))).mono ?_); rintro e w1 ⟨rfl, hb⟩; replace hp := hp.call hb; clear hb) | (refine hL25 ?_) | go_skip | (first | (refine hA0 ?_; clear hp; intro b w1 hp) | refine hL0 ?_ | (refine hS0 ?_; clear hp; intro w1 hp)))
  go_ret
  exact ⟨rfl, hp.below⟩
end Go.Proofs.YtcjbepaclbhjaaaGreat

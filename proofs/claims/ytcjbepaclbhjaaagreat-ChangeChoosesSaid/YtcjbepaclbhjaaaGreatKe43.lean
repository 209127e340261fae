/- Parts of the proof. -/
import Derived.Test.YtcjbepaclbhjaaaGreatKe1
import Derived.Test.YtcjbepaclbhjaaaGreatKe42
import Derived.Test.YtcjbepaclbhjaaaGreatKe40
import Derived.Test.YtcjbepaclbhjaaaGreatKe39
open List renaming set_cons_zero → zSet, set_cons_succ → sSet
/- The walks of the examples of Adopt. -/
set_option linter.unusedSimpArgs false
set_option linter.unusedVariables false
namespace Go.Proofs.YtcjbepaclbhjaaaGreat
open Go.RowKit
theorem kE_succ (n : Nat) : kE (n + 1) = kE n ++ [En ((n : Int) + 1)] := by
  unfold kE
  rw [List.range_succ, List.map_append]; rfl
theorem grow_permR {B : Nat} {w0 w : World} {x : Blk} {RO : List Blk} (hp : Hp B w0 w (x :: RO)) : Hp B w0 w (x :: ([] ++ (RO ++ []))) := by simpa using hp
def RowP (w : World) (n : Nat) (e : Ending) (w' : World) : Prop := ∃ (a : Option Addr) (c : Nat) (R : List Blk), e = .returned (.slice a n c) ∧ n ≤ c ∧ Kept R (fun w => RowIs w a ((kE n).flatMap envL)) ∧ Hp w.heap.size w w' R
set_option maxRecDepth 100000 in
set_option maxHeartbeats 8000000 in
theorem row68 (n : Nat) (hn : n ≤ 4) (w : World) : Calls Tryz.prog 68 #[.int .i64 (n : Int)] w (RowP w n) := by
  obtain ⟨i0, hi0, hz0, hz1, hz2⟩ := info_parts info47
  have hp := Hp.start w
  go_enter Tryz.func68, Tryz.ntmps68
  go_wp2_with (first | go_skip | (first | (refine hA3 ?_; clear hp; intro b w1 hp) | refine hL0 ?_ | (refine hS0 ?_; clear hp; intro w1 hp)))
  go_loopg [4, 3] n (fun k i v wr => ∃ (j : Nat) (RO : List Blk), k + j = n ∧ i = .int .i64 ((j : Int) + 1) ∧ RowKit.Hid (OwnRow 47 11 v j ((kE j).flatMap envL) RO) ∧ Hp w.heap.size w wr RO)
  case atStart => exact ⟨0, [], by omega, rfl, Lib.hid (OwnRow.nil _ _), hp⟩
  case round =>
    clear hp
    obtain ⟨j, RO, hkj, rfl, HRO, hp⟩ := hrel
    by_cases hlt : j < n
    · have e1 : decide ((j : Int) + 1 ≤ (n : Int)) = true := by simp; omega
      have HL1 : RowKit.Hid (j + 1 ≤ maxLen) := Lib.hid (by unfold maxLen; omega)
      have HL2 : RowKit.Hid ((j + 1) * 88 ≤ 140737488355328) := Lib.hid (by omega)
      have e2 : wrap64 ((j : Int) + 1 + 1) = ((j + 1 : Nat) : Int) + 1 := by unfold wrap64; push_cast; omega
      go_wp2_with (first | ((with_reducible refine pre_append _ _ 22 rfl ?_); refine wpList_appendGrow (K := []) (R := RO) (M := []) (grow_permR hp) _ _ _ rfl wy i0 _ 88 Tryz.underlying22 hi0 hz0 hz1 hz2 rfl (by decide) (sTm rfl) HRO.out 1 1 (sTm rfl) (by rfl) (by decide) (by rfl) HL1.out HL2.out ?_; clear hp HRO; intro v' R' w1 hR' hp; obtain ⟨av, kv, rfl, _⟩ := hR'.kept; have HR' := Lib.hid hR'; clear hR'; simp only [List.cons_append, List.nil_append, List.append_nil] at hp; simp only [put_some, put_none, sSet, zSet]) | go_skip | (first | (refine hA3 ?_; clear hp; intro b w1 hp) | refine hL0 ?_ | (refine hS0 ?_; clear hp; intro w1 hp)))
      go_roundg (gk - 1)
      case measure => omega
      case rel => exact ⟨j + 1, R', by omega, congrArg (Value.int .i64) (by push_cast; omega), Lib.hid (by rw [kE_succ, List.flatMap_append]; exact HR'.out), hp⟩
    · obtain rfl : j = n := by omega
      have e1 : decide ((j : Int) + 1 ≤ (j : Int)) = false := by simp; omega
      obtain ⟨av, kv, rfl, hc, hk⟩ := HRO.out.keptC
      clear hkj hlt HRO
      go_wp2_with (first | go_skip | (first | (refine hA3 ?_; clear hp; intro b w1 hp) | refine hL0 ?_ | (refine hS0 ?_; clear hp; intro w1 hp)))
      go_ret
      exact ⟨av, kv, RO, rfl, hc, hk, hp⟩
theorem row_3 (w : World) : Calls Tryz.prog 68 #[.int .i64 3] w (RowP w 3) := row68 3 (by decide) w
set_option maxRecDepth 100000 in
theorem three46 (w : World) : Calls Tryz.prog 46 #[] w (KeptP w 3) := by
  have hp := Hp.start w
  go_enter Tryz.func46, Tryz.ntmps46
  go_wp2_with (first | (go_at_call 69; (with_reducible refine (newo_3 _).mono ?_); rintro e w1 ⟨rfl, hb⟩; replace hp := hp.call hb; clear hb) | (go_at_call 68; (with_reducible refine (row_3 _).mono ?_); rintro e w1 ⟨a3, c3, RK, rfl, hc3, hk3, hpn⟩; replace hp := hp.join hpn; have HC := Lib.hid hc3; have HK := Lib.hid hk3; clear hpn hc3 hk3; simp only [List.cons_append, List.nil_append] at hp) | go_skip | (first | (refine hA1 ?_; clear hp; intro b w1 hp) | refine hL0 ?_ | (refine hS0 ?_; clear hp; intro w1 hp)))
  exact bodyPost_ret (results_one (rs := [.cell 0 24]) Tryz.results46 (.cell rfl (hp.loadAgg agg24 at1 0 _ (by rfl) (by rfl)) .nil)) rfl ⟨a3, c3, RK, rfl, HC.out, HK.out, hp.kp⟩
theorem adopt_no (vw nm bs : Int) (im : ByteArray) (ea : Option Addr) (es : List Env) (s ec : Nat) (hsl : es.length = s) (cm nv nb : Int) (la : Option Addr) (l : List Env) (m lc : Nat) (hlm : l.length = m) (hs : Kv.Small ⟨vw, nm, bs, im, ea, es, ec⟩) (hl : m ≤ 100000) (w : World) (ha : RowIs w ea (es.flatMap envL)) (hla : RowIs w la (l.flatMap envL)) (hb : adoptB ⟨vw, nm, bs, im, ea, es, ec⟩ cm nv nb l = false) :
    Calls Tryz.prog 51 #[.agg #[.int .i64 vw, .int .i64 nm, .int .i64 bs, .string im, .slice ea s ec], .int .i64 cm, .int .i64 nv, .int .i64 nb, .slice la m lc] w fun e w' => e = .returned (.tuple #[.agg #[.int .i64 0, .int .i64 0, .int .i64 0, .int .i64 0, .string ⟨#[]⟩, .int .i64 0, .int .i64 0, .int .i64 0, .int .i64 0, .int .i64 0, .int .i64 0, .int .i64 0, .int .i64 0, .int .i64 0, .int .i64 0, .int .i64 0, .slice none 0 0], .bool false]) ∧ Below w.heap.size w w' := by
  subst hsl hlm
  exact adopt51_no vw nm bs im ea es ec cm nv nb la l lc hs hl w ha hla hb
theorem adopt_yes (vw nm bs : Int) (im : ByteArray) (ea : Option Addr) (es : List Env) (s ec : Nat) (hsl : es.length = s) (cm nv nb : Int) (la : Option Addr) (l : List Env) (m lc : Nat) (hlm : l.length = m) (hs : Kv.Small ⟨vw, nm, bs, im, ea, es, ec⟩) (hl : m ≤ 100000) (w : World) (ha : RowIs w ea (es.flatMap envL)) (hla : RowIs w la (l.flatMap envL)) (hlc : m ≤ lc) (hb : adoptB ⟨vw, nm, bs, im, ea, es, ec⟩ cm nv nb l = true) (f : List Env) (q : Nat) (hf : adoptL cm nb l = f) (hq : f.length = q) :
    Calls Tryz.prog 51 #[.agg #[.int .i64 vw, .int .i64 nm, .int .i64 bs, .string im, .slice ea s ec], .int .i64 cm, .int .i64 nv, .int .i64 nb, .slice la m lc] w (AdoptPost w nv cm f q) := by
  subst hsl hlm hf
  exact adopt51_yes vw nm bs im ea es ec cm nv nb la l lc hs hl w ha hla hlc hb q hq
end Go.Proofs.YtcjbepaclbhjaaaGreat
/- The walk of change.Choose. -/
namespace Go.Proofs.YtcjbepaclbhjaaaGreat
open Go.RowKit Go.Lib
def ChSpec (nodes view : Int) (l : List Vt) (k : Kv) (cm : Int) : Option (List Env × Int) → Prop
  | none => enoughB nodes (l.map Vt.nd) = false ∨ ∃ (m : Nat) (x : Vt), TopV l m x ∧ enoughB nodes (l.map Vt.nd) = true ∧ adoptB k cm view x.bs x.es = false
  | some (f, s) => ∃ (m : Nat) (x : Vt) (t : Int), TopV l m x ∧ enoughB nodes (l.map Vt.nd) = true ∧ adoptB k cm view x.bs x.es = true ∧ f = adoptL cm x.bs x.es ∧ IsMax (l.map Vt.cm) t ∧ s = max cm (min t x.nu)
theorem IsMax.uniq {xs : List Int} {a b : Int} (h : IsMax xs a) (g : IsMax xs b) : a = b := by
  have := h.2 b g.1; have := g.2 a h.1; omega
theorem ChSpec.uniq {nodes view : Int} {l : List Vt} {k : Kv} {cm : Int} {r q : Option (List Env × Int)} (h : ChSpec nodes view l k cm r) (g : ChSpec nodes view l k cm q) : r = q := by
  cases r with
  | none =>
    cases q with
    | none => rfl
    | some y =>
      obtain ⟨f, s⟩ := y
      obtain ⟨m, x, t, h1, h2, h3, _⟩ := g
      rcases h with h | ⟨m', x', g1, g2, g3⟩
      · rw [h] at h2; cases h2
      · obtain ⟨rfl, rfl⟩ := h1.uniq g1
        rw [g3] at h3; cases h3
  | some y =>
    obtain ⟨f, s⟩ := y
    obtain ⟨m, x, t, h1, h2, h3, h4, h5, h6⟩ := h
    cases q with
    | none =>
      rcases g with h | ⟨m', x', g1, g2, g3⟩
      · rw [h] at h2; cases h2
      · obtain ⟨rfl, rfl⟩ := h1.uniq g1
        rw [g3] at h3; cases h3
    | some z =>
      obtain ⟨f', s'⟩ := z
      obtain ⟨m', x', t', g1, g2, g3, g4, g5, g6⟩ := g
      obtain ⟨rfl, rfl⟩ := h1.uniq g1
      rw [h4, g4, h6, g6, h5.uniq g5]
theorem top_ex : ∀ (q : Nat) (l : List Vt), 0 < q → q ≤ l.length → ∃ m x, TopV (l.take q) m x
  | 0, _, h, _ => by omega
  | 1, l, _, h => ⟨0, l[0], TopV.one (List.getElem?_eq_getElem (by omega))⟩
  | q + 2, l, _, h => by
    obtain ⟨m, x, hx⟩ := top_ex (q + 1) l (by omega) (by omega)
    have hj := List.getElem?_eq_getElem (show q + 1 < l.length by omega)
    by_cases e : ltX x l[q + 1]
    · exact ⟨q + 1, _, hx.next hj e⟩
    · exact ⟨m, x, hx.keep hj e⟩
theorem enough_ne {n : Int} {l : List Vt} (h : enoughB n (l.map Vt.nd) = true) : 0 < l.length := by
  rcases Nat.eq_zero_or_pos l.length with e | e
  · obtain rfl := List.eq_nil_of_length_eq_zero e
    unfold enoughB at h
    have h1 : popN (maskN n ([].map Vt.nd)) = 0 := by show popN 0 = 0; decide
    rw [h1] at h
    simp only [Bool.and_eq_true, decide_eq_true_eq] at h
    unfold nodesB at h
    simp only [Bool.or_eq_true, beq_iff_eq] at h
    omega
  · exact e
def ChooseP (w : World) (nodes view : Int) (l : List Vt) (k : Kv) (cm : Int) (e : Ending) (w' : World) : Prop :=
  (ChSpec nodes view l k cm none ∧ e = .returned (.tuple #[.agg #[.int .i64 0, .int .i64 0, .int .i64 0, .int .i64 0, .string ⟨#[]⟩, .int .i64 0, .int .i64 0, .int .i64 0, .int .i64 0, .int .i64 0, .int .i64 0, .int .i64 0, .int .i64 0, .int .i64 0, .int .i64 0, .int .i64 0, .slice none 0 0], .int .i64 0, .bool false]) ∧ Below w.heap.size w w') ∨
  ∃ (f : List Env) (s : Int) (a : Option Addr) (c : Nat) (R : List Blk), ChSpec nodes view l k cm (some (f, s)) ∧ f.length ≤ 100000 ∧ e = .returned (.tuple #[.agg #[.int .i64 3, .int .i64 view, .int .i64 cm, .int .i64 0, .string ⟨#[]⟩, .int .i64 0, .int .i64 0, .int .i64 0, .int .i64 0, .int .i64 0, .int .i64 0, .int .i64 0, .int .i64 0, .int .i64 0, .int .i64 0, .int .i64 0, .slice a f.length c], .int .i64 s, .bool true]) ∧ Kept R (fun w => RowIs w a (f.flatMap envL)) ∧ Hp w.heap.size w w' R
set_option maxRecDepth 100000 in
set_option maxHeartbeats 16000000 in
theorem choose22 (nodes view : Int) (la : Option Addr) (l : List Vt) (lc : Nat) (vw nm bs : Int) (im : ByteArray) (ea : Option Addr) (es : List Env) (ec : Nat) (cm : Int) (hl : l.length ≤ 1000) (hes : ∀ v ∈ l, v.es.length ≤ 100000 ∧ v.es.length ≤ v.c) (hs : Kv.Small ⟨vw, nm, bs, im, ea, es, ec⟩) (w : World)
    (ha : RowIs w ea (es.flatMap envL)) (hla : RowIs w la (l.flatMap vtV)) (hlv : ∀ v ∈ l, v.Is w) :
    Calls Tryz.prog 22 #[.int .i64 nodes, .int .i64 view, .slice la l.length lc, .agg #[.int .i64 vw, .int .i64 nm, .int .i64 bs, .string im, .slice ea es.length ec], .int .i64 cm] w (ChooseP w nodes view l ⟨vw, nm, bs, im, ea, es, ec⟩ cm) := by
  have hp := Hp.start w
  have HA := Lib.hid ha
  have HLA := Lib.hid hla
  have HL := Lib.hid hl
  have HSS := Lib.hid hs
  have HLM : RowKit.Hid ((l.map Vt.nd).length ≤ 1000) := Lib.hid (by rw [List.length_map]; exact hl)
  have HLN : RowKit.Hid ((l.map Vt.cm).length ≤ 1000) := Lib.hid (by rw [List.length_map]; exact hl)
  clear ha hla hs
  cases hen : enoughB nodes (l.map Vt.nd) with
  | false =>
    have HEN := Lib.hid hen
    clear hen hlv hes
    go_enter Tryz.func22, Tryz.ntmps22
    go_wp2_with (first | (go_at_call 48; (with_reducible refine (each48_n l _ lc HL.out _ (HLA.out.below hp.below)).mono ?_); rintro e w1 ⟨a1, k1, R1, rfl, hk, hp2⟩; replace hp := hp.join hp2; have HK1 := Lib.hid hk; clear hp2 hk; simp only [List.cons_append, List.nil_append, List.append_assoc] at hp) | (go_at_call 47; (with_reducible refine (enough47 nodes (l.map Vt.nd) a1 _ k1 (List.length_map _) HL.out _ HEN.out _ (HK1.out.at hp (fun p hm => by simp [hm]))).mono ?_); rintro e w1 ⟨rfl, hb⟩; replace hp := hp.call hb; clear hb) | go_skip | (first | (refine hA1 ?_; clear hp; intro b w1 hp) | refine hL0 ?_ | (refine hS0 ?_; clear hp; intro w1 hp)))
    refine bodyPost_ret (results_many (rs := [.cell 10 51, .tmp 11, .tmp 12]) Tryz.results22 (.cell rfl (hp.loadAgg agg51 at0 0 _ (by rfl) (by rfl)) (.tmp rfl (.tmp rfl .nil)))) rfl ?_
    exact Or.inl ⟨Or.inl HEN.out, rfl, hp.below⟩
  | true =>
    have HEN := Lib.hid hen
    have hlp := enough_ne hen
    have HLP0 := Lib.hid hlp
    have HLP : RowKit.Hid (0 < (l.map Vt.cm).length) := Lib.hid (by rw [List.length_map]; exact hlp)
    obtain ⟨m, x, htop⟩ := top_ex l.length l hlp (Nat.le_refl _)
    rw [List.take_length] at htop
    have hml := (List.getElem?_eq_some_iff.1 htop.get).1
    obtain ⟨bq, off, rfl, hx⟩ := HLA.out.elems 6 vtV_len (by omega) (by omega)
    replace hx := hx m _ htop.get
    have hmem := List.mem_of_getElem? htop.get
    have hxl := hes x hmem
    have hxa := hlv x hmem
    have HT := Lib.hid htop
    clear hen hlv hes htop hmem hlp
    cases had : adoptB ⟨vw, nm, bs, im, ea, es, ec⟩ cm view x.bs x.es with
    | false =>
      obtain ⟨xd, xm, xb, xu, xc, xa, xs, xk⟩ := x
      simp only [vtV] at hx hxl had
      have HX := Lib.hid hx
      have HXA : RowKit.Hid (RowIs w xa (xs.flatMap envL)) := Lib.hid hxa
      have HXL := Lib.hid hxl.1
      have HAD := Lib.hid had
      have f1 : (0 : Int) ≤ (m : Int) := by omega
      have f2 : (m : Int) < (l.length : Int) := by omega
      clear hx hxa hxl had hml
      go_enter Tryz.func22, Tryz.ntmps22
      go_wp2_with (first | (go_at_call 48; (with_reducible refine (each48_n l _ lc HL.out _ (HLA.out.below hp.below)).mono ?_); rintro e w1 ⟨a1, k1, R1, rfl, hk, hp2⟩; replace hp := hp.join hp2; have HK1 := Lib.hid hk; clear hp2 hk; simp only [List.cons_append, List.nil_append, List.append_assoc] at hp) | (go_at_call 47; (with_reducible refine (enough47 nodes (l.map Vt.nd) a1 _ k1 (List.length_map _) HL.out _ HEN.out _ (HK1.out.at hp (fun p hm => by simp [hm]))).mono ?_); rintro e w1 ⟨rfl, hb⟩; replace hp := hp.call hb; clear hb) | (go_at_call 50; (with_reducible refine (best50 l _ lc HL.out HLP0.out _ (HLA.out.below hp.below)).mono ?_); rintro e w1 ⟨m2, y2, rfl, ht, hb⟩; obtain ⟨rfl, rfl⟩ := HT.out.uniq ht; replace hp := hp.call hb; clear hb ht) | (go_at_call 51; (with_reducible refine (adopt_no vw nm bs im ea es _ ec rfl cm view xb xa xs _ xk rfl HSS.out HXL.out _ (HA.out.below hp.below) (HXA.out.below hp.below) HAD.out).mono ?_); rintro e w1 ⟨rfl, hb⟩; replace hp := hp.call hb; clear hb) | go_skip | (first | (refine hA1 ?_; clear hp; intro b w1 hp) | refine hL11 ?_ | (refine hS0 ?_; clear hp; intro w1 hp)))
      refine bodyPost_ret (results_many (rs := [.cell 10 51, .tmp 11, .tmp 12]) Tryz.results22 (.cell rfl (hp.loadAgg agg51 at1 0 _ (by rfl) (by rfl)) (.tmp rfl (.tmp rfl .nil)))) rfl ?_
      exact Or.inl ⟨Or.inr ⟨m, _, HT.out, HEN.out, HAD.out⟩, rfl, hp.below⟩
    | true =>
      obtain ⟨xd, xm, xb, xu, xc, xa, xs, xk⟩ := x
      simp only [vtV] at hx hxl had
      have HX := Lib.hid hx
      have HXA : RowKit.Hid (RowIs w xa (xs.flatMap envL)) := Lib.hid hxa
      have HXL := Lib.hid hxl.1
      have HXC := Lib.hid hxl.2
      have HAD := Lib.hid had
      obtain ⟨f, hf⟩ : ∃ f, adoptL cm xb xs = f := ⟨_, rfl⟩
      have HFF := Lib.hid hf
      have HFL : RowKit.Hid (f.length ≤ 100000) := Lib.hid (by rw [← hf]; unfold adoptL; rw [List.length_drop]; have := hxl.1; omega)
      have f1 : (0 : Int) ≤ (m : Int) := by omega
      have f2 : (m : Int) < (l.length : Int) := by omega
      clear hx hxa hxl had hml hf
      go_enter Tryz.func22, Tryz.ntmps22
      go_wp2_with (first | (go_at_call 48; (with_reducible refine (each48_n l _ lc HL.out _ (HLA.out.below hp.below)).mono ?_); rintro e w1 ⟨a1, k1, R1, rfl, hk, hp2⟩; replace hp := hp.join hp2; have HK1 := Lib.hid hk; clear hp2 hk; simp only [List.cons_append, List.nil_append, List.append_assoc] at hp) | (go_at_call 47; (with_reducible refine (enough47 nodes (l.map Vt.nd) a1 _ k1 (List.length_map _) HL.out _ HEN.out _ (HK1.out.at hp (fun p hm => by simp [hm]))).mono ?_); rintro e w1 ⟨rfl, hb⟩; replace hp := hp.call hb; clear hb) | (go_at_call 50; (with_reducible refine (best50 l _ lc HL.out HLP0.out _ (HLA.out.below hp.below)).mono ?_); rintro e w1 ⟨m2, y2, rfl, ht, hb⟩; obtain ⟨rfl, rfl⟩ := HT.out.uniq ht; replace hp := hp.call hb; clear hb ht) | (go_at_call 51; (with_reducible refine (adopt_yes vw nm bs im ea es _ ec rfl cm view xb xa xs _ xk rfl HSS.out HXL.out _ (HA.out.below hp.below) (HXA.out.below hp.below) HXC.out HAD.out f _ HFF.out rfl).mono ?_); rintro e w1 ⟨a3, c3, R3, rfl, _, hk, hp2⟩; replace hp := hp.join hp2; have HK3 := Lib.hid hk; clear hp2 hk; simp only [List.cons_append, List.nil_append, List.append_assoc] at hp) | (go_at_call 48; (with_reducible refine (each48_c l _ lc HL.out _ (HLA.out.below hp.below)).mono ?_); rintro e w1 ⟨a2, k2, R2, rfl, hk, hp2⟩; replace hp := hp.join hp2; have HK2 := Lib.hid hk; clear hp2 hk; simp only [List.cons_append, List.nil_append, List.append_assoc] at hp) | (go_at_call 52; (with_reducible refine (max52 (l.map Vt.cm) a2 _ k2 (List.length_map _) HL.out HLP0.out _ (HK2.out.at hp (fun p hm => by simp [hm]))).mono ?_); rintro e w1 ⟨t, rfl, hm, hb⟩; replace hp := hp.call hb; have HMX := Lib.hid hm; clear hb hm) | go_skip | (first | (refine hA1 ?_; clear hp; intro b w1 hp) | refine hL11 ?_ | (refine hS0 ?_; clear hp; intro w1 hp)))
      refine wp_region_keeps [_, _] (Keeps.two hp.drew at0 at1) [8, 9] [(0, true), (1, true), (2, true), (3, true), (4, true), (5, true), (6, true), (7, false), (8, false), (9, false)] (by kernel_rfl) (by kernel_rfl) rfl (by kernel_rfl) (fun _ _ d _ _ h => by cases d <;> exact h) ?_
      replace hp := hp.drew
      repeat' (with_reducible refine plan_is ?_); first | (with_reducible refine plan_nil ?_) | refine tk25 ?_ | (refine plan_do rfl (fun K hK => ?_); go_wp2_with (first | go_skip | (refine hS0 ?_; clear hp; intro w1 hp)); (first | refine hK.out _ _ (.inl rfl) ?_ | refine hK.out _ _ (.inr (Keeps.two hp aa5 aa5)) ?_); clear hK K; try simp only [put_some, put_none, eval_tmp, eval_const, sSet, zSet, List.getD_cons_succ, List.getD_cons_zero, wrap_eq])
      go_wp2_with (first | go_skip | (first | (refine hA1 ?_; clear hp; intro b w1 hp) | refine hL0 ?_ | (refine hS0 ?_; clear hp; intro w1 hp)))
      refine bodyPost_ret (results_many (rs := [.cell 10 51, .tmp 11, .tmp 12]) Tryz.results22 (.cell rfl (hp.loadAgg agg51 at1 0 _ (by rfl) (by rfl)) (.tmp rfl (.tmp rfl .nil)))) rfl ?_
      exact Or.inr ⟨f, _, a3, c3, R3, ⟨m, _, t, HT.out, HEN.out, HAD.out, HFF.out.symm, HMX.out, rfl⟩, HFL.out, rfl, HK3.out, hp.kp⟩
end Go.Proofs.YtcjbepaclbhjaaaGreat
/- The walks of change's Adopt (its record's heap is one's own) and of over. -/
namespace Go.Proofs.YtcjbepaclbhjaaaGreat
open Go.RowKit
def AdoptPostO (w : World) (nv cm : Int) (l : List Env) (m : Nat) (e : Ending) (w' : World) : Prop := ∃ (a : Option Addr) (c : Nat) (R : List Blk), e = .returned (.tuple #[.agg #[.int .i64 3, .int .i64 nv, .int .i64 cm, .int .i64 0, .string ⟨#[]⟩, .int .i64 0, .int .i64 0, .int .i64 0, .int .i64 0, .int .i64 0, .int .i64 0, .int .i64 0, .int .i64 0, .int .i64 0, .int .i64 0, .int .i64 0, .slice a m c], .bool true]) ∧ OwnRow 47 11 (.slice a m c) m (l.flatMap envL) R ∧ Hp w.heap.size w w' R
end Go.Proofs.YtcjbepaclbhjaaaGreat

/- Parts of the proof. -/
import Derived.Test.YtcjbepaclbhjaaaGreatCj0
import Derived.Test.YtcjbepaclbhjaaaGreatCj32
import Derived.Test.YtcjbepaclbhjaaaGreatCj30
import Derived.Test.YtcjbepaclbhjaaaGreatCj23
import Derived.Test.YtcjbepaclbhjaaaGreatCj28
open List renaming set_cons_zero → zSet, set_cons_succ → sSet
/- Rows that rise by a key, and what is put among them: the plain law of ChangeOrder. No program in sight. -/
set_option linter.unusedSimpArgs false
set_option linter.unusedVariables false
namespace Go.Proofs.YtcjbepaclbhjaaaGreat
open Go.RowKit
section
variable {α : Type} (k : α → Int)
def addP (l : List α) (v : α) : List α :=
  (l.filter fun x => decide (k x ≠ k v)).takeWhile (fun x => decide (k x ≤ k v)) ++ v :: (l.filter fun x => decide (k x ≠ k v)).dropWhile (fun x => decide (k x ≤ k v))
def RiseP (l : List α) : Prop := l.Pairwise fun a b => k a < k b
theorem mem_add {l : List α} {v x : α} : x ∈ addP k l v ↔ (x ∈ l ∧ k x ≠ k v) ∨ x = v := by
  have h := List.takeWhile_append_dropWhile (p := fun x => decide (k x ≤ k v)) (l := l.filter fun x => decide (k x ≠ k v))
  have h2 : x ∈ l.filter (fun x => decide (k x ≠ k v)) ↔ x ∈ l ∧ k x ≠ k v := by simp
  rw [← h2]
  unfold addP
  conv => rhs; rw [← h]
  simp only [List.mem_append, List.mem_cons]
  constructor
  · rintro (h | h | h)
    · exact .inl (.inl h)
    · exact .inr h
    · exact .inl (.inr h)
  · rintro ((h | h) | h)
    · exact .inl h
    · exact .inr (.inr h)
    · exact .inr (.inl h)
theorem drop_high {v : α} : ∀ {l : List α}, RiseP k l → ∀ x ∈ l.dropWhile (fun x => decide (k x ≤ k v)), k v < k x
  | [], _, x, hx => by simp at hx
  | a :: r, h, x, hx => by
    unfold RiseP at h
    rw [List.pairwise_cons] at h
    by_cases ha : k a ≤ k v
    · rw [List.dropWhile_cons_of_pos (by simpa using ha)] at hx
      exact drop_high h.2 x hx
    · rw [List.dropWhile_cons_of_neg (by simpa using ha)] at hx
      rcases List.mem_cons.1 hx with rfl | hx
      · omega
      · have := h.1 x hx; omega
theorem take_low {v : α} : ∀ {l : List α}, ∀ x ∈ l.takeWhile (fun x => decide (k x ≤ k v)), k x ≤ k v
  | [], x, hx => by simp at hx
  | a :: r, x, hx => by
    by_cases ha : k a ≤ k v
    · rw [List.takeWhile_cons_of_pos (by simpa using ha)] at hx
      rcases List.mem_cons.1 hx with rfl | hx
      · exact ha
      · exact take_low x hx
    · rw [List.takeWhile_cons_of_neg (by simpa using ha)] at hx
      simp at hx
theorem rise_add {l : List α} {v : α} (h : RiseP k l) : RiseP k (addP k l v) := by
  have ho : RiseP k (l.filter fun x => decide (k x ≠ k v)) := List.Pairwise.filter _ h
  have hne : ∀ x ∈ l.filter (fun x => decide (k x ≠ k v)), k x ≠ k v := fun x hx => by simpa using (List.mem_filter.1 hx).2
  unfold addP
  generalize l.filter (fun x => decide (k x ≠ k v)) = o at ho hne
  have ht : ∀ x ∈ o.takeWhile (fun x => decide (k x ≤ k v)), k x < k v := fun x hx => by
    have h1 := take_low k x hx
    have h2 := hne x ((List.takeWhile_sublist _).mem hx)
    omega
  have hd := drop_high k (v := v) ho
  unfold RiseP at ho ⊢
  refine List.pairwise_append.2 ⟨List.Pairwise.sublist (List.takeWhile_sublist _) ho, List.pairwise_cons.2 ⟨hd, List.Pairwise.sublist (List.dropWhile_sublist _) ho⟩, fun a ha b hb => ?_⟩
  have h1 := ht a ha
  rcases List.mem_cons.1 hb with rfl | hb
  · exact h1
  · have := hd b hb; omega
theorem rise_ext : ∀ {l m : List α}, RiseP k l → RiseP k m → (∀ x, x ∈ l ↔ x ∈ m) → l = m
  | [], [], _, _, _ => rfl
  | [], b :: s, _, _, h => by have := (h b).2 (by simp); simp at this
  | a :: r, [], _, _, h => by have := (h a).1 (by simp); simp at this
  | a :: r, b :: s, h1, h2, h => by
    unfold RiseP at h1 h2
    rw [List.pairwise_cons] at h1 h2
    have hab : a = b := by
      rcases List.mem_cons.1 ((h a).1 (by simp)) with e | e
      · exact e
      · rcases List.mem_cons.1 ((h b).2 (by simp)) with e2 | e2
        · exact e2.symm
        · have := h1.1 b e2; have := h2.1 a e; omega
    subst hab
    rw [rise_ext h1.2 h2.2 fun x => ?_]
    constructor
    · intro hx
      rcases List.mem_cons.1 ((h x).1 (by simp [hx])) with e | e
      · have := h1.1 x hx; rw [e] at this; omega
      · exact e
    · intro hx
      rcases List.mem_cons.1 ((h x).2 (by simp [hx])) with e | e
      · have := h2.1 x hx; rw [e] at this; omega
      · exact e
theorem add_swap {l : List α} {v w : α} (h : RiseP k l) (hvw : k v ≠ k w) : addP k (addP k l v) w = addP k (addP k l w) v := by
  refine rise_ext k (rise_add k (rise_add k h)) (rise_add k (rise_add k h)) fun x => ?_
  rw [mem_add, mem_add, mem_add, mem_add]
  constructor
  · rintro (⟨⟨h1, h2⟩ | rfl, h3⟩ | rfl)
    · exact .inl ⟨.inl ⟨h1, h3⟩, h2⟩
    · exact .inr rfl
    · exact .inl ⟨.inr rfl, fun e => hvw e.symm⟩
  · rintro (⟨⟨h1, h2⟩ | rfl, h3⟩ | rfl)
    · exact .inl ⟨.inl ⟨h1, h3⟩, h2⟩
    · exact .inr rfl
    · exact .inl ⟨.inr rfl, hvw⟩
theorem add_again {l : List α} {v : α} (h : RiseP k l) (hv : v ∈ l) : addP k l v = l := by
  refine rise_ext k (rise_add k h) h fun x => ?_
  rw [mem_add]
  constructor
  · rintro (⟨h1, _⟩ | rfl)
    · exact h1
    · exact hv
  · intro hx
    by_cases e : k x = k v
    · right
      obtain ⟨i, hi, rfl⟩ := List.getElem_of_mem hx
      obtain ⟨j, hj, rfl⟩ := List.getElem_of_mem hv
      unfold RiseP at h
      rw [List.pairwise_iff_getElem] at h
      rcases Nat.lt_trichotomy i j with g | g | g
      · have := h i j hi hj g; omega
      · subst g; rfl
      · have := h j i hj hi g; omega
    · exact .inl ⟨hx, e⟩
theorem add_third {l : List α} {v w : α} (h : RiseP k l) (hvw : k v ≠ k w) : addP k (addP k (addP k l v) w) v = addP k (addP k l v) w := by
  refine add_again k (rise_add k (rise_add k h)) ?_
  rw [mem_add, mem_add]
  exact .inl ⟨.inr rfl, hvw⟩
end
end Go.Proofs.YtcjbepaclbhjaaaGreat
/- Add of votes, by the law of rows that rise. No program in sight. -/
namespace Go.Proofs.YtcjbepaclbhjaaaGreat
open Go.RowKit
theorem addV_is (l : List Vt) (v : Vt) : addV l v = addP Vt.nd l v := by
  have h : (fun x : Vt => !eqN v.nd x) = fun x => decide (Vt.nd x ≠ Vt.nd v) := by
    funext x
    unfold eqN
    by_cases h : x.nd = v.nd <;> simp [h]
  unfold addV addP keepV
  rw [h]
  rfl
theorem addV_swap {l : List Vt} {v w : Vt} (h : RiseP Vt.nd l) (hvw : v.nd ≠ w.nd) : addV (addV l v) w = addV (addV l w) v := by
  simp only [addV_is]; exact add_swap Vt.nd h hvw
theorem addV_third {l : List Vt} {v w : Vt} (h : RiseP Vt.nd l) (hvw : v.nd ≠ w.nd) : addV (addV (addV l v) w) v = addV (addV l v) w := by
  simp only [addV_is]; exact add_third Vt.nd h hvw
theorem addV_rise {l : List Vt} {v : Vt} (h : RiseP Vt.nd l) : RiseP Vt.nd (addV l v) := by
  rw [addV_is]; exact rise_add Vt.nd h
theorem addV_len (l : List Vt) (v : Vt) : (addV l v).length ≤ l.length + 1 := by
  have h1 : (keepV v.nd l).length ≤ l.length := List.length_filter_le _ _
  have h2 := congrArg List.length (List.takeWhile_append_dropWhile (p := leV v.nd) (l := keepV v.nd l))
  unfold addV
  rw [List.length_append] at h2
  rw [List.length_append, List.length_cons]
  omega
theorem mem_addV {l : List Vt} {v x : Vt} (h : x ∈ addV l v) : x ∈ l ∨ x = v := by
  rw [addV_is, mem_add] at h
  rcases h with ⟨h, _⟩ | h
  · exact .inl h
  · exact .inr h
theorem rise_of {l : List Vt} (h : ∀ (i : Nat) x y, l[i]? = some x → l[i + 1]? = some y → x.nd < y.nd) : RiseP Vt.nd l := by
  induction l with
  | nil => exact List.Pairwise.nil
  | cons a r ih =>
    have hr := ih (fun i x y hx hy => h (i + 1) x y (by simpa using hx) (by simpa using hy))
    refine List.pairwise_cons.2 ⟨fun b hb => ?_, hr⟩
    cases r with
    | nil => simp at hb
    | cons c s =>
      have hac := h 0 a c rfl rfl
      rcases List.mem_cons.1 hb with rfl | hb
      · exact hac
      · have := (List.pairwise_cons.1 hr).1 b hb; omega
theorem rise_at {l : List Vt} (h : RiseP Vt.nd l) {i : Nat} {x y : Vt} (hx : l[i]? = some x) (hy : l[i + 1]? = some y) : x.nd < y.nd := by
  obtain ⟨hi, rfl⟩ := List.getElem?_eq_some_iff.1 hx
  obtain ⟨hj, rfl⟩ := List.getElem?_eq_some_iff.1 hy
  exact List.pairwise_iff_getElem.1 h i (i + 1) hi hj (by omega)
end Go.Proofs.YtcjbepaclbhjaaaGreat
/- The walk of the document's Big of votes. -/
namespace Go.Proofs.YtcjbepaclbhjaaaGreat
open Go.RowKit
theorem ceCVl0 {ty : TypeId} (h : cellB Tryz.prog ty = true := by with_reducible first | exact cell3 | exact cell4 | exact cell22) : cellB Tryz.prog ty = true := h
theorem big_z (vw nm bs : Int) (im : ByteArray) (ea : Option Addr) (es : List Env) (ec : Nat) (w : World) :
    Calls Tryz.prog 26 #[.agg #[.int .i64 vw, .int .i64 nm, .int .i64 bs, .string im, .slice ea es.length ec], .agg #[.int .i64 0, .int .i64 0, .int .i64 0, .int .i64 0, .string ⟨#[]⟩, .int .i64 0, .int .i64 0, .int .i64 0, .int .i64 0, .int .i64 0, .int .i64 0, .int .i64 0, .int .i64 0, .int .i64 0, .int .i64 0, .int .i64 0, .slice none 0 0]] w (BigP w es.length 0 im.size 0) :=
  big26 vw nm bs im ea es ec 0 0 0 0 ⟨#[]⟩ 0 0 0 0 0 0 0 0 0 0 0 none [] 0 w
def BigVP (w : World) (l : List Vt) (n p : Nat) (e : Ending) (w' : World) : Prop := ∃ bb, e = .returned (.bool bb) ∧ (bb = false → l.length ≤ 50 ∧ n ≤ 300 ∧ p ≤ 100000 ∧ ∀ v ∈ l, v.es.length ≤ 200) ∧ Below w.heap.size w w'
set_option maxRecDepth 100000 in
set_option maxHeartbeats 4000000 in
theorem big7 (l : List Vt) (a : Option Addr) (k : Nat) (vw nm bs : Int) (im : ByteArray) (ea : Option Addr) (es : List Env) (ec : Nat) (w : World) (ha : RowIs w a (l.flatMap vtV)) :
    Calls Tryz.prog 7 #[.slice a l.length k, .agg #[.int .i64 vw, .int .i64 nm, .int .i64 bs, .string im, .slice ea es.length ec]] w (BigVP w l es.length im.size) := by
  have hp := Hp.start w
  have HA := Lib.hid ha
  clear ha
  by_cases hl : l.length ≤ 50
  · have e0 : decide ((50 : Int) < (l.length : Int)) = false := by simp; omega
    go_enter Tryz.func7, Tryz.ntmps7
    go_wp2_with (first | (go_at_call 26; (with_reducible refine (big_z vw nm bs im ea es ec _).mono ?_); rintro e w1 ⟨bb, rfl, hbb, hb⟩; replace hp := hp.call hb; clear hb; cases bb) | go_skip | ((first | ((with_reducible refine pre_box _ _ rfl ?_); refine lB hp rfl (sTm rfl) rfl ?_; clear hp; intro b w1 hp) | ((with_reducible refine pre_load _ _ rfl ?_); first | refine lO hp rfl (sTm rfl) ceCVl0 aa5 ?_ | refine lA hp rfl (sTm rfl) agg24 aa5 ?_) | ((with_reducible refine pre_store _ _ _ rfl ?_); (first | refine sO hp rfl (sTm rfl) ceCVl0 aa5 ?_ | refine sA hp rfl (sTm rfl) (sTm rfl) agg24 aa5 ?_ | refine sG hp rfl (sTm rfl) (sTm rfl) agg24 aa5 ?_); clear hp; intro w1 hp; simp only [spl, zSet, sSet] at hp)); simp only [put_some, put_none, sSet, zSet]))
    · have HBB := Lib.hid (hbb (by first | rfl | trivial))
      clear hbb e0
      go_loopg [5] l.length (fun k i wr => ∃ j : Nat, k + j = l.length ∧ i = .int .i64 j ∧ RowKit.Hid (∀ (i : Nat) y, i < j → l[i]? = some y → y.es.length ≤ 200) ∧ Hp w.heap.size w wr [⟨b, [.int .i64 vw, .int .i64 nm, .int .i64 bs, .string im, .slice ea es.length ec], 24, 5⟩])
      case atStart => exact ⟨0, by omega, rfl, Lib.hid (fun i y h => by omega), hp⟩
      case round =>
        clear hp
        obtain ⟨j, hkj, rfl, HNO, hp⟩ := hrel
        by_cases hlt : j < l.length
        · obtain ⟨bq, off, rfl, hx⟩ := HA.out.elems 6 vtV_len (by omega) (by omega)
          have hj := List.getElem?_eq_getElem hlt
          replace hx := hx j _ hj
          have HJ := Lib.hid hj
          clear hj
          generalize l[j] = y at hx HJ
          obtain ⟨nd, nm2, bs2, nu, cm, va, xs, vc⟩ := y
          simp only [vtV] at hx
          have HX := Lib.hid hx
          clear hx
          have f1 : (0 : Int) ≤ (j : Int) := by omega
          have f2 : (j : Int) < (l.length : Int) := by omega
          by_cases hxs : xs.length ≤ 200
          · have e1 : decide ((200 : Int) < (xs.length : Int)) = false := by simp; omega
            go_wp2_with (first | go_skip | ((first | ((with_reducible refine pre_box _ _ rfl ?_); refine lB hp rfl (sTm rfl) rfl ?_; clear hp; intro b w1 hp) | ((with_reducible refine pre_load _ _ rfl ?_); first | refine lO hp rfl (sTm rfl) ceCVl0 aa5 ?_ | refine lRO hp rfl (sTm rfl) ceCVl0 (by first | exact HX.out 0 _ rfl | exact HX.out 1 _ rfl | exact HX.out 2 _ rfl | exact HX.out 3 _ rfl | exact HX.out 4 _ rfl | exact HX.out 5 _ rfl) ?_ | refine lA hp rfl (sTm rfl) agg24 aa5 ?_ | refine lR hp rfl (sTm rfl) agg24 HX.out ?_) | ((with_reducible refine pre_store _ _ _ rfl ?_); (first | refine sO hp rfl (sTm rfl) ceCVl0 aa5 ?_ | refine sA hp rfl (sTm rfl) (sTm rfl) agg24 aa5 ?_ | refine sG hp rfl (sTm rfl) (sTm rfl) agg24 aa5 ?_); clear hp; intro w1 hp; simp only [spl, zSet, sSet] at hp)); simp only [put_some, put_none, sSet, zSet]))
            go_roundg (gk - 1)
            case measure => omega
            case rel => exact ⟨j + 1, by omega, by go_num, Lib.hid (fun i y hi hy => by
              rcases Nat.lt_or_ge i j with h | h
              · exact HNO.out i y h hy
              · obtain rfl : i = j := by omega
                rw [HJ.out] at hy; injection hy with hy; rw [← hy]; exact hxs), hp⟩
          · have e1 : decide ((200 : Int) < (xs.length : Int)) = true := by simp; omega
            go_wp2_with (first | go_skip | ((first | ((with_reducible refine pre_box _ _ rfl ?_); refine lB hp rfl (sTm rfl) rfl ?_; clear hp; intro b w1 hp) | ((with_reducible refine pre_load _ _ rfl ?_); first | refine lO hp rfl (sTm rfl) ceCVl0 aa5 ?_ | refine lRO hp rfl (sTm rfl) ceCVl0 (by first | exact HX.out 0 _ rfl | exact HX.out 1 _ rfl | exact HX.out 2 _ rfl | exact HX.out 3 _ rfl | exact HX.out 4 _ rfl | exact HX.out 5 _ rfl) ?_ | refine lA hp rfl (sTm rfl) agg24 aa5 ?_ | refine lR hp rfl (sTm rfl) agg24 HX.out ?_) | ((with_reducible refine pre_store _ _ _ rfl ?_); (first | refine sO hp rfl (sTm rfl) ceCVl0 aa5 ?_ | refine sA hp rfl (sTm rfl) (sTm rfl) agg24 aa5 ?_ | refine sG hp rfl (sTm rfl) (sTm rfl) agg24 aa5 ?_); clear hp; intro w1 hp; simp only [spl, zSet, sSet] at hp)); simp only [put_some, put_none, sSet, zSet]))
            go_ret
            exact ⟨true, rfl, fun h => (by cases h), hp.below⟩
        · have f2 : decide ((j : Int) < (l.length : Int)) = false := by simp; omega
          go_wp2_with (first | go_skip | ((first | ((with_reducible refine pre_box _ _ rfl ?_); refine lB hp rfl (sTm rfl) rfl ?_; clear hp; intro b w1 hp) | ((with_reducible refine pre_load _ _ rfl ?_); first | refine lO hp rfl (sTm rfl) ceCVl0 aa5 ?_ | refine lA hp rfl (sTm rfl) agg24 aa5 ?_) | ((with_reducible refine pre_store _ _ _ rfl ?_); (first | refine sO hp rfl (sTm rfl) ceCVl0 aa5 ?_ | refine sA hp rfl (sTm rfl) (sTm rfl) agg24 aa5 ?_ | refine sG hp rfl (sTm rfl) (sTm rfl) agg24 aa5 ?_); clear hp; intro w1 hp; simp only [spl, zSet, sSet] at hp)); simp only [put_some, put_none, sSet, zSet]))
          go_ret
          exact ⟨false, rfl, fun _ => ⟨hl, HBB.out.1, HBB.out.2.2.1, fun v hv => by
            obtain ⟨i, hi, rfl⟩ := List.getElem_of_mem hv
            exact HNO.out i _ (by omega) (List.getElem?_eq_getElem hi)⟩, hp.below⟩
    · go_wp2_with (first | go_skip | ((first | ((with_reducible refine pre_box _ _ rfl ?_); refine lB hp rfl (sTm rfl) rfl ?_; clear hp; intro b w1 hp) | ((with_reducible refine pre_load _ _ rfl ?_); first | refine lO hp rfl (sTm rfl) ceCVl0 aa5 ?_ | refine lA hp rfl (sTm rfl) agg24 aa5 ?_) | ((with_reducible refine pre_store _ _ _ rfl ?_); (first | refine sO hp rfl (sTm rfl) ceCVl0 aa5 ?_ | refine sA hp rfl (sTm rfl) (sTm rfl) agg24 aa5 ?_ | refine sG hp rfl (sTm rfl) (sTm rfl) agg24 aa5 ?_); clear hp; intro w1 hp; simp only [spl, zSet, sSet] at hp)); simp only [put_some, put_none, sSet, zSet]))
      go_ret
      exact ⟨true, rfl, fun h => (by cases h), hp.below⟩
  · have e0 : decide ((50 : Int) < (l.length : Int)) = true := by simp; omega
    go_enter Tryz.func7, Tryz.ntmps7
    go_wp2_with (first | (go_at_call 26; (with_reducible refine (big_z vw nm bs im ea es ec _).mono ?_); rintro e w1 ⟨bb, rfl, hbb, hb⟩; replace hp := hp.call hb; clear hb; cases bb) | go_skip | ((first | ((with_reducible refine pre_box _ _ rfl ?_); refine lB hp rfl (sTm rfl) rfl ?_; clear hp; intro b w1 hp) | ((with_reducible refine pre_load _ _ rfl ?_); first | refine lO hp rfl (sTm rfl) ceCVl0 aa5 ?_ | refine lA hp rfl (sTm rfl) agg24 aa5 ?_) | ((with_reducible refine pre_store _ _ _ rfl ?_); (first | refine sO hp rfl (sTm rfl) ceCVl0 aa5 ?_ | refine sA hp rfl (sTm rfl) (sTm rfl) agg24 aa5 ?_ | refine sG hp rfl (sTm rfl) (sTm rfl) agg24 aa5 ?_); clear hp; intro w1 hp; simp only [spl, zSet, sSet] at hp)); simp only [put_some, put_none, sSet, zSet]))
    go_ret
    exact ⟨true, rfl, fun h => (by cases h), hp.below⟩
end Go.Proofs.YtcjbepaclbhjaaaGreat
/- The walks of Known, of the examples' kept, and of the examples of Execute. -/
namespace Go.Proofs.YtcjbepaclbhjaaaGreat
open Go.RowKit
def kE (n : Nat) : List Env := (List.range n).map fun (j : Nat) => En ((j : Int) + 1)
theorem kE_len (n : Nat) : (kE n).length = n := by simp [kE]
def KeptP (w : World) (n : Nat) (e : Ending) (w' : World) : Prop := ∃ a c R, e = .returned (.agg #[.int .i64 0, .int .i64 0, .int .i64 0, .string im3, .slice a n c]) ∧ n ≤ c ∧ Kept R (fun w => RowIs w a ((kE n).flatMap envL)) ∧ Hp w.heap.size w w' R
theorem kE_ok (n : Nat) (h : n ≤ 3) (a : Option Addr) (c : Nat) : okC ⟨0, 0, 0, im3, a, kE n, c⟩ = true := by
  match n, h with
  | 0, _ => exact okC_im3 (by kernel_rfl) rfl
  | 1, _ => exact okC_im3 (by kernel_rfl) rfl
  | 2, _ => exact okC_im3 (by kernel_rfl) rfl
  | 3, _ => exact okC_im3 (by kernel_rfl) rfl
theorem kE_small (n : Nat) (h : n ≤ 3) (a : Option Addr) (c : Nat) : Kv.Small ⟨0, 0, 0, im3, a, kE n, c⟩ := ⟨by simp only [kE_len]; omega, im3_small⟩
end Go.Proofs.YtcjbepaclbhjaaaGreat
/- The walks of change's within, row and Adopt. -/
namespace Go.Proofs.YtcjbepaclbhjaaaGreat
open Go.RowKit
theorem ceWAa0 {ty : TypeId} (h : cellB Tryz.prog ty = true := by with_reducible first | exact cell3 | exact cell4 | exact cell22) : cellB Tryz.prog ty = true := h
theorem within33 (n lo hi : Int) (b : Bool) (hb : inM n lo hi = b) (w : World) : Calls Tryz.prog 33 #[.int .i64 n, .int .i64 lo, .int .i64 hi] w fun e w' => e = .returned (.bool b) ∧ w = w' := by
  subst hb
  go_enter Tryz.func33, Tryz.ntmps33
  go_wp2
  all_goals go_ret
  all_goals refine ⟨ret_bool ?_, rfl⟩
  all_goals (simp [inM, *]; try omega)
theorem row34 (l : List Env) (fr : Int) (a : Option Addr) (c : Nat) (b : Bool) (hb : folB fr 0 l = b) (hl : l.length ≤ 100000) (w : World) (ha : RowIs w a (l.flatMap envL)) :
    Calls Tryz.prog 34 #[.slice a l.length c, .int .i64 fr] w fun e w' => e = .returned (.bool b) ∧ Below w.heap.size w w' := by
  subst hb
  have hp := Hp.start w
  have HA := Lib.hid ha
  clear ha
  go_enter Tryz.func34, Tryz.ntmps34
  go_wp2_with (first | go_skip | ((first | ((with_reducible refine pre_alloc _ rfl ?_); refine lZ hp rfl zero47 ?_; clear hp; intro b w1 hp) | ((with_reducible refine pre_box _ _ rfl ?_); refine lB hp rfl (sTm rfl) rfl ?_; clear hp; intro b w1 hp) | ((with_reducible refine pre_load _ _ rfl ?_); first | refine lO hp rfl (sTm rfl) ceWAa0 aa5 ?_ | refine lA hp rfl (sTm rfl) (by with_reducible first | exact agg47 | exact agg24) aa5 ?_ | refine lR hp rfl (sTm rfl) (by with_reducible first | exact agg47 | exact agg24) HX.out ?_) | ((with_reducible refine pre_store _ _ _ rfl ?_); (first | refine sO hp rfl (sTm rfl) ceWAa0 aa5 ?_ | refine sA hp rfl (sTm rfl) (sTm rfl) (by with_reducible first | exact agg47 | exact agg24) aa5 ?_ | refine sG hp rfl (sTm rfl) (sTm rfl) (by with_reducible first | exact agg47 | exact agg24) aa5 ?_); clear hp; intro w1 hp; simp only [spl, zSet, sSet] at hp)); simp only [put_some, put_none, sSet, zSet]))
  go_loopg [9] l.length (fun k i wr => ∃ q : Nat, k + q = l.length ∧ i = .int .i64 q ∧ RowKit.Hid (folB fr 0 l = folB fr q (l.drop q)) ∧ Hp w.heap.size w wr [])
  case atStart => exact ⟨0, by omega, rfl, Lib.hid rfl, hp⟩
  case round =>
    clear hp
    obtain ⟨q, hkq, rfl, HF, hp⟩ := hrel
    by_cases hlt : q < l.length
    · obtain ⟨bq, off, rfl, hx⟩ := HA.out.elems 11 envL_len11 (by omega) (by omega)
      have hj := List.getElem?_eq_getElem hlt
      replace hx := hx q _ hj
      have hd := List.drop_eq_getElem_cons hlt
      clear hj
      generalize l[q] = en at hx hd
      obtain ⟨nu, vi, cl, sq, ⟨kk, hh, ii, nn, cc, vv, tt⟩⟩ := en
      simp only [envL, opL, List.cons_append, List.nil_append] at hx
      have HX := Lib.hid hx
      have HF2 : RowKit.Hid (folB fr 0 l = (decide (wrap64 (wrap64 (nu - 1) - (q : Int)) = fr) && folB fr (q + 1) (l.drop (q + 1)))) := Lib.hid (by rw [HF.out, hd]; rfl)
      have f1 : (0 : Int) ≤ (q : Int) := by omega
      have f2 : (q : Int) < (l.length : Int) := by omega
      clear hx hd HF
      by_cases heq : wrap64 (wrap64 (nu - 1) - (q : Int)) = fr
      · have e3 : (wrap64 (wrap64 (nu - 1) - (q : Int)) == fr) = true := by simpa using heq
        have HE := Lib.hid heq
        clear heq
        go_wp2_with (first | go_skip | ((first | ((with_reducible refine pre_alloc _ rfl ?_); refine lZ hp rfl zero47 ?_; clear hp; intro b w1 hp) | ((with_reducible refine pre_box _ _ rfl ?_); refine lB hp rfl (sTm rfl) rfl ?_; clear hp; intro b w1 hp) | ((with_reducible refine pre_load _ _ rfl ?_); first | refine lO hp rfl (sTm rfl) ceWAa0 aa5 ?_ | refine lA hp rfl (sTm rfl) (by with_reducible first | exact agg47 | exact agg24) aa5 ?_ | refine lR hp rfl (sTm rfl) (by with_reducible first | exact agg47 | exact agg24) HX.out ?_) | ((with_reducible refine pre_store _ _ _ rfl ?_); (first | refine sO hp rfl (sTm rfl) ceWAa0 aa5 ?_ | refine sA hp rfl (sTm rfl) (sTm rfl) (by with_reducible first | exact agg47 | exact agg24) aa5 ?_ | refine sG hp rfl (sTm rfl) (sTm rfl) (by with_reducible first | exact agg47 | exact agg24) aa5 ?_); clear hp; intro w1 hp; simp only [spl, zSet, sSet] at hp)); simp only [put_some, put_none, sSet, zSet]))
        go_roundg (gk - 1)
        case measure => omega
        case rel => exact ⟨q + 1, by omega, by go_num, Lib.hid (by rw [HF2.out, HE.out]; simp), hp.tail⟩
      · have e3 : (wrap64 (wrap64 (nu - 1) - (q : Int)) == fr) = false := by simpa using heq
        have HE := Lib.hid heq
        clear heq
        go_wp2_with (first | go_skip | ((first | ((with_reducible refine pre_alloc _ rfl ?_); refine lZ hp rfl zero47 ?_; clear hp; intro b w1 hp) | ((with_reducible refine pre_box _ _ rfl ?_); refine lB hp rfl (sTm rfl) rfl ?_; clear hp; intro b w1 hp) | ((with_reducible refine pre_load _ _ rfl ?_); first | refine lO hp rfl (sTm rfl) ceWAa0 aa5 ?_ | refine lA hp rfl (sTm rfl) (by with_reducible first | exact agg47 | exact agg24) aa5 ?_ | refine lR hp rfl (sTm rfl) (by with_reducible first | exact agg47 | exact agg24) HX.out ?_) | ((with_reducible refine pre_store _ _ _ rfl ?_); (first | refine sO hp rfl (sTm rfl) ceWAa0 aa5 ?_ | refine sA hp rfl (sTm rfl) (sTm rfl) (by with_reducible first | exact agg47 | exact agg24) aa5 ?_ | refine sG hp rfl (sTm rfl) (sTm rfl) (by with_reducible first | exact agg47 | exact agg24) aa5 ?_); clear hp; intro w1 hp; simp only [spl, zSet, sSet] at hp)); simp only [put_some, put_none, sSet, zSet]))
        go_ret
        refine ⟨?_, hp.below⟩
        rw [HF2.out, decide_eq_false HE.out]; rfl
    · obtain rfl : q = l.length := by omega
      have e2 : decide ((l.length : Int) < (l.length : Int)) = false := by simp
      clear hkq hlt
      go_wp2_with (first | go_skip | ((first | ((with_reducible refine pre_alloc _ rfl ?_); refine lZ hp rfl zero47 ?_; clear hp; intro b w1 hp) | ((with_reducible refine pre_box _ _ rfl ?_); refine lB hp rfl (sTm rfl) rfl ?_; clear hp; intro b w1 hp) | ((with_reducible refine pre_load _ _ rfl ?_); first | refine lO hp rfl (sTm rfl) ceWAa0 aa5 ?_ | refine lA hp rfl (sTm rfl) (by with_reducible first | exact agg47 | exact agg24) aa5 ?_ | refine lR hp rfl (sTm rfl) (by with_reducible first | exact agg47 | exact agg24) HX.out ?_) | ((with_reducible refine pre_store _ _ _ rfl ?_); (first | refine sO hp rfl (sTm rfl) ceWAa0 aa5 ?_ | refine sA hp rfl (sTm rfl) (sTm rfl) (by with_reducible first | exact agg47 | exact agg24) aa5 ?_ | refine sG hp rfl (sTm rfl) (sTm rfl) (by with_reducible first | exact agg47 | exact agg24) aa5 ?_); clear hp; intro w1 hp; simp only [spl, zSet, sSet] at hp)); simp only [put_some, put_none, sSet, zSet]))
      go_ret
      refine ⟨?_, hp.below⟩
      rw [HF.out, List.drop_length]; rfl
end Go.Proofs.YtcjbepaclbhjaaaGreat

import Derived.Shelf.SlSortCmp.WholeK
import Derived.Test.YtcjbepaclbhjaaaTjQA
import Derived.Shelf.SlLaysF0
import Derived.Test.YtcjbepaclbhjaaaRows
import Derived.Test.YtcjbepaclbhjaaaTjQB
import Derived.Shelf.SlSortCmp.NoneTotal
import Derived.Shelf.Abstract
/- Texts merged: base:Srt lay_Ytcjbepaclbhjaaa:KLay buddy:BSort buddy:TS buddy:TQ buddy:THS buddy:TH buddy:TI buddy:TKS buddy:TJ buddy:TK. -/
set_option linter.unusedSimpArgs false
set_option linter.unusedVariables false
namespace Go.Proofs.Ytcjbepaclbhjaaa
open Go.RowKit Go.Lib Go.Shelf Go.Sort
theorem Hp.setCells {B : Nat} {w0 : World} {b : Nat} {t : TypeId} {n : Nat} {L : List Blk} (vs : List Value) : ∀ (w : World) (off : Nat) (l : List Value), Hp B w0 w (⟨b, l, t, n⟩ :: L) →
    Hp B w0 (w.setCells b off vs) (⟨b, spl l off vs, t, n⟩ :: L) := by
  induction vs with
  | nil => intro w off l h; exact h
  | cons v vs ih =>
    intro w off l h
    rw [World.setCells]
    have h1 := h.setCell (i := 0) rfl off v
    exact ih _ _ _ h1
theorem setMany_all (F G : Array Value) (h : F.size = G.size) : setMany F 0 G.toList = G := by
  refine ext_get! (by simp [h]) fun t ht => ?_
  have ht' : t < G.size := by simpa [h] using ht
  rw [get_setMany _ _ _ t (by omega), if_pos (by simp [ht'])]
  simp [ht']
theorem flat_list {α : Type} [Inhabited α] (enc : α → List Value) (k : Nat) (hk : ∀ x, (enc x).length = k) (d : Array α) : (flatK enc k d).toList = d.toList.flatMap enc := by
  have hlen : (d.toList.flatMap enc).length = d.size * k := by rw [flat_len enc k hk]; simp
  apply List.ext_getElem?
  intro j
  rcases Nat.lt_or_ge j (d.size * k) with hj | hj
  · have k0 : 0 < k := by rcases Nat.eq_zero_or_pos k with h | h; · subst h; simp at hj
                          · exact h
    have h1 : j / k < d.size := by rw [Nat.div_lt_iff_lt_mul k0]; exact hj
    have h2 : j % k < k := Nat.mod_lt _ k0
    have e1 : d.toList[j / k]? = some d[j / k]! := by rw [getElem!_pos d _ h1]; simp [h1]
    have e2 : (enc d[j / k]!)[j % k]? = some (enc d[j / k]!)[j % k]! := by
      have h3 : j % k < (enc d[j / k]!).length := by rw [hk]; exact h2
      rw [getElem!_pos (enc d[j / k]!) (j % k) h3]; exact List.getElem?_eq_getElem _
    have := flat_get enc k hk d.toList (j / k) (j % k) _ _ e1 e2
    rw [Nat.mul_comm, Nat.div_add_mod] at this
    rw [this, ← get_flatK enc k d j hj, getElem!_pos _ j (by simpa using hj)]
    simp [hj]
  · rw [List.getElem?_eq_none (by simpa using hj), List.getElem?_eq_none (by omega)]
theorem Hp.holdsK {α : Type} [Inhabited α] {enc : α → List Value} {k : Nat} (hk : ∀ x, (enc x).length = k) {d : Array α} {B : Nat} {w0 w : World} {b : Nat} {t : TypeId} {n : Nat} {L : List Blk} (hp : Hp B w0 w (⟨b, d.toList.flatMap enc, t, n⟩ :: L)) :
    HoldsK enc k w b 0 d := by
  intro j hj
  have hl : (d.toList.flatMap enc)[j]? = some (id (flatK enc k d)[j]!) := by
    rw [← flat_list enc k hk d, getElem!_pos _ j hj]; simp [id]
  rw [Nat.zero_add]
  exact ⟨hp.cell (i := 0) rfl hl, hp.free (i := 0) rfl _⟩
theorem Hp.sorted {α : Type} [Inhabited α] {enc : α → List Value} {k : Nat} (hk : ∀ x, (enc x).length = k) {d d' : Array α} {B : Nat} {w0 w : World} {b : Nat} {t : TypeId} {n m : Nat} {os : Array Obj} {L : List Blk} (hp : Hp B w0 w (⟨b, d.toList.flatMap enc, t, n⟩ :: L)) (hs : d'.size = d.size) :
    Hp B w0 (sortWorldK enc k w b 0 m d' os) (⟨b, d'.toList.flatMap enc, t, n⟩ :: L) := by
  have h1 : Hp B w0 (Sort.ahead w m) (⟨b, d.toList.flatMap enc, t, n⟩ :: L) := hp.drewN m
  have h2 := Hp.holdsK hk h1
  have e : putRowK enc k (Sort.ahead w m) b 0 d' = (Sort.ahead w m).setCells b 0 (d'.toList.flatMap enc) := by
    have h3 := setCells_putRow (Sort.ahead w m) b 0 (flatK enc k d').toList 0 (flatK enc k d) (by simp [hs])
    rw [putRow_self id _ b 0 _ h2, setMany_all _ _ (by simp [hs]), flat_list enc k hk d'] at h3
    exact h3.symm
  have h4 := Hp.setCells (d'.toList.flatMap enc) _ 0 _ h1
  rw [spl_all _ _ (by rw [flat_len enc k hk, flat_len enc k hk]; simp [hs]), ← e] at h4
  unfold sortWorldK
  refine h4.call ⟨rfl, rfl, rfl, by simp, fun k hk => ?_⟩
  show (_ ++ os)[k]? = _
  rw [Array.getElem?_append_left hk]
theorem perm_whole {α : Type} [Inhabited α] {d d' : Array α} (h : PermIn 0 d.size d d') : d'.size = d.size ∧ d'.toList.Perm d.toList := by
  obtain ⟨h1, _, h2⟩ := h
  refine ⟨h1, ?_⟩
  have e1 : d'.extract 0 d.size = d' := by rw [← h1]; simp
  rw [e1] at h2
  simpa using h2
theorem sorted_whole {α : Type} [Inhabited α] {lt : α → α → Bool} {d : Array α} {n : Nat} (hn : d.size = n) (h : SortedIn lt 0 n d) : d.toList.Pairwise fun x y => lt y x = false := by
  rw [List.pairwise_iff_getElem]
  intro i j hi hj hij
  have := h i j (Nat.zero_le _) hij (by simpa [hn] using hj)
  have hi' : i < d.size := by simpa using hi
  have hj' : j < d.size := by simpa using hj
  rw [getElem!_pos d i hi', getElem!_pos d j hj'] at this
  simpa using this
end Go.Proofs.Ytcjbepaclbhjaaa
namespace Go.Proofs.Ytcjbepaclbhjaaa
open Go.Shelf Go.Proofs
def sortBlLays_ren : Go.Shelf.Ren := ⟨fun | 6 => 27 | 15 => 41 | 14 => 40 | 28 => 55 | 29 => 56 | 20 => 47 | 21 => 48 | 22 => 49 | 23 => 50 | 24 => 51 | 25 => 52 | 26 => 53 | 27 => 54 | 46 => 67 | 47 => 68 | 48 => 69 | 49 => 70 | 50 => 71 | 57 => 85 | n => n, fun | 22 => 25 | 24 => 45 | 25 => 74 | 3 => 3 | 39 => 81 | 0 => 0 | 53 => 100 | 55 => 66 | 4 => 4 | 46 => 94 | 45 => 93 | 50 => 86 | 5 => 5 | 9 => 9 | 66 => 118 | 70 => 80 | 76 => 139 | 77 => 140 | n => n, fun | n => n⟩
theorem sortBlLays : Go.Proofs.SlLaysF0.n6 Try.prog sortBlLays_ren := {
  mixed := by kernel_rfl
  f6 := ⟨Try.f27.name, by decide, Try.func27.trans (congrArg some (by kernel_rfl))⟩
  f14 := ⟨Try.f40.name, by decide, Try.func40.trans (congrArg some (by kernel_rfl))⟩
  f15 := Try.func41.trans (congrArg some (by kernel_rfl))
  f20 := ⟨Try.f47.name, by decide, Try.func47.trans (congrArg some (by kernel_rfl))⟩
  f21 := ⟨Try.f48.name, by decide, Try.func48.trans (congrArg some (by kernel_rfl))⟩
  f22 := ⟨Try.f49.name, by decide, Try.func49.trans (congrArg some (by kernel_rfl))⟩
  f23 := ⟨Try.f50.name, by decide, Try.func50.trans (congrArg some (by kernel_rfl))⟩
  f24 := ⟨Try.f51.name, by decide, Try.func51.trans (congrArg some (by kernel_rfl))⟩
  f25 := ⟨Try.f52.name, by decide, Try.func52.trans (congrArg some (by kernel_rfl))⟩
  f26 := ⟨Try.f53.name, by decide, Try.func53.trans (congrArg some (by kernel_rfl))⟩
  f27 := ⟨Try.f54.name, by decide, Try.func54.trans (congrArg some (by kernel_rfl))⟩
  f28 := Try.func55.trans (congrArg some (by kernel_rfl))
  f29 := Try.func56.trans (congrArg some (by kernel_rfl))
  f46 := ⟨Try.f67.name, by decide, Try.func67.trans (congrArg some (by kernel_rfl))⟩
  f47 := Try.func68.trans (congrArg some (by kernel_rfl))
  f48 := Try.func69.trans (congrArg some (by kernel_rfl))
  f49 := ⟨Try.f70.name, by decide, Try.func70.trans (congrArg some (by kernel_rfl))⟩
  f50 := ⟨Try.f71.name, by decide, Try.func71.trans (congrArg some (by kernel_rfl))⟩
  f57 := ⟨Try.f85.name, by decide, Try.func85.trans (congrArg some (by kernel_rfl))⟩
  t0 := Try.underlying0
  a0 := Try.isAgg0
  z0 := Try.sizeOf0
  v0 := Try.zeroValue0
  t3 := Try.underlying3
  a3 := Try.isAgg3
  z3 := Try.sizeOf3
  v3 := Try.zeroValue3
  t4 := Try.underlying4
  a4 := Try.isAgg4
  z4 := Try.sizeOf4
  v4 := Try.zeroValue4
  t5 := Try.underlying5
  a5 := Try.isAgg5
  z5 := Try.sizeOf5
  v5 := Try.zeroValue5
  t9 := Try.underlying9
  a9 := Try.isAgg9
  z9 := Try.sizeOf9
  v9 := Try.zeroValue9
  t22 := Try.underlying25
  a22 := Try.isAgg25
  z22 := Try.sizeOf25
  v22 := Try.zeroValue25
  t25 := Try.underlying74
  a25 := Try.isAgg74
  z25 := Try.sizeOf74
  v25 := Try.zeroValue74
  t39 := Try.underlying81
  a39 := Try.isAgg81
  z39 := Try.sizeOf81
  v39 := Try.zeroValue81
  t45 := Try.underlying93
  a45 := Try.isAgg93
  z45 := Try.sizeOf93
  v45 := Try.zeroValue93
  t46 := Try.underlying94
  a46 := Try.isAgg94
  z46 := Try.sizeOf94
  v46 := Try.zeroValue94
  t50 := Try.underlying86
  a50 := Try.isAgg86
  z50 := Try.sizeOf86
  v50 := Try.zeroValue86
  t53 := Try.underlying100
  a53 := Try.isAgg100
  z53 := Try.sizeOf100
  v53 := Try.zeroValue100
  t55 := Try.underlying66
  a55 := Try.isAgg66
  z55 := Try.sizeOf66
  v55 := Try.zeroValue66
  t66 := Try.underlying118
  a66 := Try.isAgg118
  z66 := Try.sizeOf118
  v66 := Try.zeroValue118
  t70 := Try.underlying80
  a70 := Try.isAgg80
  z70 := Try.sizeOf80
  v70 := Try.zeroValue80
  t76 := Try.underlying139
  a76 := Try.isAgg139
  z76 := Try.sizeOf139
  v76 := Try.zeroValue139
  t77 := Try.underlying140
  a77 := Try.isAgg140
  z77 := Try.sizeOf140
  v77 := Try.zeroValue140 }
end Go.Proofs.Ytcjbepaclbhjaaa
namespace Go.Proofs.Ytcjbepaclbhjaaa
open Go.RowKit Go.Lib Go.Shelf Go.Sort
instance : Inhabited Bl := ⟨⟨0, 0⟩⟩
def byAt (x y : Bl) : Int := cmpI x.p y.p
theorem ltAt (x y : Bl) : ltOf byAt x y = decide (x.p < y.p) := by unfold ltOf byAt; simp only [cmpI_lt]
theorem swoAt : SWO (ltOf byAt) where
  irrefl x := by rw [ltAt]; simp
  trans x y z h1 h2 := by rw [ltAt] at *; simp at *; omega
  ntrans x y z h1 h2 := by rw [ltAt] at *; simp at *; omega
theorem bl_one (x : Bl) (v : Value) (hv : v ∈ blV x) : v.oneCell' = true := by simp [blV] at hv; rcases hv with rfl | rfl <;> rfl
def Compares (g : Nat) : Prop := ∀ (x y : Bl) (W : World), Calls Try.prog g #[.agg #[.int .i64 x.p, .int .i64 x.o], .agg #[.int .i64 y.p, .int .i64 y.o]] W fun e w' => e = .returned (.int .i64 (cmpI x.p y.p)) ∧ ∃ q os', w' = Sort.grow (W.drewN q) os'
def Sorts (w : World) (B : Nat) (w0 : World) (L : List Blk) (blk t n : Nat) (d : List Bl) (e : Ending) (w' : World) : Prop :=
  e = .returned (.tuple #[]) ∧ ∃ s : List Bl, s.Perm d ∧ s.Pairwise (fun x y => x.p ≤ y.p) ∧ Hp B w0 w' (⟨blk, s.flatMap blV, t, n⟩ :: L)
theorem sort27 (g : Nat) (eg : ∀ args w, (callFunc g args).run Try.prog w = .ok (.enter g args) w) (hg : Compares g) (d : List Bl) (cap : Nat) {B : Nat} {w0 w : World} {blk t n : Nat} {L : List Blk} (hp : Hp B w0 w (⟨blk, d.flatMap blV, t, n⟩ :: L)) (hsz : d.length ≤ 5000) :
    Calls Try.prog 27 #[.slice (some ⟨blk, 0, none⟩) d.length cap, .func (.func g) #[] #[]] w (Sorts w B w0 L blk t n d) := by
  have hH : HoldsK blV 2 w blk 0 d.toArray := Hp.holdsK (enc := blV) blV_len (d := d.toArray) hp
  have hcm : CmpLays Try.prog g #[] blV 2 byAt blk 0 d.toArray.size w := fun m os dk _ x y => hg x y _
  have hcon := AnyQ.slices_SortFunc sortBlLays 2 Try.isAgg45 Try.sizeOf45 blV blV_len bl_one byAt swoAt g #[] blk 0 cap d.toArray w eg hcm hH (hp.lt (p := ⟨blk, d.flatMap blV, t, n⟩) (by simp)).2 (by simp; omega)
  change Calls Try.prog 27 _ _ _ at hcon
  rw [List.size_toArray] at hcon
  refine hcon.mono ?_
  rintro e w' ⟨rfl, d', m, os, h1, h2, rfl⟩
  have h3 := perm_whole (d := d.toArray) (d' := d') (by rw [List.size_toArray]; exact h1)
  refine ⟨rfl, d'.toList, by simpa using h3.2, ?_, Hp.sorted (enc := blV) blV_len (d := d.toArray) hp h3.1⟩
  have h4 := sorted_whole (by simpa using h3.1) h2
  refine h4.imp (fun {a b} h => ?_)
  rw [ltAt] at h
  simp at h
  exact h
theorem sort27_none (p : Option Addr) (cap : Nat) (fv : Value) (w : World) : Calls Try.prog 27 #[.slice p 0 cap, fv] w fun e w' => e = .returned (.tuple #[]) ∧ w' = w := by
  have hcon := AnyF.slices_SortFunc_none sortBlLays p cap fv w
  change Calls Try.prog 27 _ _ _ at hcon
  exact hcon
def OwnSorted (B : Nat) (w0 : World) (v : Value) (n : Nat) (d : List Bl) (M : List Blk) (e : Ending) (w' : World) : Prop :=
  e = .returned (.tuple #[]) ∧ ∃ (s : List Bl) (R : List Blk), s.Perm d ∧ s.Pairwise (fun x y => x.p ≤ y.p) ∧ OwnRow 45 2 v n (s.flatMap blV) R ∧ Hp B w0 w' (R ++ M)
theorem sorto27 (g : Nat) (eg : ∀ args w, (callFunc g args).run Try.prog w = .ok (.enter g args) w) (hg : Compares g) (d : List Bl) {v : Value} {R M : List Blk} (hr : OwnRow 45 2 v d.length (d.flatMap blV) R) {B : Nat} {w0 w : World} (hp : Hp B w0 w (R ++ M)) (hsz : d.length ≤ 5000) :
    Calls Try.prog 27 #[v, .func (.func g) #[] #[]] w (OwnSorted B w0 v d.length d M) := by
  obtain ⟨hl, ⟨h0, hv, hx, hR⟩ | ⟨b, cap, hv, h1, h2, hR⟩⟩ := hr
  · subst hv; subst hR
    have hd : d = [] := List.eq_nil_of_length_eq_zero h0
    subst hd
    refine (sort27_none none 0 _ w).mono ?_
    rintro e w' ⟨rfl, rfl⟩
    exact ⟨rfl, [], [], List.Perm.refl _, List.Pairwise.nil, OwnRow.nil _ _, hp⟩
  · subst hv; subst hR
    refine (sort27 g eg hg d cap hp hsz).mono ?_
    rintro e w' ⟨rfl, s, h3, h4, hp'⟩
    exact ⟨rfl, s, _, h3, h4, ⟨by rw [flat_len blV 2 blV_len, h3.length_eq], .inr ⟨b, cap, rfl, h1, h2, rfl⟩⟩, hp'⟩
end Go.Proofs.Ytcjbepaclbhjaaa
namespace Go.Proofs.Ytcjbepaclbhjaaa
open Go.RowKit
theorem flat_drop {α : Type} {f : α → List Value} (c : Nat) (hf : ∀ x, (f x).length = c) (l : List α) : ∀ i : Nat, (l.flatMap f).drop (i * c) = (l.drop i).flatMap f := by
  induction l with
  | nil => intro i; simp
  | cons x l ih =>
    intro i
    cases i with
    | zero => simp
    | succ i =>
      rw [List.flatMap_cons, List.drop_succ_cons, ← ih i, List.drop_append, hf, show (i + 1) * c - c = i * c by rw [Nat.add_mul]; omega,
        List.drop_eq_nil_of_le (by rw [hf, Nat.add_mul]; omega), List.nil_append]
theorem flat_at {α : Type} {f : α → List Value} (c : Nat) (hf : ∀ x, (f x).length = c) {l : List α} {i : Nat} {x : α} (h : l[i]? = some x) : ((l.flatMap f).drop (i * c)).take c = f x := by
  obtain ⟨hi, rfl⟩ := List.getElem?_eq_some_iff.1 h
  rw [flat_drop c hf, List.drop_eq_getElem_cons hi, List.flatMap_cons, List.take_append_of_le_length (by rw [hf]; omega), List.take_of_length_le (by rw [hf]; omega)]
theorem spl_midB (l1 l2 l3 vs : List Value) (h : l2.length = vs.length) : spl (l1 ++ (l2 ++ l3)) l1.length vs = l1 ++ (vs ++ l3) := by
  induction vs generalizing l1 l2 with
  | nil => have : l2 = [] := List.eq_nil_of_length_eq_zero (by simpa using h); subst this; rfl
  | cons v vs ih =>
    cases l2 with
    | nil => simp at h
    | cons y l2 =>
      have e : (l1 ++ (y :: l2 ++ l3)).set l1.length v = l1 ++ [v] ++ (l2 ++ l3) := by
        rw [List.cons_append, List.set_append_right _ _ (Nat.le_refl _), Nat.sub_self, List.set_cons_zero, List.append_assoc]; rfl
      show spl ((l1 ++ (y :: l2 ++ l3)).set l1.length v) (l1.length + 1) vs = _
      rw [e, show l1.length + 1 = (l1 ++ [v]).length by simp, ih (l1 ++ [v]) l2 (by simpa using h)]
      simp
theorem flat_spl {α : Type} {f : α → List Value} (c : Nat) (hf : ∀ x, (f x).length = c) {l : List α} {i : Nat} {y : α} (h : i < l.length) : spl (l.flatMap f) (i * c) (f y) = (l.set i y).flatMap f := by
  have e1 : l = l.take i ++ (l[i] :: l.drop (i + 1)) := by rw [← List.drop_eq_getElem_cons h, List.take_append_drop]
  have e2 : l.set i y = l.take i ++ (y :: l.drop (i + 1)) := by
    rw [List.set_eq_take_append_cons_drop, if_pos h]
  have e3 : ((l.take i).flatMap f).length = i * c := by rw [flat_len f c hf, List.length_take, Nat.min_eq_left (by omega)]
  rw [e2, List.flatMap_append, List.flatMap_cons]
  have e4 : l.flatMap f = (l.take i).flatMap f ++ (f l[i] ++ (l.drop (i + 1)).flatMap f) := by
    rw [← List.flatMap_cons, ← List.flatMap_append, ← e1]
  rw [e4, ← e3, spl_midB _ _ _ _ (by rw [hf, hf])]
def lessB (a b : Bl) : Bool := decide (a.o < b.o ∨ (a.o = b.o ∧ a.p < b.p))
def orI (a b : Int) : Int := if a = 0 then b else a
theorem less_or (a b : Bl) : decide (orI (cmpI a.o b.o) (cmpI a.p b.p) < 0) = lessB a b := by
  unfold orI lessB cmpI
  rw [decide_eq_decide]
  (repeat' split) <;> omega
def swapL (l : List Bl) (i k : Nat) (x y : Bl) : List Bl := (l.set i y).set k x
theorem swapL_perm {l : List Bl} {i k : Nat} {x y : Bl} (hx : l[i]? = some x) (hy : l[k]? = some y) : (swapL l i k x y).Perm l := by
  obtain ⟨hi, rfl⟩ := List.getElem?_eq_some_iff.1 hx
  obtain ⟨hk, rfl⟩ := List.getElem?_eq_some_iff.1 hy
  unfold swapL
  exact List.set_set_perm hi hk
theorem swapL_len (l : List Bl) (i k : Nat) (x y : Bl) : (swapL l i k x y).length = l.length := by simp [swapL]
theorem swapL_get {l : List Bl} {i k j : Nat} {x y : Bl} (hx : l[i]? = some x) (hy : l[k]? = some y) : (swapL l i k x y)[j]? = if j = k then some x else if j = i then some y else l[j]? := by
  have hi := (List.getElem?_eq_some_iff.1 hx).1
  have hk := (List.getElem?_eq_some_iff.1 hy).1
  unfold swapL
  rw [List.getElem?_set, List.getElem?_set]
  simp only [List.length_set]
  by_cases h1 : k = j
  · subst h1; simp [hk]
  · rw [if_neg h1, if_neg (Ne.symm h1)]
    by_cases h2 : i = j
    · subst h2; simp [hi]
    · rw [if_neg h2, if_neg (Ne.symm h2)]
end Go.Proofs.Ytcjbepaclbhjaaa
namespace Go.Proofs.Ytcjbepaclbhjaaa
open Go.RowKit
theorem cell25 : cellB Try.prog 25 = true := by kernel_rfl
theorem cell104 : cellB Try.prog 104 = true := by kernel_rfl
def QHp (B : Nat) (w0 w : World) (bb g cap : Nat) (l : List Bl) (M : List Blk) : Prop := Hp B w0 w (⟨bb, [.slice (some ⟨g, 0, none⟩) l.length cap], 112, 1⟩ :: ⟨g, l.flatMap blV, 45, cap * 2⟩ :: M)
set_option maxRecDepth 100000 in
set_option maxHeartbeats 4000000 in
theorem len107 {B : Nat} {w0 w : World} {bb g cap n : Nat} {L : List Blk} (hp : Hp B w0 w (⟨bb, [.slice (some ⟨g, 0, none⟩) n cap], 112, 1⟩ :: L)) :
    Calls Try.prog 107 #[.pointer (some ⟨bb, 0, none⟩)] w fun e w' => e = .returned (.int .i64 n) ∧ Hp B w0 w' (⟨bb, [.slice (some ⟨g, 0, none⟩) n cap], 112, 1⟩ :: L) := by
  go_enter Try.func107, Try.ntmps107
  go_wp2_with (first | go_skip | ((first | ((with_reducible refine pre_alloc _ rfl ?_); refine lZ hp rfl zero45 ?_; clear hp; intro b w1 hp) | ((with_reducible refine pre_box _ _ rfl ?_); refine lB hp rfl (slot_tmp rfl) rfl ?_; clear hp; intro b w1 hp) | ((with_reducible refine pre_load _ _ rfl ?_); first | refine lO hp rfl (slot_tmp rfl) (by with_reducible first | exact cell3 | exact cell4 | exact cell25 | exact cell104) aa5 ?_ | refine lA hp rfl (slot_tmp rfl) agg45 aa5 ?_) | ((with_reducible refine pre_store _ _ _ rfl ?_); (first | refine sO hp rfl (slot_tmp rfl) (by with_reducible first | exact cell3 | exact cell4 | exact cell25 | exact cell104) aa5 ?_ | refine sA hp rfl (slot_tmp rfl) (slot_tmp rfl) agg45 aa5 ?_ | refine sG hp rfl (slot_tmp rfl) (slot_tmp rfl) agg45 aa5 ?_); clear hp; intro w1 hp; simp only [spl, List.set_cons_zero, List.set_cons_succ] at hp) | ((with_reducible refine pre_build _ _ _ rfl ?_); refine lS hp rfl (by intro w; go_simp; rfl) ?_; clear hp; intro b w1 hp; simp only [List.length_cons, List.length_nil, Nat.reduceAdd] at hp)); simp only [put_some, put_none, List.set_cons_succ, List.set_cons_zero]))
  go_ret
  exact ⟨rfl, hp⟩
set_option maxRecDepth 100000 in
set_option maxHeartbeats 4000000 in
theorem or112 (a b : Int) {B : Nat} {w0 w : World} {g t n : Nat} {L : List Blk} (hp : Hp B w0 w (⟨g, [.int .i64 a, .int .i64 b], t, n⟩ :: L)) :
    Calls Try.prog 112 #[.slice (some ⟨g, 0, none⟩) 2 2] w fun e w' => e = .returned (.int .i64 (orI a b)) ∧ Hp B w0 w' (⟨g, [.int .i64 a, .int .i64 b], t, n⟩ :: L) := by
  go_enter Try.func112, Try.ntmps112
  go_wp2_with (first | go_skip | ((first | ((with_reducible refine pre_alloc _ rfl ?_); refine lZ hp rfl zero45 ?_; clear hp; intro b w1 hp) | ((with_reducible refine pre_box _ _ rfl ?_); refine lB hp rfl (slot_tmp rfl) rfl ?_; clear hp; intro b w1 hp) | ((with_reducible refine pre_load _ _ rfl ?_); first | refine lO hp rfl (slot_tmp rfl) (by with_reducible first | exact cell3 | exact cell4 | exact cell25 | exact cell104) aa5 ?_ | refine lA hp rfl (slot_tmp rfl) agg45 aa5 ?_) | ((with_reducible refine pre_store _ _ _ rfl ?_); (first | refine sO hp rfl (slot_tmp rfl) (by with_reducible first | exact cell3 | exact cell4 | exact cell25 | exact cell104) aa5 ?_ | refine sA hp rfl (slot_tmp rfl) (slot_tmp rfl) agg45 aa5 ?_ | refine sG hp rfl (slot_tmp rfl) (slot_tmp rfl) agg45 aa5 ?_); clear hp; intro w1 hp; simp only [spl, List.set_cons_zero, List.set_cons_succ] at hp) | ((with_reducible refine pre_build _ _ _ rfl ?_); refine lS hp rfl (by intro w; go_simp; rfl) ?_; clear hp; intro b w1 hp; simp only [List.length_cons, List.length_nil, Nat.reduceAdd] at hp)); simp only [put_some, put_none, List.set_cons_succ, List.set_cons_zero]))
  go_loopg [5, 8] 2 (fun k x i wr => ∃ j : Nat, k + j = 2 ∧ i = .int .i64 j ∧ (0 < j → a = 0) ∧ (1 < j → b = 0) ∧ Hp B w0 wr (⟨g, [.int .i64 a, .int .i64 b], t, n⟩ :: L))
  case atStart => exact ⟨0, by omega, rfl, by omega, by omega, hp⟩
  case round =>
    clear hp
    obtain ⟨j, hkj, rfl, h0, h1, hp⟩ := hrel
    have hj : j = 0 ∨ j = 1 ∨ j = 2 := by omega
    rcases hj with rfl | rfl | rfl
    · clear h0 h1
      by_cases ha : a = 0
      · have HA := Lib.hid ha
        have e0 : (a != 0) = false := by simp [ha]
        clear ha
        go_wp2_with (first | go_skip | ((first | ((with_reducible refine pre_alloc _ rfl ?_); refine lZ hp rfl zero45 ?_; clear hp; intro b w1 hp) | ((with_reducible refine pre_box _ _ rfl ?_); refine lB hp rfl (slot_tmp rfl) rfl ?_; clear hp; intro b w1 hp) | ((with_reducible refine pre_load _ _ rfl ?_); first | refine lO hp rfl (slot_tmp rfl) (by with_reducible first | exact cell3 | exact cell4 | exact cell25 | exact cell104) aa5 ?_ | refine lA hp rfl (slot_tmp rfl) agg45 aa5 ?_) | ((with_reducible refine pre_store _ _ _ rfl ?_); (first | refine sO hp rfl (slot_tmp rfl) (by with_reducible first | exact cell3 | exact cell4 | exact cell25 | exact cell104) aa5 ?_ | refine sA hp rfl (slot_tmp rfl) (slot_tmp rfl) agg45 aa5 ?_ | refine sG hp rfl (slot_tmp rfl) (slot_tmp rfl) agg45 aa5 ?_); clear hp; intro w1 hp; simp only [spl, List.set_cons_zero, List.set_cons_succ] at hp) | ((with_reducible refine pre_build _ _ _ rfl ?_); refine lS hp rfl (by intro w; go_simp; rfl) ?_; clear hp; intro b w1 hp; simp only [List.length_cons, List.length_nil, Nat.reduceAdd] at hp)); simp only [put_some, put_none, List.set_cons_succ, List.set_cons_zero]))
        go_roundg (gk - 1)
        case measure => omega
        case rel => exact ⟨1, by omega, rfl, fun _ => HA.out, by omega, hp⟩
      · have HA : RowKit.Hid (orI a b = a) := Lib.hid (by simp [orI, ha])
        have e0 : (a != 0) = true := by simp [ha]
        clear ha
        go_wp2_with (first | go_skip | ((first | ((with_reducible refine pre_alloc _ rfl ?_); refine lZ hp rfl zero45 ?_; clear hp; intro b w1 hp) | ((with_reducible refine pre_box _ _ rfl ?_); refine lB hp rfl (slot_tmp rfl) rfl ?_; clear hp; intro b w1 hp) | ((with_reducible refine pre_load _ _ rfl ?_); first | refine lO hp rfl (slot_tmp rfl) (by with_reducible first | exact cell3 | exact cell4 | exact cell25 | exact cell104) aa5 ?_ | refine lA hp rfl (slot_tmp rfl) agg45 aa5 ?_) | ((with_reducible refine pre_store _ _ _ rfl ?_); (first | refine sO hp rfl (slot_tmp rfl) (by with_reducible first | exact cell3 | exact cell4 | exact cell25 | exact cell104) aa5 ?_ | refine sA hp rfl (slot_tmp rfl) (slot_tmp rfl) agg45 aa5 ?_ | refine sG hp rfl (slot_tmp rfl) (slot_tmp rfl) agg45 aa5 ?_); clear hp; intro w1 hp; simp only [spl, List.set_cons_zero, List.set_cons_succ] at hp) | ((with_reducible refine pre_build _ _ _ rfl ?_); refine lS hp rfl (by intro w; go_simp; rfl) ?_; clear hp; intro b w1 hp; simp only [List.length_cons, List.length_nil, Nat.reduceAdd] at hp)); simp only [put_some, put_none, List.set_cons_succ, List.set_cons_zero]))
        go_ret
        exact ⟨ret_int HA.out.symm, hp⟩
    · have HA0 := Lib.hid (h0 (by omega))
      have HA : RowKit.Hid (orI a b = b) := Lib.hid (by simp [orI, h0 (by omega)])
      clear h0 h1
      by_cases hb : b = 0
      · have HB := Lib.hid hb
        have e0 : (b != 0) = false := by simp [hb]
        clear hb
        go_wp2_with (first | go_skip | ((first | ((with_reducible refine pre_alloc _ rfl ?_); refine lZ hp rfl zero45 ?_; clear hp; intro b w1 hp) | ((with_reducible refine pre_box _ _ rfl ?_); refine lB hp rfl (slot_tmp rfl) rfl ?_; clear hp; intro b w1 hp) | ((with_reducible refine pre_load _ _ rfl ?_); first | refine lO hp rfl (slot_tmp rfl) (by with_reducible first | exact cell3 | exact cell4 | exact cell25 | exact cell104) aa5 ?_ | refine lA hp rfl (slot_tmp rfl) agg45 aa5 ?_) | ((with_reducible refine pre_store _ _ _ rfl ?_); (first | refine sO hp rfl (slot_tmp rfl) (by with_reducible first | exact cell3 | exact cell4 | exact cell25 | exact cell104) aa5 ?_ | refine sA hp rfl (slot_tmp rfl) (slot_tmp rfl) agg45 aa5 ?_ | refine sG hp rfl (slot_tmp rfl) (slot_tmp rfl) agg45 aa5 ?_); clear hp; intro w1 hp; simp only [spl, List.set_cons_zero, List.set_cons_succ] at hp) | ((with_reducible refine pre_build _ _ _ rfl ?_); refine lS hp rfl (by intro w; go_simp; rfl) ?_; clear hp; intro b w1 hp; simp only [List.length_cons, List.length_nil, Nat.reduceAdd] at hp)); simp only [put_some, put_none, List.set_cons_succ, List.set_cons_zero]))
        go_roundg (gk - 1)
        case measure => omega
        case rel => exact ⟨2, by omega, rfl, fun _ => HA0.out, fun _ => HB.out, hp⟩
      · have e0 : (b != 0) = true := by simp [hb]
        clear hb
        go_wp2_with (first | go_skip | ((first | ((with_reducible refine pre_alloc _ rfl ?_); refine lZ hp rfl zero45 ?_; clear hp; intro b w1 hp) | ((with_reducible refine pre_box _ _ rfl ?_); refine lB hp rfl (slot_tmp rfl) rfl ?_; clear hp; intro b w1 hp) | ((with_reducible refine pre_load _ _ rfl ?_); first | refine lO hp rfl (slot_tmp rfl) (by with_reducible first | exact cell3 | exact cell4 | exact cell25 | exact cell104) aa5 ?_ | refine lA hp rfl (slot_tmp rfl) agg45 aa5 ?_) | ((with_reducible refine pre_store _ _ _ rfl ?_); (first | refine sO hp rfl (slot_tmp rfl) (by with_reducible first | exact cell3 | exact cell4 | exact cell25 | exact cell104) aa5 ?_ | refine sA hp rfl (slot_tmp rfl) (slot_tmp rfl) agg45 aa5 ?_ | refine sG hp rfl (slot_tmp rfl) (slot_tmp rfl) agg45 aa5 ?_); clear hp; intro w1 hp; simp only [spl, List.set_cons_zero, List.set_cons_succ] at hp) | ((with_reducible refine pre_build _ _ _ rfl ?_); refine lS hp rfl (by intro w; go_simp; rfl) ?_; clear hp; intro b w1 hp; simp only [List.length_cons, List.length_nil, Nat.reduceAdd] at hp)); simp only [put_some, put_none, List.set_cons_succ, List.set_cons_zero]))
        go_ret
        exact ⟨ret_int HA.out.symm, hp⟩
    · have HA : RowKit.Hid (orI a b = 0) := Lib.hid (by simp [orI, h0 (by omega), h1 (by omega)])
      clear h0 h1
      go_wp2_with (first | go_skip | ((first | ((with_reducible refine pre_alloc _ rfl ?_); refine lZ hp rfl zero45 ?_; clear hp; intro b w1 hp) | ((with_reducible refine pre_box _ _ rfl ?_); refine lB hp rfl (slot_tmp rfl) rfl ?_; clear hp; intro b w1 hp) | ((with_reducible refine pre_load _ _ rfl ?_); first | refine lO hp rfl (slot_tmp rfl) (by with_reducible first | exact cell3 | exact cell4 | exact cell25 | exact cell104) aa5 ?_ | refine lA hp rfl (slot_tmp rfl) agg45 aa5 ?_) | ((with_reducible refine pre_store _ _ _ rfl ?_); (first | refine sO hp rfl (slot_tmp rfl) (by with_reducible first | exact cell3 | exact cell4 | exact cell25 | exact cell104) aa5 ?_ | refine sA hp rfl (slot_tmp rfl) (slot_tmp rfl) agg45 aa5 ?_ | refine sG hp rfl (slot_tmp rfl) (slot_tmp rfl) agg45 aa5 ?_); clear hp; intro w1 hp; simp only [spl, List.set_cons_zero, List.set_cons_succ] at hp) | ((with_reducible refine pre_build _ _ _ rfl ?_); refine lS hp rfl (by intro w; go_simp; rfl) ?_; clear hp; intro b w1 hp; simp only [List.length_cons, List.length_nil, Nat.reduceAdd] at hp)); simp only [put_some, put_none, List.set_cons_succ, List.set_cons_zero]))
      go_ret
      exact ⟨ret_int HA.out.symm, hp⟩
theorem get_p {l : List Bl} {i : Nat} {x : Bl} (h : l[i]? = some x) : (l.flatMap blV)[i * 2]? = some (.int .i64 x.p) := flat_get blV 2 blV_len l i 0 x _ h rfl
theorem get_o {l : List Bl} {i : Nat} {x : Bl} (h : l[i]? = some x) : (l.flatMap blV)[i * 2 + 1]? = some (.int .i64 x.o) := flat_get blV 2 blV_len l i 1 x _ h rfl
set_option maxRecDepth 100000 in
set_option maxHeartbeats 4000000 in
theorem less108 {B : Nat} {w0 w : World} {bb g cap : Nat} {l : List Bl} {M : List Blk} (hp : QHp B w0 w bb g cap l M) (hl : l.length ≤ 2000) {i k : Nat} {x y : Bl} (hx : l[i]? = some x) (hy : l[k]? = some y) :
    Calls Try.prog 108 #[.pointer (some ⟨bb, 0, none⟩), .int .i64 i, .int .i64 k] w fun e w' => e = .returned (.bool (lessB x y)) ∧ QHp B w0 w' bb g cap l M := by
  have hi := (List.getElem?_eq_some_iff.1 hx).1
  have hk := (List.getElem?_eq_some_iff.1 hy).1
  have e1 : (0 : Int) ≤ (i : Int) := by omega
  have e2 : (i : Int) < (l.length : Int) := by omega
  have e3 : (0 : Int) ≤ (k : Int) := by omega
  have e4 : (k : Int) < (l.length : Int) := by omega
  have HXP := Lib.hid (get_p hx)
  have HXO := Lib.hid (get_o hx)
  have HYP := Lib.hid (get_p hy)
  have HYO := Lib.hid (get_o hy)
  have HLS := Lib.hid (less_or x y)
  clear hx hy hi hk
  unfold QHp at hp ⊢
  generalize l.flatMap blV = xs at hp HXP HXO HYP HYO ⊢
  obtain ⟨xp, xo⟩ := x
  obtain ⟨yp, yo⟩ := y
  simp only at HXP HXO HYP HYO HLS
  go_enter Try.func108, Try.ntmps108
  go_wp2_with (first | go_skip | ((first | ((with_reducible refine pre_alloc _ rfl ?_); refine lZ hp rfl zero45 ?_; clear hp; intro b w1 hp) | ((with_reducible refine pre_box _ _ rfl ?_); refine lB hp rfl (slot_tmp rfl) rfl ?_; clear hp; intro b w1 hp) | ((with_reducible refine pre_load _ _ rfl ?_); first | refine lO hp rfl (slot_tmp rfl) (by with_reducible first | exact cell3 | exact cell4 | exact cell25 | exact cell104) aa5 ?_ | refine lA hp rfl (slot_tmp rfl) agg45 aa5 ?_) | ((with_reducible refine pre_store _ _ _ rfl ?_); (first | refine sO hp rfl (slot_tmp rfl) (by with_reducible first | exact cell3 | exact cell4 | exact cell25 | exact cell104) aa5 ?_ | refine sA hp rfl (slot_tmp rfl) (slot_tmp rfl) agg45 aa5 ?_ | refine sG hp rfl (slot_tmp rfl) (slot_tmp rfl) agg45 aa5 ?_); clear hp; intro w1 hp; simp only [spl, List.set_cons_zero, List.set_cons_succ] at hp) | ((with_reducible refine pre_build _ _ _ rfl ?_); refine lS hp rfl (by intro w; go_simp; rfl) ?_; clear hp; intro b w1 hp; simp only [List.length_cons, List.length_nil, Nat.reduceAdd] at hp)); simp only [put_some, put_none, List.set_cons_succ, List.set_cons_zero]))
  refine wp_region_keeps _ (Keeps.all hp.drew) [] [(0, true), (1, true), (2, true), (3, true), (4, true), (5, true), (6, true), (7, true), (8, true), (9, true), (10, true), (11, true), (12, true), (13, true), (14, true), (15, true), (17, true), (18, true), (19, true), (20, true), (21, true), (22, true), (23, true), (24, true), (25, true), (26, true), (27, true), (28, true), (29, true), (30, true), (31, true), (32, true), (16, false), (33, false), (34, false), (35, false), (36, true), (37, false)] (by kernel_rfl) (by kernel_rfl) rfl (by kernel_rfl) (fun _ _ d _ _ h => by cases d <;> exact h) ?_
  replace hp := hp.drew
  repeat' (with_reducible refine plan_is ?_); first | (with_reducible refine plan_nil ?_) | ((with_reducible refine plan_t ?_); refine plan_tk rfl ?_; (first | ((with_reducible refine tk_mv _ rfl ?_); refine tM rfl ?_) | ((with_reducible refine tk_ld _ _ rfl ?_); first | refine tL rfl (slot_tmp rfl) (fun w hS => hS.loadOne cell3 at1 _ _ HXP.out) ?_ | refine tL rfl (slot_tmp rfl) (fun w hS => hS.loadOne cell3 at1 _ _ HXO.out) ?_ | refine tL rfl (slot_tmp rfl) (fun w hS => hS.loadOne cell3 at1 _ _ HYP.out) ?_ | refine tL rfl (slot_tmp rfl) (fun w hS => hS.loadOne cell3 at1 _ _ HYO.out) ?_ | refine tO rfl (slot_tmp rfl) (by with_reducible first | exact cell3 | exact cell25) aa5 ?_) | refine tG (fun w _ => (by go_simp; try rfl)) ?_); try simp only [put_some, put_none, eval_tmp, eval_const, List.set_cons_succ, List.set_cons_zero, List.getD_cons_succ, List.getD_cons_zero, wrap_eq]) | (refine plan_do rfl (fun K hK => ?_); go_wp2_with (first | (go_at_call 29; (with_reducible refine (cmp29 _ _ _).mono ?_); rintro e w' ⟨rfl, rfl⟩) | (go_at_call 112; (with_reducible refine (or112 _ _ hp).mono ?_); clear hp; rintro e w1 ⟨rfl, hp⟩) | go_skip | (((with_reducible refine pre_build _ _ _ rfl ?_); refine lS hp rfl (by intro w; go_simp; rfl) ?_; clear hp; intro b w1 hp; simp only [List.length_cons, List.length_nil, Nat.reduceAdd] at hp); simp only [put_some, put_none, List.set_cons_succ, List.set_cons_zero])); (refine hK.out _ _ (.inr (kall hp)) ?_); clear hK K; try simp only [put_some, put_none, eval_tmp, eval_const, List.set_cons_succ, List.set_cons_zero, List.getD_cons_succ, List.getD_cons_zero, wrap_eq])
  go_wp2_with fail
  go_ret
  exact ⟨ret_bool HLS.out, hp.tail⟩
theorem swap_cells {l : List Bl} {i k : Nat} {x y : Bl} (hx : l[i]? = some x) (hy : l[k]? = some y) : spl (spl (l.flatMap blV) (i * 2) (blV y)) (k * 2) (blV x) = (swapL l i k x y).flatMap blV := by
  have hi := (List.getElem?_eq_some_iff.1 hx).1
  have hk := (List.getElem?_eq_some_iff.1 hy).1
  rw [flat_spl 2 blV_len hi, flat_spl 2 blV_len (by rw [List.length_set]; exact hk)]; rfl
set_option maxRecDepth 100000 in
set_option maxHeartbeats 4000000 in
theorem swap111 {B : Nat} {w0 w : World} {bb g cap : Nat} {l : List Bl} {M : List Blk} (hp : QHp B w0 w bb g cap l M) (hl : l.length ≤ 2000) {i k : Nat} {x y : Bl} (hx : l[i]? = some x) (hy : l[k]? = some y) :
    Calls Try.prog 111 #[.pointer (some ⟨bb, 0, none⟩), .int .i64 i, .int .i64 k] w fun e w' => e = .returned (.tuple #[]) ∧ QHp B w0 w' bb g cap (swapL l i k x y) M := by
  have hi := (List.getElem?_eq_some_iff.1 hx).1
  have hk := (List.getElem?_eq_some_iff.1 hy).1
  have e1 : (0 : Int) ≤ (i : Int) := by omega
  have e2 : (i : Int) < (l.length : Int) := by omega
  have e3 : (0 : Int) ≤ (k : Int) := by omega
  have e4 : (k : Int) < (l.length : Int) := by omega
  have HX := Lib.hid (flat_at 2 blV_len hx)
  have HY := Lib.hid (flat_at 2 blV_len hy)
  have HC := Lib.hid (swap_cells hx hy)
  have HL1 : RowKit.Hid (i * 2 + 2 ≤ (l.flatMap blV).length) := Lib.hid (by rw [lit_len]; omega)
  have HL2 : RowKit.Hid (k * 2 + 2 ≤ (spl (l.flatMap blV) (i * 2) (blV y)).length) := Lib.hid (by rw [length_spl, lit_len]; omega)
  unfold QHp at hp ⊢
  rw [swapL_len, ← HC.out]
  clear hx hy hi hk HC
  generalize l.flatMap blV = xs at hp HX HY HL1 HL2 ⊢
  obtain ⟨xp, xo⟩ := x
  obtain ⟨yp, yo⟩ := y
  simp only [blV] at HX HY HL2 ⊢
  go_enter Try.func111, Try.ntmps111
  go_wp2_with (first | go_skip | ((first | ((with_reducible refine pre_alloc _ rfl ?_); refine lZ hp rfl zero45 ?_; clear hp; intro b w1 hp) | ((with_reducible refine pre_box _ _ rfl ?_); refine lB hp rfl (slot_tmp rfl) rfl ?_; clear hp; intro b w1 hp) | ((with_reducible refine pre_load _ _ rfl ?_); first | refine lO hp rfl (slot_tmp rfl) (by with_reducible first | exact cell3 | exact cell4 | exact cell25 | exact cell104) aa5 ?_ | refine lA hp rfl (slot_tmp rfl) agg45 aa5 ?_) | ((with_reducible refine pre_store _ _ _ rfl ?_); (first | refine sO hp rfl (slot_tmp rfl) (by with_reducible first | exact cell3 | exact cell4 | exact cell25 | exact cell104) aa5 ?_ | refine sA hp rfl (slot_tmp rfl) (slot_tmp rfl) agg45 aa5 ?_ | refine sG hp rfl (slot_tmp rfl) (slot_tmp rfl) agg45 aa5 ?_); clear hp; intro w1 hp; simp only [spl, List.set_cons_zero, List.set_cons_succ] at hp) | ((with_reducible refine pre_build _ _ _ rfl ?_); refine lS hp rfl (by intro w; go_simp; rfl) ?_; clear hp; intro b w1 hp; simp only [List.length_cons, List.length_nil, Nat.reduceAdd] at hp)); simp only [put_some, put_none, List.set_cons_succ, List.set_cons_zero]))
  refine wp_region_keepsP _ (Keeps.all hp.drew) [25, 26, 27] [(0, true), (1, true), (2, true), (3, true), (4, true), (5, true), (6, true), (7, true), (8, true), (9, true), (10, true), (11, true), (12, true), (13, true), (14, true), (15, true), (16, true), (17, true), (18, true), (19, true), (20, true), (21, true), (22, true), (23, true), (24, true), (25, false), (26, false), (27, false)] (by kernel_rfl) (by kernel_rfl) rfl (by kernel_rfl) (fun _ _ d _ _ h => by cases d <;> exact h) ?_
  replace hp := hp.drew
  repeat' (with_reducible refine plan_is ?_); first | (with_reducible refine plan_nil ?_) | ((with_reducible refine plan_t ?_); refine plan_tk rfl ?_; (first | ((with_reducible refine tk_mv _ rfl ?_); refine tM rfl ?_) | ((with_reducible refine tk_ld _ _ rfl ?_); first | refine tL rfl (slot_tmp rfl) (fun w hS => hS.loadAgg agg45 at1 _ _ HX.out rfl) ?_ | refine tL rfl (slot_tmp rfl) (fun w hS => hS.loadAgg agg45 at1 _ _ HY.out rfl) ?_ | refine tA rfl (slot_tmp rfl) agg45 aa5 ?_ | refine tO rfl (slot_tmp rfl) cell25 aa5 ?_) | refine tG (fun w _ => (by go_simp; try rfl)) ?_); try simp only [put_some, put_none, eval_tmp, eval_const, List.set_cons_succ, List.set_cons_zero, List.getD_cons_succ, List.getD_cons_zero, wrap_eq]) | (refine plan_do rfl (fun K hK => ?_); go_wp2_with (first | ((with_reducible refine pre_store 45 _ _ rfl ?_); refine wpList_storeAgg_hp hp _ _ _ rfl wy _ _ (slot_tmp rfl) _ (slot_tmp rfl) agg45 1 _ _ _ at1 (by first | exact HL1.out | exact HL2.out) (by rfl) ?_; clear hp; intro w1 hp; simp only [List.set_cons_zero, List.set_cons_succ] at hp; simp only [put_some, put_none, List.set_cons_succ, List.set_cons_zero])); (first | refine hK.out _ _ (.inl rfl) ?_ | refine hK.out _ _ (.inr (kall hp)) ?_); clear hK K; try simp only [put_some, put_none, eval_tmp, eval_const, List.set_cons_succ, List.set_cons_zero, List.getD_cons_succ, List.getD_cons_zero, wrap_eq])
  go_wp2_with fail
  refine bodyPost_end (results_none Try.results111 _ _ _) rfl ⟨rfl, hp⟩
theorem Hp.less {B : Nat} {w0 w : World} {b n : Nat} {l1 l2 : List Value} {t : TypeId} {L : List Blk} (h : Hp B w0 w (⟨b, l1 ++ l2, t, n⟩ :: L)) : Hp B w0 w (⟨b, l1, t, n⟩ :: L) := by
  refine ⟨h.below, h.size, by simpa using h.nodup, fun p hp => ?_⟩
  rcases List.mem_cons.1 hp with rfl | hp
  · obtain ⟨h1, c, h2, h3, h4⟩ := h.own _ (List.mem_cons_self ..)
    refine ⟨h1, c, h2, h3, ?_⟩
    simp only at h4 ⊢
    have := congrArg (List.take l1.length) h4
    rw [List.take_take, List.length_append, Nat.min_eq_left (by omega), List.take_append_of_le_length (Nat.le_refl _), List.take_length] at this
    exact this
  · exact h.own p (List.mem_cons_of_mem _ hp)
theorem mkI45 (x : Value) (w : World) : (Instr.makeInterface 45 x).run Try.prog w = .ok (.iface 45 x) w := run_makeInterface w 45 x (by kernel_rfl)
theorem mkI106 (x : Value) (w : World) : (Instr.makeInterface 106 x).run Try.prog w = .ok (.iface 106 x) w := run_makeInterface w 106 x (by kernel_rfl)
theorem asB45 (v : Value) (w : World) : (Instr.typeAssert (.iface 45 v) 20 45 false).run Try.prog w = .ok v w := by kernel_rfl
set_option maxRecDepth 100000 in
set_option maxHeartbeats 4000000 in
theorem pop109 {B : Nat} {w0 w : World} {bb g cap : Nat} {l : List Bl} {x : Bl} {M : List Blk} (hp : QHp B w0 w bb g cap (l ++ [x]) M) (hl : l.length ≤ 2000) (hcap : l.length + 1 ≤ cap) :
    Calls Try.prog 109 #[.pointer (some ⟨bb, 0, none⟩)] w fun e w' => e = .returned (.iface 45 (.agg #[.int .i64 x.p, .int .i64 x.o])) ∧ QHp B w0 w' bb g cap l M := by
  have HX := Lib.hid (flat_at 2 blV_len (l := l ++ [x]) (i := l.length) (x := x) (by simp))
  unfold QHp at hp ⊢
  rw [List.length_append, List.length_singleton] at hp
  obtain ⟨n, hn⟩ : ∃ n, n = l.length := ⟨_, rfl⟩
  obtain ⟨m, hm⟩ : ∃ m, m = l.length + 1 := ⟨_, rfl⟩
  rw [← hm] at hp
  rw [← hn] at HX hl hcap hm ⊢
  have ew : wrap64 ((m : Int) - 1) = (n : Int) := by rw [IntWalk.wrap64_in _ ⟨by omega, by omega⟩]; omega
  have e1 : (0 : Int) ≤ (n : Int) := by omega
  have e2 : (n : Int) < (m : Int) := by omega
  have e3 : (n : Int) ≤ (cap : Int) := by omega
  have HXS : RowKit.Hid ((l ++ [x]).flatMap blV = l.flatMap blV ++ blV x) := Lib.hid (by simp [List.flatMap_append])
  have HM := Lib.hid hm
  clear hn hm
  obtain ⟨xs, hxs⟩ : ∃ xs, (l ++ [x]).flatMap blV = xs := ⟨_, rfl⟩
  rw [hxs] at hp HX HXS
  clear hxs
  obtain ⟨xp, xo⟩ := x
  simp only [blV] at HX HXS
  have mk := mkI45
  go_enter Try.func109, Try.ntmps109
  go_wp2_with (first | ((with_reducible refine pre_load 45 _ rfl ?_); refine wpList_loadAgg_hp hp _ _ rfl wy _ _ (slot_tmp rfl) _ agg45 _ _ _ _ at1 _ HX.out rfl ?_; simp only [put_some, put_none, List.set_cons_succ, List.set_cons_zero]) | go_skip | ((first | ((with_reducible refine pre_alloc _ rfl ?_); refine lZ hp rfl zero45 ?_; clear hp; intro b w1 hp) | ((with_reducible refine pre_box _ _ rfl ?_); refine lB hp rfl (slot_tmp rfl) rfl ?_; clear hp; intro b w1 hp) | ((with_reducible refine pre_load _ _ rfl ?_); first | refine lO hp rfl (slot_tmp rfl) (by with_reducible first | exact cell3 | exact cell4 | exact cell25 | exact cell104) aa5 ?_ | refine lA hp rfl (slot_tmp rfl) agg45 aa5 ?_) | ((with_reducible refine pre_store _ _ _ rfl ?_); (first | refine sO hp rfl (slot_tmp rfl) (by with_reducible first | exact cell3 | exact cell4 | exact cell25 | exact cell104) aa5 ?_ | refine sA hp rfl (slot_tmp rfl) (slot_tmp rfl) agg45 aa5 ?_ | refine sG hp rfl (slot_tmp rfl) (slot_tmp rfl) agg45 aa5 ?_); clear hp; intro w1 hp; simp only [spl, List.set_cons_zero, List.set_cons_succ] at hp) | ((with_reducible refine pre_build _ _ _ rfl ?_); refine lS hp rfl (by intro w; go_simp; rfl) ?_; clear hp; intro b w1 hp; simp only [List.length_cons, List.length_nil, Nat.reduceAdd] at hp)); simp only [put_some, put_none, List.set_cons_succ, List.set_cons_zero]))
  go_ret
  refine ⟨rfl, ?_⟩
  have h := hp.tail
  rw [HXS.out] at h
  exact ((h.reorder (List.Perm.swap _ _ _)).less).reorder (List.Perm.swap _ _ _)
theorem OwnRow.cons {e : TypeId} {c n : Nat} {v : Value} {xs : List Value} {R : List Blk} (h : OwnRow e c v (n + 1) xs R) : ∃ g cap, v = .slice (some ⟨g, 0, none⟩) (n + 1) cap ∧ n + 1 ≤ cap ∧ cap ≤ maxLen ∧ R = [⟨g, xs, e, cap * c⟩] := by
  obtain ⟨_, ⟨h0, _⟩ | h⟩ := h
  · omega
  · exact h
def Pushed (B : Nat) (w0 : World) (bb : Nat) (l : List Bl) (M : List Blk) (e : Ending) (w' : World) : Prop := e = .returned (.tuple #[]) ∧ ∃ g cap, QHp B w0 w' bb g cap l M ∧ l.length ≤ cap ∧ cap ≤ maxLen
set_option maxRecDepth 100000 in
set_option maxHeartbeats 4000000 in
theorem push110 {B : Nat} {w0 w : World} {bb g cap : Nat} {l : List Bl} {M : List Blk} (hp : QHp B w0 w bb g cap l M) (hl : l.length ≤ 2000) (hcap : l.length ≤ cap) (hmax : cap ≤ maxLen) (x : Bl) :
    Calls Try.prog 110 #[.pointer (some ⟨bb, 0, none⟩), .iface 45 (.agg #[.int .i64 x.p, .int .i64 x.o])] w (Pushed B w0 bb (l ++ [x]) M) := by
  obtain ⟨i0, hi0, hz0, hz1, hz2⟩ := info_parts info45
  have HR : RowKit.Hid (OwnRow 45 2 (.slice (some ⟨g, 0, none⟩) l.length cap) l.length (l.flatMap blV) [⟨g, l.flatMap blV, 45, cap * 2⟩]) := Lib.hid ⟨lit_len l, .inr ⟨g, cap, rfl, hcap, hmax, rfl⟩⟩
  unfold QHp at hp
  have HXS : RowKit.Hid ((l ++ [x]).flatMap blV = l.flatMap blV ++ blV x) := Lib.hid (by simp [List.flatMap_append])
  have sm1 : l.length + 1 ≤ maxLen := by unfold maxLen; omega
  have sm2 : (l.length + 1) * 16 ≤ 140737488355328 := by omega
  clear hcap hmax
  obtain ⟨n, hn⟩ : ∃ n, n = l.length := ⟨_, rfl⟩
  have HN := Lib.hid hn
  rw [← hn] at hp HR sm1 sm2 hl
  clear hn
  generalize l.flatMap blV = xs at hp HR HXS
  obtain ⟨xp, xo⟩ := x
  simp only [blV] at HXS
  simp only
  have asb := asB45
  go_enter Try.func110, Try.ntmps110
  go_wp2_with (first | go_skip | ((first | ((with_reducible refine pre_alloc _ rfl ?_); refine lZ hp rfl zero45 ?_; clear hp; intro b w1 hp) | ((with_reducible refine pre_box _ _ rfl ?_); refine lB hp rfl (slot_tmp rfl) rfl ?_; clear hp; intro b w1 hp) | ((with_reducible refine pre_load _ _ rfl ?_); first | refine lO hp rfl (slot_tmp rfl) (by with_reducible first | exact cell3 | exact cell4 | exact cell25 | exact cell104) aa5 ?_ | refine lA hp rfl (slot_tmp rfl) agg45 aa5 ?_) | ((with_reducible refine pre_store _ _ _ rfl ?_); (first | refine sO hp rfl (slot_tmp rfl) (by with_reducible first | exact cell3 | exact cell4 | exact cell25 | exact cell104) aa5 ?_ | refine sA hp rfl (slot_tmp rfl) (slot_tmp rfl) agg45 aa5 ?_ | refine sG hp rfl (slot_tmp rfl) (slot_tmp rfl) agg45 aa5 ?_); clear hp; intro w1 hp; simp only [spl, List.set_cons_zero, List.set_cons_succ] at hp) | ((with_reducible refine pre_build _ _ _ rfl ?_); refine lS hp rfl (by intro w; go_simp; rfl) ?_; clear hp; intro b w1 hp; simp only [List.length_cons, List.length_nil, Nat.reduceAdd] at hp)); simp only [put_some, put_none, List.set_cons_succ, List.set_cons_zero]))
  refine wp_region_keeps [_] (Keeps.one hp.drew at0) [11] [(0, true), (1, true), (2, true), (3, true), (4, true), (5, true), (6, false), (7, false), (8, false), (9, true), (10, true), (11, false)] (by kernel_rfl) (by kernel_rfl) rfl (by kernel_rfl) (fun _ _ d _ _ h => by cases d <;> exact h) ?_
  replace hp := hp.drew
  repeat' (with_reducible refine plan_is ?_); first | (with_reducible refine plan_nil ?_) | ((with_reducible refine plan_t ?_); refine plan_tk rfl ?_; (first | ((with_reducible refine tk_mv _ rfl ?_); refine tM rfl ?_) | ((with_reducible refine tk_ld _ _ rfl ?_); refine tO rfl (slot_tmp rfl) cell25 aa5 ?_) | refine tG (fun w _ => (by go_simp; try rfl)) ?_); try simp only [put_some, put_none, eval_tmp, eval_const, List.set_cons_succ, List.set_cons_zero, List.getD_cons_succ, List.getD_cons_zero, wrap_eq]) | (refine plan_do rfl (fun K hK => ?_); go_wp2_with (first | ((with_reducible refine pre_append _ _ 25 rfl ?_); refine wpList_appendGrow (K := [_]) (R := [_]) (M := M) hp _ _ _ rfl wy i0 _ 16 Try.underlying25 hi0 hz0 hz1 hz2 rfl (by decide) (slot_tmp rfl) HR.out 1 1 (slot_tmp rfl) (by rfl) (by decide) (by rfl) sm1 sm2 ?_; clear hp HR; intro v' R' w1 hr hp; obtain ⟨g', cap', rfl, hc1, hc2, rfl⟩ := hr.cons; simp only [List.cons_append, List.nil_append] at hp; simp only [put_some, put_none, List.set_cons_succ, List.set_cons_zero]) | go_skip | ((first | ((with_reducible refine pre_store _ _ _ rfl ?_); (first | refine sO hp rfl (slot_tmp rfl) (by with_reducible first | exact cell3 | exact cell4 | exact cell25 | exact cell104) aa5 ?_ | refine sA hp rfl (slot_tmp rfl) (slot_tmp rfl) agg45 aa5 ?_ | refine sG hp rfl (slot_tmp rfl) (slot_tmp rfl) agg45 aa5 ?_); clear hp; intro w1 hp; simp only [spl, List.set_cons_zero, List.set_cons_succ] at hp) | ((with_reducible refine pre_build _ _ _ rfl ?_); refine lS hp rfl (by intro w; go_simp; rfl) ?_; clear hp; intro b w1 hp; simp only [List.length_cons, List.length_nil, Nat.reduceAdd] at hp)); simp only [put_some, put_none, List.set_cons_succ, List.set_cons_zero])); (first | refine hK.out _ _ (.inl rfl) ?_ | refine hK.out _ _ (.inr (Keeps.one hp aa5)) ?_); clear hK K; try simp only [put_some, put_none, eval_tmp, eval_const, List.set_cons_succ, List.set_cons_zero, List.getD_cons_succ, List.getD_cons_zero, wrap_eq])
  go_wp2_with fail
  refine bodyPost_end (results_none Try.results110 _ _ _) rfl ⟨rfl, g', cap', ?_, ?_, hc2⟩
  · unfold QHp
    rw [HXS.out, List.length_append, List.length_singleton, ← HN.out]
    exact hp
  · rw [List.length_append, List.length_singleton, ← HN.out]
    exact hc1
end Go.Proofs.Ytcjbepaclbhjaaa
namespace Go.Proofs.Ytcjbepaclbhjaaa
def LtB (a b : Bl) : Prop := a.o < b.o ∨ (a.o = b.o ∧ a.p < b.p)
theorem lessB_iff {a b : Bl} : lessB a b = true ↔ LtB a b := by simp [lessB, LtB]
theorem lessB_no {a b : Bl} : lessB a b = false ↔ ¬ LtB a b := by rw [← lessB_iff]; simp
theorem LtB.asymm {a b : Bl} (h : LtB a b) : ¬ LtB b a := by unfold LtB at *; omega
theorem LtB.ntrans {a b c : Bl} (h1 : ¬ LtB b a) (h2 : ¬ LtB c b) : ¬ LtB c a := by unfold LtB at *; omega
def gB (l : List Bl) (k : Nat) : Bl := l.getD k ⟨0, 0⟩
theorem gB_some {l : List Bl} {k : Nat} {x : Bl} (h : l[k]? = some x) : gB l k = x := by simp [gB, h]
theorem gB_get {l : List Bl} {k : Nat} (h : k < l.length) : l[k]? = some (gB l k) := by simp [gB, h]
theorem gB_swap {l : List Bl} {i k : Nat} (hi : i < l.length) (hk : k < l.length) (j : Nat) : gB (swapL l i k (gB l i) (gB l k)) j = if j = k then gB l i else if j = i then gB l k else gB l j := by
  have h := swapL_get (j := j) (gB_get hi) (gB_get hk)
  have e : ∀ (m : List Bl) q, gB m q = (m[q]?).getD ⟨0, 0⟩ := fun m q => List.getD_eq_getElem?_getD ..
  rw [e, h]
  split
  · rfl
  · split
    · rfl
    · rw [e]
def HeapF (l : List Bl) (n i0 : Nat) : Prop := ∀ k c, i0 ≤ k → (c = 2 * k + 1 ∨ c = 2 * k + 2) → c < n → ¬ LtB (gB l c) (gB l k)
def HeapD (l : List Bl) (n i0 j : Nat) : Prop :=
  (∀ k c, i0 ≤ k → k ≠ j → (c = 2 * k + 1 ∨ c = 2 * k + 2) → c < n → ¬ LtB (gB l c) (gB l k)) ∧
  (∀ p c, i0 ≤ p → (j = 2 * p + 1 ∨ j = 2 * p + 2) → (c = 2 * j + 1 ∨ c = 2 * j + 2) → c < n → ¬ LtB (gB l c) (gB l p))
theorem HeapD.start {l : List Bl} {n i0 : Nat} (h : HeapF l n (i0 + 1)) : HeapD l n i0 i0 :=
  ⟨fun k c hk hne hc hn => h k c (by omega) hc hn, fun p c hp hj _ _ => by omega⟩
theorem HeapD.leaf {l : List Bl} {n i0 j : Nat} (h : HeapD l n i0 j) (hn : n ≤ 2 * j + 1) : HeapF l n i0 := fun k c hk hc hcn => by
  by_cases hkj : k = j
  · subst hkj; omega
  · exact h.1 k c hk hkj hc hcn
def LeastC (l : List Bl) (n j m : Nat) : Prop := (m = 2 * j + 1 ∨ m = 2 * j + 2) ∧ m < n ∧ ∀ c, (c = 2 * j + 1 ∨ c = 2 * j + 2) → c < n → ¬ LtB (gB l c) (gB l m)
theorem HeapD.stop {l : List Bl} {n i0 j m : Nat} (h : HeapD l n i0 j) (hm : LeastC l n j m) (hl : ¬ LtB (gB l m) (gB l j)) : HeapF l n i0 := fun k c hk hc hcn => by
  by_cases hkj : k = j
  · subst hkj; exact LtB.ntrans hl (hm.2.2 c hc hcn)
  · exact h.1 k c hk hkj hc hcn
theorem HeapD.sink {l : List Bl} {n i0 j m : Nat} (h : HeapD l n i0 j) (hij : i0 ≤ j) (hm : LeastC l n j m) (hl : LtB (gB l m) (gB l j)) (hn : n ≤ l.length) : HeapD (swapL l j m (gB l j) (gB l m)) n i0 m := by
  obtain ⟨m1, m2, m3⟩ := hm
  have hj : j < l.length := by omega
  have hml : m < l.length := by omega
  constructor
  · intro k c hk hkm hc hcn
    rw [gB_swap hj hml, gB_swap hj hml, if_neg hkm]
    by_cases hkj : k = j
    · subst hkj
      rw [if_pos rfl]
      by_cases hcm : c = m
      · subst hcm; rw [if_pos rfl]; exact hl.asymm
      · rw [if_neg hcm, if_neg (by omega)]; exact m3 c hc hcn
    · rw [if_neg hkj]
      by_cases hcm : c = m
      · subst hcm; omega
      · rw [if_neg hcm]
        by_cases hcj : c = j
        · subst hcj; rw [if_pos rfl]; exact h.2 k m hk hc m1 m2
        · rw [if_neg hcj]; exact h.1 k c hk hkj hc hcn
  · intro p c hp hmp hc hcn
    have hpj : p = j := by omega
    subst hpj
    rw [gB_swap hj hml, gB_swap hj hml, if_neg (by omega), if_neg (by omega), if_neg (by omega), if_pos rfl]
    exact h.1 m c (by omega) (by omega) hc hcn
theorem HeapF.root {l : List Bl} {n : Nat} (h : HeapF l n 0) : ∀ k, k < n → ¬ LtB (gB l k) (gB l 0) := by
  intro k
  induction k using Nat.strongRecOn with
  | ind k ih =>
    intro hk
    rcases Nat.eq_zero_or_pos k with h0 | h0
    · subst h0; exact fun h => h.asymm h
    · have h1 := ih ((k - 1) / 2) (by omega) (by omega)
      exact LtB.ntrans h1 (h ((k - 1) / 2) k (by omega) (by omega) hk)
theorem HeapF.high {l : List Bl} {n i0 : Nat} (h : n ≤ 2 * i0 + 1) : HeapF l n i0 := fun k c hk hc hcn => by omega
structure Downs (l l' : List Bl) (n i0 j : Nat) : Prop where
  perm : l'.Perm l
  same : ∀ q, n ≤ q → gB l' q = gB l q
  heap : HeapF l n (i0 + 1) → HeapD l' n i0 j
structure Downed (l l' : List Bl) (n i0 : Nat) : Prop where
  perm : l'.Perm l
  same : ∀ q, n ≤ q → gB l' q = gB l q
  heap : HeapF l n (i0 + 1) → HeapF l' n i0
theorem Downs.start (l : List Bl) (n i0 : Nat) : Downs l l n i0 i0 := ⟨List.Perm.refl _, fun _ _ => rfl, HeapD.start⟩
theorem Downs.leaf {l l' : List Bl} {n i0 j : Nat} (h : Downs l l' n i0 j) (hn : n ≤ 2 * j + 1) : Downed l l' n i0 := ⟨h.perm, h.same, fun hh => (h.heap hh).leaf hn⟩
theorem Downs.stop {l l' : List Bl} {n i0 j m : Nat} (h : Downs l l' n i0 j) (hm : LeastC l' n j m) (hl : ¬ LtB (gB l' m) (gB l' j)) : Downed l l' n i0 := ⟨h.perm, h.same, fun hh => (h.heap hh).stop hm hl⟩
theorem Downs.sink {l l' : List Bl} {n i0 j m : Nat} (h : Downs l l' n i0 j) (hij : i0 ≤ j) (hm : LeastC l' n j m) (hl : LtB (gB l' m) (gB l' j)) (hn : n ≤ l'.length) : Downs l (swapL l' j m (gB l' j) (gB l' m)) n i0 m := by
  have hj : j < l'.length := by have := hm.1; have := hm.2.1; omega
  have hml : m < l'.length := by have := hm.2.1; omega
  refine ⟨(swapL_perm (gB_get hj) (gB_get hml)).trans h.perm, fun q hq => ?_, fun hh => (h.heap hh).sink hij hm hl hn⟩
  have := hm.1; have := hm.2.1
  rw [gB_swap hj hml, if_neg (by omega), if_neg (by omega)]
  exact h.same q hq
theorem least_one {l : List Bl} {n j : Nat} (h1 : 2 * j + 1 < n) (h2 : ¬ 2 * j + 2 < n) : LeastC l n j (2 * j + 1) := ⟨.inl rfl, h1, fun c hc hcn => by
  have : c = 2 * j + 1 := by omega
  subst this; exact fun h => h.asymm h⟩
theorem least_left {l : List Bl} {n j : Nat} (h1 : 2 * j + 1 < n) (h : ¬ LtB (gB l (2 * j + 2)) (gB l (2 * j + 1))) : LeastC l n j (2 * j + 1) := ⟨.inl rfl, h1, fun c hc hcn => by
  rcases hc with rfl | rfl
  · exact fun h => h.asymm h
  · exact h⟩
theorem least_right {l : List Bl} {n j : Nat} (h2 : 2 * j + 2 < n) (h : LtB (gB l (2 * j + 2)) (gB l (2 * j + 1))) : LeastC l n j (2 * j + 2) := ⟨.inr rfl, h2, fun c hc hcn => by
  rcases hc with rfl | rfl
  · exact h.asymm
  · exact fun h => h.asymm h⟩
end Go.Proofs.Ytcjbepaclbhjaaa
namespace Go.Proofs.Ytcjbepaclbhjaaa
open Go.RowKit Go.Shelf
theorem meth_len (bb : Nat) (w : World) : Sem.run Try.prog (method 263 106 (.agg #[.pointer (some ⟨bb, 0, none⟩)]) "Len") w = .ok (107, .pointer (some ⟨bb, 0, none⟩)) w := by kernel_rfl
theorem ent_len (args : Array Value) (w : World) : (callFunc 107 args).run Try.prog w = .ok (.enter 107 args) w := enters_of Try.func107 (by kernel_rfl) rfl args w
theorem meth_less (bb : Nat) (w : World) : Sem.run Try.prog (method 263 106 (.agg #[.pointer (some ⟨bb, 0, none⟩)]) "Less") w = .ok (108, .pointer (some ⟨bb, 0, none⟩)) w := by kernel_rfl
theorem ent_less (args : Array Value) (w : World) : (callFunc 108 args).run Try.prog w = .ok (.enter 108 args) w := enters_of Try.func108 (by kernel_rfl) rfl args w
theorem meth_swap (bb : Nat) (w : World) : Sem.run Try.prog (method 263 106 (.agg #[.pointer (some ⟨bb, 0, none⟩)]) "Swap") w = .ok (111, .pointer (some ⟨bb, 0, none⟩)) w := by kernel_rfl
theorem ent_swap (args : Array Value) (w : World) : (callFunc 111 args).run Try.prog w = .ok (.enter 111 args) w := enters_of Try.func111 (by kernel_rfl) rfl args w
theorem meth_push (bb : Nat) (w : World) : Sem.run Try.prog (method 263 106 (.agg #[.pointer (some ⟨bb, 0, none⟩)]) "Push") w = .ok (110, .pointer (some ⟨bb, 0, none⟩)) w := by kernel_rfl
theorem ent_push (args : Array Value) (w : World) : (callFunc 110 args).run Try.prog w = .ok (.enter 110 args) w := enters_of Try.func110 (by kernel_rfl) rfl args w
theorem meth_pop (bb : Nat) (w : World) : Sem.run Try.prog (method 263 106 (.agg #[.pointer (some ⟨bb, 0, none⟩)]) "Pop") w = .ok (109, .pointer (some ⟨bb, 0, none⟩)) w := by kernel_rfl
theorem ent_pop (args : Array Value) (w : World) : (callFunc 109 args).run Try.prog w = .ok (.enter 109 args) w := enters_of Try.func109 (by kernel_rfl) rfl args w
def DownPost (B : Nat) (w0 : World) (bb g cap : Nat) (l : List Bl) (M : List Blk) (n i0 : Nat) (e : Ending) (w' : World) : Prop := ∃ b l', e = .returned (.bool b) ∧ QHp B w0 w' bb g cap l' M ∧ Downed l l' n i0
set_option maxRecDepth 100000 in
set_option maxHeartbeats 4000000 in
theorem down75 {B : Nat} {w0 w : World} {bb g cap : Nat} {l : List Bl} {M : List Blk} (hp : QHp B w0 w bb g cap l M) (hl : l.length ≤ 2000) {i0 n : Nat} (hin : i0 ≤ n) (hn : n ≤ l.length) :
    Calls Try.prog 75 #[.iface 106 (.agg #[.pointer (some ⟨bb, 0, none⟩)]), .int .i64 i0, .int .i64 n] w (DownPost B w0 bb g cap l M n i0) := by
  have mls := meth_less bb
  have msw := meth_swap bb
  have els := ent_less
  have esw := ent_swap
  have HLN : RowKit.Hid (n ≤ l.length) := Lib.hid hn
  have HLL : RowKit.Hid (l.length ≤ 2000) := Lib.hid hl
  have hn1 : n ≤ 2000 := by omega
  clear hl hn
  go_enter Try.func75, Try.ntmps75
  go_wp2_with fail
  go_loopg [7] (n - i0) (fun k i wr => ∃ (j : Nat) (l' : List Bl), k + j = n ∧ i = .int .i64 j ∧ i0 ≤ j ∧ RowKit.Hid (Downs l l' n i0 j) ∧ QHp B w0 wr bb g cap l' M)
  case atStart => exact ⟨i0, l, by omega, rfl, by omega, Lib.hid (Downs.start _ _ _), hp⟩
  case round =>
    clear hp
    obtain ⟨j, l', hkj, rfl, hij, HD, hp⟩ := hrel
    have hll : RowKit.Hid (n ≤ l'.length) := Lib.hid (by rw [HD.out.perm.length_eq]; exact HLN.out)
    have hl' : l'.length ≤ 2000 := by rw [HD.out.perm.length_eq]; exact HLL.out
    obtain ⟨a, ha⟩ : ∃ a : Nat, a = 2 * j := ⟨_, rfl⟩
    obtain ⟨b1, hb1⟩ : ∃ b1 : Nat, b1 = 2 * j + 1 := ⟨_, rfl⟩
    obtain ⟨b2, hb2⟩ : ∃ b2 : Nat, b2 = 2 * j + 2 := ⟨_, rfl⟩
    have ew1 : wrap64 (2 * (j : Int)) = (a : Int) := by rw [IntWalk.wrap64_in _ ⟨by omega, by omega⟩]; omega
    have ew2 : wrap64 ((a : Int) + 1) = (b1 : Int) := by rw [IntWalk.wrap64_in _ ⟨by omega, by omega⟩]; omega
    have ew3 : wrap64 ((b1 : Int) + 1) = (b2 : Int) := by rw [IntWalk.wrap64_in _ ⟨by omega, by omega⟩]; omega
    have HB : RowKit.Hid (b1 = 2 * j + 1 ∧ b2 = 2 * j + 2) := Lib.hid ⟨hb1, hb2⟩
    have HKJ := Lib.hid hkj
    by_cases h1 : n ≤ b1
    · have HDD := Lib.hid (HD.out.leaf (by omega))
      have e1 : decide ((n : Int) ≤ (b1 : Int)) = true := by simp; omega
      have e1' : decide (n ≤ b1) = true := decide_eq_true h1
      clear ha hb1 hb2 HD hkj hn1
      go_wp2_with fail
      go_ret
      exact ⟨_, l', rfl, hp, HDD.out⟩
    · have e1 : decide ((n : Int) ≤ (b1 : Int)) = false := by simp; omega
      have e1' : decide (n ≤ b1) = false := decide_eq_false h1
      have e2 : decide ((b1 : Int) < 0) = false := by simp
      have hjl : j < l'.length := by have := hll.out; omega
      have h1l : b1 < l'.length := by have := hll.out; omega
      have HJ := Lib.hid (gB_get hjl)
      have H1 := Lib.hid (gB_get h1l)
      obtain ⟨m, hm, hw⟩ : ∃ m, LeastC l' n j m ∧ ((b2 < n ∧ lessB (gB l' b2) (gB l' b1) = true ∧ m = b2) ∨ (b2 < n ∧ lessB (gB l' b2) (gB l' b1) = false ∧ m = b1) ∨ (¬ b2 < n ∧ m = b1)) := by
        by_cases h2 : b2 < n
        · cases hq : lessB (gB l' b2) (gB l' b1) with
          | true => exact ⟨b2, by rw [hb2]; exact least_right (by omega) (by rw [← hb1, ← hb2]; exact lessB_iff.1 hq), .inl ⟨h2, rfl, rfl⟩⟩
          | false => exact ⟨b1, by rw [hb1]; exact least_left (by omega) (by rw [← hb1, ← hb2]; exact lessB_no.1 hq), .inr (.inl ⟨h2, rfl, rfl⟩)⟩
        · exact ⟨b1, by rw [hb1]; exact least_one (by omega) (by omega), .inr (.inr ⟨h2, rfl⟩)⟩
      have hml : m < l'.length := by have := hm.2.1; have := hll.out; omega
      have hjm : j < m := by have := hm.1; omega
      have hmn : m < n := hm.2.1
      have HM := Lib.hid (gB_get hml)
      have HMC := Lib.hid hm
      have HW := Lib.hid hw
      clear ha hb1 hb2 hm hw hml h1l hjl hkj hn1
      cases hq : lessB (gB l' m) (gB l' j)
      · have HB2 := Lib.hid hq
        have HDD := Lib.hid (HD.out.stop HMC.out (lessB_no.1 hq))
        clear hq HD
        rcases HW.out with ⟨h2, h3, rfl⟩ | ⟨h2, h3, rfl⟩ | ⟨h2, rfl⟩
        · have HB1 := Lib.hid h3
          have h2l : m < l'.length := by have := hll.out; omega
          have H2 := Lib.hid (gB_get h2l)
          have e3 : decide ((m : Int) < (n : Int)) = true := by simp; omega
          have e3' : decide (m < n) = true := decide_eq_true h2
          clear h3 h2l HW HMC
          go_wp2_with (first | (go_at_call 108; first | ((with_reducible refine (less108 hp hl' H2.out H1.out).mono ?_); clear hp; rintro e w1 ⟨rfl, hp⟩; rw [HB1.out]) | ((with_reducible refine (less108 hp hl' HM.out HJ.out).mono ?_); clear hp; rintro e w1 ⟨rfl, hp⟩; rw [HB2.out])) | (go_at_call 111; (with_reducible refine (swap111 hp hl' HJ.out HM.out).mono ?_); clear hp; rintro e w1 ⟨rfl, hp⟩))
          go_ret
          exact ⟨_, l', rfl, hp, HDD.out⟩
        · have HB1 := Lib.hid h3
          have h2l : b2 < l'.length := by have := hll.out; omega
          have H2 := Lib.hid (gB_get h2l)
          have e3 : decide ((b2 : Int) < (n : Int)) = true := by simp; omega
          have e3' : decide (b2 < n) = true := decide_eq_true h2
          clear h3 h2l HW HMC
          go_wp2_with (first | (go_at_call 108; first | ((with_reducible refine (less108 hp hl' H2.out H1.out).mono ?_); clear hp; rintro e w1 ⟨rfl, hp⟩; rw [HB1.out]) | ((with_reducible refine (less108 hp hl' HM.out HJ.out).mono ?_); clear hp; rintro e w1 ⟨rfl, hp⟩; rw [HB2.out])) | (go_at_call 111; (with_reducible refine (swap111 hp hl' HJ.out HM.out).mono ?_); clear hp; rintro e w1 ⟨rfl, hp⟩))
          go_ret
          exact ⟨_, l', rfl, hp, HDD.out⟩
        · have e3 : decide ((b2 : Int) < (n : Int)) = false := by simp; omega
          have e3' : decide (b2 < n) = false := decide_eq_false h2
          clear HW HMC
          go_wp2_with (first | (go_at_call 108; first | ((with_reducible refine (less108 hp hl' H2.out H1.out).mono ?_); clear hp; rintro e w1 ⟨rfl, hp⟩; rw [HB1.out]) | ((with_reducible refine (less108 hp hl' HM.out HJ.out).mono ?_); clear hp; rintro e w1 ⟨rfl, hp⟩; rw [HB2.out])) | (go_at_call 111; (with_reducible refine (swap111 hp hl' HJ.out HM.out).mono ?_); clear hp; rintro e w1 ⟨rfl, hp⟩))
          go_ret
          exact ⟨_, l', rfl, hp, HDD.out⟩
      · have HB2 := Lib.hid hq
        have HDN := Lib.hid (HD.out.sink hij HMC.out (lessB_iff.1 hq) hll.out)
        clear hq HD
        rcases HW.out with ⟨h2, h3, rfl⟩ | ⟨h2, h3, rfl⟩ | ⟨h2, rfl⟩
        · have HB1 := Lib.hid h3
          have h2l : m < l'.length := by have := hll.out; omega
          have H2 := Lib.hid (gB_get h2l)
          have e3 : decide ((m : Int) < (n : Int)) = true := by simp; omega
          have e3' : decide (m < n) = true := decide_eq_true h2
          clear h3 h2l HW HMC
          go_wp2_with (first | (go_at_call 108; first | ((with_reducible refine (less108 hp hl' H2.out H1.out).mono ?_); clear hp; rintro e w1 ⟨rfl, hp⟩; rw [HB1.out]) | ((with_reducible refine (less108 hp hl' HM.out HJ.out).mono ?_); clear hp; rintro e w1 ⟨rfl, hp⟩; rw [HB2.out])) | (go_at_call 111; (with_reducible refine (swap111 hp hl' HJ.out HM.out).mono ?_); clear hp; rintro e w1 ⟨rfl, hp⟩))
          go_roundg (n - m)
          case measure => have := HKJ.out; omega
          case rel => exact ⟨m, _, by have := HKJ.out; omega, rfl, by omega, HDN, hp⟩
        · have HB1 := Lib.hid h3
          have h2l : b2 < l'.length := by have := hll.out; omega
          have H2 := Lib.hid (gB_get h2l)
          have e3 : decide ((b2 : Int) < (n : Int)) = true := by simp; omega
          have e3' : decide (b2 < n) = true := decide_eq_true h2
          clear h3 h2l HW HMC
          go_wp2_with (first | (go_at_call 108; first | ((with_reducible refine (less108 hp hl' H2.out H1.out).mono ?_); clear hp; rintro e w1 ⟨rfl, hp⟩; rw [HB1.out]) | ((with_reducible refine (less108 hp hl' HM.out HJ.out).mono ?_); clear hp; rintro e w1 ⟨rfl, hp⟩; rw [HB2.out])) | (go_at_call 111; (with_reducible refine (swap111 hp hl' HJ.out HM.out).mono ?_); clear hp; rintro e w1 ⟨rfl, hp⟩))
          go_roundg (n - m)
          case measure => have := HKJ.out; omega
          case rel => exact ⟨m, _, by have := HKJ.out; omega, rfl, by omega, HDN, hp⟩
        · have e3 : decide ((b2 : Int) < (n : Int)) = false := by simp; omega
          have e3' : decide (b2 < n) = false := decide_eq_false h2
          clear HW HMC
          go_wp2_with (first | (go_at_call 108; first | ((with_reducible refine (less108 hp hl' H2.out H1.out).mono ?_); clear hp; rintro e w1 ⟨rfl, hp⟩; rw [HB1.out]) | ((with_reducible refine (less108 hp hl' HM.out HJ.out).mono ?_); clear hp; rintro e w1 ⟨rfl, hp⟩; rw [HB2.out])) | (go_at_call 111; (with_reducible refine (swap111 hp hl' HJ.out HM.out).mono ?_); clear hp; rintro e w1 ⟨rfl, hp⟩))
          go_roundg (n - m)
          case measure => have := HKJ.out; omega
          case rel => exact ⟨m, _, by have := HKJ.out; omega, rfl, by omega, HDN, hp⟩
def Upped (B : Nat) (w0 : World) (bb g cap : Nat) (l : List Bl) (M : List Blk) (e : Ending) (w' : World) : Prop := e = .returned (.tuple #[]) ∧ ∃ l', QHp B w0 w' bb g cap l' M ∧ l'.Perm l
set_option maxRecDepth 100000 in
set_option maxHeartbeats 4000000 in
theorem up76 {B : Nat} {w0 w : World} {bb g cap : Nat} {l : List Bl} {M : List Blk} (hp : QHp B w0 w bb g cap l M) (hl : l.length ≤ 2000) {j0 : Nat} (hj : j0 < l.length) :
    Calls Try.prog 76 #[.iface 106 (.agg #[.pointer (some ⟨bb, 0, none⟩)]), .int .i64 j0] w (Upped B w0 bb g cap l M) := by
  have mls := meth_less bb
  have msw := meth_swap bb
  have els := ent_less
  have esw := ent_swap
  have HLL : RowKit.Hid (l.length ≤ 2000) := Lib.hid hl
  clear hl
  go_enter Try.func76, Try.ntmps76
  go_wp2_with fail
  go_loopg [1] j0 (fun k i wr => ∃ (l' : List Bl), i = .int .i64 k ∧ k < l'.length ∧ RowKit.Hid (l'.Perm l) ∧ QHp B w0 wr bb g cap l' M)
  case atStart => exact ⟨l, rfl, hj, Lib.hid (List.Perm.refl _), hp⟩
  case round =>
    clear hp hj
    obtain ⟨l', rfl, hjl, HP, hp⟩ := hrel
    have hl' : l'.length ≤ 2000 := by rw [HP.out.length_eq]; exact HLL.out
    rcases Nat.eq_zero_or_pos gk with h0 | h0
    · subst h0
      have e0 : (-1 : Int).tdiv 2 = 0 := by decide
      have e1 : wrap64 (-1) = -1 := IntWalk.wrap64_in _ ⟨by omega, by omega⟩
      have e2 : wrap64 0 = 0 := IntWalk.wrap64_in _ ⟨by omega, by omega⟩
      go_wp2_with fail
      refine bodyPost_end (results_none Try.results76 _ _ _) rfl ⟨rfl, l', hp, HP.out⟩
    · obtain ⟨j, hj⟩ : ∃ j, j = gk := ⟨_, rfl⟩
      rw [← hj] at hjl h0 ⊢
      obtain ⟨p, hpp⟩ : ∃ p : Nat, p = j - 1 := ⟨_, rfl⟩
      obtain ⟨i, hi⟩ : ∃ i : Nat, i = p / 2 := ⟨_, rfl⟩
      have hij : i < j := by omega
      have hil : i < l'.length := by omega
      have ew1 : wrap64 ((j : Int) - 1) = (p : Int) := by rw [IntWalk.wrap64_in _ ⟨by omega, by omega⟩]; omega
      have ew2 : (p : Int).tdiv 2 = (i : Int) := by rw [Int.tdiv_eq_ediv_of_nonneg (by omega)]; omega
      have ew3 : wrap64 (i : Int) = (i : Int) := IntWalk.wrap64_in _ ⟨by omega, by omega⟩
      have e1 : ((i : Int) == (j : Int)) = false := by simp; omega
      have e1' : (i == j) = false := by simp; omega
      have HJ := Lib.hid (gB_get hjl)
      have HI := Lib.hid (gB_get hil)
      have HIJ : RowKit.Hid (i < gk ∧ i < l'.length) := Lib.hid ⟨by omega, hil⟩
      clear hpp hi hij hil hjl h0
      have HJG := Lib.hid hj
      clear hj
      cases hq : lessB (gB l' j) (gB l' i)
      · have HB := Lib.hid hq
        clear hq
        go_wp2_with (first | (go_at_call 108; (with_reducible refine (less108 hp hl' HJ.out HI.out).mono ?_); clear hp; rintro e w1 ⟨rfl, hp⟩; rw [HB.out]) | (go_at_call 111; (with_reducible refine (swap111 hp hl' HI.out HJ.out).mono ?_); clear hp; rintro e w1 ⟨rfl, hp⟩))
        refine bodyPost_end (results_none Try.results76 _ _ _) rfl ⟨rfl, l', hp, HP.out⟩
      · have HB := Lib.hid hq
        have HPS := Lib.hid ((swapL_perm HI.out HJ.out).trans HP.out)
        clear hq
        go_wp2_with (first | (go_at_call 108; (with_reducible refine (less108 hp hl' HJ.out HI.out).mono ?_); clear hp; rintro e w1 ⟨rfl, hp⟩; rw [HB.out]) | (go_at_call 111; (with_reducible refine (swap111 hp hl' HI.out HJ.out).mono ?_); clear hp; rintro e w1 ⟨rfl, hp⟩))
        go_roundg i
        case measure => exact HIJ.out.1
        case rel => exact ⟨_, rfl, by rw [swapL_len]; exact HIJ.out.2, HPS, hp⟩
end Go.Proofs.Ytcjbepaclbhjaaa
namespace Go.Proofs.Ytcjbepaclbhjaaa
open Go.RowKit Go.Shelf
def Inited (B : Nat) (w0 : World) (bb g cap : Nat) (l : List Bl) (M : List Blk) (e : Ending) (w' : World) : Prop := e = .returned (.tuple #[]) ∧ ∃ l', QHp B w0 w' bb g cap l' M ∧ l'.Perm l ∧ HeapF l' l'.length 0
set_option maxRecDepth 100000 in
set_option maxHeartbeats 4000000 in
theorem init74 {B : Nat} {w0 w : World} {bb g cap : Nat} {l : List Bl} {M : List Blk} (hp : QHp B w0 w bb g cap l M) (hl : l.length ≤ 2000) : Calls Try.prog 74 #[.iface 106 (.agg #[.pointer (some ⟨bb, 0, none⟩)])] w (Inited B w0 bb g cap l M) := by
  have mln := meth_len bb
  have eln := ent_len
  have HLL : RowKit.Hid (l.length ≤ 2000) := Lib.hid hl
  obtain ⟨n, hn⟩ : ∃ n, n = l.length := ⟨_, rfl⟩
  obtain ⟨h, hh⟩ : ∃ h : Nat, h = n / 2 := ⟨_, rfl⟩
  have ew1 : (n : Int).tdiv 2 = (h : Int) := by rw [Int.tdiv_eq_ediv_of_nonneg (by omega)]; omega
  have ew2 : wrap64 (h : Int) = (h : Int) := IntWalk.wrap64_in _ ⟨by omega, by omega⟩
  have ew3 : wrap64 ((h : Int) - 1) = (h : Int) - 1 := IntWalk.wrap64_in _ ⟨by omega, by omega⟩
  have HN := Lib.hid hn
  have HH := Lib.hid hh
  unfold QHp at hp
  rw [← hn] at hp
  clear hn hh hl
  go_enter Try.func74, Try.ntmps74
  go_wp2_with (first | (go_at_call 107; (with_reducible refine (len107 hp).mono ?_); clear hp; rintro e w1 ⟨rfl, hp⟩))
  have hp' : QHp B w0 w1 bb g cap l M := by unfold QHp; rw [← HN.out]; exact hp
  have EW3 := Lib.hid ew3
  clear hp ew1 ew2 ew3
  go_loopg [3] h (fun k i wr => ∃ (l' : List Bl), i = .int .i64 ((k : Int) - 1) ∧ k ≤ h ∧ RowKit.Hid (l'.Perm l ∧ HeapF l' n k) ∧ QHp B w0 wr bb g cap l' M)
  case atStart => exact ⟨l, congrArg (Value.int .i64) EW3.out, Nat.le_refl _, Lib.hid ⟨List.Perm.refl _, HeapF.high (by have := HH.out; omega)⟩, hp'⟩
  case round =>
    clear hp'
    obtain ⟨l', rfl, hkh, HP, hp⟩ := hrel
    have hl' : l'.length ≤ 2000 := by rw [HP.out.1.length_eq]; exact HLL.out
    have hnl : RowKit.Hid (n ≤ l'.length) := Lib.hid (by rw [HP.out.1.length_eq, HN.out]; exact Nat.le_refl _)
    rcases Nat.eq_zero_or_pos gk with h0 | h0
    · subst h0
      have e1 : decide ((0 : Int) ≤ -1) = false := by decide
      go_wp2_with fail
      refine bodyPost_end (results_none Try.results74 _ _ _) rfl ⟨rfl, l', hp, HP.out.1, ?_⟩
      have h1 := HP.out.2
      have h2 : l'.length = n := by rw [HP.out.1.length_eq, HN.out]
      rw [h2]; exact h1
    · obtain ⟨p, hpk⟩ : ∃ p, gk = p + 1 := ⟨gk - 1, by omega⟩
      have ei : (gk : Int) - 1 = (p : Int) := by omega
      rw [ei]
      have e1 : (0 : Int) ≤ (p : Int) := by omega
      have hpn : RowKit.Hid (p ≤ n) := Lib.hid (by have := HH.out; omega)
      have ew3 : wrap64 ((p : Int) - 1) = (p : Int) - 1 := IntWalk.wrap64_in _ ⟨by omega, by have := hpn.out; have := hnl.out; omega⟩
      have HPK := Lib.hid hpk
      have HKH := Lib.hid hkh
      have EW4 := Lib.hid ew3
      clear hpk ei h0 hkh
      go_wp2_with (first | (go_at_call 75; (with_reducible refine (down75 hp hl' hpn.out hnl.out).mono ?_); clear hp; rintro e w1 ⟨rb, l2, rfl, hp, hdd⟩; have HDD := Lib.hid hdd; clear hdd))
      go_roundg p
      case measure => have := HPK.out; omega
      case rel => exact ⟨l2, congrArg (Value.int .i64) EW4.out, by have := HPK.out; have := HKH.out; omega, Lib.hid ⟨HDD.out.perm.trans HP.out.1, HDD.out.heap (by have h := HP.out.2; rw [HPK.out] at h; exact h)⟩, hp⟩
theorem Qhp_of {B : Nat} {w0 w : World} {bb g cap n m : Nat} {l : List Bl} {x : Bl} {M : List Blk} (hn : n = l.length) (hm : m = n + 1) (hp : Hp B w0 w (⟨bb, [.slice (some ⟨g, 0, none⟩) m cap], 112, 1⟩ :: ⟨g, (l ++ [x]).flatMap blV, 45, cap * 2⟩ :: M)) : QHp B w0 w bb g cap (l ++ [x]) M := by
  unfold QHp
  rw [List.length_append, List.length_singleton, ← hn, ← hm]
  exact hp
def HPushed (B : Nat) (w0 : World) (bb : Nat) (l : List Bl) (M : List Blk) (e : Ending) (w' : World) : Prop := e = .returned (.tuple #[]) ∧ ∃ g cap l', QHp B w0 w' bb g cap l' M ∧ l'.Perm l ∧ l'.length ≤ cap ∧ cap ≤ maxLen
set_option maxRecDepth 100000 in
set_option maxHeartbeats 4000000 in
theorem hpush62 {B : Nat} {w0 w : World} {bb g cap : Nat} {l : List Bl} {M : List Blk} (hp : QHp B w0 w bb g cap l M) (hl : l.length ≤ 1900) (hcap0 : l.length ≤ cap) (hmax0 : cap ≤ maxLen) (x : Bl) :
    Calls Try.prog 62 #[.iface 106 (.agg #[.pointer (some ⟨bb, 0, none⟩)]), .iface 45 (.agg #[.int .i64 x.p, .int .i64 x.o])] w (HPushed B w0 bb (l ++ [x]) M) := by
  have mln := meth_len bb
  have eln := ent_len
  have mps := meth_push bb
  have eps := ent_push
  have hcap := Lib.hid hcap0
  have hmax := Lib.hid hmax0
  obtain ⟨n, hn⟩ : ∃ n, n = l.length := ⟨_, rfl⟩
  obtain ⟨m, hm⟩ : ∃ m, m = n + 1 := ⟨_, rfl⟩
  have ew : wrap64 ((m : Int) - 1) = (n : Int) := by rw [IntWalk.wrap64_in _ ⟨by omega, by omega⟩]; omega
  have HL2 : RowKit.Hid ((l ++ [x]).length ≤ 2000) := Lib.hid (by simp; omega)
  have HJ : RowKit.Hid (n < (l ++ [x]).length) := Lib.hid (by simp; omega)
  have HN := Lib.hid hn
  have HM := Lib.hid hm
  have hl : l.length ≤ 2000 := by omega
  clear hn hm hcap0 hmax0
  go_enter Try.func62, Try.ntmps62
  go_wp2_with (first | (go_at_call 110; (with_reducible refine (push110 hp hl hcap.out hmax.out x).mono ?_); clear hp; rintro e w1 ⟨rfl, g', cap', hp, hc1, hc2⟩; have HC := Lib.hid (And.intro hc1 hc2); clear hc1 hc2; unfold QHp at hp; rw [List.length_append, List.length_singleton, ← HN.out, ← HM.out] at hp) | (go_at_call 107; (with_reducible refine (len107 hp).mono ?_); clear hp; rintro e w1 ⟨rfl, hp⟩) | (go_at_call 76; (with_reducible refine (up76 (Qhp_of HN.out HM.out hp) HL2.out HJ.out).mono ?_); clear hp; rintro e w1 ⟨rfl, l2, hp, hperm⟩))
  refine bodyPost_end (results_none Try.results62 _ _ _) rfl ⟨rfl, g', cap', l2, hp, hperm, ?_, HC.out.2⟩
  rw [hperm.length_eq]; exact HC.out.1
def HPopped (B : Nat) (w0 : World) (bb g cap : Nat) (l : List Bl) (M : List Blk) (e : Ending) (w' : World) : Prop := ∃ l', e = .returned (.iface 45 (.agg #[.int .i64 (gB l 0).p, .int .i64 (gB l 0).o])) ∧ QHp B w0 w' bb g cap l' M ∧ (l' ++ [gB l 0]).Perm l
theorem last_of {l : List Bl} {n : Nat} (h : l.length = n + 1) : ∃ l', l = l' ++ [gB l n] ∧ l'.length = n := by
  refine ⟨l.take n, ?_, by rw [List.length_take]; omega⟩
  have h1 := gB_get (l := l) (k := n) (by omega)
  have h2 := List.take_append_drop n l
  rw [List.drop_eq_getElem_cons (by omega), List.drop_eq_nil_of_le (by omega)] at h2
  rw [List.getElem?_eq_getElem (by omega)] at h1
  injection h1 with h1
  rw [← h1]; exact h2.symm
theorem swap0111 {B : Nat} {w0 w : World} {bb g cap : Nat} {l : List Bl} {M : List Blk} (hp : QHp B w0 w bb g cap l M) (hl : l.length ≤ 2000) {k : Nat} {x y : Bl} (hx : l[0]? = some x) (hy : l[k]? = some y) :
    Calls Try.prog 111 #[.pointer (some ⟨bb, 0, none⟩), .int .i64 0, .int .i64 k] w fun e w' => e = .returned (.tuple #[]) ∧ QHp B w0 w' bb g cap (swapL l 0 k x y) M := swap111 hp hl (i := 0) hx hy
theorem down075 {B : Nat} {w0 w : World} {bb g cap : Nat} {l : List Bl} {M : List Blk} (hp : QHp B w0 w bb g cap l M) (hl : l.length ≤ 2000) {n : Nat} (hn : n ≤ l.length) :
    Calls Try.prog 75 #[.iface 106 (.agg #[.pointer (some ⟨bb, 0, none⟩)]), .int .i64 0, .int .i64 n] w (DownPost B w0 bb g cap l M n 0) := down75 hp hl (i0 := 0) (Nat.zero_le n) hn
theorem Qhp_eq {B : Nat} {w0 w : World} {bb g cap m : Nat} {l : List Bl} {M : List Blk} (hm : l.length = m) (hp : Hp B w0 w (⟨bb, [.slice (some ⟨g, 0, none⟩) m cap], 112, 1⟩ :: ⟨g, l.flatMap blV, 45, cap * 2⟩ :: M)) : QHp B w0 w bb g cap l M := by
  unfold QHp
  rw [hm]; exact hp
set_option maxRecDepth 100000 in
set_option maxHeartbeats 4000000 in
theorem hpop61 {B : Nat} {w0 w : World} {bb g cap : Nat} {l : List Bl} {M : List Blk} (hp : QHp B w0 w bb g cap l M) (hl : l.length ≤ 2000) (hpos : 0 < l.length) (hcap0 : l.length ≤ cap) :
    Calls Try.prog 61 #[.iface 106 (.agg #[.pointer (some ⟨bb, 0, none⟩)])] w (HPopped B w0 bb g cap l M) := by
  have mln := meth_len bb
  have eln := ent_len
  have msw := meth_swap bb
  have esw := ent_swap
  have mpo := meth_pop bb
  have epo := ent_pop
  obtain ⟨n, hn⟩ : ∃ n, l.length = n + 1 := ⟨l.length - 1, by omega⟩
  obtain ⟨m, hm⟩ : ∃ m, m = n + 1 := ⟨_, rfl⟩
  rw [← hm] at hn
  have HN := Lib.hid hn
  have ew : wrap64 ((m : Int) - 1) = (n : Int) := by rw [IntWalk.wrap64_in _ ⟨by omega, by omega⟩]; omega
  have HCP : RowKit.Hid (n + 1 ≤ cap) := Lib.hid (by omega)
  have H0 := Lib.hid (gB_get (l := l) (k := 0) hpos)
  have HNN := Lib.hid (gB_get (l := l) (k := n) (by omega))
  have HLS : RowKit.Hid ((swapL l 0 n (gB l 0) (gB l n)).length ≤ 2000) := Lib.hid (by rw [swapL_len]; exact hl)
  have HNS : RowKit.Hid (n ≤ (swapL l 0 n (gB l 0) (gB l n)).length) := Lib.hid (by rw [swapL_len]; omega)
  have HGN : RowKit.Hid (gB (swapL l 0 n (gB l 0) (gB l n)) n = gB l 0) := Lib.hid (by rw [gB_swap hpos (by omega), if_pos rfl])
  unfold QHp at hp
  rw [hn] at hp
  have HMM := Lib.hid hm
  have HNE : RowKit.Hid (n ≤ 2000) := Lib.hid (by omega)
  clear hm hn hpos hcap0
  go_enter Try.func61, Try.ntmps61
  go_wp2_with (first | (go_at_call 107; (with_reducible refine (len107 hp).mono ?_); clear hp; rintro e w1 ⟨rfl, hp⟩) | (go_at_call 111; (with_reducible refine (swap0111 (Qhp_eq HN.out hp) hl H0.out HNN.out).mono ?_); clear hp; rintro e w1 ⟨rfl, hp⟩) | (go_at_call 75; (with_reducible refine (down075 hp HLS.out HNS.out).mono ?_); clear hp; rintro e w1 ⟨rb, l2, rfl, hp, hdd⟩; obtain ⟨l3, hl3, hn3⟩ := last_of (l := l2) (n := n) (by rw [hdd.perm.length_eq, swapL_len]; exact HN.out.trans HMM.out); rw [hl3] at hp; have HDD := Lib.hid hdd; have HL3 := Lib.hid hl3; have HN3 := Lib.hid hn3; clear hdd hl3 hn3) | (go_at_call 109; (with_reducible refine (pop109 hp (by have := HN3.out; have := HNE.out; omega) (by have := HN3.out; have := HCP.out; omega)).mono ?_); clear hp; rintro e w1 ⟨rfl, hp⟩))
  go_ret
  have h1 : gB l2 n = gB l 0 := (HDD.out.same n (Nat.le_refl _)).trans HGN.out
  have h2 := HL3.out
  rw [h1] at h2 ⊢
  refine ⟨l3, rfl, hp, ?_⟩
  rw [← h2]
  exact HDD.out.perm.trans (swapL_perm H0.out HNN.out)
end Go.Proofs.Ytcjbepaclbhjaaa
namespace Go.Proofs.Ytcjbepaclbhjaaa
def hv (p o : Int) : Nat → List Bl
  | 0 => []
  | n + 1 => hv p o n ++ [⟨p + pw (o - n - 1), o - n - 1⟩]
theorem hv_len (p o : Int) : ∀ n, (hv p o n).length = n
  | 0 => rfl
  | n + 1 => by rw [hv, List.length_append, hv_len p o n]; rfl
structure LeastT (want : Int) (fs : List Bl) (b : Bl) : Prop where
  mem : b ∈ fs
  great : want ≤ b.o
  least : ∀ y ∈ fs, want ≤ y.o → ¬ LtB y b
structure TakenP (want : Int) (fs : List Bl) (b : Bl) (s : List Bl) : Prop where
  perm : (b :: s).Perm (fs ++ hv b.p b.o (b.o - want).toNat)
  sort : s.Pairwise fun x y => x.p ≤ y.p
def greats (want : Int) (l : List Bl) : List Bl := l.filter fun b => decide (want ≤ b.o)
def smalls (want : Int) (l : List Bl) : List Bl := l.filter fun b => !decide (want ≤ b.o)
theorem gs_perm (want : Int) (l : List Bl) : (greats want l ++ smalls want l).Perm l := List.filter_append_perm _ l
theorem great_pos {want : Int} {l : List Bl} (h : greatB l want = true) : 0 < (greats want l).length := by
  unfold greatB at h
  obtain ⟨x, hx, hw⟩ := List.any_eq_true.1 h
  exact List.length_pos_of_mem (List.mem_filter.2 ⟨hx, hw⟩)
theorem least_of {want : Int} {fs l : List Bl} (hp : l.Perm (greats want fs)) (hh : HeapF l l.length 0) (hl : 0 < l.length) : LeastT want fs (gB l 0) := by
  have hm : gB l 0 ∈ greats want fs := hp.mem_iff.1 (List.mem_of_getElem? (gB_get hl))
  obtain ⟨h1, h2⟩ := List.mem_filter.1 hm
  refine ⟨h1, by simpa using h2, fun y hy hw => ?_⟩
  have hy2 : y ∈ l := hp.mem_iff.2 (List.mem_filter.2 ⟨hy, by simpa using hw⟩)
  obtain ⟨k, hk, rfl⟩ := List.getElem_of_mem hy2
  have := hh.root k hk
  rw [gB_some (List.getElem?_eq_getElem hk)] at this
  exact this
def Splits (want : Int) (fs : List Bl) (b : Bl) (i : Nat) (l : List Bl) : Prop := (b :: l).Perm (greats want fs ++ hv b.p b.o i)
theorem Splits.start {want : Int} {fs l l' : List Bl} (hp : l.Perm (greats want fs)) (h : (l' ++ [gB l 0]).Perm l) : Splits want fs (gB l 0) 0 l' := by
  unfold Splits
  rw [hv, List.append_nil]
  exact (List.perm_append_comm (l₁ := [gB l 0])).trans (h.trans hp)
theorem Splits.step {want : Int} {fs l l' : List Bl} {b : Bl} {i : Nat} (h : Splits want fs b i l) (hp : l'.Perm (l ++ [⟨b.p + pw (b.o - i - 1), b.o - i - 1⟩])) : Splits want fs b (i + 1) l' := by
  unfold Splits at *
  rw [hv, ← List.append_assoc]
  exact (hp.cons b).trans (h.append_right [_])
theorem Splits.len {want : Int} {fs l : List Bl} {b : Bl} {i : Nat} (h : Splits want fs b i l) : l.length + 1 = (greats want fs).length + i := by
  have := h.length_eq
  rw [List.length_append, hv_len, List.length_cons] at this
  exact this
theorem Splits.done {want : Int} {fs l s : List Bl} {b : Bl} (h : Splits want fs b (b.o - want).toNat l) (hs : s.Perm (l ++ smalls want fs)) (hso : s.Pairwise fun x y => x.p ≤ y.p) : TakenP want fs b s := by
  refine ⟨?_, hso⟩
  refine (hs.cons b).trans ?_
  rw [← List.cons_append]
  refine (h.append_right _).trans ?_
  rw [List.append_assoc]
  refine (List.perm_append_comm.append_left _).trans ?_
  rw [← List.append_assoc]
  exact (gs_perm want fs).append_right _
theorem greats_le (want : Int) (l : List Bl) : (greats want l).length ≤ l.length := List.length_filter_le _ _
theorem smalls_le (want : Int) (l : List Bl) : (smalls want l).length ≤ l.length := List.length_filter_le _ _
theorem greats_snoc {want : Int} {l : List Bl} {j : Nat} {y : Bl} (h : l[j]? = some y) (hy : want ≤ y.o) : greats want (l.take (j + 1)) = greats want (l.take j) ++ [y] ∧ smalls want (l.take (j + 1)) = smalls want (l.take j) := by
  rw [List.take_add_one, h]; simp [greats, smalls, hy]
theorem smalls_snoc {want : Int} {l : List Bl} {j : Nat} {y : Bl} (h : l[j]? = some y) (hy : ¬ want ≤ y.o) : smalls want (l.take (j + 1)) = smalls want (l.take j) ++ [y] ∧ greats want (l.take (j + 1)) = greats want (l.take j) := by
  rw [List.take_add_one, h]; simp [greats, smalls, hy]
end Go.Proofs.Ytcjbepaclbhjaaa
namespace Go.Proofs.Ytcjbepaclbhjaaa
open Go.RowKit Go.Lib Go.Shelf Go.Sort
theorem ceTJ0 {ty : TypeId} (h : cellB Try.prog ty = true := by with_reducible first | exact cell3 | exact cell4 | exact cell25 | exact cell104) : cellB Try.prog ty = true := h
theorem agg106 : aggB Try.prog 106 1 = true := by kernel_rfl
theorem agg112 : aggB Try.prog 112 1 = true := by kernel_rfl
theorem zero106 : zeroL Try.prog 106 = some ([.pointer none], 1) := by kernel_rfl
theorem enter77 (args : Array Value) (w : World) : (callFunc 77 args).run Try.prog w = .ok (.enter 77 args) w := enters_of Try.func77 (by kernel_rfl) rfl args w
theorem compares77 : Compares 77 := by
  intro x y W
  have hcon := cmp29 x.p y.p
  generalize cmpI x.p y.p = r at hcon ⊢
  go_enter Try.func77, Try.ntmps77
  go_wp2_with (go_at_call 29; (with_reducible refine (hcon _).mono ?_); rintro e w' ⟨rfl, rfl⟩)
  go_ret
  exact ⟨rfl, 0, _, by rw [alloc_eq_grow, alloc_eq_grow, grow_grow]; rfl⟩
def Rested (B : Nat) (w0 : World) (bb : Nat) (v : Value) (l : List Bl) (M : List Blk) (e : Ending) (w' : World) : Prop := ∃ (s : List Bl) (R : List Blk), e = .returned v ∧ OwnRow 45 2 v l.length (s.flatMap blV) R ∧ Hp B w0 w' (⟨bb, [v], 112, 1⟩ :: (R ++ M)) ∧ s.Perm l ∧ s.Pairwise fun x y => x.p ≤ y.p
theorem Srt_in {B : Nat} {w0 w : World} {b9 : Blk} {bb : Nat} {v : Value} {R M : List Blk} (hp : Hp B w0 w (b9 :: ⟨bb, [v], 112, 1⟩ :: (R ++ M))) : Hp B w0 w (R ++ (⟨bb, [v], 112, 1⟩ :: M)) := hp.tail.reorder List.perm_middle.symm
set_option maxRecDepth 100000 in
set_option maxHeartbeats 4000000 in
theorem rest63 {B : Nat} {w0 w : World} {bb : Nat} {v : Value} {l : List Bl} {R M : List Blk} (hp : Hp B w0 w (⟨bb, [v], 112, 1⟩ :: (R ++ M))) (hR : OwnRow 45 2 v l.length (l.flatMap blV) R) (hl : l.length ≤ 5000) :
    Calls Try.prog 63 #[.agg #[.pointer (some ⟨bb, 0, none⟩)]] w (Rested B w0 bb v l M) := by
  have HR := Lib.hid hR
  clear hR
  go_enter Try.func63, Try.ntmps63
  go_wp2_with (first | (go_at_call 27; (with_reducible refine (sorto27 77 enter77 compares77 l HR.out (Srt_in hp) hl).mono ?_); clear hp; rintro e w1 ⟨rfl, s, R', hperm, hsort, hr, hp⟩) | go_skip | ((first | ((with_reducible refine pre_alloc _ rfl ?_); refine lZ hp rfl (by with_reducible first | exact zero45 | exact zero106) ?_; clear hp; intro b w1 hp) | ((with_reducible refine pre_box _ _ rfl ?_); refine lB hp rfl (slot_tmp rfl) rfl ?_; clear hp; intro b w1 hp) | ((with_reducible refine pre_load _ _ rfl ?_); first | refine lO hp rfl (slot_tmp rfl) ceTJ0 aa14 ?_ | refine lA hp rfl (slot_tmp rfl) (by with_reducible first | exact agg45 | exact agg106 | exact agg112) aa14 ?_) | ((with_reducible refine pre_store _ _ _ rfl ?_); (first | refine sO hp rfl (slot_tmp rfl) ceTJ0 aa14 ?_ | refine sA hp rfl (slot_tmp rfl) (slot_tmp rfl) (by with_reducible first | exact agg45 | exact agg106 | exact agg112) aa14 ?_ | refine sG hp rfl (slot_tmp rfl) (slot_tmp rfl) (by with_reducible first | exact agg45 | exact agg106 | exact agg112) aa14 ?_); clear hp; intro w1 hp; simp only [spl, List.set_cons_zero, List.set_cons_succ] at hp) | ((with_reducible refine pre_build _ _ _ rfl ?_); refine lS hp rfl (by intro w; go_simp; rfl) ?_; clear hp; intro b w1 hp; simp only [List.length_cons, List.length_nil, Nat.reduceAdd] at hp)); simp only [put_some, put_none, List.set_cons_succ, List.set_cons_zero]))
  go_ret
  exact ⟨s, R', rfl, hr, hp.reorder List.perm_middle, hperm, hsort⟩
theorem Keeps.three {B : Nat} {w0 w : World} {L : List Blk} (h : Hp B w0 w L) {i j k : Nat} {p q r : Blk} (hi : L[i]? = some p) (hj : L[j]? = some q) (hk : L[k]? = some r) : Keeps B w0 [p, q, r] w := ⟨L, h, fun s hs => by
  rcases List.mem_cons.1 hs with rfl | hs
  · exact Hp.mem hi
  · rcases List.mem_cons.1 hs with rfl | hs
    · exact Hp.mem hj
    · rw [List.mem_singleton.1 hs]; exact Hp.mem hk⟩
def Queued (w : World) (want : Int) (fs : List Bl) (e : Ending) (w' : World) : Prop := ∃ bb g cap l' vs RS, e = .returned (.tuple #[.agg #[.pointer (some ⟨bb, 0, none⟩)], vs]) ∧ OwnRow 45 2 vs (smalls want fs).length ((smalls want fs).flatMap blV) RS ∧
  QHp w.heap.size w w' bb g cap l' RS ∧ l'.Perm (greats want fs) ∧ HeapF l' l'.length 0 ∧ l'.length ≤ cap ∧ cap ≤ maxLen
theorem Q_in {B : Nat} {w0 w : World} {b6 b4 : Blk} {bb g cap : Nat} {l : List Bl} {RS : List Blk} (hp : Hp B w0 w (b6 :: ⟨bb, [.slice (some ⟨g, 0, none⟩) l.length cap], 112, 1⟩ :: b4 :: ([⟨g, l.flatMap blV, 45, cap * 2⟩] ++ RS))) : QHp B w0 w bb g cap l (b6 :: b4 :: RS) := by
  unfold QHp
  refine hp.reorder ?_
  refine (List.Perm.swap _ _ _).trans (List.Perm.cons _ ?_)
  exact (List.Perm.cons _ (List.Perm.swap _ _ _)).trans (List.Perm.swap _ _ _)
theorem Q_out {B : Nat} {w0 w : World} {b6 b4 : Blk} {bb g cap : Nat} {l : List Bl} {RS : List Blk} (hp : QHp B w0 w bb g cap l (b6 :: b4 :: RS)) : Hp B w0 w (b6 :: b4 :: ⟨bb, [.slice (some ⟨g, 0, none⟩) l.length cap], 112, 1⟩ :: ⟨g, l.flatMap blV, 45, cap * 2⟩ :: RS) := by
  unfold QHp at hp
  refine hp.reorder ?_
  refine ((List.Perm.cons _ (List.Perm.swap _ _ _)).trans (List.Perm.swap _ _ _)).trans (List.Perm.cons _ ?_)
  exact (List.Perm.cons _ (List.Perm.swap _ _ _)).trans (List.Perm.swap _ _ _)
set_option maxRecDepth 100000 in
set_option maxHeartbeats 4000000 in
theorem queued60 (fs : List Bl) (a : Option Addr) (c : Nat) (hl : fs.length ≤ 1000) (want : Int) (hsome : 0 < (greats want fs).length) (w : World) (ha : RowIs w a (fs.flatMap blV)) :
    Calls Try.prog 60 #[.slice a fs.length c, .int .i64 want] w (Queued w want fs) := by
  obtain ⟨i0, hi0, hz0, hz1, hz2⟩ := info_parts info45
  have hp := Hp.start w
  have HA := Lib.hid ha
  clear ha
  go_enter Try.func60, Try.ntmps60
  go_wp2_with (first | go_skip | ((first | ((with_reducible refine pre_alloc _ rfl ?_); refine lZ hp rfl (by with_reducible first | exact zero45 | exact zero106) ?_; clear hp; intro b w1 hp) | ((with_reducible refine pre_box _ _ rfl ?_); refine lB hp rfl (slot_tmp rfl) rfl ?_; clear hp; intro b w1 hp) | ((with_reducible refine pre_load _ _ rfl ?_); first | refine lO hp rfl (slot_tmp rfl) ceTJ0 aa14 ?_ | refine lA hp rfl (slot_tmp rfl) (by with_reducible first | exact agg45 | exact agg106 | exact agg112) aa14 ?_) | ((with_reducible refine pre_store _ _ _ rfl ?_); (first | refine sO hp rfl (slot_tmp rfl) ceTJ0 aa14 ?_ | refine sA hp rfl (slot_tmp rfl) (slot_tmp rfl) (by with_reducible first | exact agg45 | exact agg106 | exact agg112) aa14 ?_ | refine sG hp rfl (slot_tmp rfl) (slot_tmp rfl) (by with_reducible first | exact agg45 | exact agg106 | exact agg112) aa14 ?_); clear hp; intro w1 hp; simp only [spl, List.set_cons_zero, List.set_cons_succ] at hp) | ((with_reducible refine pre_build _ _ _ rfl ?_); refine lS hp rfl (by intro w; go_simp; rfl) ?_; clear hp; intro b w1 hp; simp only [List.length_cons, List.length_nil, Nat.reduceAdd] at hp)); simp only [put_some, put_none, List.set_cons_succ, List.set_cons_zero]))
  obtain ⟨b6, rfl⟩ := hp.id0
  obtain ⟨b5, rfl⟩ := hp.id1
  obtain ⟨bb, rfl⟩ := hp.id2
  obtain ⟨b4, rfl⟩ := hp.id3
  go_loopg [7, 16] fs.length (fun k vs i wr => ∃ (j : Nat) (vq : Value) (RQ RS : List Blk), k + j = fs.length ∧ i = .int .i64 j ∧ RowKit.Hid (OwnRow 45 2 vq (greats want (fs.take j)).length ((greats want (fs.take j)).flatMap blV) RQ) ∧ RowKit.Hid (OwnRow 45 2 vs (smalls want (fs.take j)).length ((smalls want (fs.take j)).flatMap blV) RS) ∧
    Hp w.heap.size w wr (⟨b6, [.pointer (some ⟨bb, 0, none⟩)], 106, 1⟩ :: ⟨bb, [vq], 112, 1⟩ :: ⟨b4, [.pointer none], 106, 1⟩ :: (RQ ++ RS)))
  case atStart =>
    refine ⟨0, _, [], [⟨b5, [], 45, 0⟩], by omega, rfl, Lib.hid (OwnRow.nil _ _), Lib.hid ⟨rfl, .inr ⟨b5, 0, rfl, Nat.le_refl _, Nat.zero_le _, rfl⟩⟩, ?_⟩
    exact hp.reorder (List.Perm.cons _ ((List.Perm.swap _ _ _).trans (List.Perm.cons _ (List.Perm.swap _ _ _))))
  case round =>
    clear hp
    obtain ⟨j, vq, RQ, RS, hkj, rfl, HRQ, HRS, hp⟩ := hrel
    by_cases hlt : j < fs.length
    · obtain ⟨bq, off, rfl, hx⟩ := HA.out.elems 2 blV_len (by omega) (by omega)
      have hj := List.getElem?_eq_getElem hlt
      replace hx := hx j _ hj
      have HJ := Lib.hid hj
      clear hj
      generalize fs[j] = y at hx HJ
      have gl : (greats want (fs.take j)).length ≤ fs.length := Nat.le_trans (List.length_filter_le _ _) (by rw [List.length_take]; omega)
      have sl : (smalls want (fs.take j)).length ≤ fs.length := Nat.le_trans (List.length_filter_le _ _) (by rw [List.length_take]; omega)
      have sm1 : (greats want (fs.take j)).length + 1 ≤ maxLen := by unfold maxLen; omega
      have sm2 : ((greats want (fs.take j)).length + 1) * 16 ≤ 140737488355328 := by omega
      have sm3 : (smalls want (fs.take j)).length + 1 ≤ maxLen := by unfold maxLen; omega
      have sm4 : ((smalls want (fs.take j)).length + 1) * 16 ≤ 140737488355328 := by omega
      clear gl sl
      by_cases hw : want ≤ y.o
      · have HG := Lib.hid (greats_snoc HJ.out hw)
        obtain ⟨yp, yo⟩ := y
        simp only [blV] at hx
        have HX := Lib.hid hx
        have e1 : (0 : Int) ≤ (j : Int) := by omega
        have e2 : (j : Int) < (fs.length : Int) := by omega
        have e3 : decide (want ≤ yo) = true := decide_eq_true hw
        clear hx hw
        go_wp2_with (first | go_skip | ((first | ((with_reducible refine pre_alloc _ rfl ?_); refine lZ hp rfl (by with_reducible first | exact zero45 | exact zero106) ?_; clear hp; intro b w1 hp) | ((with_reducible refine pre_box _ _ rfl ?_); refine lB hp rfl (slot_tmp rfl) rfl ?_; clear hp; intro b w1 hp) | ((with_reducible refine pre_load _ _ rfl ?_); first | refine lO hp rfl (slot_tmp rfl) ceTJ0 aa14 ?_ | refine lA hp rfl (slot_tmp rfl) (by with_reducible first | exact agg45 | exact agg106 | exact agg112) aa14 ?_ | refine lR hp rfl (slot_tmp rfl) (by with_reducible first | exact agg45 | exact agg106 | exact agg112) HX.out ?_) | ((with_reducible refine pre_store _ _ _ rfl ?_); (first | refine sO hp rfl (slot_tmp rfl) ceTJ0 aa14 ?_ | refine sA hp rfl (slot_tmp rfl) (slot_tmp rfl) (by with_reducible first | exact agg45 | exact agg106 | exact agg112) aa14 ?_ | refine sG hp rfl (slot_tmp rfl) (slot_tmp rfl) (by with_reducible first | exact agg45 | exact agg106 | exact agg112) aa14 ?_); clear hp; intro w1 hp; simp only [spl, List.set_cons_zero, List.set_cons_succ] at hp) | ((with_reducible refine pre_build _ _ _ rfl ?_); refine lS hp rfl (by intro w; go_simp; rfl) ?_; clear hp; intro b w1 hp; simp only [List.length_cons, List.length_nil, Nat.reduceAdd] at hp)); simp only [put_some, put_none, List.set_cons_succ, List.set_cons_zero]))
        refine wp_region_keeps [_, _, _] (Keeps.three hp.drew at0 at1 at2) [12] [(0, true), (1, true), (2, true), (3, true), (4, true), (5, true), (6, true), (7, true), (8, false), (9, false), (10, true), (11, true), (12, false)] (by kernel_rfl) (by kernel_rfl) rfl (by kernel_rfl) (fun _ _ d _ _ h => by cases d <;> exact h) ?_
        replace hp := hp.drew
        repeat' (with_reducible refine plan_is ?_); first | (with_reducible refine plan_nil ?_) | ((with_reducible refine plan_t ?_); refine plan_tk rfl ?_; (first | ((with_reducible refine tk_ld _ _ rfl ?_); first | refine tA rfl (slot_tmp rfl) agg45 aa5 ?_ | refine tO rfl (slot_tmp rfl) (by with_reducible first | exact cell25 | exact cell104) aa5 ?_) | refine tG (fun w _ => (by go_simp; try rfl)) ?_); try simp only [put_some, put_none, eval_tmp, eval_const, List.set_cons_succ, List.set_cons_zero, List.getD_cons_succ, List.getD_cons_zero, wrap_eq]) | (refine plan_do rfl (fun K hK => ?_); go_wp2_with (first | ((with_reducible refine pre_append _ _ 25 rfl ?_); refine wpList_appendGrow (K := [_, _, _, _]) (R := RQ) (M := RS) hp _ _ _ rfl wy i0 _ 16 Try.underlying25 hi0 hz0 hz1 hz2 rfl (by decide) (slot_tmp rfl) HRQ.out 1 1 (slot_tmp rfl) (by rfl) (by decide) (by rfl) sm1 sm2 ?_; clear hp HRQ; intro v' R' w1 hr hp; have HRQ := Lib.hid hr; obtain ⟨g', cap', rfl, hc1, hc2, rfl⟩ := hr.cons; simp only [List.cons_append, List.nil_append] at hp; simp only [put_some, put_none, List.set_cons_succ, List.set_cons_zero]) | go_skip | ((first | ((with_reducible refine pre_store _ _ _ rfl ?_); (first | refine sO hp rfl (slot_tmp rfl) ceTJ0 aa14 ?_ | refine sA hp rfl (slot_tmp rfl) (slot_tmp rfl) (by with_reducible first | exact agg45 | exact agg106 | exact agg112) aa14 ?_ | refine sG hp rfl (slot_tmp rfl) (slot_tmp rfl) (by with_reducible first | exact agg45 | exact agg106 | exact agg112) aa14 ?_); clear hp; intro w1 hp; simp only [spl, List.set_cons_zero, List.set_cons_succ] at hp) | ((with_reducible refine pre_build _ _ _ rfl ?_); refine lS hp rfl (by intro w; go_simp; rfl) ?_; clear hp; intro b w1 hp; simp only [List.length_cons, List.length_nil, Nat.reduceAdd] at hp)); simp only [put_some, put_none, List.set_cons_succ, List.set_cons_zero])); (first | refine hK.out _ _ (.inl rfl) ?_ | refine hK.out _ _ (.inr (Keeps.three hp aa5 aa5 aa5)) ?_); clear hK K; try simp only [put_some, put_none, eval_tmp, eval_const, List.set_cons_succ, List.set_cons_zero, List.getD_cons_succ, List.getD_cons_zero, wrap_eq])
        go_wp2_with fail
        go_roundg (gk - 1)
        case measure => omega
        case rel => exact ⟨j + 1, _, _, RS, by omega, by go_num, Lib.hid (by rw [HG.out.1, List.length_append, List.flatMap_append]; exact HRQ.out), Lib.hid (by rw [HG.out.2]; exact HRS.out), hp.tail⟩
      · have HG := Lib.hid (smalls_snoc HJ.out hw)
        obtain ⟨yp, yo⟩ := y
        simp only [blV] at hx
        have HX := Lib.hid hx
        have e1 : (0 : Int) ≤ (j : Int) := by omega
        have e2 : (j : Int) < (fs.length : Int) := by omega
        have e3 : decide (want ≤ yo) = false := decide_eq_false hw
        clear hx hw
        go_wp2_with (first | ((with_reducible refine pre_append _ _ 25 rfl ?_); refine wpList_appendGrow (K := [_, _, _, _]) (R := RS) (M := RQ) (hp.reorder (List.Perm.cons _ (List.Perm.cons _ (List.Perm.cons _ (List.Perm.cons _ (List.Perm.cons _ List.perm_append_comm)))))) _ _ _ rfl wy i0 _ 16 Try.underlying25 hi0 hz0 hz1 hz2 rfl (by decide) (slot_tmp rfl) HRS.out 1 1 (slot_tmp rfl) (by rfl) (by decide) (by rfl) sm3 sm4 ?_; clear hp HRS; intro v' R' w1 hr hp; have HRS := Lib.hid hr; clear hr; simp only [List.cons_append, List.nil_append] at hp; simp only [put_some, put_none, List.set_cons_succ, List.set_cons_zero]) | go_skip | ((first | ((with_reducible refine pre_alloc _ rfl ?_); refine lZ hp rfl (by with_reducible first | exact zero45 | exact zero106) ?_; clear hp; intro b w1 hp) | ((with_reducible refine pre_box _ _ rfl ?_); refine lB hp rfl (slot_tmp rfl) rfl ?_; clear hp; intro b w1 hp) | ((with_reducible refine pre_load _ _ rfl ?_); first | refine lO hp rfl (slot_tmp rfl) ceTJ0 aa14 ?_ | refine lA hp rfl (slot_tmp rfl) (by with_reducible first | exact agg45 | exact agg106 | exact agg112) aa14 ?_ | refine lR hp rfl (slot_tmp rfl) (by with_reducible first | exact agg45 | exact agg106 | exact agg112) HX.out ?_) | ((with_reducible refine pre_store _ _ _ rfl ?_); (first | refine sO hp rfl (slot_tmp rfl) ceTJ0 aa14 ?_ | refine sA hp rfl (slot_tmp rfl) (slot_tmp rfl) (by with_reducible first | exact agg45 | exact agg106 | exact agg112) aa14 ?_ | refine sG hp rfl (slot_tmp rfl) (slot_tmp rfl) (by with_reducible first | exact agg45 | exact agg106 | exact agg112) aa14 ?_); clear hp; intro w1 hp; simp only [spl, List.set_cons_zero, List.set_cons_succ] at hp) | ((with_reducible refine pre_build _ _ _ rfl ?_); refine lS hp rfl (by intro w; go_simp; rfl) ?_; clear hp; intro b w1 hp; simp only [List.length_cons, List.length_nil, Nat.reduceAdd] at hp)); simp only [put_some, put_none, List.set_cons_succ, List.set_cons_zero]))
        go_roundg (gk - 1)
        case measure => omega
        case rel => exact ⟨j + 1, vq, RQ, _, by omega, by go_num, Lib.hid (by rw [HG.out.2]; exact HRQ.out), Lib.hid (by rw [HG.out.1, List.length_append, List.flatMap_append]; exact HRS.out), (hp.tail).reorder (List.Perm.cons _ (List.Perm.cons _ (List.Perm.cons _ List.perm_append_comm)))⟩
    · have e2 : decide ((j : Int) < (fs.length : Int)) = false := by simp; omega
      rw [List.take_of_length_le (by omega)] at HRQ HRS
      obtain ⟨n, hn⟩ : ∃ n, (greats want fs).length = n + 1 := ⟨(greats want fs).length - 1, by omega⟩
      have hrq := HRQ.out
      rw [hn] at hrq
      obtain ⟨g', cap', rfl, hc1, hc2, rfl⟩ := hrq.cons
      rw [← hn] at hp hc1
      have HC := Lib.hid (And.intro hc1 hc2)
      have HLQ : RowKit.Hid ((greats want fs).length ≤ 2000) := Lib.hid (Nat.le_trans (List.length_filter_le _ _) (by omega))
      clear hrq hc1 hc2 hn hsome
      go_wp2_with (first | (go_at_call 74; (with_reducible refine (init74 (Q_in hp) HLQ.out).mono ?_); clear hp; rintro e w1 ⟨rfl, l2, hq, hperm2, hheap⟩; have hp := Q_out hq; clear hq) | go_skip | ((first | ((with_reducible refine pre_alloc _ rfl ?_); refine lZ hp rfl (by with_reducible first | exact zero45 | exact zero106) ?_; clear hp; intro b w1 hp) | ((with_reducible refine pre_box _ _ rfl ?_); refine lB hp rfl (slot_tmp rfl) rfl ?_; clear hp; intro b w1 hp) | ((with_reducible refine pre_load _ _ rfl ?_); first | refine lO hp rfl (slot_tmp rfl) ceTJ0 aa14 ?_ | refine lA hp rfl (slot_tmp rfl) (by with_reducible first | exact agg45 | exact agg106 | exact agg112) aa14 ?_) | ((with_reducible refine pre_store _ _ _ rfl ?_); (first | refine sO hp rfl (slot_tmp rfl) ceTJ0 aa14 ?_ | refine sA hp rfl (slot_tmp rfl) (slot_tmp rfl) (by with_reducible first | exact agg45 | exact agg106 | exact agg112) aa14 ?_ | refine sG hp rfl (slot_tmp rfl) (slot_tmp rfl) (by with_reducible first | exact agg45 | exact agg106 | exact agg112) aa14 ?_); clear hp; intro w1 hp; simp only [spl, List.set_cons_zero, List.set_cons_succ] at hp) | ((with_reducible refine pre_build _ _ _ rfl ?_); refine lS hp rfl (by intro w; go_simp; rfl) ?_; clear hp; intro b w1 hp; simp only [List.length_cons, List.length_nil, Nat.reduceAdd] at hp)); simp only [put_some, put_none, List.set_cons_succ, List.set_cons_zero]))
      exact bodyPost_ret (results_many (rs := [.cell 4 106, .tmp 5]) Try.results60 (.cell rfl (hp.loadAgg agg106 at1 0 _ (by rfl) (by rfl)) (.tmp rfl .nil))) rfl
        ⟨bb, g', cap', l2, _, RS, rfl, HRS.out, hp.tail.tail, hperm2, hheap, by rw [hperm2.length_eq]; exact HC.out.1, HC.out.2⟩
end Go.Proofs.Ytcjbepaclbhjaaa
namespace Go.Proofs.Ytcjbepaclbhjaaa
open Go.RowKit
theorem gaTK0 {ty : TypeId} {k : Nat} (h : aggB Try.prog ty k = true := by with_reducible first | exact agg45 | exact agg106 | exact agg112) : aggB Try.prog ty k = true := h
theorem ceTK1 {ty : TypeId} (h : cellB Try.prog ty = true := by with_reducible first | exact cell3 | exact cell4 | exact cell25 | exact cell104 | exact cell28) : cellB Try.prog ty = true := h
def TakeNo (w : World) (c : Int) (e : Ending) (w' : World) : Prop := e = .returned (.tuple #[.agg #[.int .i64 0, .int .i64 0], .slice none 0 0, .int .i64 c]) ∧ Below w.heap.size w w'
def TakeOk (w : World) (want : Int) (fs : List Bl) (e : Ending) (w' : World) : Prop := ∃ (b : Bl) (a : Option Addr) (k : Nat) (R : List Blk) (s : List Bl), e = .returned (.tuple #[.agg #[.int .i64 b.p, .int .i64 want], .slice a s.length k, .int .i64 0]) ∧ LeastT want fs b ∧ TakenP want fs b s ∧
  OwnRow 45 2 (.slice a s.length k) s.length (s.flatMap blV) R ∧ Hp w.heap.size w w' R
set_option maxRecDepth 100000 in
set_option maxHeartbeats 4000000 in
theorem take45_arg (order want : Int) (fs : List Bl) (a : Option Addr) (c : Nat) (hl : fs.length ≤ 600) (w : World) (ha : RowIs w a (fs.flatMap blV)) (h : rightB order fs = false ∨ want < 0 ∨ order < want) : Calls Try.prog 45 #[.int .i64 order, .slice a fs.length c, .int .i64 want] w (TakeNo w 1) := by
  have hp := Hp.start w
  have HA := Lib.hid ha
  clear ha
  have hw : (errI (rightB order fs) = 1 ∧ True) ∨ (errI (rightB order fs) = 0 ∧ decide (want < 0) = true) ∨ (errI (rightB order fs) = 0 ∧ decide (want < 0) = false ∧ decide (order < want) = true) := by
    cases hr : rightB order fs with
    | false => exact .inl ⟨rfl, trivial⟩
    | true =>
      right
      by_cases h1 : want < 0
      · exact .inl ⟨rfl, decide_eq_true h1⟩
      · right
        rcases h with h | h | h
        · rw [hr] at h; cases h
        · exact absurd h h1
        · exact ⟨rfl, decide_eq_false h1, decide_eq_true h⟩
  clear h
  rcases hw with ⟨hr, h1⟩ | ⟨hr, h1⟩ | ⟨hr, h1, h2⟩
  all_goals
    have HE := Lib.hid hr
    clear hr
    go_enter Try.func45, Try.ntmps45
    go_wp2_with (first | (go_at_call 23; (with_reducible refine (check23 order fs a c hl _ (HA.out.below hp.below)).mono ?_); rintro e w1 ⟨rfl, hb⟩; rw [HE.out]; replace hp := hp.call hb; clear hb) | go_skip | ((first | ((with_reducible refine pre_alloc _ rfl ?_); refine lZ hp rfl (by with_reducible first | exact zero45 | exact zero106) ?_; clear hp; intro b w1 hp) | ((with_reducible refine pre_box _ _ rfl ?_); refine lB hp rfl (slot_tmp rfl) rfl ?_; clear hp; intro b w1 hp) | ((with_reducible refine pre_load _ _ rfl ?_); first | refine lO hp rfl (slot_tmp rfl) ceTK1 aa14 ?_ | refine lA hp rfl (slot_tmp rfl) gaTK0 aa14 ?_) | ((with_reducible refine pre_store _ _ _ rfl ?_); (first | refine sO hp rfl (slot_tmp rfl) ceTK1 aa14 ?_ | refine sA hp rfl (slot_tmp rfl) (slot_tmp rfl) gaTK0 aa14 ?_ | refine sG hp rfl (slot_tmp rfl) (slot_tmp rfl) gaTK0 aa14 ?_); clear hp; intro w1 hp; simp only [spl, List.set_cons_zero, List.set_cons_succ] at hp) | ((with_reducible refine pre_build _ _ _ rfl ?_); refine lS hp rfl (by intro w; go_simp; rfl) ?_; clear hp; intro b w1 hp; simp only [List.length_cons, List.length_nil, Nat.reduceAdd] at hp)); simp only [put_some, put_none, List.set_cons_succ, List.set_cons_zero]))
    exact bodyPost_ret (results_many (rs := [.cell 6 45, .tmp 7, .tmp 8]) Try.results45 (.cell rfl (hp.loadAgg agg45 at0 0 _ (by rfl) (by rfl)) (.tmp rfl (.tmp rfl .nil)))) rfl ⟨rfl, hp.below⟩
set_option maxRecDepth 100000 in
set_option maxHeartbeats 4000000 in
theorem take45_full (order want : Int) (fs : List Bl) (a : Option Addr) (c : Nat) (hl : fs.length ≤ 600) (w : World) (ha : RowIs w a (fs.flatMap blV)) (hr : rightB order fs = true) (h0 : 0 ≤ want) (h1 : want ≤ order) (hg : greatB fs want = false) : Calls Try.prog 45 #[.int .i64 order, .slice a fs.length c, .int .i64 want] w (TakeNo w 40) := by
  have hp := Hp.start w
  have HA := Lib.hid ha
  have HE : RowKit.Hid (errI (rightB order fs) = 0) := Lib.hid (by rw [hr]; rfl)
  have HM : RowKit.Hid (roomB order fs want = false) := Lib.hid (by simp [roomB, hg])
  have e1 : decide (want < 0) = false := by simp; omega
  have e2 : decide (order < want) = false := by simp; omega
  clear ha hr h0 h1 hg
  go_enter Try.func45, Try.ntmps45
  go_wp2_with (first | (go_at_call 23; (with_reducible refine (check23 order fs a c hl _ (HA.out.below hp.below)).mono ?_); rintro e w1 ⟨rfl, hb⟩; rw [HE.out]; replace hp := hp.call hb; clear hb) | (go_at_call 59; (with_reducible refine (room59 order fs a c hl want _ (HA.out.below hp.below)).mono ?_); rintro e w1 ⟨rfl, hb⟩; rw [HM.out]; replace hp := hp.call hb; clear hb) | go_skip | ((first | ((with_reducible refine pre_alloc _ rfl ?_); refine lZ hp rfl (by with_reducible first | exact zero45 | exact zero106) ?_; clear hp; intro b w1 hp) | ((with_reducible refine pre_box _ _ rfl ?_); refine lB hp rfl (slot_tmp rfl) rfl ?_; clear hp; intro b w1 hp) | ((with_reducible refine pre_load _ _ rfl ?_); first | refine lO hp rfl (slot_tmp rfl) ceTK1 aa14 ?_ | refine lA hp rfl (slot_tmp rfl) gaTK0 aa14 ?_) | ((with_reducible refine pre_store _ _ _ rfl ?_); (first | refine sO hp rfl (slot_tmp rfl) ceTK1 aa14 ?_ | refine sA hp rfl (slot_tmp rfl) (slot_tmp rfl) gaTK0 aa14 ?_ | refine sG hp rfl (slot_tmp rfl) (slot_tmp rfl) gaTK0 aa14 ?_); clear hp; intro w1 hp; simp only [spl, List.set_cons_zero, List.set_cons_succ] at hp) | ((with_reducible refine pre_build _ _ _ rfl ?_); refine lS hp rfl (by intro w; go_simp; rfl) ?_; clear hp; intro b w1 hp; simp only [List.length_cons, List.length_nil, Nat.reduceAdd] at hp)); simp only [put_some, put_none, List.set_cons_succ, List.set_cons_zero]))
  exact bodyPost_ret (results_many (rs := [.cell 6 45, .tmp 7, .tmp 8]) Try.results45 (.cell rfl (hp.loadAgg agg45 at0 0 _ (by rfl) (by rfl)) (.tmp rfl (.tmp rfl .nil)))) rfl ⟨rfl, hp.below⟩
theorem q_hp {B : Nat} {w0 w : World} {bb g cap : Nat} {l : List Bl} {M : List Blk} (h : QHp B w0 w bb g cap l M) : Hp B w0 w (⟨bb, [.slice (some ⟨g, 0, none⟩) l.length cap], 112, 1⟩ :: ⟨g, l.flatMap blV, 45, cap * 2⟩ :: M) := h
theorem q_in2 {B : Nat} {w0 w : World} {x y : Blk} {bb g cap n : Nat} {l : List Bl} {M : List Blk} (hn : n = l.length) (h : Hp B w0 w (x :: y :: ⟨bb, [.slice (some ⟨g, 0, none⟩) n cap], 112, 1⟩ :: ⟨g, l.flatMap blV, 45, cap * 2⟩ :: M)) : QHp B w0 w bb g cap l (x :: y :: M) := by
  subst hn
  unfold QHp
  refine h.reorder ?_
  refine (List.Perm.cons _ ((List.Perm.swap _ _ _).trans (List.Perm.cons _ (List.Perm.swap _ _ _)))).trans ?_
  refine (List.Perm.swap _ _ _).trans (List.Perm.cons _ ?_)
  exact List.Perm.swap _ _ _
theorem q_out2 {B : Nat} {w0 w : World} {x y : Blk} {bb g cap : Nat} {l : List Bl} {M : List Blk} (h : QHp B w0 w bb g cap l (x :: y :: M)) : Hp B w0 w (x :: y :: ⟨bb, [.slice (some ⟨g, 0, none⟩) l.length cap], 112, 1⟩ :: ⟨g, l.flatMap blV, 45, cap * 2⟩ :: M) := by
  unfold QHp at h
  refine h.reorder (List.Perm.symm ?_)
  refine (List.Perm.cons _ ((List.Perm.swap _ _ _).trans (List.Perm.cons _ (List.Perm.swap _ _ _)))).trans ?_
  refine (List.Perm.swap _ _ _).trans (List.Perm.cons _ ?_)
  exact List.Perm.swap _ _ _
theorem Hp.sub {B : Nat} {w0 w : World} {L L' : List Blk} (hp : Hp B w0 w L) (h : L'.Sublist L) : Hp B w0 w L' :=
  ⟨hp.below, hp.size, (h.map _).nodup hp.nodup, fun p hpL => hp.own p (h.subset hpL)⟩
theorem rightB_good2 {od : Int} {fs : List Bl} (h : rightB od fs = true) : 3 ≤ od ∧ od ≤ 8 ∧ Good od fs := by
  unfold rightB regionB at h
  simp only [Bool.and_eq_true, decide_eq_true_eq] at h
  exact ⟨h.1.1, h.1.2, h.2⟩
theorem perm3 {x y z b r : Blk} {M : List Blk} : (x :: y :: z :: b :: r :: M).Perm (b :: r :: x :: y :: z :: M) := by
  have h1 : (x :: y :: z :: b :: r :: M) = [x, y, z] ++ ([b, r] ++ M) := rfl
  have h2 : (b :: r :: x :: y :: z :: M) = [b, r] ++ ([x, y, z] ++ M) := rfl
  rw [h1, h2, ← List.append_assoc, ← List.append_assoc]
  exact List.perm_append_comm.append_right _
theorem q_in3 {B : Nat} {w0 w : World} {x y z : Blk} {bb g cap : Nat} {l : List Bl} {M : List Blk} (h : Hp B w0 w (x :: y :: z :: ⟨bb, [.slice (some ⟨g, 0, none⟩) l.length cap], 112, 1⟩ :: ⟨g, l.flatMap blV, 45, cap * 2⟩ :: M)) : QHp B w0 w bb g cap l (x :: y :: z :: M) := h.reorder perm3
theorem q_out3 {B : Nat} {w0 w : World} {x y z : Blk} {bb g cap : Nat} {l : List Bl} {M : List Blk} (h : QHp B w0 w bb g cap l (x :: y :: z :: M)) : Hp B w0 w (x :: y :: z :: ⟨bb, [.slice (some ⟨g, 0, none⟩) l.length cap], 112, 1⟩ :: ⟨g, l.flatMap blV, 45, cap * 2⟩ :: M) := Hp.reorder h perm3.symm
theorem hpushL62 {B : Nat} {w0 w : World} {x y z : Blk} {bb g cap : Nat} {l : List Bl} {M : List Blk} (hp : Hp B w0 w (x :: y :: z :: ⟨bb, [.slice (some ⟨g, 0, none⟩) l.length cap], 112, 1⟩ :: ⟨g, l.flatMap blV, 45, cap * 2⟩ :: M)) (hl : l.length ≤ 1900) (hcap : l.length ≤ cap ∧ cap ≤ maxLen) (p o : Int) :
    Calls Try.prog 62 #[.iface 106 (.agg #[.pointer (some ⟨bb, 0, none⟩)]), .iface 45 (.agg #[.int .i64 p, .int .i64 o])] w (HPushed B w0 bb (l ++ [⟨p, o⟩]) (x :: y :: z :: M)) := hpush62 (q_in3 hp) hl hcap.1 hcap.2 ⟨p, o⟩
theorem app_bl (want : Int) (l : List Bl) (k : List Bl) : l.flatMap blV ++ k.flatMap blV = (l ++ k).flatMap blV := List.flatMap_append.symm
theorem perm4 {x y z b : Blk} {R M : List Blk} : (x :: y :: z :: b :: (R ++ M)).Perm (b :: (R ++ (x :: y :: z :: M))) := by
  have h1 : (x :: y :: z :: b :: (R ++ M)) = [x, y, z] ++ ([b] ++ (R ++ M)) := rfl
  have h2 : (b :: (R ++ (x :: y :: z :: M))) = [b] ++ (R ++ ([x, y, z] ++ M)) := rfl
  rw [h1, h2, ← List.append_assoc, ← List.append_assoc, ← List.append_assoc, ← List.append_assoc]
  exact ((List.perm_append_comm (l₁ := [x, y, z]) (l₂ := [b])).append_right R |>.trans (by rw [List.append_assoc, List.append_assoc]; exact List.perm_append_comm.append_left _)).append_right M
theorem re_in {B : Nat} {w0 w : World} {x y z : Blk} {bb : Nat} {v : Value} {R M : List Blk} (h : Hp B w0 w (x :: y :: z :: ⟨bb, [v], 112, 1⟩ :: (R ++ M))) : Hp B w0 w (⟨bb, [v], 112, 1⟩ :: (R ++ (x :: y :: z :: M))) := h.reorder perm4
theorem re_out {B : Nat} {w0 w : World} {x y z : Blk} {bb : Nat} {v : Value} {R M : List Blk} (h : Hp B w0 w (⟨bb, [v], 112, 1⟩ :: (R ++ (x :: y :: z :: M)))) : Hp B w0 w (x :: y :: z :: ⟨bb, [v], 112, 1⟩ :: (R ++ M)) := h.reorder perm4.symm
set_option maxRecDepth 100000 in
set_option maxHeartbeats 8000000 in
theorem take45_ok (order want : Int) (fs : List Bl) (a : Option Addr) (c : Nat) (hl : fs.length ≤ 600) (w : World) (ha : RowIs w a (fs.flatMap blV)) (hr : rightB order fs = true) (h0 : 0 ≤ want) (h1 : want ≤ order) (hg : greatB fs want = true) : Calls Try.prog 45 #[.int .i64 order, .slice a fs.length c, .int .i64 want] w (TakeOk w want fs) := by
  obtain ⟨i0, hi0, hz0, hz1, hz2⟩ := info_parts info45
  have hp := Hp.start w
  have HA := Lib.hid ha
  have HE : RowKit.Hid (errI (rightB order fs) = 0) := Lib.hid (by rw [hr]; rfl)
  have HM : RowKit.Hid (roomB order fs want = true) := Lib.hid (by simp [roomB, hg, hr, h0, h1])
  have HGP := Lib.hid (great_pos hg)
  have HRB := Lib.hid hr
  have e1 : decide (want < 0) = false := by simp; omega
  have e2 : decide (order < want) = false := by simp; omega
  have mkq := mkI106
  have mkb := mkI45
  have asb := asB45
  clear ha hr hg
  go_enter Try.func45, Try.ntmps45
  go_wp2_with (first | (go_at_call 23; (with_reducible refine (check23 order fs a c hl _ (HA.out.below hp.below)).mono ?_); rintro e w1 ⟨rfl, hb⟩; rw [HE.out]; replace hp := hp.call hb; clear hb) | (go_at_call 59; (with_reducible refine (room59 order fs a c hl want _ (HA.out.below hp.below)).mono ?_); rintro e w1 ⟨rfl, hb⟩; rw [HM.out]; replace hp := hp.call hb; clear hb) | (go_at_call 60; (with_reducible refine (queued60 fs a c (by omega) want HGP.out _ (HA.out.below hp.below)).mono ?_); rintro e w1 ⟨bb, g, cap, l1, vs, RS, rfl, hos, hq, hperm, hheap, hc1, hc2⟩; replace hp := hp.join (q_hp hq); have HQ := Lib.hid (And.intro hos (And.intro hperm (And.intro hheap (And.intro hc1 hc2)))); have HLQ : RowKit.Hid (l1.length ≤ 2000) := Lib.hid (by rw [hperm.length_eq]; have := greats_le want fs; omega); have HPQ : RowKit.Hid (0 < l1.length) := Lib.hid (by rw [hperm.length_eq]; exact HGP.out); have HCQ := Lib.hid hc1; have HLT := Lib.hid (least_of hperm hheap HPQ.out); clear hos hq hperm hheap hc1 hc2; simp only [List.cons_append, List.nil_append] at hp) | (go_at_call 61; (with_reducible refine (hpop61 (q_in2 rfl hp) HLQ.out HPQ.out HCQ.out).mono ?_); clear hp; rintro e w1 ⟨l2, rfl, hq, hperm⟩; have hp := q_out2 hq; have HPP := Lib.hid hperm; clear hq hperm) | go_skip | ((first | ((with_reducible refine pre_alloc _ rfl ?_); refine lZ hp rfl (by with_reducible first | exact zero45 | exact zero106) ?_; clear hp; intro b w1 hp) | ((with_reducible refine pre_box _ _ rfl ?_); refine lB hp rfl (slot_tmp rfl) rfl ?_; clear hp; intro b w1 hp) | ((with_reducible refine pre_load _ _ rfl ?_); first | refine lO hp rfl (slot_tmp rfl) ceTK1 aa14 ?_ | refine lA hp rfl (slot_tmp rfl) gaTK0 aa14 ?_) | ((with_reducible refine pre_store _ _ _ rfl ?_); (first | refine sO hp rfl (slot_tmp rfl) ceTK1 aa14 ?_ | refine sA hp rfl (slot_tmp rfl) (slot_tmp rfl) gaTK0 aa14 ?_ | refine sG hp rfl (slot_tmp rfl) (slot_tmp rfl) gaTK0 aa14 ?_); clear hp; intro w1 hp; simp only [spl, List.set_cons_zero, List.set_cons_succ] at hp) | ((with_reducible refine pre_build _ _ _ rfl ?_); refine lS hp rfl (by intro w; go_simp; rfl) ?_; clear hp; intro b w1 hp; simp only [List.length_cons, List.length_nil, Nat.reduceAdd] at hp)); simp only [put_some, put_none, List.set_cons_succ, List.set_cons_zero]))
  obtain ⟨b11, rfl⟩ := hp.id0
  obtain ⟨b9, rfl⟩ := hp.id1
  obtain ⟨b6, rfl⟩ := hp.id2
  obtain ⟨hos, hperm, hheap, hc1, hc2⟩ := HQ.out
  have hsp := Splits.start hperm HPP.out
  have hcl : l2.length ≤ cap := by have := HPP.out.length_eq; simp at this; omega
  have hlt := HLT.out
  generalize gB l1 0 = bt at hp hsp hlt ⊢
  have HSP := Lib.hid hsp
  have HLE := Lib.hid hlt
  have HCC := Lib.hid (And.intro hcl hc2)
  have HOS := Lib.hid hos
  obtain ⟨g3, g8, hgood⟩ := rightB_good2 HRB.out
  obtain ⟨ii, hii, hbe⟩ := List.getElem_of_mem hlt.mem
  have hmay := (hgood ii _ (List.getElem?_eq_getElem hii)).1
  rw [hbe] at hmay
  have hwo := hlt.great
  obtain ⟨tp, to⟩ := bt
  obtain ⟨m1, m2, m3, m4, m5, m6⟩ := may_facts g8 hmay
  simp only at hwo
  obtain ⟨N, hN⟩ : ∃ N : Nat, N = (to - want).toNat := ⟨_, rfl⟩
  have HN := Lib.hid hN
  have HNI : RowKit.Hid ((N : Int) = to - want) := Lib.hid (by omega)
  have HMM := Lib.hid (And.intro m1 (And.intro m3 (And.intro m4 m6)))
  clear hos hperm hheap hc1 hc2 hsp hcl hlt HLT HPP HQ HLQ HPQ HCQ hgood hii hbe hmay hwo m1 m2 m3 m4 m5 m6 hN g3 g8
  go_loopg [] N (fun k wr => ∃ (i : Nat) (co : Int) (g cap : Nat) (l2 : List Bl), k + i = N ∧ RowKit.Hid (co = to - i) ∧ RowKit.Hid (Splits want fs ⟨tp, to⟩ i l2) ∧ RowKit.Hid (l2.length ≤ cap ∧ cap ≤ maxLen) ∧
    Hp w.heap.size w wr (⟨b11, [.int .i64 tp, .int .i64 co], 45, 2⟩ :: ⟨b9, [.pointer (some ⟨bb, 0, none⟩)], 106, 1⟩ :: ⟨b6, [.int .i64 0, .int .i64 0], 45, 2⟩ :: ⟨bb, [.slice (some ⟨g, 0, none⟩) l2.length cap], 112, 1⟩ :: ⟨g, l2.flatMap blV, 45, cap * 2⟩ :: RS))
  case atStart => exact ⟨0, to, g, cap, l2, by omega, Lib.hid (by simp), HSP, HCC, hp⟩
  case round =>
    clear hp HSP HCC
    obtain ⟨i, co, g, cap, l2, hki, HCO, HSP, HCC, hp⟩ := hrel
    by_cases hlt : want < co
    · obtain ⟨nco, hnco⟩ : ∃ n : Int, n = co - 1 := ⟨_, rfl⟩
      have hco := HCO.out
      obtain ⟨m1, m3, m4, m6⟩ := HMM.out
      have h0n : 0 ≤ nco := by omega
      have h8n : nco ≤ 8 := by omega
      have hpw := pw_le h8n
      have hpp := pw_pos nco
      obtain ⟨q, hq⟩ : ∃ q : Int, q = tp + pw nco := ⟨_, rfl⟩
      have ew1 : wrap64 (co - 1) = nco := by rw [IntWalk.wrap64_in _ ⟨by omega, by omega⟩]; omega
      have ew2 : wrap64 (tp + pw nco) = q := by rw [IntWalk.wrap64_in _ ⟨by omega, by have := pw_pos to; omega⟩]; omega
      have e3 : decide (want < co) = true := decide_eq_true hlt
      have HST : RowKit.Hid (q = tp + pw (to - i - 1) ∧ nco = to - i - 1) := Lib.hid (by rw [hq, hnco, hco]; exact ⟨rfl, rfl⟩)
      have HL2 : RowKit.Hid (l2.length ≤ 1900) := Lib.hid (by have h1 := HSP.out.len; have h2 := greats_le want fs; have := HNI.out; omega)
      have HCN : RowKit.Hid (nco = to - ((i + 1 : Nat) : Int)) := Lib.hid (by omega)
      have HKI := Lib.hid hki
      have EW1 := Lib.hid ew1
      have HGK : RowKit.Hid (0 < gk) := Lib.hid (by have := HNI.out; omega)
      clear hnco hq hpw hpp hlt hco m1 m3 m4 m6 hki
      go_wp2_with (first | go_skip | ((first | ((with_reducible refine pre_alloc _ rfl ?_); refine lZ hp rfl (by with_reducible first | exact zero45 | exact zero106) ?_; clear hp; intro b w1 hp) | ((with_reducible refine pre_box _ _ rfl ?_); refine lB hp rfl (slot_tmp rfl) rfl ?_; clear hp; intro b w1 hp) | ((with_reducible refine pre_load _ _ rfl ?_); first | refine lO hp rfl (slot_tmp rfl) ceTK1 aa14 ?_ | refine lA hp rfl (slot_tmp rfl) gaTK0 aa14 ?_) | ((with_reducible refine pre_store _ _ _ rfl ?_); (first | refine sO hp rfl (slot_tmp rfl) ceTK1 aa14 ?_ | refine sA hp rfl (slot_tmp rfl) (slot_tmp rfl) gaTK0 aa14 ?_ | refine sG hp rfl (slot_tmp rfl) (slot_tmp rfl) gaTK0 aa14 ?_); clear hp; intro w1 hp; simp only [spl, List.set_cons_zero, List.set_cons_succ] at hp) | ((with_reducible refine pre_build _ _ _ rfl ?_); refine lS hp rfl (by intro w; go_simp; rfl) ?_; clear hp; intro b w1 hp; simp only [List.length_cons, List.length_nil, Nat.reduceAdd] at hp)); simp only [put_some, put_none, List.set_cons_succ, List.set_cons_zero]))
      refine wp_region_keeps [_, _] (Keeps.two hp.drew at0 at1) [] [(0, true), (1, true), (2, true), (3, true), (4, true), (5, true), (8, true), (9, true), (6, false), (7, true), (10, true), (11, true), (12, false)] (by kernel_rfl) (by kernel_rfl) rfl (by kernel_rfl) (fun _ _ d _ _ h => by cases d <;> exact h) ?_
      replace hp := hp.drew
      repeat' (with_reducible refine plan_is ?_); first | (with_reducible refine plan_nil ?_) | ((with_reducible refine plan_t ?_); refine plan_tk rfl ?_; (first | ((with_reducible refine tk_ld _ _ rfl ?_); first | refine tA rfl (slot_tmp rfl) agg106 aa5 ?_ | refine tO rfl (slot_tmp rfl) cell3 aa5 ?_) | refine tG (fun w _ => (by go_simp; try rfl)) ?_); try simp only [put_some, put_none, eval_tmp, eval_const, List.set_cons_succ, List.set_cons_zero, List.getD_cons_succ, List.getD_cons_zero, wrap_eq]) | (refine plan_do rfl (fun K hK => ?_); go_wp2_with (first | (go_at_call 9; (with_reducible refine (words9 _ h0n h8n _).mono ?_); rintro e w' ⟨rfl, rfl⟩) | (go_at_call 62; (with_reducible refine (hpushL62 hp HL2.out HCC.out _ _).mono ?_); clear hp; rintro e w1 ⟨rfl, g', cap', l3, hq, hperm, hc1, hc2⟩; have hp := q_out3 hq; have HPM := Lib.hid hperm; have HCC' := Lib.hid (And.intro hc1 hc2); clear hq hperm hc1 hc2) | go_skip); (refine hK.out _ _ (.inr (Keeps.two hp aa5 aa5)) ?_); clear hK K; try simp only [put_some, put_none, eval_tmp, eval_const, List.set_cons_succ, List.set_cons_zero, List.getD_cons_succ, List.getD_cons_zero, wrap_eq])
      go_wp2_with fail
      go_roundg (gk - 1)
      case measure => have := HGK.out; omega
      case rel => exact ⟨i + 1, nco, g', cap', l3, by have := HKI.out; have := HGK.out; omega, HCN, Lib.hid (HSP.out.step (by have h := HPM.out; rw [HST.out.1, HST.out.2] at h; exact h)), HCC', by have h := hp; rw [EW1.out] at h; exact h⟩
    · have e3 : decide (want < co) = false := decide_eq_false hlt
      have hiN : i = N := by have := HCO.out; have := HNI.out; omega
      have HCW : RowKit.Hid (co = want) := Lib.hid (by have := HCO.out; have := HNI.out; omega)
      have HIN : RowKit.Hid (i = (to - want).toNat) := Lib.hid (by rw [hiN, HN.out])
      have HR : RowKit.Hid (OwnRow 45 2 (.slice (some ⟨g, 0, none⟩) l2.length cap) l2.length (l2.flatMap blV) [⟨g, l2.flatMap blV, 45, cap * 2⟩]) := Lib.hid ⟨lit_len l2, .inr ⟨g, cap, rfl, HCC.out.1, HCC.out.2, rfl⟩⟩
      obtain ⟨av, kv, rfl, KV⟩ := HOS.out.kept
      have hlen := HSP.out.len
      have hg1 := greats_le want fs
      have hs1 := smalls_le want fs
      have hni := HNI.out
      obtain ⟨m1, m3, m4, m6⟩ := HMM.out
      have sm1 : l2.length + (smalls want fs).length ≤ maxLen := by unfold maxLen; omega
      have sm2 : (l2.length + (smalls want fs).length) * 16 ≤ 140737488355328 := by omega
      have HLS : RowKit.Hid ((l2 ++ smalls want fs).length ≤ 5000) := Lib.hid (by rw [List.length_append]; omega)
      clear hlen hg1 hs1 hni m1 m3 m4 m6 hlt hiN hki
      go_wp2_with (first | go_skip | ((first | ((with_reducible refine pre_alloc _ rfl ?_); refine lZ hp rfl (by with_reducible first | exact zero45 | exact zero106) ?_; clear hp; intro b w1 hp) | ((with_reducible refine pre_box _ _ rfl ?_); refine lB hp rfl (slot_tmp rfl) rfl ?_; clear hp; intro b w1 hp) | ((with_reducible refine pre_load _ _ rfl ?_); first | refine lO hp rfl (slot_tmp rfl) ceTK1 aa14 ?_ | refine lA hp rfl (slot_tmp rfl) gaTK0 aa14 ?_) | ((with_reducible refine pre_store _ _ _ rfl ?_); (first | refine sO hp rfl (slot_tmp rfl) ceTK1 aa14 ?_ | refine sA hp rfl (slot_tmp rfl) (slot_tmp rfl) gaTK0 aa14 ?_ | refine sG hp rfl (slot_tmp rfl) (slot_tmp rfl) gaTK0 aa14 ?_); clear hp; intro w1 hp; simp only [spl, List.set_cons_zero, List.set_cons_succ] at hp) | ((with_reducible refine pre_build _ _ _ rfl ?_); refine lS hp rfl (by intro w; go_simp; rfl) ?_; clear hp; intro b w1 hp; simp only [List.length_cons, List.length_nil, Nat.reduceAdd] at hp)); simp only [put_some, put_none, List.set_cons_succ, List.set_cons_zero]))
      refine wp_region_keeps [_, _] (Keeps.two hp.drew at1 at3) [11] [(0, true), (1, true), (2, true), (3, true), (4, true), (5, true), (6, true), (7, true), (8, false), (9, true), (10, true), (11, false)] (by kernel_rfl) (by kernel_rfl) rfl (by kernel_rfl) (fun _ _ d _ _ h => by cases d <;> exact h) ?_
      replace hp := hp.drew
      repeat' (with_reducible refine plan_is ?_); first | (with_reducible refine plan_nil ?_) | ((with_reducible refine plan_t ?_); refine plan_tk rfl ?_; (first | ((with_reducible refine tk_mv _ rfl ?_); refine tM rfl ?_) | ((with_reducible refine tk_ld _ _ rfl ?_); refine tO rfl (slot_tmp rfl) (by with_reducible first | exact cell25 | exact cell104) aa5 ?_) | refine tG (fun w _ => (by go_simp; try rfl)) ?_); try simp only [put_some, put_none, eval_tmp, eval_const, List.set_cons_succ, List.set_cons_zero, List.getD_cons_succ, List.getD_cons_zero, wrap_eq]) | (refine plan_do rfl (fun K hK => ?_); go_wp2_with (first | ((with_reducible refine pre_append _ _ 25 rfl ?_); refine wpList_appendGrowRow (K := [_, _, _, _]) (R := [_]) (M := RS) hp _ _ _ rfl wy i0 _ 16 Try.underlying25 hi0 hz0 hz1 hz2 rfl (by decide) (slot_tmp rfl) HR.out av (smalls want fs).length kv (slot_tmp rfl) _ (lit_len _) (KV.at hp (by intro p hp2; simp [hp2])) (blsOne _) sm1 sm2 ?_; clear hp HR; intro v' R' w1 hr hp; obtain ⟨a2, k2, rfl, _⟩ := hr.kept; rw [app_bl want] at hr; have HR : RowKit.Hid (OwnRow 45 2 (.slice a2 (l2.length + (smalls want fs).length) k2) (l2 ++ smalls want fs).length ((l2 ++ smalls want fs).flatMap blV) R') := Lib.hid (by rw [List.length_append]; exact hr); clear hr; simp only [List.cons_append, List.nil_append] at hp; simp only [put_some, put_none, List.set_cons_succ, List.set_cons_zero]) | go_skip | (((with_reducible refine pre_store _ _ _ rfl ?_); (first | refine sO hp rfl (slot_tmp rfl) ceTK1 aa14 ?_ | refine sA hp rfl (slot_tmp rfl) (slot_tmp rfl) gaTK0 aa14 ?_ | refine sG hp rfl (slot_tmp rfl) (slot_tmp rfl) gaTK0 aa14 ?_); clear hp; intro w1 hp; simp only [spl, List.set_cons_zero, List.set_cons_succ] at hp); simp only [put_some, put_none, List.set_cons_succ, List.set_cons_zero])); (first | refine hK.out _ _ (.inl rfl) ?_ | refine hK.out _ _ (.inr (Keeps.two hp aa5 aa5)) ?_); clear hK K; try simp only [put_some, put_none, eval_tmp, eval_const, List.set_cons_succ, List.set_cons_zero, List.getD_cons_succ, List.getD_cons_zero, wrap_eq])
      go_wp2_with (first | go_skip | ((first | ((with_reducible refine pre_alloc _ rfl ?_); refine lZ hp rfl (by with_reducible first | exact zero45 | exact zero106) ?_; clear hp; intro b w1 hp) | ((with_reducible refine pre_box _ _ rfl ?_); refine lB hp rfl (slot_tmp rfl) rfl ?_; clear hp; intro b w1 hp) | ((with_reducible refine pre_load _ _ rfl ?_); first | refine lO hp rfl (slot_tmp rfl) ceTK1 aa14 ?_ | refine lA hp rfl (slot_tmp rfl) gaTK0 aa14 ?_) | ((with_reducible refine pre_store _ _ _ rfl ?_); (first | refine sO hp rfl (slot_tmp rfl) ceTK1 aa14 ?_ | refine sA hp rfl (slot_tmp rfl) (slot_tmp rfl) gaTK0 aa14 ?_ | refine sG hp rfl (slot_tmp rfl) (slot_tmp rfl) gaTK0 aa14 ?_); clear hp; intro w1 hp; simp only [spl, List.set_cons_zero, List.set_cons_succ] at hp) | ((with_reducible refine pre_build _ _ _ rfl ?_); refine lS hp rfl (by intro w; go_simp; rfl) ?_; clear hp; intro b w1 hp; simp only [List.length_cons, List.length_nil, Nat.reduceAdd] at hp)); simp only [put_some, put_none, List.set_cons_succ, List.set_cons_zero]))
      refine wp_region_keeps [_, _] (Keeps.two hp.drew at0 at1) [4, 5, 6] [(0, true), (1, true), (2, true), (3, false), (4, false), (5, false), (6, false)] (by kernel_rfl) (by kernel_rfl) rfl (by kernel_rfl) (fun _ _ d _ _ h => by cases d <;> exact h) ?_
      replace hp := hp.drew
      repeat' (with_reducible refine plan_is ?_); first | (with_reducible refine plan_nil ?_) | ((with_reducible refine plan_t ?_); refine plan_tk rfl ?_; (first | ((with_reducible refine tk_mv _ rfl ?_); refine tM rfl ?_) | ((with_reducible refine tk_ld _ _ rfl ?_); refine tA rfl (slot_tmp rfl) (by with_reducible first | exact agg45 | exact agg106) aa5 ?_) | refine tG (fun w _ => (by go_simp; try rfl)) ?_); try simp only [put_some, put_none, eval_tmp, eval_const, List.set_cons_succ, List.set_cons_zero, List.getD_cons_succ, List.getD_cons_zero, wrap_eq]) | (refine plan_do rfl (fun K hK => ?_); go_wp2_with (first | (go_at_call 63; (with_reducible refine (rest63 (re_in hp) HR.out HLS.out).mono ?_); clear hp; rintro e w1 ⟨s, R2, rfl, hr2, hq, hperm, hsort⟩; have hp := re_out hq; have HR2 := Lib.hid (And.intro hr2 (And.intro hperm hsort)); clear hq hr2 hperm hsort) | go_skip | (((with_reducible refine pre_store _ _ _ rfl ?_); (first | refine sO hp rfl (slot_tmp rfl) ceTK1 aa14 ?_ | refine sA hp rfl (slot_tmp rfl) (slot_tmp rfl) gaTK0 aa14 ?_ | refine sG hp rfl (slot_tmp rfl) (slot_tmp rfl) gaTK0 aa14 ?_); clear hp; intro w1 hp; simp only [spl, List.set_cons_zero, List.set_cons_succ] at hp); simp only [put_some, put_none, List.set_cons_succ, List.set_cons_zero])); (first | refine hK.out _ _ (.inl rfl) ?_ | refine hK.out _ _ (.inr (Keeps.two hp aa5 aa5)) ?_); clear hK K; try simp only [put_some, put_none, eval_tmp, eval_const, List.set_cons_succ, List.set_cons_zero, List.getD_cons_succ, List.getD_cons_zero, wrap_eq])
      go_wp2_with fail
      obtain ⟨hr2, hperm, hsort⟩ := HR2.out
      have hsl : s.length = l2.length + (smalls want fs).length := by rw [hperm.length_eq, List.length_append]
      refine bodyPost_ret (results_many (rs := [.cell 6 45, .tmp 7, .tmp 8]) Try.results45 (.cell rfl (hp.loadAgg agg45 at2 0 _ (by rfl) (by rfl)) (.tmp rfl (.tmp rfl .nil)))) rfl ⟨⟨tp, to⟩, a2, k2, R2, s, ?_, HLE.out, ?_, ?_, ?_⟩
      · rw [hsl, HCW.out]; rfl
      · have h := HSP.out
        rw [HIN.out] at h
        exact h.done hperm hsort
      · rw [hsl]; rw [List.length_append] at hr2; exact hr2
      · exact hp.tail.tail.tail.tail.sub (List.sublist_append_left _ _)
end Go.Proofs.Ytcjbepaclbhjaaa

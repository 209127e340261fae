import Derived.Test.YtaafajaadfgaoaaGreatTb2
import Derived.Shelf.SlSortCmp.WholeK
import Derived.Test.YtaafajaadfgaoaaGreatTb0
import Derived.Shelf.SlLaysF0
import Derived.Test.YtaafajaadfgaoaaGreatRows
import Derived.Test.YtaafajaadfgaoaaGreatTb1
import Derived.Shelf.SlSortCmp.NoneTotal
import Derived.Shelf.Abstract
set_option linter.unusedSimpArgs false
set_option linter.unusedVariables false
set_option maxRecDepth 100000
set_option maxHeartbeats 60000000
namespace Go.Proofs.YtaafajaadfgaoaaGreat
open Go.RowKit Go.Lib Go.Shelf Go.Sort
theorem Hp.setCells {B : Nat} {w0 : World} {b : Nat} {t : TypeId} {n : Nat} {L : List Blk} (vs : List Value) : ∀ (w : World) (off : Nat) (l : List Value), Hp B w0 w (⟨b, l, t, n⟩ :: L) →
    Hp B w0 (w.setCells b off vs) (⟨b, spl l off vs, t, n⟩ :: L) := by
  induction vs with
  | nil => intro w off l h; exact h
  | cons v vs ih =>
    intro w off l h
    rw [World.setCells]
    have h1 := h.setCell (i := 0) rfl off v
    exact ih _ _ _ h1
theorem zix (F G : Array Value) (h : F.size = G.size) : setMany F 0 G.toList = G := by
  refine ext_get! (by simp [h]) fun t ht => ?_
  have ht' : t < G.size := by simpa [h] using ht
  rw [get_setMany _ _ _ t (by omega), if_pos (by simp [ht'])]
  simp [ht']
theorem zhi {α : Type} [Inhabited α] (enc : α → List Value) (k : Nat) (hk : ∀ x, (enc x).length = k) (d : Array α) : (flatK enc k d).toList = d.toList.flatMap enc := by
  have hlen : (d.toList.flatMap enc).length = d.size * k := by rw [Zq enc k hk]; simp
  apply List.ext_getElem?
  intro j
  rcases Nat.lt_or_ge j (d.size * k) with hj | hj
  · have k0 : 0 < k := by
        rcases Nat.eq_zero_or_pos k with h | h; · subst h; simp at hj
        · exact h
    have h1 : j / k < d.size := by rw [Nat.div_lt_iff_lt_mul k0]; exact hj
    have h2 : j % k < k := Nat.mod_lt _ k0
    have e1 : d.toList[j / k]? = some d[j / k]! := by rw [getElem!_pos d _ h1]; simp [h1]
    have e2 : (enc d[j / k]!)[j % k]? = some (enc d[j / k]!)[j % k]! := by
      have h3 : j % k < (enc d[j / k]!).length := by rw [hk]; exact h2
      rw [getElem!_pos (enc d[j / k]!) (j % k) h3]; exact List.getElem?_eq_getElem _
    have := zaT enc k hk d.toList (j / k) (j % k) _ _ e1 e2
    rw [Nat.mul_comm, Nat.div_add_mod] at this
    rw [this, ← get_flatK enc k d j hj, getElem!_pos _ j (by simpa using hj)]
    simp [hj]
  · rw [List.getElem?_eq_none (by simpa using hj), List.getElem?_eq_none (by omega)]
theorem Hp.holdsK {α : Type} [Inhabited α] {enc : α → List Value} {k : Nat} (hk : ∀ x, (enc x).length = k) {d : Array α} {B : Nat} {w0 w : World} {b : Nat} {t : TypeId} {n : Nat} {L : List Blk} (hp : Hp B w0 w (⟨b, d.toList.flatMap enc, t, n⟩ :: L)) :
    HoldsK enc k w b 0 d := by
  intro j hj
  have hl : (d.toList.flatMap enc)[j]? = some (id (flatK enc k d)[j]!) := by
    rw [← zhi enc k hk d, getElem!_pos _ j hj]; simp [id]
  rw [Nat.zero_add]
  exact ⟨hp.cell (i := 0) rfl hl, hp.free (i := 0) rfl _⟩
theorem Hp.sorted {α : Type} [Inhabited α] {enc : α → List Value} {k : Nat} (hk : ∀ x, (enc x).length = k) {d d' : Array α} {B : Nat} {w0 w : World} {b : Nat} {t : TypeId} {n m : Nat} {os : Array Obj} {L : List Blk} (hp : Hp B w0 w (⟨b, d.toList.flatMap enc, t, n⟩ :: L)) (hs : d'.size = d.size) :
    Hp B w0 (sortWorldK enc k w b 0 m d' os) (⟨b, d'.toList.flatMap enc, t, n⟩ :: L) := by
  have h1 : Hp B w0 (Sort.ahead w m) (⟨b, d.toList.flatMap enc, t, n⟩ :: L) := hp.drewN m
  have h2 := Hp.holdsK hk h1
  have e : putRowK enc k (Sort.ahead w m) b 0 d' = (Sort.ahead w m).setCells b 0 (d'.toList.flatMap enc) := by
    have h3 := setCells_putRow (Sort.ahead w m) b 0 (flatK enc k d').toList 0 (flatK enc k d) (by simp [hs])
    rw [putRow_self id _ b 0 _ h2, zix _ _ (by simp [hs]), zhi enc k hk d'] at h3
    exact h3.symm
  have h4 := Hp.setCells (d'.toList.flatMap enc) _ 0 _ h1
  rw [zlu _ _ (by rw [Zq enc k hk, Zq enc k hk]; simp [hs]), ← e] at h4
  unfold sortWorldK
  refine h4.call ⟨rfl, rfl, rfl, by simp, fun k hk => ?_⟩
  show (_ ++ os)[k]? = _
  rw [Array.getElem?_append_left hk]
theorem zjU {α : Type} [Inhabited α] {d d' : Array α} (h : PermIn 0 d.size d d') : d'.size = d.size ∧ d'.toList.Perm d.toList := by
  obtain ⟨h1, _, h2⟩ := h
  refine ⟨h1, ?_⟩
  have e1 : d'.extract 0 d.size = d' := by rw [← h1]; simp
  rw [e1] at h2
  simpa using h2
theorem zhw {α : Type} [Inhabited α] {lt : α → α → Bool} {d : Array α} {n : Nat} (hn : d.size = n) (h : SortedIn lt 0 n d) : d.toList.Pairwise fun x y => lt y x = false := by
  rw [List.pairwise_iff_getElem]
  intro i j hi hj hij
  have := h i j (Nat.zero_le _) hij (by simpa [hn] using hj)
  have hi' : i < d.size := by simpa using hi
  have hj' : j < d.size := by simpa using hj
  rw [getElem!_pos d i hi', getElem!_pos d j hj'] at this
  simpa using this
open Go.Shelf Go.Proofs
def zfx : Go.Shelf.Ren := ⟨fun | 6 => 144 | 15 => 199 | 14 => 198 | 28 => 222 | 29 => 223 | 20 => 214 | 21 => 215 | 22 => 216 | 23 => 217 | 24 => 218 | 25 => 219 | 26 => 220 | 27 => 221 | 46 => 240 | 47 => 241 | 48 => 242 | 49 => 243 | 50 => 244 | 57 => 262 | n => n, fun | 22 => 45 | 24 => 124 | 25 => 184 | 3 => 3 | 39 => 216 | 0 => 0 | 53 => 244 | 55 => 192 | 4 => 4 | 46 => 238 | 45 => 237 | 50 => 172 | 5 => 5 | 9 => 9 | 66 => 267 | 70 => 190 | 76 => 288 | 77 => 289 | n => n, fun | n => n⟩
theorem zfY : Go.Proofs.SlLaysF0.n6 Tryz.prog zfx := {
  mixed := by kernel_rfl
  f6 := ⟨Tryz.f144.name, by decide, Tryz.func144.trans (congrArg some (by kernel_rfl))⟩
  f14 := ⟨Tryz.f198.name, by decide, Tryz.func198.trans (congrArg some (by kernel_rfl))⟩
  f15 := Tryz.func199.trans (congrArg some (by kernel_rfl))
  f20 := ⟨Tryz.f214.name, by decide, Tryz.func214.trans (congrArg some (by kernel_rfl))⟩
  f21 := ⟨Tryz.f215.name, by decide, Tryz.func215.trans (congrArg some (by kernel_rfl))⟩
  f22 := ⟨Tryz.f216.name, by decide, Tryz.func216.trans (congrArg some (by kernel_rfl))⟩
  f23 := ⟨Tryz.f217.name, by decide, Tryz.func217.trans (congrArg some (by kernel_rfl))⟩
  f24 := ⟨Tryz.f218.name, by decide, Tryz.func218.trans (congrArg some (by kernel_rfl))⟩
  f25 := ⟨Tryz.f219.name, by decide, Tryz.func219.trans (congrArg some (by kernel_rfl))⟩
  f26 := ⟨Tryz.f220.name, by decide, Tryz.func220.trans (congrArg some (by kernel_rfl))⟩
  f27 := ⟨Tryz.f221.name, by decide, Tryz.func221.trans (congrArg some (by kernel_rfl))⟩
  f28 := Tryz.func222.trans (congrArg some (by kernel_rfl))
  f29 := Tryz.func223.trans (congrArg some (by kernel_rfl))
  f46 := ⟨Tryz.f240.name, by decide, Tryz.func240.trans (congrArg some (by kernel_rfl))⟩
  f47 := Tryz.func241.trans (congrArg some (by kernel_rfl))
  f48 := Tryz.func242.trans (congrArg some (by kernel_rfl))
  f49 := ⟨Tryz.f243.name, by decide, Tryz.func243.trans (congrArg some (by kernel_rfl))⟩
  f50 := ⟨Tryz.f244.name, by decide, Tryz.func244.trans (congrArg some (by kernel_rfl))⟩
  f57 := ⟨Tryz.f262.name, by decide, Tryz.func262.trans (congrArg some (by kernel_rfl))⟩
  t0 := Tryz.underlying0
  a0 := Tryz.isAgg0
  z0 := Tryz.sizeOf0
  v0 := Tryz.zeroValue0
  t3 := Tryz.underlying3
  a3 := Tryz.isAgg3
  z3 := Tryz.sizeOf3
  v3 := Tryz.zeroValue3
  t4 := Tryz.underlying4
  a4 := Tryz.isAgg4
  z4 := Tryz.sizeOf4
  v4 := Tryz.zeroValue4
  t5 := Tryz.underlying5
  a5 := Tryz.isAgg5
  z5 := Tryz.sizeOf5
  v5 := Tryz.zeroValue5
  t9 := Tryz.underlying9
  a9 := Tryz.isAgg9
  z9 := Tryz.sizeOf9
  v9 := Tryz.zeroValue9
  t22 := Tryz.underlying45
  a22 := Tryz.isAgg45
  z22 := Tryz.sizeOf45
  v22 := Tryz.zeroValue45
  t25 := Tryz.underlying184
  a25 := Tryz.isAgg184
  z25 := Tryz.sizeOf184
  v25 := Tryz.zeroValue184
  t39 := Tryz.underlying216
  a39 := Tryz.isAgg216
  z39 := Tryz.sizeOf216
  v39 := Tryz.zeroValue216
  t45 := Tryz.underlying237
  a45 := Tryz.isAgg237
  z45 := Tryz.sizeOf237
  v45 := Tryz.zeroValue237
  t46 := Tryz.underlying238
  a46 := Tryz.isAgg238
  z46 := Tryz.sizeOf238
  v46 := Tryz.zeroValue238
  t50 := Tryz.underlying172
  a50 := Tryz.isAgg172
  z50 := Tryz.sizeOf172
  v50 := Tryz.zeroValue172
  t53 := Tryz.underlying244
  a53 := Tryz.isAgg244
  z53 := Tryz.sizeOf244
  v53 := Tryz.zeroValue244
  t55 := Tryz.underlying192
  a55 := Tryz.isAgg192
  z55 := Tryz.sizeOf192
  v55 := Tryz.zeroValue192
  t66 := Tryz.underlying267
  a66 := Tryz.isAgg267
  z66 := Tryz.sizeOf267
  v66 := Tryz.zeroValue267
  t70 := Tryz.underlying190
  a70 := Tryz.isAgg190
  z70 := Tryz.sizeOf190
  v70 := Tryz.zeroValue190
  t76 := Tryz.underlying288
  a76 := Tryz.isAgg288
  z76 := Tryz.sizeOf288
  v76 := Tryz.zeroValue288
  t77 := Tryz.underlying289
  a77 := Tryz.isAgg289
  z77 := Tryz.sizeOf289
  v77 := Tryz.zeroValue289 }
open Go.RowKit Go.Lib Go.Shelf Go.Sort
instance : Inhabited Bl := ⟨⟨0, 0⟩⟩
def zom (x y : Bl) : Int := zcs x.p y.p
theorem zpa (x y : Bl) : ltOf zom x y = decide (x.p < y.p) := by unfold ltOf zom; simp only [znh]
theorem zpC : SWO (ltOf zom) where
  irrefl x := by rw [zpa]; simp
  trans x y z h1 h2 := by rw [zpa] at *; simp at *; omega
  ntrans x y z h1 h2 := by rw [zpa] at *; simp at *; omega
theorem zoj (x : Bl) (v : Value) (hv : v ∈ blV x) : v.oneCell' = true := by simp [blV] at hv; rcases hv with rfl | rfl <;> rfl
def zew (g : Nat) : Prop := ∀ (x y : Bl) (W : World), Calls Tryz.prog g #[.agg #[.int .i64 x.p, .int .i64 x.o], .agg #[.int .i64 y.p, .int .i64 y.o]] W fun e w' => e = .returned (.int .i64 (zcs x.p y.p)) ∧ ∃ q os', w' = Sort.grow (W.drewN q) os'
def zpd (w : World) (B : Nat) (w0 : World) (L : List Blk) (blk t n : Nat) (d : List Bl) (e : Ending) (w' : World) : Prop :=
  e = .returned (.tuple #[]) ∧ ∃ s : List Bl, s.Perm d ∧ s.Pairwise (fun x y => x.p ≤ y.p) ∧ Hp B w0 w' (⟨blk, s.flatMap blV, t, n⟩ :: L)
theorem znS (g : Nat) (eg : ∀ args w, (callFunc g args).run Tryz.prog w = .ok (.enter g args) w) (hg : zew g) (d : List Bl) (cap : Nat) {B : Nat} {w0 w : World} {blk t n : Nat} {L : List Blk} (hp : Hp B w0 w (⟨blk, d.flatMap blV, t, n⟩ :: L)) (hsz : d.length ≤ 5000) :
    Calls Tryz.prog 144 #[.slice (some ⟨blk, 0, none⟩) d.length cap, .func (.func g) #[] #[]] w (zpd w B w0 L blk t n d) := by
  have hH : HoldsK blV 2 w blk 0 d.toArray := Hp.holdsK (enc := blV) Zk (d := d.toArray) hp
  have hcm : CmpLays Tryz.prog g #[] blV 2 zom blk 0 d.toArray.size w := fun m os dk _ x y => hg x y _
  have hcon := AnyQ.slices_SortFunc zfY 2 Tryz.isAgg124 Tryz.sizeOf124 blV Zk zoj zom zpC g #[] blk 0 cap d.toArray w eg hcm hH (hp.lt (p := ⟨blk, d.flatMap blV, t, n⟩) (by simp)).2 (by simp; omega)
  change Calls Tryz.prog 144 _ _ _ at hcon
  rw [List.size_toArray] at hcon
  refine hcon.mono ?_
  rintro e w' ⟨rfl, d', m, os, h1, h2, rfl⟩
  have h3 := zjU (d := d.toArray) (d' := d') (by rw [List.size_toArray]; exact h1)
  refine ⟨rfl, d'.toList, by simpa using h3.2, ?_, Hp.sorted (enc := blV) Zk (d := d.toArray) hp h3.1⟩
  have h4 := zhw (by simpa using h3.1) h2
  refine h4.imp (fun {a b} h => ?_)
  rw [zpa] at h
  simp at h
  exact h
theorem zhv (p : Option Addr) (cap : Nat) (fv : Value) (w : World) : Calls Tryz.prog 144 #[.slice p 0 cap, fv] w fun e w' => e = .returned (.tuple #[]) ∧ w' = w := by
  have hcon := AnyF.slices_SortFunc_none zfY p cap fv w
  change Calls Tryz.prog 144 _ _ _ at hcon
  exact hcon
def zkh (B : Nat) (w0 : World) (v : Value) (n : Nat) (d : List Bl) (M : List Blk) (e : Ending) (w' : World) : Prop :=
  e = .returned (.tuple #[]) ∧ ∃ (s : List Bl) (R : List Blk), s.Perm d ∧ s.Pairwise (fun x y => x.p ≤ y.p) ∧ zH 124 2 v n (s.flatMap blV) R ∧ Hp B w0 w' (R ++ M)
theorem zjf (g : Nat) (eg : ∀ args w, (callFunc g args).run Tryz.prog w = .ok (.enter g args) w) (hg : zew g) (d : List Bl) {v : Value} {R M : List Blk} (hr : zH 124 2 v d.length (d.flatMap blV) R) {B : Nat} {w0 w : World} (hp : Hp B w0 w (R ++ M)) (hsz : d.length ≤ 5000) :
    Calls Tryz.prog 144 #[v, .func (.func g) #[] #[]] w (zkh B w0 v d.length d M) := by
  obtain ⟨hl, ⟨h0, hv, hx, hR⟩ | ⟨b, cap, hv, h1, h2, hR⟩⟩ := hr
  · subst hv; subst hR
    have hd : d = [] := List.eq_nil_of_length_eq_zero h0
    subst hd
    refine (zhv none 0 _ w).mono ?_
    rintro e w' ⟨rfl, rfl⟩
    exact ⟨rfl, [], [], List.Perm.refl _, List.Pairwise.nil, zH.nil _ _, hp⟩
  · subst hv; subst hR
    refine (znS g eg hg d cap hp hsz).mono ?_
    rintro e w' ⟨rfl, s, h3, h4, hp'⟩
    exact ⟨rfl, s, _, h3, h4, ⟨by rw [Zq blV 2 Zk, h3.length_eq], .inr ⟨b, cap, rfl, h1, h2, rfl⟩⟩, hp'⟩
open Go.RowKit
theorem zb4 {α : Type} {f : α → List Value} (c : Nat) (hf : ∀ x, (f x).length = c) (l : List α) : ∀ i : Nat, (l.flatMap f).drop (i * c) = (l.drop i).flatMap f := by
  induction l with
  | nil => intro i; simp
  | cons x l ih =>
    intro i
    cases i with
    | zero => simp
    | succ i =>
      rw [List.flatMap_cons, List.drop_succ_cons, ← ih i, List.drop_append, hf, show (i + 1) * c - c = i * c by rw [Nat.add_mul]; omega,
        List.drop_eq_nil_of_le (by rw [hf, Nat.add_mul]; omega), List.nil_append]
theorem zak {α : Type} {f : α → List Value} (c : Nat) (hf : ∀ x, (f x).length = c) {l : List α} {i : Nat} {x : α} (h : l[i]? = some x) : ((l.flatMap f).drop (i * c)).take c = f x := by
  obtain ⟨hi, rfl⟩ := List.getElem?_eq_some_iff.1 h
  rw [zb4 c hf, List.drop_eq_getElem_cons hi, List.flatMap_cons, List.take_append_of_le_length (by rw [hf]; omega), List.take_of_length_le (by rw [hf]; omega)]
theorem zmx (l1 l2 l3 vs : List Value) (h : l2.length = vs.length) : spl (l1 ++ (l2 ++ l3)) l1.length vs = l1 ++ (vs ++ l3) := by
  induction vs generalizing l1 l2 with
  | nil => have : l2 = [] := List.eq_nil_of_length_eq_zero (by simpa using h); subst this; rfl
  | cons v vs ih =>
    cases l2 with
    | nil => simp at h
    | cons y l2 =>
      have e : (l1 ++ (y :: l2 ++ l3)).set l1.length v = l1 ++ [v] ++ (l2 ++ l3) := by
        rw [List.cons_append, List.set_append_right _ _ (Nat.le_refl _), Nat.sub_self, List.set_cons_zero, List.append_assoc]; rfl
      show spl ((l1 ++ (y :: l2 ++ l3)).set l1.length v) (l1.length + 1) vs = _
      rw [e, show l1.length + 1 = (l1 ++ [v]).length by simp, ih (l1 ++ [v]) l2 (by simpa using h)]
      simp
theorem ziZ {α : Type} {f : α → List Value} (c : Nat) (hf : ∀ x, (f x).length = c) {l : List α} {i : Nat} {y : α} (h : i < l.length) : spl (l.flatMap f) (i * c) (f y) = (l.set i y).flatMap f := by
  have e1 : l = l.take i ++ (l[i] :: l.drop (i + 1)) := by rw [← List.drop_eq_getElem_cons h, List.take_append_drop]
  have e2 : l.set i y = l.take i ++ (y :: l.drop (i + 1)) := by
    rw [List.set_eq_take_append_cons_drop, if_pos h]
  have e3 : ((l.take i).flatMap f).length = i * c := by rw [Zq f c hf, List.length_take, Nat.min_eq_left (by omega)]
  rw [e2, List.flatMap_append, List.flatMap_cons]
  have e4 : l.flatMap f = (l.take i).flatMap f ++ (f l[i] ++ (l.drop (i + 1)).flatMap f) := by
    rw [← List.flatMap_cons, ← List.flatMap_append, ← e1]
  rw [e4, ← e3, zmx _ _ _ _ (by rw [hf, hf])]
def ze1 (a b : Bl) : Bool := decide (a.o < b.o ∨ (a.o = b.o ∧ a.p < b.p))
def orI (a b : Int) : Int := if a = 0 then b else a
theorem znC (a b : Bl) : decide (orI (zcs a.o b.o) (zcs a.p b.p) < 0) = ze1 a b := by
  unfold orI ze1 zcs
  rw [decide_eq_decide]
  (repeat' split) <;> omega
def zdr (l : List Bl) (i k : Nat) (x y : Bl) : List Bl := (l.set i y).set k x
theorem zd8 {l : List Bl} {i k : Nat} {x y : Bl} (hx : l[i]? = some x) (hy : l[k]? = some y) : (zdr l i k x y).Perm l := by
  obtain ⟨hi, rfl⟩ := List.getElem?_eq_some_iff.1 hx
  obtain ⟨hk, rfl⟩ := List.getElem?_eq_some_iff.1 hy
  unfold zdr
  exact List.set_set_perm hi hk
theorem zcP (l : List Bl) (i k : Nat) (x y : Bl) : (zdr l i k x y).length = l.length := by simp [zdr]
theorem zly {l : List Bl} {i k j : Nat} {x y : Bl} (hx : l[i]? = some x) (hy : l[k]? = some y) : (zdr l i k x y)[j]? = if j = k then some x else if j = i then some y else l[j]? := by
  have hi := (List.getElem?_eq_some_iff.1 hx).1
  have hk := (List.getElem?_eq_some_iff.1 hy).1
  unfold zdr
  rw [List.getElem?_set, List.getElem?_set]
  simp only [List.length_set]
  by_cases h1 : k = j
  · subst h1; simp [hk]
  · rw [if_neg h1, if_neg (Ne.symm h1)]
    by_cases h2 : i = j
    · subst h2; simp [hi]
    · rw [if_neg h2, if_neg (Ne.symm h2)]
open Go.RowKit
theorem ZE : zN Tryz.prog 249 = true := by kernel_rfl
def QHp (B : Nat) (w0 w : World) (bb g cap : Nat) (l : List Bl) (M : List Blk) : Prop := Hp B w0 w (⟨bb, [.slice (some ⟨g, 0, none⟩) l.length cap], 257, 1⟩ :: ⟨g, l.flatMap blV, 124, cap * 2⟩ :: M)
theorem zkV {B : Nat} {w0 w : World} {bb g cap n : Nat} {L : List Blk} (hp : Hp B w0 w (⟨bb, [.slice (some ⟨g, 0, none⟩) n cap], 257, 1⟩ :: L)) :
    Calls Tryz.prog 282 #[.pointer (some ⟨bb, 0, none⟩)] w fun e w' => e = .returned (.int .i64 n) ∧ Hp B w0 w' (⟨bb, [.slice (some ⟨g, 0, none⟩) n cap], 257, 1⟩ :: L) := by
  go_enter Tryz.func282, Tryz.ntmps282
  go_wp2_with (first | go_skip | ((first | ((refine zh _ rfl ?_); refine lZ hp rfl zu ?_; clear hp; intro b w1 hp) | ((refine zi _ _ rfl ?_); refine lB hp rfl (zb rfl) rfl ?_; clear hp; intro b w1 hp) | ((refine zg _ _ rfl ?_); first | refine lO hp rfl (zb rfl) (by with_reducible first | exact zw | exact Zd | exact Zc | exact ZE) aa5 ?_ | refine lA hp rfl (zb rfl) zl aa5 ?_) | ((refine zf _ _ _ rfl ?_); (first | refine sO hp rfl (zb rfl) (by with_reducible first | exact zw | exact Zd | exact Zc | exact ZE) aa5 ?_ | refine sA hp rfl (zb rfl) (zb rfl) zl aa5 ?_ | refine sG hp rfl (zb rfl) (zb rfl) zl aa5 ?_); clear hp; intro w1 hp; simp only [spl, z0a, z0b] at hp) | ((refine zm _ _ _ rfl ?_); refine lS hp rfl (by intro w; go_simp; rfl) ?_; clear hp; intro b w1 hp; simp only [z0g, z0h, Nat.reduceAdd] at hp)); simp only [ze, zd, z0b, z0a]))
  go_ret
  exact ⟨rfl, hp⟩
theorem zpu (a b : Int) {B : Nat} {w0 w : World} {g t n : Nat} {L : List Blk} (hp : Hp B w0 w (⟨g, [.int .i64 a, .int .i64 b], t, n⟩ :: L)) :
    Calls Tryz.prog 287 #[.slice (some ⟨g, 0, none⟩) 2 2] w fun e w' => e = .returned (.int .i64 (orI a b)) ∧ Hp B w0 w' (⟨g, [.int .i64 a, .int .i64 b], t, n⟩ :: L) := by
  go_enter Tryz.func287, Tryz.ntmps287
  go_wp2_with (first | go_skip | ((first | ((refine zh _ rfl ?_); refine lZ hp rfl zu ?_; clear hp; intro b w1 hp) | ((refine zi _ _ rfl ?_); refine lB hp rfl (zb rfl) rfl ?_; clear hp; intro b w1 hp) | ((refine zg _ _ rfl ?_); first | refine lO hp rfl (zb rfl) (by with_reducible first | exact zw | exact Zd | exact Zc | exact ZE) aa5 ?_ | refine lA hp rfl (zb rfl) zl aa5 ?_) | ((refine zf _ _ _ rfl ?_); (first | refine sO hp rfl (zb rfl) (by with_reducible first | exact zw | exact Zd | exact Zc | exact ZE) aa5 ?_ | refine sA hp rfl (zb rfl) (zb rfl) zl aa5 ?_ | refine sG hp rfl (zb rfl) (zb rfl) zl aa5 ?_); clear hp; intro w1 hp; simp only [spl, z0a, z0b] at hp) | ((refine zm _ _ _ rfl ?_); refine lS hp rfl (by intro w; go_simp; rfl) ?_; clear hp; intro b w1 hp; simp only [z0g, z0h, Nat.reduceAdd] at hp)); simp only [ze, zd, z0b, z0a]))
  go_loopg [5, 8] 2 (fun k x i wr => ∃ j : Nat, k + j = 2 ∧ i = .int .i64 j ∧ (0 < j → a = 0) ∧ (1 < j → b = 0) ∧ Hp B w0 wr (⟨g, [.int .i64 a, .int .i64 b], t, n⟩ :: L))
  case atStart => exact ⟨0, by omega, rfl, by omega, by omega, hp⟩
  case round =>
    clear hp
    obtain ⟨j, hkj, rfl, h0, h1, hp⟩ := hrel
    have hj : j = 0 ∨ j = 1 ∨ j = 2 := by omega
    rcases hj with rfl | rfl | rfl
    · clear h0 h1
      by_cases ha : a = 0
      · have HA := z0j ha
        have e0 : (a != 0) = false := by simp [ha]
        clear ha
        go_wp2_with (first | go_skip | ((first | ((refine zh _ rfl ?_); refine lZ hp rfl zu ?_; clear hp; intro b w1 hp) | ((refine zi _ _ rfl ?_); refine lB hp rfl (zb rfl) rfl ?_; clear hp; intro b w1 hp) | ((refine zg _ _ rfl ?_); first | refine lO hp rfl (zb rfl) (by with_reducible first | exact zw | exact Zd | exact Zc | exact ZE) aa5 ?_ | refine lA hp rfl (zb rfl) zl aa5 ?_) | ((refine zf _ _ _ rfl ?_); (first | refine sO hp rfl (zb rfl) (by with_reducible first | exact zw | exact Zd | exact Zc | exact ZE) aa5 ?_ | refine sA hp rfl (zb rfl) (zb rfl) zl aa5 ?_ | refine sG hp rfl (zb rfl) (zb rfl) zl aa5 ?_); clear hp; intro w1 hp; simp only [spl, z0a, z0b] at hp) | ((refine zm _ _ _ rfl ?_); refine lS hp rfl (by intro w; go_simp; rfl) ?_; clear hp; intro b w1 hp; simp only [z0g, z0h, Nat.reduceAdd] at hp)); simp only [ze, zd, z0b, z0a]))
        go_roundg (gk - 1)
        case measure => omega
        case rel => exact ⟨1, by omega, rfl, fun _ => HA.out, by omega, hp⟩
      · have HA : Hid (orI a b = a) := z0j (by simp [orI, ha])
        have e0 : (a != 0) = true := by simp [ha]
        clear ha
        go_wp2_with (first | go_skip | ((first | ((refine zh _ rfl ?_); refine lZ hp rfl zu ?_; clear hp; intro b w1 hp) | ((refine zi _ _ rfl ?_); refine lB hp rfl (zb rfl) rfl ?_; clear hp; intro b w1 hp) | ((refine zg _ _ rfl ?_); first | refine lO hp rfl (zb rfl) (by with_reducible first | exact zw | exact Zd | exact Zc | exact ZE) aa5 ?_ | refine lA hp rfl (zb rfl) zl aa5 ?_) | ((refine zf _ _ _ rfl ?_); (first | refine sO hp rfl (zb rfl) (by with_reducible first | exact zw | exact Zd | exact Zc | exact ZE) aa5 ?_ | refine sA hp rfl (zb rfl) (zb rfl) zl aa5 ?_ | refine sG hp rfl (zb rfl) (zb rfl) zl aa5 ?_); clear hp; intro w1 hp; simp only [spl, z0a, z0b] at hp) | ((refine zm _ _ _ rfl ?_); refine lS hp rfl (by intro w; go_simp; rfl) ?_; clear hp; intro b w1 hp; simp only [z0g, z0h, Nat.reduceAdd] at hp)); simp only [ze, zd, z0b, z0a]))
        go_ret
        exact ⟨zbC HA.out.symm, hp⟩
    · have HA0 := z0j (h0 (by omega))
      have HA : Hid (orI a b = b) := z0j (by simp [orI, h0 (by omega)])
      clear h0 h1
      by_cases hb : b = 0
      · have HB := z0j hb
        have e0 : (b != 0) = false := by simp [hb]
        clear hb
        go_wp2_with (first | go_skip | ((first | ((refine zh _ rfl ?_); refine lZ hp rfl zu ?_; clear hp; intro b w1 hp) | ((refine zi _ _ rfl ?_); refine lB hp rfl (zb rfl) rfl ?_; clear hp; intro b w1 hp) | ((refine zg _ _ rfl ?_); first | refine lO hp rfl (zb rfl) (by with_reducible first | exact zw | exact Zd | exact Zc | exact ZE) aa5 ?_ | refine lA hp rfl (zb rfl) zl aa5 ?_) | ((refine zf _ _ _ rfl ?_); (first | refine sO hp rfl (zb rfl) (by with_reducible first | exact zw | exact Zd | exact Zc | exact ZE) aa5 ?_ | refine sA hp rfl (zb rfl) (zb rfl) zl aa5 ?_ | refine sG hp rfl (zb rfl) (zb rfl) zl aa5 ?_); clear hp; intro w1 hp; simp only [spl, z0a, z0b] at hp) | ((refine zm _ _ _ rfl ?_); refine lS hp rfl (by intro w; go_simp; rfl) ?_; clear hp; intro b w1 hp; simp only [z0g, z0h, Nat.reduceAdd] at hp)); simp only [ze, zd, z0b, z0a]))
        go_roundg (gk - 1)
        case measure => omega
        case rel => exact ⟨2, by omega, rfl, fun _ => HA0.out, fun _ => HB.out, hp⟩
      · have e0 : (b != 0) = true := by simp [hb]
        clear hb
        go_wp2_with (first | go_skip | ((first | ((refine zh _ rfl ?_); refine lZ hp rfl zu ?_; clear hp; intro b w1 hp) | ((refine zi _ _ rfl ?_); refine lB hp rfl (zb rfl) rfl ?_; clear hp; intro b w1 hp) | ((refine zg _ _ rfl ?_); first | refine lO hp rfl (zb rfl) (by with_reducible first | exact zw | exact Zd | exact Zc | exact ZE) aa5 ?_ | refine lA hp rfl (zb rfl) zl aa5 ?_) | ((refine zf _ _ _ rfl ?_); (first | refine sO hp rfl (zb rfl) (by with_reducible first | exact zw | exact Zd | exact Zc | exact ZE) aa5 ?_ | refine sA hp rfl (zb rfl) (zb rfl) zl aa5 ?_ | refine sG hp rfl (zb rfl) (zb rfl) zl aa5 ?_); clear hp; intro w1 hp; simp only [spl, z0a, z0b] at hp) | ((refine zm _ _ _ rfl ?_); refine lS hp rfl (by intro w; go_simp; rfl) ?_; clear hp; intro b w1 hp; simp only [z0g, z0h, Nat.reduceAdd] at hp)); simp only [ze, zd, z0b, z0a]))
        go_ret
        exact ⟨zbC HA.out.symm, hp⟩
    · have HA : Hid (orI a b = 0) := z0j (by simp [orI, h0 (by omega), h1 (by omega)])
      clear h0 h1
      go_wp2_with (first | go_skip | ((first | ((refine zh _ rfl ?_); refine lZ hp rfl zu ?_; clear hp; intro b w1 hp) | ((refine zi _ _ rfl ?_); refine lB hp rfl (zb rfl) rfl ?_; clear hp; intro b w1 hp) | ((refine zg _ _ rfl ?_); first | refine lO hp rfl (zb rfl) (by with_reducible first | exact zw | exact Zd | exact Zc | exact ZE) aa5 ?_ | refine lA hp rfl (zb rfl) zl aa5 ?_) | ((refine zf _ _ _ rfl ?_); (first | refine sO hp rfl (zb rfl) (by with_reducible first | exact zw | exact Zd | exact Zc | exact ZE) aa5 ?_ | refine sA hp rfl (zb rfl) (zb rfl) zl aa5 ?_ | refine sG hp rfl (zb rfl) (zb rfl) zl aa5 ?_); clear hp; intro w1 hp; simp only [spl, z0a, z0b] at hp) | ((refine zm _ _ _ rfl ?_); refine lS hp rfl (by intro w; go_simp; rfl) ?_; clear hp; intro b w1 hp; simp only [z0g, z0h, Nat.reduceAdd] at hp)); simp only [ze, zd, z0b, z0a]))
      go_ret
      exact ⟨zbC HA.out.symm, hp⟩
theorem zov {l : List Bl} {i : Nat} {x : Bl} (h : l[i]? = some x) : (l.flatMap blV)[i * 2]? = some (.int .i64 x.p) := zaT blV 2 Zk l i 0 x _ h rfl
theorem zou {l : List Bl} {i : Nat} {x : Bl} (h : l[i]? = some x) : (l.flatMap blV)[i * 2 + 1]? = some (.int .i64 x.o) := zaT blV 2 Zk l i 1 x _ h rfl
theorem zaV {B : Nat} {w0 w : World} {bb g cap : Nat} {l : List Bl} {M : List Blk} (hp : QHp B w0 w bb g cap l M) (hl : l.length ≤ 2000) {i k : Nat} {x y : Bl} (hx : l[i]? = some x) (hy : l[k]? = some y) :
    Calls Tryz.prog 283 #[.pointer (some ⟨bb, 0, none⟩), .int .i64 i, .int .i64 k] w fun e w' => e = .returned (.bool (ze1 x y)) ∧ QHp B w0 w' bb g cap l M := by
  have hi := (List.getElem?_eq_some_iff.1 hx).1
  have hk := (List.getElem?_eq_some_iff.1 hy).1
  have e1 : (0 : Int) ≤ (i : Int) := by omega
  have e2 : (i : Int) < (l.length : Int) := by omega
  have e3 : (0 : Int) ≤ (k : Int) := by omega
  have e4 : (k : Int) < (l.length : Int) := by omega
  have HXP := z0j (zov hx)
  have HXO := z0j (zou hx)
  have HYP := z0j (zov hy)
  have HYO := z0j (zou hy)
  have HLS := z0j (znC x y)
  clear hx hy hi hk
  unfold QHp at hp ⊢
  generalize l.flatMap blV = xs at hp HXP HXO HYP HYO ⊢
  obtain ⟨xp, xo⟩ := x
  obtain ⟨yp, yo⟩ := y
  simp only at HXP HXO HYP HYO HLS
  go_enter Tryz.func283, Tryz.ntmps283
  go_wp2_with (first | go_skip | ((first | ((refine zh _ rfl ?_); refine lZ hp rfl zu ?_; clear hp; intro b w1 hp) | ((refine zi _ _ rfl ?_); refine lB hp rfl (zb rfl) rfl ?_; clear hp; intro b w1 hp) | ((refine zg _ _ rfl ?_); first | refine lO hp rfl (zb rfl) (by with_reducible first | exact zw | exact Zd | exact Zc | exact ZE) aa5 ?_ | refine lA hp rfl (zb rfl) zl aa5 ?_) | ((refine zf _ _ _ rfl ?_); (first | refine sO hp rfl (zb rfl) (by with_reducible first | exact zw | exact Zd | exact Zc | exact ZE) aa5 ?_ | refine sA hp rfl (zb rfl) (zb rfl) zl aa5 ?_ | refine sG hp rfl (zb rfl) (zb rfl) zl aa5 ?_); clear hp; intro w1 hp; simp only [spl, z0a, z0b] at hp) | ((refine zm _ _ _ rfl ?_); refine lS hp rfl (by intro w; go_simp; rfl) ?_; clear hp; intro b w1 hp; simp only [z0g, z0h, Nat.reduceAdd] at hp)); simp only [ze, zd, z0b, z0a]))
  refine zk _ (zA.all hp.drew) [] [(0, true), (1, true), (2, true), (3, true), (4, true), (5, true), (6, true), (7, true), (8, true), (9, true), (10, true), (11, true), (12, true), (13, true), (14, true), (15, true), (17, true), (18, true), (19, true), (20, true), (21, true), (22, true), (23, true), (24, true), (25, true), (26, true), (27, true), (28, true), (29, true), (30, true), (31, true), (32, true), (16, false), (33, false), (34, false), (35, false), (36, true), (37, false)] (by kernel_rfl) (by kernel_rfl) rfl (by kernel_rfl) (fun _ _ d _ _ h => by cases d <;> exact h) ?_
  replace hp := hp.drew
  repeat' (with_reducible refine zB ?_); first | (with_reducible refine zt ?_) | ((with_reducible refine zI ?_); refine zy rfl ?_; (first | ((with_reducible refine zV _ rfl ?_); refine tM rfl ?_) | ((with_reducible refine zS _ _ rfl ?_); first | refine tL rfl (zb rfl) (fun w hS => hS.loadOne zw at1 _ _ HXP.out) ?_ | refine tL rfl (zb rfl) (fun w hS => hS.loadOne zw at1 _ _ HXO.out) ?_ | refine tL rfl (zb rfl) (fun w hS => hS.loadOne zw at1 _ _ HYP.out) ?_ | refine tL rfl (zb rfl) (fun w hS => hS.loadOne zw at1 _ _ HYO.out) ?_ | refine tO rfl (zb rfl) (by with_reducible first | exact zw | exact Zc) aa5 ?_) | refine tG (fun w _ => (by go_simp; try rfl)) ?_); try simp only [ze, zd, zn, zj, z0b, z0a, z0d, z0c, zr]) | (refine zF rfl (fun K hK => ?_); go_wp2_with (first | (go_at_call 124; (with_reducible refine (zfH _ _ _).mono ?_); rintro e w' ⟨rfl, rfl⟩) | (go_at_call 287; (with_reducible refine (zpu _ _ hp).mono ?_); clear hp; rintro e w1 ⟨rfl, hp⟩) | go_skip | (((refine zm _ _ _ rfl ?_); refine lS hp rfl (by intro w; go_simp; rfl) ?_; clear hp; intro b w1 hp; simp only [z0g, z0h, Nat.reduceAdd] at hp); simp only [ze, zd, z0b, z0a])); (refine hK.out _ _ (.inr (zd2 hp)) ?_); clear hK K; try simp only [ze, zd, zn, zj, z0b, z0a, z0d, z0c, zr])
  go_wp2_with fail
  go_ret
  exact ⟨Ze HLS.out, hp.tail⟩
theorem zj4 {l : List Bl} {i k : Nat} {x y : Bl} (hx : l[i]? = some x) (hy : l[k]? = some y) : spl (spl (l.flatMap blV) (i * 2) (blV y)) (k * 2) (blV x) = (zdr l i k x y).flatMap blV := by
  have hi := (List.getElem?_eq_some_iff.1 hx).1
  have hk := (List.getElem?_eq_some_iff.1 hy).1
  rw [ziZ 2 Zk hi, ziZ 2 Zk (by rw [List.length_set]; exact hk)]; rfl
theorem zcl {B : Nat} {w0 w : World} {bb g cap : Nat} {l : List Bl} {M : List Blk} (hp : QHp B w0 w bb g cap l M) (hl : l.length ≤ 2000) {i k : Nat} {x y : Bl} (hx : l[i]? = some x) (hy : l[k]? = some y) :
    Calls Tryz.prog 286 #[.pointer (some ⟨bb, 0, none⟩), .int .i64 i, .int .i64 k] w fun e w' => e = .returned (.tuple #[]) ∧ QHp B w0 w' bb g cap (zdr l i k x y) M := by
  have hi := (List.getElem?_eq_some_iff.1 hx).1
  have hk := (List.getElem?_eq_some_iff.1 hy).1
  have e1 : (0 : Int) ≤ (i : Int) := by omega
  have e2 : (i : Int) < (l.length : Int) := by omega
  have e3 : (0 : Int) ≤ (k : Int) := by omega
  have e4 : (k : Int) < (l.length : Int) := by omega
  have HX := z0j (zak 2 Zk hx)
  have HY := z0j (zak 2 Zk hy)
  have HC := z0j (zj4 hx hy)
  have HL1 : Hid (i * 2 + 2 ≤ (l.flatMap blV).length) := z0j (by rw [zaI]; omega)
  have HL2 : Hid (k * 2 + 2 ≤ (spl (l.flatMap blV) (i * 2) (blV y)).length) := z0j (by rw [zjR, zaI]; omega)
  unfold QHp at hp ⊢
  rw [zcP, ← HC.out]
  clear hx hy hi hk HC
  generalize l.flatMap blV = xs at hp HX HY HL1 HL2 ⊢
  obtain ⟨xp, xo⟩ := x
  obtain ⟨yp, yo⟩ := y
  simp only [blV] at HX HY HL2 ⊢
  go_enter Tryz.func286, Tryz.ntmps286
  go_wp2_with (first | go_skip | ((first | ((refine zh _ rfl ?_); refine lZ hp rfl zu ?_; clear hp; intro b w1 hp) | ((refine zi _ _ rfl ?_); refine lB hp rfl (zb rfl) rfl ?_; clear hp; intro b w1 hp) | ((refine zg _ _ rfl ?_); first | refine lO hp rfl (zb rfl) (by with_reducible first | exact zw | exact Zd | exact Zc | exact ZE) aa5 ?_ | refine lA hp rfl (zb rfl) zl aa5 ?_) | ((refine zf _ _ _ rfl ?_); (first | refine sO hp rfl (zb rfl) (by with_reducible first | exact zw | exact Zd | exact Zc | exact ZE) aa5 ?_ | refine sA hp rfl (zb rfl) (zb rfl) zl aa5 ?_ | refine sG hp rfl (zb rfl) (zb rfl) zl aa5 ?_); clear hp; intro w1 hp; simp only [spl, z0a, z0b] at hp) | ((refine zm _ _ _ rfl ?_); refine lS hp rfl (by intro w; go_simp; rfl) ?_; clear hp; intro b w1 hp; simp only [z0g, z0h, Nat.reduceAdd] at hp)); simp only [ze, zd, z0b, z0a]))
  refine zcu _ (zA.all hp.drew) [25, 26, 27] [(0, true), (1, true), (2, true), (3, true), (4, true), (5, true), (6, true), (7, true), (8, true), (9, true), (10, true), (11, true), (12, true), (13, true), (14, true), (15, true), (16, true), (17, true), (18, true), (19, true), (20, true), (21, true), (22, true), (23, true), (24, true), (25, false), (26, false), (27, false)] (by kernel_rfl) (by kernel_rfl) rfl (by kernel_rfl) (fun _ _ d _ _ h => by cases d <;> exact h) ?_
  replace hp := hp.drew
  repeat' (with_reducible refine zB ?_); first | (with_reducible refine zt ?_) | ((with_reducible refine zI ?_); refine zy rfl ?_; (first | ((with_reducible refine zV _ rfl ?_); refine tM rfl ?_) | ((with_reducible refine zS _ _ rfl ?_); first | refine tL rfl (zb rfl) (fun w hS => hS.loadAgg zl at1 _ _ HX.out rfl) ?_ | refine tL rfl (zb rfl) (fun w hS => hS.loadAgg zl at1 _ _ HY.out rfl) ?_ | refine tA rfl (zb rfl) zl aa5 ?_ | refine tO rfl (zb rfl) Zc aa5 ?_) | refine tG (fun w _ => (by go_simp; try rfl)) ?_); try simp only [ze, zd, zn, zj, z0b, z0a, z0d, z0c, zr]) | (refine zF rfl (fun K hK => ?_); go_wp2_with (first | ((refine zf 124 _ _ rfl ?_); refine Z3 hp _ _ _ rfl wy _ _ (zb rfl) _ (zb rfl) zl 1 _ _ _ at1 (by first | exact HL1.out | exact HL2.out) (by rfl) ?_; clear hp; intro w1 hp; simp only [z0a, z0b] at hp; simp only [ze, zd, z0b, z0a])); (first | refine hK.out _ _ (.inl rfl) ?_ | refine hK.out _ _ (.inr (zd2 hp)) ?_); clear hK K; try simp only [ze, zd, zn, zj, z0b, z0a, z0d, z0c, zr])
  go_wp2_with fail
  refine bodyPost_end (results_none Tryz.results286 _ _ _) rfl ⟨rfl, hp⟩
theorem Hp.less {B : Nat} {w0 w : World} {b n : Nat} {l1 l2 : List Value} {t : TypeId} {L : List Blk} (h : Hp B w0 w (⟨b, l1 ++ l2, t, n⟩ :: L)) : Hp B w0 w (⟨b, l1, t, n⟩ :: L) := by
  refine ⟨h.below, h.size, by simpa using h.nodup, fun p hp => ?_⟩
  rcases List.mem_cons.1 hp with rfl | hp
  · obtain ⟨h1, c, h2, h3, h4⟩ := h.own _ (List.mem_cons_self ..)
    refine ⟨h1, c, h2, h3, ?_⟩
    simp only at h4 ⊢
    have := congrArg (List.take l1.length) h4
    rw [List.take_take, List.length_append, Nat.min_eq_left (by omega), List.take_append_of_le_length (Nat.le_refl _), List.take_length] at this
    exact this
  · exact h.own p (List.mem_cons_of_mem _ hp)
theorem zmV (x : Value) (w : World) : (Instr.makeInterface 124 x).run Tryz.prog w = .ok (.iface 124 x) w := run_makeInterface w 124 x (by kernel_rfl)
theorem zoG (x : Value) (w : World) : (Instr.makeInterface 251 x).run Tryz.prog w = .ok (.iface 251 x) w := run_makeInterface w 251 x (by kernel_rfl)
theorem zmK (v : Value) (w : World) : (Instr.typeAssert (.iface 124 v) 20 124 false).run Tryz.prog w = .ok v w := by kernel_rfl
theorem zoQ {B : Nat} {w0 w : World} {bb g cap : Nat} {l : List Bl} {x : Bl} {M : List Blk} (hp : QHp B w0 w bb g cap (l ++ [x]) M) (hl : l.length ≤ 2000) (hcap : l.length + 1 ≤ cap) :
    Calls Tryz.prog 284 #[.pointer (some ⟨bb, 0, none⟩)] w fun e w' => e = .returned (.iface 124 (.agg #[.int .i64 x.p, .int .i64 x.o])) ∧ QHp B w0 w' bb g cap l M := by
  have HX := z0j (zak 2 Zk (l := l ++ [x]) (i := l.length) (x := x) (by simp))
  unfold QHp at hp ⊢
  rw [List.length_append, List.length_singleton] at hp
  obtain ⟨n, hn⟩ : ∃ n, n = l.length := ⟨_, rfl⟩
  obtain ⟨m, hm⟩ : ∃ m, m = l.length + 1 := ⟨_, rfl⟩
  rw [← hm] at hp
  rw [← hn] at HX hl hcap hm ⊢
  have ew : wrap64 ((m : Int) - 1) = (n : Int) := by rw [IntWalk.wrap64_in _ ⟨by omega, by omega⟩]; omega
  have e1 : (0 : Int) ≤ (n : Int) := by omega
  have e2 : (n : Int) < (m : Int) := by omega
  have e3 : (n : Int) ≤ (cap : Int) := by omega
  have HXS : Hid ((l ++ [x]).flatMap blV = l.flatMap blV ++ blV x) := z0j (by simp [List.flatMap_append])
  have HM := z0j hm
  clear hn hm
  obtain ⟨xs, hxs⟩ : ∃ xs, (l ++ [x]).flatMap blV = xs := ⟨_, rfl⟩
  rw [hxs] at hp HX HXS
  clear hxs
  obtain ⟨xp, xo⟩ := x
  simp only [blV] at HX HXS
  have mk := zmV
  go_enter Tryz.func284, Tryz.ntmps284
  go_wp2_with (first | ((refine zg 124 _ rfl ?_); refine za9 hp _ _ rfl wy _ _ (zb rfl) _ zl _ _ _ _ at1 _ HX.out rfl ?_; simp only [ze, zd, z0b, z0a]) | go_skip | ((first | ((refine zh _ rfl ?_); refine lZ hp rfl zu ?_; clear hp; intro b w1 hp) | ((refine zi _ _ rfl ?_); refine lB hp rfl (zb rfl) rfl ?_; clear hp; intro b w1 hp) | ((refine zg _ _ rfl ?_); first | refine lO hp rfl (zb rfl) (by with_reducible first | exact zw | exact Zd | exact Zc | exact ZE) aa5 ?_ | refine lA hp rfl (zb rfl) zl aa5 ?_) | ((refine zf _ _ _ rfl ?_); (first | refine sO hp rfl (zb rfl) (by with_reducible first | exact zw | exact Zd | exact Zc | exact ZE) aa5 ?_ | refine sA hp rfl (zb rfl) (zb rfl) zl aa5 ?_ | refine sG hp rfl (zb rfl) (zb rfl) zl aa5 ?_); clear hp; intro w1 hp; simp only [spl, z0a, z0b] at hp) | ((refine zm _ _ _ rfl ?_); refine lS hp rfl (by intro w; go_simp; rfl) ?_; clear hp; intro b w1 hp; simp only [z0g, z0h, Nat.reduceAdd] at hp)); simp only [ze, zd, z0b, z0a]))
  go_ret
  refine ⟨rfl, ?_⟩
  have h := hp.tail
  rw [HXS.out] at h
  exact ((h.reorder (List.Perm.swap _ _ _)).less).reorder (List.Perm.swap _ _ _)
theorem zH.cons {e : TypeId} {c n : Nat} {v : Value} {xs : List Value} {R : List Blk} (h : zH e c v (n + 1) xs R) : ∃ g cap, v = .slice (some ⟨g, 0, none⟩) (n + 1) cap ∧ n + 1 ≤ cap ∧ cap ≤ maxLen ∧ R = [⟨g, xs, e, cap * c⟩] := by
  obtain ⟨_, ⟨h0, _⟩ | h⟩ := h
  · omega
  · exact h
def zn4 (B : Nat) (w0 : World) (bb : Nat) (l : List Bl) (M : List Blk) (e : Ending) (w' : World) : Prop := e = .returned (.tuple #[]) ∧ ∃ g cap, QHp B w0 w' bb g cap l M ∧ l.length ≤ cap ∧ cap ≤ maxLen
theorem znN {B : Nat} {w0 w : World} {bb g cap : Nat} {l : List Bl} {M : List Blk} (hp : QHp B w0 w bb g cap l M) (hl : l.length ≤ 2000) (hcap : l.length ≤ cap) (hmax : cap ≤ maxLen) (x : Bl) :
    Calls Tryz.prog 285 #[.pointer (some ⟨bb, 0, none⟩), .iface 124 (.agg #[.int .i64 x.p, .int .i64 x.o])] w (zn4 B w0 bb (l ++ [x]) M) := by
  obtain ⟨i0, hi0, hz0, hz1, hz2⟩ := info_parts za6
  have HR : Hid (zH 124 2 (.slice (some ⟨g, 0, none⟩) l.length cap) l.length (l.flatMap blV) [⟨g, l.flatMap blV, 124, cap * 2⟩]) := z0j ⟨zaI l, .inr ⟨g, cap, rfl, hcap, hmax, rfl⟩⟩
  unfold QHp at hp
  have HXS : Hid ((l ++ [x]).flatMap blV = l.flatMap blV ++ blV x) := z0j (by simp [List.flatMap_append])
  have sm1 : l.length + 1 ≤ maxLen := by unfold maxLen; omega
  have sm2 : (l.length + 1) * 16 ≤ 140737488355328 := by omega
  clear hcap hmax
  obtain ⟨n, hn⟩ : ∃ n, n = l.length := ⟨_, rfl⟩
  have HN := z0j hn
  rw [← hn] at hp HR sm1 sm2 hl
  clear hn
  generalize l.flatMap blV = xs at hp HR HXS
  obtain ⟨xp, xo⟩ := x
  simp only [blV] at HXS
  simp only
  have asb := zmK
  go_enter Tryz.func285, Tryz.ntmps285
  go_wp2_with (first | go_skip | ((first | ((refine zh _ rfl ?_); refine lZ hp rfl zu ?_; clear hp; intro b w1 hp) | ((refine zi _ _ rfl ?_); refine lB hp rfl (zb rfl) rfl ?_; clear hp; intro b w1 hp) | ((refine zg _ _ rfl ?_); first | refine lO hp rfl (zb rfl) (by with_reducible first | exact zw | exact Zd | exact Zc | exact ZE) aa5 ?_ | refine lA hp rfl (zb rfl) zl aa5 ?_) | ((refine zf _ _ _ rfl ?_); (first | refine sO hp rfl (zb rfl) (by with_reducible first | exact zw | exact Zd | exact Zc | exact ZE) aa5 ?_ | refine sA hp rfl (zb rfl) (zb rfl) zl aa5 ?_ | refine sG hp rfl (zb rfl) (zb rfl) zl aa5 ?_); clear hp; intro w1 hp; simp only [spl, z0a, z0b] at hp) | ((refine zm _ _ _ rfl ?_); refine lS hp rfl (by intro w; go_simp; rfl) ?_; clear hp; intro b w1 hp; simp only [z0g, z0h, Nat.reduceAdd] at hp)); simp only [ze, zd, z0b, z0a]))
  refine zk [_] (zA.one hp.drew at0) [11] [(0, true), (1, true), (2, true), (3, true), (4, true), (5, true), (6, false), (7, false), (8, false), (9, true), (10, true), (11, false)] (by kernel_rfl) (by kernel_rfl) rfl (by kernel_rfl) (fun _ _ d _ _ h => by cases d <;> exact h) ?_
  replace hp := hp.drew
  repeat' (with_reducible refine zB ?_); first | (with_reducible refine zt ?_) | ((with_reducible refine zI ?_); refine zy rfl ?_; (first | ((with_reducible refine zV _ rfl ?_); refine tM rfl ?_) | ((with_reducible refine zS _ _ rfl ?_); refine tO rfl (zb rfl) Zc aa5 ?_) | refine tG (fun w _ => (by go_simp; try rfl)) ?_); try simp only [ze, zd, zn, zj, z0b, z0a, z0d, z0c, zr]) | (refine zF rfl (fun K hK => ?_); go_wp2_with (first | ((refine zM _ _ 45 rfl ?_); refine zG (K := [_]) (R := [_]) (M := M) hp _ _ _ rfl wy i0 _ 16 Tryz.underlying45 hi0 hz0 hz1 hz2 rfl (by decide) (zb rfl) HR.out 1 1 (zb rfl) (by rfl) (by decide) (by rfl) sm1 sm2 ?_; clear hp HR; intro v' R' w1 hr hp; obtain ⟨g', cap', rfl, hc1, hc2, rfl⟩ := hr.cons; simp only [z0f, z0e] at hp; simp only [ze, zd, z0b, z0a]) | go_skip | ((first | ((refine zf _ _ _ rfl ?_); (first | refine sO hp rfl (zb rfl) (by with_reducible first | exact zw | exact Zd | exact Zc | exact ZE) aa5 ?_ | refine sA hp rfl (zb rfl) (zb rfl) zl aa5 ?_ | refine sG hp rfl (zb rfl) (zb rfl) zl aa5 ?_); clear hp; intro w1 hp; simp only [spl, z0a, z0b] at hp) | ((refine zm _ _ _ rfl ?_); refine lS hp rfl (by intro w; go_simp; rfl) ?_; clear hp; intro b w1 hp; simp only [z0g, z0h, Nat.reduceAdd] at hp)); simp only [ze, zd, z0b, z0a])); (first | refine hK.out _ _ (.inl rfl) ?_ | refine hK.out _ _ (.inr (zA.one hp aa5)) ?_); clear hK K; try simp only [ze, zd, zn, zj, z0b, z0a, z0d, z0c, zr])
  go_wp2_with fail
  refine bodyPost_end (results_none Tryz.results285 _ _ _) rfl ⟨rfl, g', cap', ?_, ?_, hc2⟩
  · unfold QHp
    rw [HXS.out, List.length_append, List.length_singleton, ← HN.out]
    exact hp
  · rw [List.length_append, List.length_singleton, ← HN.out]
    exact hc1
def LtB (a b : Bl) : Prop := a.o < b.o ∨ (a.o = b.o ∧ a.p < b.p)
theorem ze2 {a b : Bl} : ze1 a b = true ↔ LtB a b := by simp [ze1, LtB]
theorem zi3 {a b : Bl} : ze1 a b = false ↔ ¬ LtB a b := by rw [← ze2]; simp
theorem LtB.asymm {a b : Bl} (h : LtB a b) : ¬ LtB b a := by unfold LtB at *; omega
theorem LtB.ntrans {a b c : Bl} (h1 : ¬ LtB b a) (h2 : ¬ LtB c b) : ¬ LtB c a := by unfold LtB at *; omega
def gB (l : List Bl) (k : Nat) : Bl := l.getD k ⟨0, 0⟩
theorem znu {l : List Bl} {k : Nat} {x : Bl} (h : l[k]? = some x) : gB l k = x := by simp [gB, h]
theorem zbc {l : List Bl} {k : Nat} (h : k < l.length) : l[k]? = some (gB l k) := by simp [gB, h]
theorem zd1 {l : List Bl} {i k : Nat} (hi : i < l.length) (hk : k < l.length) (j : Nat) : gB (zdr l i k (gB l i) (gB l k)) j = if j = k then gB l i else if j = i then gB l k else gB l j := by
  have h := zly (j := j) (zbc hi) (zbc hk)
  have e : ∀ (m : List Bl) q, gB m q = (m[q]?).getD ⟨0, 0⟩ := fun m q => List.getD_eq_getElem?_getD ..
  rw [e, h]
  split
  · rfl
  · split
    · rfl
    · rw [e]
def zdh (l : List Bl) (n i0 : Nat) : Prop := ∀ k c, i0 ≤ k → (c = 2 * k + 1 ∨ c = 2 * k + 2) → c < n → ¬ LtB (gB l c) (gB l k)
def zeI (l : List Bl) (n i0 j : Nat) : Prop :=
  (∀ k c, i0 ≤ k → k ≠ j → (c = 2 * k + 1 ∨ c = 2 * k + 2) → c < n → ¬ LtB (gB l c) (gB l k)) ∧
  (∀ p c, i0 ≤ p → (j = 2 * p + 1 ∨ j = 2 * p + 2) → (c = 2 * j + 1 ∨ c = 2 * j + 2) → c < n → ¬ LtB (gB l c) (gB l p))
theorem zeI.start {l : List Bl} {n i0 : Nat} (h : zdh l n (i0 + 1)) : zeI l n i0 i0 :=
  ⟨fun k c hk hne hc hn => h k c (by omega) hc hn, fun p c hp hj _ _ => by omega⟩
theorem zeI.leaf {l : List Bl} {n i0 j : Nat} (h : zeI l n i0 j) (hn : n ≤ 2 * j + 1) : zdh l n i0 := fun k c hk hc hcn => by
  by_cases hkj : k = j
  · subst hkj; omega
  · exact h.1 k c hk hkj hc hcn
def zee (l : List Bl) (n j m : Nat) : Prop := (m = 2 * j + 1 ∨ m = 2 * j + 2) ∧ m < n ∧ ∀ c, (c = 2 * j + 1 ∨ c = 2 * j + 2) → c < n → ¬ LtB (gB l c) (gB l m)
theorem zeI.stop {l : List Bl} {n i0 j m : Nat} (h : zeI l n i0 j) (hm : zee l n j m) (hl : ¬ LtB (gB l m) (gB l j)) : zdh l n i0 := fun k c hk hc hcn => by
  by_cases hkj : k = j
  · subst hkj; exact LtB.ntrans hl (hm.2.2 c hc hcn)
  · exact h.1 k c hk hkj hc hcn
theorem zeI.sink {l : List Bl} {n i0 j m : Nat} (h : zeI l n i0 j) (hij : i0 ≤ j) (hm : zee l n j m) (hl : LtB (gB l m) (gB l j)) (hn : n ≤ l.length) : zeI (zdr l j m (gB l j) (gB l m)) n i0 m := by
  obtain ⟨m1, m2, m3⟩ := hm
  have hj : j < l.length := by omega
  have hml : m < l.length := by omega
  constructor
  · intro k c hk hkm hc hcn
    rw [zd1 hj hml, zd1 hj hml, if_neg hkm]
    by_cases hkj : k = j
    · subst hkj
      rw [if_pos rfl]
      by_cases hcm : c = m
      · subst hcm; rw [if_pos rfl]; exact hl.asymm
      · rw [if_neg hcm, if_neg (by omega)]; exact m3 c hc hcn
    · rw [if_neg hkj]
      by_cases hcm : c = m
      · subst hcm; omega
      · rw [if_neg hcm]
        by_cases hcj : c = j
        · subst hcj; rw [if_pos rfl]; exact h.2 k m hk hc m1 m2
        · rw [if_neg hcj]; exact h.1 k c hk hkj hc hcn
  · intro p c hp hmp hc hcn
    have hpj : p = j := by omega
    subst hpj
    rw [zd1 hj hml, zd1 hj hml, if_neg (by omega), if_neg (by omega), if_neg (by omega), if_pos rfl]
    exact h.1 m c (by omega) (by omega) hc hcn
theorem zdh.root {l : List Bl} {n : Nat} (h : zdh l n 0) : ∀ k, k < n → ¬ LtB (gB l k) (gB l 0) := by
  intro k
  induction k using Nat.strongRecOn with
  | ind k ih =>
    intro hk
    rcases Nat.eq_zero_or_pos k with h0 | h0
    · subst h0; exact fun h => h.asymm h
    · have h1 := ih ((k - 1) / 2) (by omega) (by omega)
      exact LtB.ntrans h1 (h ((k - 1) / 2) k (by omega) (by omega) hk)
theorem zdh.high {l : List Bl} {n i0 : Nat} (h : n ≤ 2 * i0 + 1) : zdh l n i0 := fun k c hk hc hcn => by omega
structure zeF (l l' : List Bl) (n i0 j : Nat) : Prop where
  perm : l'.Perm l
  same : ∀ q, n ≤ q → gB l' q = gB l q
  heap : zdh l n (i0 + 1) → zeI l' n i0 j
structure zkc (l l' : List Bl) (n i0 : Nat) : Prop where
  perm : l'.Perm l
  same : ∀ q, n ≤ q → gB l' q = gB l q
  heap : zdh l n (i0 + 1) → zdh l' n i0
theorem zeF.start (l : List Bl) (n i0 : Nat) : zeF l l n i0 i0 := ⟨List.Perm.refl _, fun _ _ => rfl, zeI.start⟩
theorem zeF.leaf {l l' : List Bl} {n i0 j : Nat} (h : zeF l l' n i0 j) (hn : n ≤ 2 * j + 1) : zkc l l' n i0 := ⟨h.perm, h.same, fun hh => (h.heap hh).leaf hn⟩
theorem zeF.stop {l l' : List Bl} {n i0 j m : Nat} (h : zeF l l' n i0 j) (hm : zee l' n j m) (hl : ¬ LtB (gB l' m) (gB l' j)) : zkc l l' n i0 := ⟨h.perm, h.same, fun hh => (h.heap hh).stop hm hl⟩
theorem zeF.sink {l l' : List Bl} {n i0 j m : Nat} (h : zeF l l' n i0 j) (hij : i0 ≤ j) (hm : zee l' n j m) (hl : LtB (gB l' m) (gB l' j)) (hn : n ≤ l'.length) : zeF l (zdr l' j m (gB l' j) (gB l' m)) n i0 m := by
  have hj : j < l'.length := by have := hm.1; have := hm.2.1; omega
  have hml : m < l'.length := by have := hm.2.1; omega
  refine ⟨(zd8 (zbc hj) (zbc hml)).trans h.perm, fun q hq => ?_, fun hh => (h.heap hh).sink hij hm hl hn⟩
  have := hm.1; have := hm.2.1
  rw [zd1 hj hml, if_neg (by omega), if_neg (by omega)]
  exact h.same q hq
theorem zkU {l : List Bl} {n j : Nat} (h1 : 2 * j + 1 < n) (h2 : ¬ 2 * j + 2 < n) : zee l n j (2 * j + 1) := ⟨.inl rfl, h1, fun c hc hcn => by
  have : c = 2 * j + 1 := by omega
  subst this; exact fun h => h.asymm h⟩
theorem zjQ {l : List Bl} {n j : Nat} (h1 : 2 * j + 1 < n) (h : ¬ LtB (gB l (2 * j + 2)) (gB l (2 * j + 1))) : zee l n j (2 * j + 1) := ⟨.inl rfl, h1, fun c hc hcn => by
  rcases hc with rfl | rfl
  · exact fun h => h.asymm h
  · exact h⟩
theorem zil {l : List Bl} {n j : Nat} (h2 : 2 * j + 2 < n) (h : LtB (gB l (2 * j + 2)) (gB l (2 * j + 1))) : zee l n j (2 * j + 2) := ⟨.inr rfl, h2, fun c hc hcn => by
  rcases hc with rfl | rfl
  · exact h.asymm
  · exact fun h => h.asymm h⟩
open Go.RowKit Go.Shelf
theorem zgw (bb : Nat) (w : World) : Sem.run Tryz.prog (method 411 251 (.agg #[.pointer (some ⟨bb, 0, none⟩)]) "Len") w = .ok (282, .pointer (some ⟨bb, 0, none⟩)) w := by kernel_rfl
theorem zh7 (args : Array Value) (w : World) : (callFunc 282 args).run Tryz.prog w = .ok (.enter 282 args) w := enters_of Tryz.func282 (by kernel_rfl) rfl args w
theorem zho (bb : Nat) (w : World) : Sem.run Tryz.prog (method 411 251 (.agg #[.pointer (some ⟨bb, 0, none⟩)]) "Less") w = .ok (283, .pointer (some ⟨bb, 0, none⟩)) w := by kernel_rfl
theorem ziV (args : Array Value) (w : World) : (callFunc 283 args).run Tryz.prog w = .ok (.enter 283 args) w := enters_of Tryz.func283 (by kernel_rfl) rfl args w
theorem ze5 (bb : Nat) (w : World) : Sem.run Tryz.prog (method 411 251 (.agg #[.pointer (some ⟨bb, 0, none⟩)]) "Swap") w = .ok (286, .pointer (some ⟨bb, 0, none⟩)) w := by kernel_rfl
theorem zgk (args : Array Value) (w : World) : (callFunc 286 args).run Tryz.prog w = .ok (.enter 286 args) w := enters_of Tryz.func286 (by kernel_rfl) rfl args w
theorem zk3 (bb : Nat) (w : World) : Sem.run Tryz.prog (method 411 251 (.agg #[.pointer (some ⟨bb, 0, none⟩)]) "Push") w = .ok (285, .pointer (some ⟨bb, 0, none⟩)) w := by kernel_rfl
theorem zl2 (args : Array Value) (w : World) : (callFunc 285 args).run Tryz.prog w = .ok (.enter 285 args) w := enters_of Tryz.func285 (by kernel_rfl) rfl args w
theorem zmg (bb : Nat) (w : World) : Sem.run Tryz.prog (method 411 251 (.agg #[.pointer (some ⟨bb, 0, none⟩)]) "Pop") w = .ok (284, .pointer (some ⟨bb, 0, none⟩)) w := by kernel_rfl
theorem znn (args : Array Value) (w : World) : (callFunc 284 args).run Tryz.prog w = .ok (.enter 284 args) w := enters_of Tryz.func284 (by kernel_rfl) rfl args w
def ziL (B : Nat) (w0 : World) (bb g cap : Nat) (l : List Bl) (M : List Blk) (n i0 : Nat) (e : Ending) (w' : World) : Prop := ∃ b l', e = .returned (.bool b) ∧ QHp B w0 w' bb g cap l' M ∧ zkc l l' n i0
theorem zkB {B : Nat} {w0 w : World} {bb g cap : Nat} {l : List Bl} {M : List Blk} (hp : QHp B w0 w bb g cap l M) (hl : l.length ≤ 2000) {i0 n : Nat} (hin : i0 ≤ n) (hn : n ≤ l.length) :
    Calls Tryz.prog 248 #[.iface 251 (.agg #[.pointer (some ⟨bb, 0, none⟩)]), .int .i64 i0, .int .i64 n] w (ziL B w0 bb g cap l M n i0) := by
  have mls := zho bb
  have msw := ze5 bb
  have els := ziV
  have esw := zgk
  have HLN : Hid (n ≤ l.length) := z0j hn
  have HLL : Hid (l.length ≤ 2000) := z0j hl
  have hn1 : n ≤ 2000 := by omega
  clear hl hn
  go_enter Tryz.func248, Tryz.ntmps248
  go_wp2_with fail
  go_loopg [7] (n - i0) (fun k i wr => ∃ (j : Nat) (l' : List Bl), k + j = n ∧ i = .int .i64 j ∧ i0 ≤ j ∧ Hid (zeF l l' n i0 j) ∧ QHp B w0 wr bb g cap l' M)
  case atStart => exact ⟨i0, l, by omega, rfl, by omega, z0j (zeF.start _ _ _), hp⟩
  case round =>
    clear hp
    obtain ⟨j, l', hkj, rfl, hij, HD, hp⟩ := hrel
    have hll : Hid (n ≤ l'.length) := z0j (by rw [HD.out.perm.length_eq]; exact HLN.out)
    have hl' : l'.length ≤ 2000 := by rw [HD.out.perm.length_eq]; exact HLL.out
    obtain ⟨a, ha⟩ : ∃ a : Nat, a = 2 * j := ⟨_, rfl⟩
    obtain ⟨b1, hb1⟩ : ∃ b1 : Nat, b1 = 2 * j + 1 := ⟨_, rfl⟩
    obtain ⟨b2, hb2⟩ : ∃ b2 : Nat, b2 = 2 * j + 2 := ⟨_, rfl⟩
    have ew1 : wrap64 (2 * (j : Int)) = (a : Int) := by rw [IntWalk.wrap64_in _ ⟨by omega, by omega⟩]; omega
    have ew2 : wrap64 ((a : Int) + 1) = (b1 : Int) := by rw [IntWalk.wrap64_in _ ⟨by omega, by omega⟩]; omega
    have ew3 : wrap64 ((b1 : Int) + 1) = (b2 : Int) := by rw [IntWalk.wrap64_in _ ⟨by omega, by omega⟩]; omega
    have HB : Hid (b1 = 2 * j + 1 ∧ b2 = 2 * j + 2) := z0j ⟨hb1, hb2⟩
    have HKJ := z0j hkj
    by_cases h1 : n ≤ b1
    · have HDD := z0j (HD.out.leaf (by omega))
      have e1 : decide ((n : Int) ≤ (b1 : Int)) = true := by simp; omega
      have e1' : decide (n ≤ b1) = true := decide_eq_true h1
      clear ha hb1 hb2 HD hkj hn1
      go_wp2_with fail
      go_ret
      exact ⟨_, l', rfl, hp, HDD.out⟩
    · have e1 : decide ((n : Int) ≤ (b1 : Int)) = false := by simp; omega
      have e1' : decide (n ≤ b1) = false := decide_eq_false h1
      have e2 : decide ((b1 : Int) < 0) = false := by simp
      have hjl : j < l'.length := by have := hll.out; omega
      have h1l : b1 < l'.length := by have := hll.out; omega
      have HJ := z0j (zbc hjl)
      have H1 := z0j (zbc h1l)
      obtain ⟨m, hm, hw⟩ : ∃ m, zee l' n j m ∧ ((b2 < n ∧ ze1 (gB l' b2) (gB l' b1) = true ∧ m = b2) ∨ (b2 < n ∧ ze1 (gB l' b2) (gB l' b1) = false ∧ m = b1) ∨ (¬ b2 < n ∧ m = b1)) := by
        by_cases h2 : b2 < n
        · cases hq : ze1 (gB l' b2) (gB l' b1) with
          | true => exact ⟨b2, by rw [hb2]; exact zil (by omega) (by rw [← hb1, ← hb2]; exact ze2.1 hq), .inl ⟨h2, rfl, rfl⟩⟩
          | false => exact ⟨b1, by rw [hb1]; exact zjQ (by omega) (by rw [← hb1, ← hb2]; exact zi3.1 hq), .inr (.inl ⟨h2, rfl, rfl⟩)⟩
        · exact ⟨b1, by rw [hb1]; exact zkU (by omega) (by omega), .inr (.inr ⟨h2, rfl⟩)⟩
      have hml : m < l'.length := by have := hm.2.1; have := hll.out; omega
      have hjm : j < m := by have := hm.1; omega
      have hmn : m < n := hm.2.1
      have HM := z0j (zbc hml)
      have HMC := z0j hm
      have HW := z0j hw
      clear ha hb1 hb2 hm hw hml h1l hjl hkj hn1
      cases hq : ze1 (gB l' m) (gB l' j)
      · have HB2 := z0j hq
        have HDD := z0j (HD.out.stop HMC.out (zi3.1 hq))
        clear hq HD
        rcases HW.out with ⟨h2, h3, rfl⟩ | ⟨h2, h3, rfl⟩ | ⟨h2, rfl⟩
        · have HB1 := z0j h3
          have h2l : m < l'.length := by have := hll.out; omega
          have H2 := z0j (zbc h2l)
          have e3 : decide ((m : Int) < (n : Int)) = true := by simp; omega
          have e3' : decide (m < n) = true := decide_eq_true h2
          clear h3 h2l HW HMC
          go_wp2_with (first | (go_at_call 283; first | ((with_reducible refine (zaV hp hl' H2.out H1.out).mono ?_); clear hp; rintro e w1 ⟨rfl, hp⟩; rw [HB1.out]) | ((with_reducible refine (zaV hp hl' HM.out HJ.out).mono ?_); clear hp; rintro e w1 ⟨rfl, hp⟩; rw [HB2.out])) | (go_at_call 286; (with_reducible refine (zcl hp hl' HJ.out HM.out).mono ?_); clear hp; rintro e w1 ⟨rfl, hp⟩))
          go_ret
          exact ⟨_, l', rfl, hp, HDD.out⟩
        · have HB1 := z0j h3
          have h2l : b2 < l'.length := by have := hll.out; omega
          have H2 := z0j (zbc h2l)
          have e3 : decide ((b2 : Int) < (n : Int)) = true := by simp; omega
          have e3' : decide (b2 < n) = true := decide_eq_true h2
          clear h3 h2l HW HMC
          go_wp2_with (first | (go_at_call 283; first | ((with_reducible refine (zaV hp hl' H2.out H1.out).mono ?_); clear hp; rintro e w1 ⟨rfl, hp⟩; rw [HB1.out]) | ((with_reducible refine (zaV hp hl' HM.out HJ.out).mono ?_); clear hp; rintro e w1 ⟨rfl, hp⟩; rw [HB2.out])) | (go_at_call 286; (with_reducible refine (zcl hp hl' HJ.out HM.out).mono ?_); clear hp; rintro e w1 ⟨rfl, hp⟩))
          go_ret
          exact ⟨_, l', rfl, hp, HDD.out⟩
        · have e3 : decide ((b2 : Int) < (n : Int)) = false := by simp; omega
          have e3' : decide (b2 < n) = false := decide_eq_false h2
          clear HW HMC
          go_wp2_with (first | (go_at_call 283; first | ((with_reducible refine (zaV hp hl' H2.out H1.out).mono ?_); clear hp; rintro e w1 ⟨rfl, hp⟩; rw [HB1.out]) | ((with_reducible refine (zaV hp hl' HM.out HJ.out).mono ?_); clear hp; rintro e w1 ⟨rfl, hp⟩; rw [HB2.out])) | (go_at_call 286; (with_reducible refine (zcl hp hl' HJ.out HM.out).mono ?_); clear hp; rintro e w1 ⟨rfl, hp⟩))
          go_ret
          exact ⟨_, l', rfl, hp, HDD.out⟩
      · have HB2 := z0j hq
        have HDN := z0j (HD.out.sink hij HMC.out (ze2.1 hq) hll.out)
        clear hq HD
        rcases HW.out with ⟨h2, h3, rfl⟩ | ⟨h2, h3, rfl⟩ | ⟨h2, rfl⟩
        · have HB1 := z0j h3
          have h2l : m < l'.length := by have := hll.out; omega
          have H2 := z0j (zbc h2l)
          have e3 : decide ((m : Int) < (n : Int)) = true := by simp; omega
          have e3' : decide (m < n) = true := decide_eq_true h2
          clear h3 h2l HW HMC
          go_wp2_with (first | (go_at_call 283; first | ((with_reducible refine (zaV hp hl' H2.out H1.out).mono ?_); clear hp; rintro e w1 ⟨rfl, hp⟩; rw [HB1.out]) | ((with_reducible refine (zaV hp hl' HM.out HJ.out).mono ?_); clear hp; rintro e w1 ⟨rfl, hp⟩; rw [HB2.out])) | (go_at_call 286; (with_reducible refine (zcl hp hl' HJ.out HM.out).mono ?_); clear hp; rintro e w1 ⟨rfl, hp⟩))
          go_roundg (n - m)
          case measure => have := HKJ.out; omega
          case rel => exact ⟨m, _, by have := HKJ.out; omega, rfl, by omega, HDN, hp⟩
        · have HB1 := z0j h3
          have h2l : b2 < l'.length := by have := hll.out; omega
          have H2 := z0j (zbc h2l)
          have e3 : decide ((b2 : Int) < (n : Int)) = true := by simp; omega
          have e3' : decide (b2 < n) = true := decide_eq_true h2
          clear h3 h2l HW HMC
          go_wp2_with (first | (go_at_call 283; first | ((with_reducible refine (zaV hp hl' H2.out H1.out).mono ?_); clear hp; rintro e w1 ⟨rfl, hp⟩; rw [HB1.out]) | ((with_reducible refine (zaV hp hl' HM.out HJ.out).mono ?_); clear hp; rintro e w1 ⟨rfl, hp⟩; rw [HB2.out])) | (go_at_call 286; (with_reducible refine (zcl hp hl' HJ.out HM.out).mono ?_); clear hp; rintro e w1 ⟨rfl, hp⟩))
          go_roundg (n - m)
          case measure => have := HKJ.out; omega
          case rel => exact ⟨m, _, by have := HKJ.out; omega, rfl, by omega, HDN, hp⟩
        · have e3 : decide ((b2 : Int) < (n : Int)) = false := by simp; omega
          have e3' : decide (b2 < n) = false := decide_eq_false h2
          clear HW HMC
          go_wp2_with (first | (go_at_call 283; first | ((with_reducible refine (zaV hp hl' H2.out H1.out).mono ?_); clear hp; rintro e w1 ⟨rfl, hp⟩; rw [HB1.out]) | ((with_reducible refine (zaV hp hl' HM.out HJ.out).mono ?_); clear hp; rintro e w1 ⟨rfl, hp⟩; rw [HB2.out])) | (go_at_call 286; (with_reducible refine (zcl hp hl' HJ.out HM.out).mono ?_); clear hp; rintro e w1 ⟨rfl, hp⟩))
          go_roundg (n - m)
          case measure => have := HKJ.out; omega
          case rel => exact ⟨m, _, by have := HKJ.out; omega, rfl, by omega, HDN, hp⟩
def zpe (B : Nat) (w0 : World) (bb g cap : Nat) (l : List Bl) (M : List Blk) (e : Ending) (w' : World) : Prop := e = .returned (.tuple #[]) ∧ ∃ l', QHp B w0 w' bb g cap l' M ∧ l'.Perm l
theorem zpD {B : Nat} {w0 w : World} {bb g cap : Nat} {l : List Bl} {M : List Blk} (hp : QHp B w0 w bb g cap l M) (hl : l.length ≤ 2000) {j0 : Nat} (hj : j0 < l.length) :
    Calls Tryz.prog 249 #[.iface 251 (.agg #[.pointer (some ⟨bb, 0, none⟩)]), .int .i64 j0] w (zpe B w0 bb g cap l M) := by
  have mls := zho bb
  have msw := ze5 bb
  have els := ziV
  have esw := zgk
  have HLL : Hid (l.length ≤ 2000) := z0j hl
  clear hl
  go_enter Tryz.func249, Tryz.ntmps249
  go_wp2_with fail
  go_loopg [1] j0 (fun k i wr => ∃ (l' : List Bl), i = .int .i64 k ∧ k < l'.length ∧ Hid (l'.Perm l) ∧ QHp B w0 wr bb g cap l' M)
  case atStart => exact ⟨l, rfl, hj, z0j (List.Perm.refl _), hp⟩
  case round =>
    clear hp hj
    obtain ⟨l', rfl, hjl, HP, hp⟩ := hrel
    have hl' : l'.length ≤ 2000 := by rw [HP.out.length_eq]; exact HLL.out
    rcases Nat.eq_zero_or_pos gk with h0 | h0
    · subst h0
      have e0 : (-1 : Int).tdiv 2 = 0 := by decide
      have e1 : wrap64 (-1) = -1 := IntWalk.wrap64_in _ ⟨by omega, by omega⟩
      have e2 : wrap64 0 = 0 := IntWalk.wrap64_in _ ⟨by omega, by omega⟩
      go_wp2_with fail
      refine bodyPost_end (results_none Tryz.results249 _ _ _) rfl ⟨rfl, l', hp, HP.out⟩
    · obtain ⟨j, hj⟩ : ∃ j, j = gk := ⟨_, rfl⟩
      rw [← hj] at hjl h0 ⊢
      obtain ⟨p, hpp⟩ : ∃ p : Nat, p = j - 1 := ⟨_, rfl⟩
      obtain ⟨i, hi⟩ : ∃ i : Nat, i = p / 2 := ⟨_, rfl⟩
      have hij : i < j := by omega
      have hil : i < l'.length := by omega
      have ew1 : wrap64 ((j : Int) - 1) = (p : Int) := by rw [IntWalk.wrap64_in _ ⟨by omega, by omega⟩]; omega
      have ew2 : (p : Int).tdiv 2 = (i : Int) := by rw [Int.tdiv_eq_ediv_of_nonneg (by omega)]; omega
      have ew3 : wrap64 (i : Int) = (i : Int) := IntWalk.wrap64_in _ ⟨by omega, by omega⟩
      have e1 : ((i : Int) == (j : Int)) = false := by simp; omega
      have e1' : (i == j) = false := by simp; omega
      have HJ := z0j (zbc hjl)
      have HI := z0j (zbc hil)
      have HIJ : Hid (i < gk ∧ i < l'.length) := z0j ⟨by omega, hil⟩
      clear hpp hi hij hil hjl h0
      have HJG := z0j hj
      clear hj
      cases hq : ze1 (gB l' j) (gB l' i)
      · have HB := z0j hq
        clear hq
        go_wp2_with (first | (go_at_call 283; (with_reducible refine (zaV hp hl' HJ.out HI.out).mono ?_); clear hp; rintro e w1 ⟨rfl, hp⟩; rw [HB.out]) | (go_at_call 286; (with_reducible refine (zcl hp hl' HI.out HJ.out).mono ?_); clear hp; rintro e w1 ⟨rfl, hp⟩))
        refine bodyPost_end (results_none Tryz.results249 _ _ _) rfl ⟨rfl, l', hp, HP.out⟩
      · have HB := z0j hq
        have HPS := z0j ((zd8 HI.out HJ.out).trans HP.out)
        clear hq
        go_wp2_with (first | (go_at_call 283; (with_reducible refine (zaV hp hl' HJ.out HI.out).mono ?_); clear hp; rintro e w1 ⟨rfl, hp⟩; rw [HB.out]) | (go_at_call 286; (with_reducible refine (zcl hp hl' HI.out HJ.out).mono ?_); clear hp; rintro e w1 ⟨rfl, hp⟩))
        go_roundg i
        case measure => exact HIJ.out.1
        case rel => exact ⟨_, rfl, by rw [zcP]; exact HIJ.out.2, HPS, hp⟩
open Go.RowKit Go.Shelf
def znZ (B : Nat) (w0 : World) (bb g cap : Nat) (l : List Bl) (M : List Blk) (e : Ending) (w' : World) : Prop := e = .returned (.tuple #[]) ∧ ∃ l', QHp B w0 w' bb g cap l' M ∧ l'.Perm l ∧ zdh l' l'.length 0
theorem znz {B : Nat} {w0 w : World} {bb g cap : Nat} {l : List Bl} {M : List Blk} (hp : QHp B w0 w bb g cap l M) (hl : l.length ≤ 2000) : Calls Tryz.prog 247 #[.iface 251 (.agg #[.pointer (some ⟨bb, 0, none⟩)])] w (znZ B w0 bb g cap l M) := by
  have mln := zgw bb
  have eln := zh7
  have HLL : Hid (l.length ≤ 2000) := z0j hl
  obtain ⟨n, hn⟩ : ∃ n, n = l.length := ⟨_, rfl⟩
  obtain ⟨h, hh⟩ : ∃ h : Nat, h = n / 2 := ⟨_, rfl⟩
  have ew1 : (n : Int).tdiv 2 = (h : Int) := by rw [Int.tdiv_eq_ediv_of_nonneg (by omega)]; omega
  have ew2 : wrap64 (h : Int) = (h : Int) := IntWalk.wrap64_in _ ⟨by omega, by omega⟩
  have ew3 : wrap64 ((h : Int) - 1) = (h : Int) - 1 := IntWalk.wrap64_in _ ⟨by omega, by omega⟩
  have HN := z0j hn
  have HH := z0j hh
  unfold QHp at hp
  rw [← hn] at hp
  clear hn hh hl
  go_enter Tryz.func247, Tryz.ntmps247
  go_wp2_with (first | (go_at_call 282; (with_reducible refine (zkV hp).mono ?_); clear hp; rintro e w1 ⟨rfl, hp⟩))
  have hp' : QHp B w0 w1 bb g cap l M := by unfold QHp; rw [← HN.out]; exact hp
  have EW3 := z0j ew3
  clear hp ew1 ew2 ew3
  go_loopg [3] h (fun k i wr => ∃ (l' : List Bl), i = .int .i64 ((k : Int) - 1) ∧ k ≤ h ∧ Hid (l'.Perm l ∧ zdh l' n k) ∧ QHp B w0 wr bb g cap l' M)
  case atStart => exact ⟨l, congrArg (Value.int .i64) EW3.out, Nat.le_refl _, z0j ⟨List.Perm.refl _, zdh.high (by have := HH.out; omega)⟩, hp'⟩
  case round =>
    clear hp'
    obtain ⟨l', rfl, hkh, HP, hp⟩ := hrel
    have hl' : l'.length ≤ 2000 := by rw [HP.out.1.length_eq]; exact HLL.out
    have hnl : Hid (n ≤ l'.length) := z0j (by rw [HP.out.1.length_eq, HN.out]; exact Nat.le_refl _)
    rcases Nat.eq_zero_or_pos gk with h0 | h0
    · subst h0
      have e1 : decide ((0 : Int) ≤ -1) = false := by decide
      go_wp2_with fail
      refine bodyPost_end (results_none Tryz.results247 _ _ _) rfl ⟨rfl, l', hp, HP.out.1, ?_⟩
      have h1 := HP.out.2
      have h2 : l'.length = n := by rw [HP.out.1.length_eq, HN.out]
      rw [h2]; exact h1
    · obtain ⟨p, hpk⟩ : ∃ p, gk = p + 1 := ⟨gk - 1, by omega⟩
      have ei : (gk : Int) - 1 = (p : Int) := by omega
      rw [ei]
      have e1 : (0 : Int) ≤ (p : Int) := by omega
      have hpn : Hid (p ≤ n) := z0j (by have := HH.out; omega)
      have ew3 : wrap64 ((p : Int) - 1) = (p : Int) - 1 := IntWalk.wrap64_in _ ⟨by omega, by have := hpn.out; have := hnl.out; omega⟩
      have HPK := z0j hpk
      have HKH := z0j hkh
      have EW4 := z0j ew3
      clear hpk ei h0 hkh
      go_wp2_with (first | (go_at_call 248; (with_reducible refine (zkB hp hl' hpn.out hnl.out).mono ?_); clear hp; rintro e w1 ⟨rb, l2, rfl, hp, hdd⟩; have HDD := z0j hdd; clear hdd))
      go_roundg p
      case measure => have := HPK.out; omega
      case rel => exact ⟨l2, congrArg (Value.int .i64) EW4.out, by have := HPK.out; have := HKH.out; omega, z0j ⟨HDD.out.perm.trans HP.out.1, HDD.out.heap (by have h := HP.out.2; rw [HPK.out] at h; exact h)⟩, hp⟩
theorem zn6 {B : Nat} {w0 w : World} {bb g cap n m : Nat} {l : List Bl} {x : Bl} {M : List Blk} (hn : n = l.length) (hm : m = n + 1) (hp : Hp B w0 w (⟨bb, [.slice (some ⟨g, 0, none⟩) m cap], 257, 1⟩ :: ⟨g, (l ++ [x]).flatMap blV, 124, cap * 2⟩ :: M)) : QHp B w0 w bb g cap (l ++ [x]) M := by
  unfold QHp
  rw [List.length_append, List.length_singleton, ← hn, ← hm]
  exact hp
def zke (B : Nat) (w0 : World) (bb : Nat) (l : List Bl) (M : List Blk) (e : Ending) (w' : World) : Prop := e = .returned (.tuple #[]) ∧ ∃ g cap l', QHp B w0 w' bb g cap l' M ∧ l'.Perm l ∧ l'.length ≤ cap ∧ cap ≤ maxLen
theorem zl9 {B : Nat} {w0 w : World} {bb g cap : Nat} {l : List Bl} {M : List Blk} (hp : QHp B w0 w bb g cap l M) (hl : l.length ≤ 1900) (hcap0 : l.length ≤ cap) (hmax0 : cap ≤ maxLen) (x : Bl) :
    Calls Tryz.prog 229 #[.iface 251 (.agg #[.pointer (some ⟨bb, 0, none⟩)]), .iface 124 (.agg #[.int .i64 x.p, .int .i64 x.o])] w (zke B w0 bb (l ++ [x]) M) := by
  have mln := zgw bb
  have eln := zh7
  have mps := zk3 bb
  have eps := zl2
  have hcap := z0j hcap0
  have hmax := z0j hmax0
  obtain ⟨n, hn⟩ : ∃ n, n = l.length := ⟨_, rfl⟩
  obtain ⟨m, hm⟩ : ∃ m, m = n + 1 := ⟨_, rfl⟩
  have ew : wrap64 ((m : Int) - 1) = (n : Int) := by rw [IntWalk.wrap64_in _ ⟨by omega, by omega⟩]; omega
  have HL2 : Hid ((l ++ [x]).length ≤ 2000) := z0j (by simp; omega)
  have HJ : Hid (n < (l ++ [x]).length) := z0j (by simp; omega)
  have HN := z0j hn
  have HM := z0j hm
  have hl : l.length ≤ 2000 := by omega
  clear hn hm hcap0 hmax0
  go_enter Tryz.func229, Tryz.ntmps229
  go_wp2_with (first | (go_at_call 285; (with_reducible refine (znN hp hl hcap.out hmax.out x).mono ?_); clear hp; rintro e w1 ⟨rfl, g', cap', hp, hc1, hc2⟩; have HC := z0j (And.intro hc1 hc2); clear hc1 hc2; unfold QHp at hp; rw [List.length_append, List.length_singleton, ← HN.out, ← HM.out] at hp) | (go_at_call 282; (with_reducible refine (zkV hp).mono ?_); clear hp; rintro e w1 ⟨rfl, hp⟩) | (go_at_call 249; (with_reducible refine (zpD (zn6 HN.out HM.out hp) HL2.out HJ.out).mono ?_); clear hp; rintro e w1 ⟨rfl, l2, hp, hperm⟩))
  refine bodyPost_end (results_none Tryz.results229 _ _ _) rfl ⟨rfl, g', cap', l2, hp, hperm, ?_, HC.out.2⟩
  rw [hperm.length_eq]; exact HC.out.1
def zm6 (B : Nat) (w0 : World) (bb g cap : Nat) (l : List Bl) (M : List Blk) (e : Ending) (w' : World) : Prop := ∃ l', e = .returned (.iface 124 (.agg #[.int .i64 (gB l 0).p, .int .i64 (gB l 0).o])) ∧ QHp B w0 w' bb g cap l' M ∧ (l' ++ [gB l 0]).Perm l
theorem znA {l : List Bl} {n : Nat} (h : l.length = n + 1) : ∃ l', l = l' ++ [gB l n] ∧ l'.length = n := by
  refine ⟨l.take n, ?_, by rw [List.length_take]; omega⟩
  have h1 := zbc (l := l) (k := n) (by omega)
  have h2 := List.take_append_drop n l
  rw [List.drop_eq_getElem_cons (by omega), List.drop_eq_nil_of_le (by omega)] at h2
  rw [List.getElem?_eq_getElem (by omega)] at h1
  injection h1 with h1
  rw [← h1]; exact h2.symm
theorem zmB {B : Nat} {w0 w : World} {bb g cap : Nat} {l : List Bl} {M : List Blk} (hp : QHp B w0 w bb g cap l M) (hl : l.length ≤ 2000) {k : Nat} {x y : Bl} (hx : l[0]? = some x) (hy : l[k]? = some y) :
    Calls Tryz.prog 286 #[.pointer (some ⟨bb, 0, none⟩), .int .i64 0, .int .i64 k] w fun e w' => e = .returned (.tuple #[]) ∧ QHp B w0 w' bb g cap (zdr l 0 k x y) M := zcl hp hl (i := 0) hx hy
theorem zl1 {B : Nat} {w0 w : World} {bb g cap : Nat} {l : List Bl} {M : List Blk} (hp : QHp B w0 w bb g cap l M) (hl : l.length ≤ 2000) {n : Nat} (hn : n ≤ l.length) :
    Calls Tryz.prog 248 #[.iface 251 (.agg #[.pointer (some ⟨bb, 0, none⟩)]), .int .i64 0, .int .i64 n] w (ziL B w0 bb g cap l M n 0) := zkB hp hl (i0 := 0) (Nat.zero_le n) hn
theorem zn5 {B : Nat} {w0 w : World} {bb g cap m : Nat} {l : List Bl} {M : List Blk} (hm : l.length = m) (hp : Hp B w0 w (⟨bb, [.slice (some ⟨g, 0, none⟩) m cap], 257, 1⟩ :: ⟨g, l.flatMap blV, 124, cap * 2⟩ :: M)) : QHp B w0 w bb g cap l M := by
  unfold QHp
  rw [hm]; exact hp
theorem zny {B : Nat} {w0 w : World} {bb g cap : Nat} {l : List Bl} {M : List Blk} (hp : QHp B w0 w bb g cap l M) (hl : l.length ≤ 2000) (hpos : 0 < l.length) (hcap0 : l.length ≤ cap) :
    Calls Tryz.prog 228 #[.iface 251 (.agg #[.pointer (some ⟨bb, 0, none⟩)])] w (zm6 B w0 bb g cap l M) := by
  have mln := zgw bb
  have eln := zh7
  have msw := ze5 bb
  have esw := zgk
  have mpo := zmg bb
  have epo := znn
  obtain ⟨n, hn⟩ : ∃ n, l.length = n + 1 := ⟨l.length - 1, by omega⟩
  obtain ⟨m, hm⟩ : ∃ m, m = n + 1 := ⟨_, rfl⟩
  rw [← hm] at hn
  have HN := z0j hn
  have ew : wrap64 ((m : Int) - 1) = (n : Int) := by rw [IntWalk.wrap64_in _ ⟨by omega, by omega⟩]; omega
  have HCP : Hid (n + 1 ≤ cap) := z0j (by omega)
  have H0 := z0j (zbc (l := l) (k := 0) hpos)
  have HNN := z0j (zbc (l := l) (k := n) (by omega))
  have HLS : Hid ((zdr l 0 n (gB l 0) (gB l n)).length ≤ 2000) := z0j (by rw [zcP]; exact hl)
  have HNS : Hid (n ≤ (zdr l 0 n (gB l 0) (gB l n)).length) := z0j (by rw [zcP]; omega)
  have HGN : Hid (gB (zdr l 0 n (gB l 0) (gB l n)) n = gB l 0) := z0j (by rw [zd1 hpos (by omega), if_pos rfl])
  unfold QHp at hp
  rw [hn] at hp
  have HMM := z0j hm
  have HNE : Hid (n ≤ 2000) := z0j (by omega)
  clear hm hn hpos hcap0
  go_enter Tryz.func228, Tryz.ntmps228
  go_wp2_with (first | (go_at_call 282; (with_reducible refine (zkV hp).mono ?_); clear hp; rintro e w1 ⟨rfl, hp⟩) | (go_at_call 286; (with_reducible refine (zmB (zn5 HN.out hp) hl H0.out HNN.out).mono ?_); clear hp; rintro e w1 ⟨rfl, hp⟩) | (go_at_call 248; (with_reducible refine (zl1 hp HLS.out HNS.out).mono ?_); clear hp; rintro e w1 ⟨rb, l2, rfl, hp, hdd⟩; obtain ⟨l3, hl3, hn3⟩ := znA (l := l2) (n := n) (by rw [hdd.perm.length_eq, zcP]; exact HN.out.trans HMM.out); rw [hl3] at hp; have HDD := z0j hdd; have HL3 := z0j hl3; have HN3 := z0j hn3; clear hdd hl3 hn3) | (go_at_call 284; (with_reducible refine (zoQ hp (by have := HN3.out; have := HNE.out; omega) (by have := HN3.out; have := HCP.out; omega)).mono ?_); clear hp; rintro e w1 ⟨rfl, hp⟩))
  go_ret
  have h1 : gB l2 n = gB l 0 := (HDD.out.same n (Nat.le_refl _)).trans HGN.out
  have h2 := HL3.out
  rw [h1] at h2 ⊢
  refine ⟨l3, rfl, hp, ?_⟩
  rw [← h2]
  exact HDD.out.perm.trans (zd8 H0.out HNN.out)
def hv (p o : Int) : Nat → List Bl
  | 0 => []
  | n + 1 => hv p o n ++ [⟨p + pw (o - n - 1), o - n - 1⟩]
theorem zmN (p o : Int) : ∀ n, (hv p o n).length = n
  | 0 => rfl
  | n + 1 => by rw [hv, List.length_append, zmN p o n]; rfl
structure zcC (want : Int) (fs : List Bl) (b : Bl) : Prop where
  mem : b ∈ fs
  great : want ≤ b.o
  least : ∀ y ∈ fs, want ≤ y.o → ¬ LtB y b
structure ziP (want : Int) (fs : List Bl) (b : Bl) (s : List Bl) : Prop where
  perm : (b :: s).Perm (fs ++ hv b.p b.o (b.o - want).toNat)
  sort : s.Pairwise fun x y => x.p ≤ y.p
def zam (want : Int) (l : List Bl) : List Bl := l.filter fun b => decide (want ≤ b.o)
def zao (want : Int) (l : List Bl) : List Bl := l.filter fun b => !decide (want ≤ b.o)
theorem znv (want : Int) (l : List Bl) : (zam want l ++ zao want l).Perm l := List.filter_append_perm _ l
theorem zkK {want : Int} {l : List Bl} (h : ZD l want = true) : 0 < (zam want l).length := by
  unfold ZD at h
  obtain ⟨x, hx, hw⟩ := List.any_eq_true.1 h
  exact List.length_pos_of_mem (List.mem_filter.2 ⟨hx, hw⟩)
theorem zmd {want : Int} {fs l : List Bl} (hp : l.Perm (zam want fs)) (hh : zdh l l.length 0) (hl : 0 < l.length) : zcC want fs (gB l 0) := by
  have hm : gB l 0 ∈ zam want fs := hp.mem_iff.1 (List.mem_of_getElem? (zbc hl))
  obtain ⟨h1, h2⟩ := List.mem_filter.1 hm
  refine ⟨h1, by simpa using h2, fun y hy hw => ?_⟩
  have hy2 : y ∈ l := hp.mem_iff.2 (List.mem_filter.2 ⟨hy, by simpa using hw⟩)
  obtain ⟨k, hk, rfl⟩ := List.getElem_of_mem hy2
  have := hh.root k hk
  rw [znu (List.getElem?_eq_getElem hk)] at this
  exact this
def zbZ (want : Int) (fs : List Bl) (b : Bl) (i : Nat) (l : List Bl) : Prop := (b :: l).Perm (zam want fs ++ hv b.p b.o i)
theorem zbZ.start {want : Int} {fs l l' : List Bl} (hp : l.Perm (zam want fs)) (h : (l' ++ [gB l 0]).Perm l) : zbZ want fs (gB l 0) 0 l' := by
  unfold zbZ
  rw [hv, List.append_nil]
  exact (List.perm_append_comm (l₁ := [gB l 0])).trans (h.trans hp)
theorem zbZ.step {want : Int} {fs l l' : List Bl} {b : Bl} {i : Nat} (h : zbZ want fs b i l) (hp : l'.Perm (l ++ [⟨b.p + pw (b.o - i - 1), b.o - i - 1⟩])) : zbZ want fs b (i + 1) l' := by
  unfold zbZ at *
  rw [hv, ← List.append_assoc]
  exact (hp.cons b).trans (h.append_right [_])
theorem zbZ.len {want : Int} {fs l : List Bl} {b : Bl} {i : Nat} (h : zbZ want fs b i l) : l.length + 1 = (zam want fs).length + i := by
  have := h.length_eq
  rw [List.length_append, zmN, List.length_cons] at this
  exact this
theorem zbZ.done {want : Int} {fs l s : List Bl} {b : Bl} (h : zbZ want fs b (b.o - want).toNat l) (hs : s.Perm (l ++ zao want fs)) (hso : s.Pairwise fun x y => x.p ≤ y.p) : ziP want fs b s := by
  refine ⟨?_, hso⟩
  refine (hs.cons b).trans ?_
  rw [← List.cons_append]
  refine (h.append_right _).trans ?_
  rw [List.append_assoc]
  refine (List.perm_append_comm.append_left _).trans ?_
  rw [← List.append_assoc]
  exact (znv want fs).append_right _
theorem zeX (want : Int) (l : List Bl) : (zam want l).length ≤ l.length := List.length_filter_le _ _
theorem zlq (want : Int) (l : List Bl) : (zao want l).length ≤ l.length := List.length_filter_le _ _
theorem zic {want : Int} {l : List Bl} {j : Nat} {y : Bl} (h : l[j]? = some y) (hy : want ≤ y.o) : zam want (l.take (j + 1)) = zam want (l.take j) ++ [y] ∧ zao want (l.take (j + 1)) = zao want (l.take j) := by
  rw [List.take_add_one, h]; simp [zam, zao, hy]
theorem ziy {want : Int} {l : List Bl} {j : Nat} {y : Bl} (h : l[j]? = some y) (hy : ¬ want ≤ y.o) : zao want (l.take (j + 1)) = zao want (l.take j) ++ [y] ∧ zam want (l.take (j + 1)) = zam want (l.take j) := by
  rw [List.take_add_one, h]; simp [zam, zao, hy]
open Go.RowKit Go.Lib Go.Shelf Go.Sort
theorem zeR {ty : TypeId} (h : zN Tryz.prog ty = true := by with_reducible first | exact zw | exact Zd | exact Zc | exact ZE) : zN Tryz.prog ty = true := h
theorem zar : zac Tryz.prog 251 1 = true := by kernel_rfl
theorem zaK : zac Tryz.prog 257 1 = true := by kernel_rfl
theorem zbG : zbl Tryz.prog 251 = some ([.pointer none], 1) := by kernel_rfl
theorem zl4 (args : Array Value) (w : World) : (callFunc 250 args).run Tryz.prog w = .ok (.enter 250 args) w := enters_of Tryz.func250 (by kernel_rfl) rfl args w
theorem zhV : zew 250 := by
  intro x y W
  have hcon := zfH x.p y.p
  generalize zcs x.p y.p = r at hcon ⊢
  go_enter Tryz.func250, Tryz.ntmps250
  go_wp2_with (go_at_call 124; (with_reducible refine (hcon _).mono ?_); rintro e w' ⟨rfl, rfl⟩)
  go_ret
  exact ⟨rfl, 0, _, by rw [alloc_eq_grow, alloc_eq_grow, grow_grow]; rfl⟩
def zn8 (B : Nat) (w0 : World) (bb : Nat) (v : Value) (l : List Bl) (M : List Blk) (e : Ending) (w' : World) : Prop := ∃ (s : List Bl) (R : List Blk), e = .returned v ∧ zH 124 2 v l.length (s.flatMap blV) R ∧ Hp B w0 w' (⟨bb, [v], 257, 1⟩ :: (R ++ M)) ∧ s.Perm l ∧ s.Pairwise fun x y => x.p ≤ y.p
theorem zn9 {B : Nat} {w0 w : World} {b9 : Blk} {bb : Nat} {v : Value} {R M : List Blk} (hp : Hp B w0 w (b9 :: ⟨bb, [v], 257, 1⟩ :: (R ++ M))) : Hp B w0 w (R ++ (⟨bb, [v], 257, 1⟩ :: M)) := hp.tail.reorder List.perm_middle.symm
theorem znO {B : Nat} {w0 w : World} {bb : Nat} {v : Value} {l : List Bl} {R M : List Blk} (hp : Hp B w0 w (⟨bb, [v], 257, 1⟩ :: (R ++ M))) (hR : zH 124 2 v l.length (l.flatMap blV) R) (hl : l.length ≤ 5000) :
    Calls Tryz.prog 230 #[.agg #[.pointer (some ⟨bb, 0, none⟩)]] w (zn8 B w0 bb v l M) := by
  have HR := z0j hR
  clear hR
  go_enter Tryz.func230, Tryz.ntmps230
  go_wp2_with (first | (go_at_call 144; (with_reducible refine (zjf 250 zl4 zhV l HR.out (zn9 hp) hl).mono ?_); clear hp; rintro e w1 ⟨rfl, s, R', hperm, hsort, hr, hp⟩) | go_skip | ((first | ((refine zh _ rfl ?_); refine lZ hp rfl (by with_reducible first | exact zu | exact zbG) ?_; clear hp; intro b w1 hp) | ((refine zi _ _ rfl ?_); refine lB hp rfl (zb rfl) rfl ?_; clear hp; intro b w1 hp) | ((refine zg _ _ rfl ?_); first | refine lO hp rfl (zb rfl) zeR zq ?_ | refine lA hp rfl (zb rfl) (by with_reducible first | exact zl | exact zar | exact zaK) zq ?_) | ((refine zf _ _ _ rfl ?_); (first | refine sO hp rfl (zb rfl) zeR zq ?_ | refine sA hp rfl (zb rfl) (zb rfl) (by with_reducible first | exact zl | exact zar | exact zaK) zq ?_ | refine sG hp rfl (zb rfl) (zb rfl) (by with_reducible first | exact zl | exact zar | exact zaK) zq ?_); clear hp; intro w1 hp; simp only [spl, z0a, z0b] at hp) | ((refine zm _ _ _ rfl ?_); refine lS hp rfl (by intro w; go_simp; rfl) ?_; clear hp; intro b w1 hp; simp only [z0g, z0h, Nat.reduceAdd] at hp)); simp only [ze, zd, z0b, z0a]))
  go_ret
  exact ⟨s, R', rfl, hr, hp.reorder List.perm_middle, hperm, hsort⟩
theorem zA.three {B : Nat} {w0 w : World} {L : List Blk} (h : Hp B w0 w L) {i j k : Nat} {p q r : Blk} (hi : L[i]? = some p) (hj : L[j]? = some q) (hk : L[k]? = some r) : zA B w0 [p, q, r] w := ⟨L, h, fun s hs => by
  rcases List.mem_cons.1 hs with rfl | hs
  · exact Hp.mem hi
  · rcases List.mem_cons.1 hs with rfl | hs
    · exact Hp.mem hj
    · rw [List.mem_singleton.1 hs]; exact Hp.mem hk⟩
def zn7 (w : World) (want : Int) (fs : List Bl) (e : Ending) (w' : World) : Prop := ∃ bb g cap l' vs RS, e = .returned (.tuple #[.agg #[.pointer (some ⟨bb, 0, none⟩)], vs]) ∧ zH 124 2 vs (zao want fs).length ((zao want fs).flatMap blV) RS ∧
  QHp w.heap.size w w' bb g cap l' RS ∧ l'.Perm (zam want fs) ∧ zdh l' l'.length 0 ∧ l'.length ≤ cap ∧ cap ≤ maxLen
theorem zpI {B : Nat} {w0 w : World} {b6 b4 : Blk} {bb g cap : Nat} {l : List Bl} {RS : List Blk} (hp : Hp B w0 w (b6 :: ⟨bb, [.slice (some ⟨g, 0, none⟩) l.length cap], 257, 1⟩ :: b4 :: ([⟨g, l.flatMap blV, 124, cap * 2⟩] ++ RS))) : QHp B w0 w bb g cap l (b6 :: b4 :: RS) := by
  unfold QHp
  refine hp.reorder ?_
  refine (List.Perm.swap _ _ _).trans (List.Perm.cons _ ?_)
  exact (List.Perm.cons _ (List.Perm.swap _ _ _)).trans (List.Perm.swap _ _ _)
theorem zpc {B : Nat} {w0 w : World} {b6 b4 : Blk} {bb g cap : Nat} {l : List Bl} {RS : List Blk} (hp : QHp B w0 w bb g cap l (b6 :: b4 :: RS)) : Hp B w0 w (b6 :: b4 :: ⟨bb, [.slice (some ⟨g, 0, none⟩) l.length cap], 257, 1⟩ :: ⟨g, l.flatMap blV, 124, cap * 2⟩ :: RS) := by
  unfold QHp at hp
  refine hp.reorder ?_
  refine ((List.Perm.cons _ (List.Perm.swap _ _ _)).trans (List.Perm.swap _ _ _)).trans (List.Perm.cons _ ?_)
  exact (List.Perm.cons _ (List.Perm.swap _ _ _)).trans (List.Perm.swap _ _ _)
theorem zlc (fs : List Bl) (a : Option Addr) (c : Nat) (hl : fs.length ≤ 1000) (want : Int) (hsome : 0 < (zam want fs).length) (w : World) (ha : zD w a (fs.flatMap blV)) :
    Calls Tryz.prog 227 #[.slice a fs.length c, .int .i64 want] w (zn7 w want fs) := by
  obtain ⟨i0, hi0, hz0, hz1, hz2⟩ := info_parts za6
  have hp := Hp.start w
  have HA := z0j ha
  clear ha
  go_enter Tryz.func227, Tryz.ntmps227
  go_wp2_with (first | go_skip | ((first | ((refine zh _ rfl ?_); refine lZ hp rfl (by with_reducible first | exact zu | exact zbG) ?_; clear hp; intro b w1 hp) | ((refine zi _ _ rfl ?_); refine lB hp rfl (zb rfl) rfl ?_; clear hp; intro b w1 hp) | ((refine zg _ _ rfl ?_); first | refine lO hp rfl (zb rfl) zeR zq ?_ | refine lA hp rfl (zb rfl) (by with_reducible first | exact zl | exact zar | exact zaK) zq ?_) | ((refine zf _ _ _ rfl ?_); (first | refine sO hp rfl (zb rfl) zeR zq ?_ | refine sA hp rfl (zb rfl) (zb rfl) (by with_reducible first | exact zl | exact zar | exact zaK) zq ?_ | refine sG hp rfl (zb rfl) (zb rfl) (by with_reducible first | exact zl | exact zar | exact zaK) zq ?_); clear hp; intro w1 hp; simp only [spl, z0a, z0b] at hp) | ((refine zm _ _ _ rfl ?_); refine lS hp rfl (by intro w; go_simp; rfl) ?_; clear hp; intro b w1 hp; simp only [z0g, z0h, Nat.reduceAdd] at hp)); simp only [ze, zd, z0b, z0a]))
  obtain ⟨b6, rfl⟩ := hp.id0
  obtain ⟨b5, rfl⟩ := hp.id1
  obtain ⟨bb, rfl⟩ := hp.id2
  obtain ⟨b4, rfl⟩ := hp.id3
  go_loopg [7, 16] fs.length (fun k vs i wr => ∃ (j : Nat) (vq : Value) (RQ RS : List Blk), k + j = fs.length ∧ i = .int .i64 j ∧ Hid (zH 124 2 vq (zam want (fs.take j)).length ((zam want (fs.take j)).flatMap blV) RQ) ∧ Hid (zH 124 2 vs (zao want (fs.take j)).length ((zao want (fs.take j)).flatMap blV) RS) ∧
    Hp w.heap.size w wr (⟨b6, [.pointer (some ⟨bb, 0, none⟩)], 251, 1⟩ :: ⟨bb, [vq], 257, 1⟩ :: ⟨b4, [.pointer none], 251, 1⟩ :: (RQ ++ RS)))
  case atStart =>
    refine ⟨0, _, [], [⟨b5, [], 124, 0⟩], by omega, rfl, z0j (zH.nil _ _), z0j ⟨rfl, .inr ⟨b5, 0, rfl, Nat.le_refl _, Nat.zero_le _, rfl⟩⟩, ?_⟩
    exact hp.reorder (List.Perm.cons _ ((List.Perm.swap _ _ _).trans (List.Perm.cons _ (List.Perm.swap _ _ _))))
  case round =>
    clear hp
    obtain ⟨j, vq, RQ, RS, hkj, rfl, HRQ, HRS, hp⟩ := hrel
    by_cases hlt : j < fs.length
    · obtain ⟨bq, off, rfl, hx⟩ := HA.out.elems 2 Zk (by omega) (by omega)
      have hj := List.getElem?_eq_getElem hlt
      replace hx := hx j _ hj
      have HJ := z0j hj
      clear hj
      generalize fs[j] = y at hx HJ
      have gl : (zam want (fs.take j)).length ≤ fs.length := Nat.le_trans (List.length_filter_le _ _) (by rw [List.length_take]; omega)
      have sl : (zao want (fs.take j)).length ≤ fs.length := Nat.le_trans (List.length_filter_le _ _) (by rw [List.length_take]; omega)
      have sm1 : (zam want (fs.take j)).length + 1 ≤ maxLen := by unfold maxLen; omega
      have sm2 : ((zam want (fs.take j)).length + 1) * 16 ≤ 140737488355328 := by omega
      have sm3 : (zao want (fs.take j)).length + 1 ≤ maxLen := by unfold maxLen; omega
      have sm4 : ((zao want (fs.take j)).length + 1) * 16 ≤ 140737488355328 := by omega
      clear gl sl
      by_cases hw : want ≤ y.o
      · have HG := z0j (zic HJ.out hw)
        obtain ⟨yp, yo⟩ := y
        simp only [blV] at hx
        have HX := z0j hx
        have e1 : (0 : Int) ≤ (j : Int) := by omega
        have e2 : (j : Int) < (fs.length : Int) := by omega
        have e3 : decide (want ≤ yo) = true := decide_eq_true hw
        clear hx hw
        go_wp2_with (first | go_skip | ((first | ((refine zh _ rfl ?_); refine lZ hp rfl (by with_reducible first | exact zu | exact zbG) ?_; clear hp; intro b w1 hp) | ((refine zi _ _ rfl ?_); refine lB hp rfl (zb rfl) rfl ?_; clear hp; intro b w1 hp) | ((refine zg _ _ rfl ?_); first | refine lO hp rfl (zb rfl) zeR zq ?_ | refine lA hp rfl (zb rfl) (by with_reducible first | exact zl | exact zar | exact zaK) zq ?_ | refine lR hp rfl (zb rfl) (by with_reducible first | exact zl | exact zar | exact zaK) HX.out ?_) | ((refine zf _ _ _ rfl ?_); (first | refine sO hp rfl (zb rfl) zeR zq ?_ | refine sA hp rfl (zb rfl) (zb rfl) (by with_reducible first | exact zl | exact zar | exact zaK) zq ?_ | refine sG hp rfl (zb rfl) (zb rfl) (by with_reducible first | exact zl | exact zar | exact zaK) zq ?_); clear hp; intro w1 hp; simp only [spl, z0a, z0b] at hp) | ((refine zm _ _ _ rfl ?_); refine lS hp rfl (by intro w; go_simp; rfl) ?_; clear hp; intro b w1 hp; simp only [z0g, z0h, Nat.reduceAdd] at hp)); simp only [ze, zd, z0b, z0a]))
        refine zk [_, _, _] (zA.three hp.drew at0 at1 at2) [12] [(0, true), (1, true), (2, true), (3, true), (4, true), (5, true), (6, true), (7, true), (8, false), (9, false), (10, true), (11, true), (12, false)] (by kernel_rfl) (by kernel_rfl) rfl (by kernel_rfl) (fun _ _ d _ _ h => by cases d <;> exact h) ?_
        replace hp := hp.drew
        repeat' (with_reducible refine zB ?_); first | (with_reducible refine zt ?_) | ((with_reducible refine zI ?_); refine zy rfl ?_; (first | ((with_reducible refine zS _ _ rfl ?_); first | refine tA rfl (zb rfl) zl aa5 ?_ | refine tO rfl (zb rfl) (by with_reducible first | exact Zc | exact ZE) aa5 ?_) | refine tG (fun w _ => (by go_simp; try rfl)) ?_); try simp only [ze, zd, zn, zj, z0b, z0a, z0d, z0c, zr]) | (refine zF rfl (fun K hK => ?_); go_wp2_with (first | ((refine zM _ _ 45 rfl ?_); refine zG (K := [_, _, _, _]) (R := RQ) (M := RS) hp _ _ _ rfl wy i0 _ 16 Tryz.underlying45 hi0 hz0 hz1 hz2 rfl (by decide) (zb rfl) HRQ.out 1 1 (zb rfl) (by rfl) (by decide) (by rfl) sm1 sm2 ?_; clear hp HRQ; intro v' R' w1 hr hp; have HRQ := z0j hr; obtain ⟨g', cap', rfl, hc1, hc2, rfl⟩ := hr.cons; simp only [z0f, z0e] at hp; simp only [ze, zd, z0b, z0a]) | go_skip | ((first | ((refine zf _ _ _ rfl ?_); (first | refine sO hp rfl (zb rfl) zeR zq ?_ | refine sA hp rfl (zb rfl) (zb rfl) (by with_reducible first | exact zl | exact zar | exact zaK) zq ?_ | refine sG hp rfl (zb rfl) (zb rfl) (by with_reducible first | exact zl | exact zar | exact zaK) zq ?_); clear hp; intro w1 hp; simp only [spl, z0a, z0b] at hp) | ((refine zm _ _ _ rfl ?_); refine lS hp rfl (by intro w; go_simp; rfl) ?_; clear hp; intro b w1 hp; simp only [z0g, z0h, Nat.reduceAdd] at hp)); simp only [ze, zd, z0b, z0a])); (first | refine hK.out _ _ (.inl rfl) ?_ | refine hK.out _ _ (.inr (zA.three hp aa5 aa5 aa5)) ?_); clear hK K; try simp only [ze, zd, zn, zj, z0b, z0a, z0d, z0c, zr])
        go_wp2_with fail
        go_roundg (gk - 1)
        case measure => omega
        case rel => exact ⟨j + 1, _, _, RS, by omega, by go_num, z0j (by rw [HG.out.1, List.length_append, List.flatMap_append]; exact HRQ.out), z0j (by rw [HG.out.2]; exact HRS.out), hp.tail⟩
      · have HG := z0j (ziy HJ.out hw)
        obtain ⟨yp, yo⟩ := y
        simp only [blV] at hx
        have HX := z0j hx
        have e1 : (0 : Int) ≤ (j : Int) := by omega
        have e2 : (j : Int) < (fs.length : Int) := by omega
        have e3 : decide (want ≤ yo) = false := decide_eq_false hw
        clear hx hw
        go_wp2_with (first | ((refine zM _ _ 45 rfl ?_); refine zG (K := [_, _, _, _]) (R := RS) (M := RQ) (hp.reorder (List.Perm.cons _ (List.Perm.cons _ (List.Perm.cons _ (List.Perm.cons _ (List.Perm.cons _ List.perm_append_comm)))))) _ _ _ rfl wy i0 _ 16 Tryz.underlying45 hi0 hz0 hz1 hz2 rfl (by decide) (zb rfl) HRS.out 1 1 (zb rfl) (by rfl) (by decide) (by rfl) sm3 sm4 ?_; clear hp HRS; intro v' R' w1 hr hp; have HRS := z0j hr; clear hr; simp only [z0f, z0e] at hp; simp only [ze, zd, z0b, z0a]) | go_skip | ((first | ((refine zh _ rfl ?_); refine lZ hp rfl (by with_reducible first | exact zu | exact zbG) ?_; clear hp; intro b w1 hp) | ((refine zi _ _ rfl ?_); refine lB hp rfl (zb rfl) rfl ?_; clear hp; intro b w1 hp) | ((refine zg _ _ rfl ?_); first | refine lO hp rfl (zb rfl) zeR zq ?_ | refine lA hp rfl (zb rfl) (by with_reducible first | exact zl | exact zar | exact zaK) zq ?_ | refine lR hp rfl (zb rfl) (by with_reducible first | exact zl | exact zar | exact zaK) HX.out ?_) | ((refine zf _ _ _ rfl ?_); (first | refine sO hp rfl (zb rfl) zeR zq ?_ | refine sA hp rfl (zb rfl) (zb rfl) (by with_reducible first | exact zl | exact zar | exact zaK) zq ?_ | refine sG hp rfl (zb rfl) (zb rfl) (by with_reducible first | exact zl | exact zar | exact zaK) zq ?_); clear hp; intro w1 hp; simp only [spl, z0a, z0b] at hp) | ((refine zm _ _ _ rfl ?_); refine lS hp rfl (by intro w; go_simp; rfl) ?_; clear hp; intro b w1 hp; simp only [z0g, z0h, Nat.reduceAdd] at hp)); simp only [ze, zd, z0b, z0a]))
        go_roundg (gk - 1)
        case measure => omega
        case rel => exact ⟨j + 1, vq, RQ, _, by omega, by go_num, z0j (by rw [HG.out.2]; exact HRQ.out), z0j (by rw [HG.out.1, List.length_append, List.flatMap_append]; exact HRS.out), (hp.tail).reorder (List.Perm.cons _ (List.Perm.cons _ (List.Perm.cons _ List.perm_append_comm)))⟩
    · have e2 : decide ((j : Int) < (fs.length : Int)) = false := by simp; omega
      rw [List.take_of_length_le (by omega)] at HRQ HRS
      obtain ⟨n, hn⟩ : ∃ n, (zam want fs).length = n + 1 := ⟨(zam want fs).length - 1, by omega⟩
      have hrq := HRQ.out
      rw [hn] at hrq
      obtain ⟨g', cap', rfl, hc1, hc2, rfl⟩ := hrq.cons
      rw [← hn] at hp hc1
      have HC := z0j (And.intro hc1 hc2)
      have HLQ : Hid ((zam want fs).length ≤ 2000) := z0j (Nat.le_trans (List.length_filter_le _ _) (by omega))
      clear hrq hc1 hc2 hn hsome
      go_wp2_with (first | (go_at_call 247; (with_reducible refine (znz (zpI hp) HLQ.out).mono ?_); clear hp; rintro e w1 ⟨rfl, l2, hq, hperm2, hheap⟩; have hp := zpc hq; clear hq) | go_skip | ((first | ((refine zh _ rfl ?_); refine lZ hp rfl (by with_reducible first | exact zu | exact zbG) ?_; clear hp; intro b w1 hp) | ((refine zi _ _ rfl ?_); refine lB hp rfl (zb rfl) rfl ?_; clear hp; intro b w1 hp) | ((refine zg _ _ rfl ?_); first | refine lO hp rfl (zb rfl) zeR zq ?_ | refine lA hp rfl (zb rfl) (by with_reducible first | exact zl | exact zar | exact zaK) zq ?_) | ((refine zf _ _ _ rfl ?_); (first | refine sO hp rfl (zb rfl) zeR zq ?_ | refine sA hp rfl (zb rfl) (zb rfl) (by with_reducible first | exact zl | exact zar | exact zaK) zq ?_ | refine sG hp rfl (zb rfl) (zb rfl) (by with_reducible first | exact zl | exact zar | exact zaK) zq ?_); clear hp; intro w1 hp; simp only [spl, z0a, z0b] at hp) | ((refine zm _ _ _ rfl ?_); refine lS hp rfl (by intro w; go_simp; rfl) ?_; clear hp; intro b w1 hp; simp only [z0g, z0h, Nat.reduceAdd] at hp)); simp only [ze, zd, z0b, z0a]))
      exact bodyPost_ret (zx (rs := [.cell 4 251, .tmp 5]) Tryz.results227 (.cell rfl (hp.loadAgg zar at1 0 _ (by rfl) (by rfl)) (.tmp rfl .nil))) rfl
        ⟨bb, g', cap', l2, _, RS, rfl, HRS.out, hp.tail.tail, hperm2, hheap, by rw [hperm2.length_eq]; exact HC.out.1, HC.out.2⟩
open Go.RowKit
theorem zbH {ty : TypeId} {k : Nat} (h : zac Tryz.prog ty k = true := by with_reducible first | exact zl | exact zar | exact zaK) : zac Tryz.prog ty k = true := h
theorem zdA {ty : TypeId} (h : zN Tryz.prog ty = true := by with_reducible first | exact zw | exact Zd | exact Zc | exact ZE | exact zaa) : zN Tryz.prog ty = true := h
def zkk (w : World) (c : Int) (e : Ending) (w' : World) : Prop := e = .returned (.tuple #[.agg #[.int .i64 0, .int .i64 0], .slice none 0 0, .int .i64 c]) ∧ Below w.heap.size w w'
def zoa (w : World) (want : Int) (fs : List Bl) (e : Ending) (w' : World) : Prop := ∃ (b : Bl) (a : Option Addr) (k : Nat) (R : List Blk) (s : List Bl), e = .returned (.tuple #[.agg #[.int .i64 b.p, .int .i64 want], .slice a s.length k, .int .i64 0]) ∧ zcC want fs b ∧ ziP want fs b s ∧
  zH 124 2 (.slice a s.length k) s.length (s.flatMap blV) R ∧ Hp w.heap.size w w' R
theorem ziA (order want : Int) (fs : List Bl) (a : Option Addr) (c : Nat) (hl : fs.length ≤ 600) (w : World) (ha : zD w a (fs.flatMap blV)) (h : zW order fs = false ∨ want < 0 ∨ order < want) : Calls Tryz.prog 202 #[.int .i64 order, .slice a fs.length c, .int .i64 want] w (zkk w 1) := by
  have hp := Hp.start w
  have HA := z0j ha
  clear ha
  have hw : (zgL (zW order fs) = 1 ∧ True) ∨ (zgL (zW order fs) = 0 ∧ decide (want < 0) = true) ∨ (zgL (zW order fs) = 0 ∧ decide (want < 0) = false ∧ decide (order < want) = true) := by
    cases hr : zW order fs with
    | false => exact .inl ⟨rfl, trivial⟩
    | true =>
      right
      by_cases h1 : want < 0
      · exact .inl ⟨rfl, decide_eq_true h1⟩
      · right
        rcases h with h | h | h
        · rw [hr] at h; cases h
        · exact absurd h h1
        · exact ⟨rfl, decide_eq_false h1, decide_eq_true h⟩
  clear h
  rcases hw with ⟨hr, h1⟩ | ⟨hr, h1⟩ | ⟨hr, h1, h2⟩
  all_goals
    have HE := z0j hr
    clear hr
    go_enter Tryz.func202, Tryz.ntmps202
    go_wp2_with (first | (go_at_call 139; (with_reducible refine (zcZ order fs a c hl _ (HA.out.below hp.below)).mono ?_); rintro e w1 ⟨rfl, hb⟩; rw [HE.out]; replace hp := hp.call hb; clear hb) | go_skip | ((first | ((refine zh _ rfl ?_); refine lZ hp rfl (by with_reducible first | exact zu | exact zbG) ?_; clear hp; intro b w1 hp) | ((refine zi _ _ rfl ?_); refine lB hp rfl (zb rfl) rfl ?_; clear hp; intro b w1 hp) | ((refine zg _ _ rfl ?_); first | refine lO hp rfl (zb rfl) zdA zq ?_ | refine lA hp rfl (zb rfl) zbH zq ?_) | ((refine zf _ _ _ rfl ?_); (first | refine sO hp rfl (zb rfl) zdA zq ?_ | refine sA hp rfl (zb rfl) (zb rfl) zbH zq ?_ | refine sG hp rfl (zb rfl) (zb rfl) zbH zq ?_); clear hp; intro w1 hp; simp only [spl, z0a, z0b] at hp) | ((refine zm _ _ _ rfl ?_); refine lS hp rfl (by intro w; go_simp; rfl) ?_; clear hp; intro b w1 hp; simp only [z0g, z0h, Nat.reduceAdd] at hp)); simp only [ze, zd, z0b, z0a]))
    exact bodyPost_ret (zx (rs := [.cell 6 124, .tmp 7, .tmp 8]) Tryz.results202 (.cell rfl (hp.loadAgg zl at0 0 _ (by rfl) (by rfl)) (.tmp rfl (.tmp rfl .nil)))) rfl ⟨rfl, hp.below⟩
theorem zhy (order want : Int) (fs : List Bl) (a : Option Addr) (c : Nat) (hl : fs.length ≤ 600) (w : World) (ha : zD w a (fs.flatMap blV)) (hr : zW order fs = true) (h0 : 0 ≤ want) (h1 : want ≤ order) (hg : ZD fs want = false) : Calls Tryz.prog 202 #[.int .i64 order, .slice a fs.length c, .int .i64 want] w (zkk w 40) := by
  have hp := Hp.start w
  have HA := z0j ha
  have HE : Hid (zgL (zW order fs) = 0) := z0j (by rw [hr]; rfl)
  have HM : Hid (zfw order fs want = false) := z0j (by simp [zfw, hg])
  have e1 : decide (want < 0) = false := by simp; omega
  have e2 : decide (order < want) = false := by simp; omega
  clear ha hr h0 h1 hg
  go_enter Tryz.func202, Tryz.ntmps202
  go_wp2_with (first | (go_at_call 139; (with_reducible refine (zcZ order fs a c hl _ (HA.out.below hp.below)).mono ?_); rintro e w1 ⟨rfl, hb⟩; rw [HE.out]; replace hp := hp.call hb; clear hb) | (go_at_call 226; (with_reducible refine (zll order fs a c hl want _ (HA.out.below hp.below)).mono ?_); rintro e w1 ⟨rfl, hb⟩; rw [HM.out]; replace hp := hp.call hb; clear hb) | go_skip | ((first | ((refine zh _ rfl ?_); refine lZ hp rfl (by with_reducible first | exact zu | exact zbG) ?_; clear hp; intro b w1 hp) | ((refine zi _ _ rfl ?_); refine lB hp rfl (zb rfl) rfl ?_; clear hp; intro b w1 hp) | ((refine zg _ _ rfl ?_); first | refine lO hp rfl (zb rfl) zdA zq ?_ | refine lA hp rfl (zb rfl) zbH zq ?_) | ((refine zf _ _ _ rfl ?_); (first | refine sO hp rfl (zb rfl) zdA zq ?_ | refine sA hp rfl (zb rfl) (zb rfl) zbH zq ?_ | refine sG hp rfl (zb rfl) (zb rfl) zbH zq ?_); clear hp; intro w1 hp; simp only [spl, z0a, z0b] at hp) | ((refine zm _ _ _ rfl ?_); refine lS hp rfl (by intro w; go_simp; rfl) ?_; clear hp; intro b w1 hp; simp only [z0g, z0h, Nat.reduceAdd] at hp)); simp only [ze, zd, z0b, z0a]))
  exact bodyPost_ret (zx (rs := [.cell 6 124, .tmp 7, .tmp 8]) Tryz.results202 (.cell rfl (hp.loadAgg zl at0 0 _ (by rfl) (by rfl)) (.tmp rfl (.tmp rfl .nil)))) rfl ⟨rfl, hp.below⟩
theorem zpQ {B : Nat} {w0 w : World} {bb g cap : Nat} {l : List Bl} {M : List Blk} (h : QHp B w0 w bb g cap l M) : Hp B w0 w (⟨bb, [.slice (some ⟨g, 0, none⟩) l.length cap], 257, 1⟩ :: ⟨g, l.flatMap blV, 124, cap * 2⟩ :: M) := h
theorem zpz {B : Nat} {w0 w : World} {x y : Blk} {bb g cap n : Nat} {l : List Bl} {M : List Blk} (hn : n = l.length) (h : Hp B w0 w (x :: y :: ⟨bb, [.slice (some ⟨g, 0, none⟩) n cap], 257, 1⟩ :: ⟨g, l.flatMap blV, 124, cap * 2⟩ :: M)) : QHp B w0 w bb g cap l (x :: y :: M) := by
  subst hn
  unfold QHp
  refine h.reorder ?_
  refine (List.Perm.cons _ ((List.Perm.swap _ _ _).trans (List.Perm.cons _ (List.Perm.swap _ _ _)))).trans ?_
  refine (List.Perm.swap _ _ _).trans (List.Perm.cons _ ?_)
  exact List.Perm.swap _ _ _
theorem zoS {B : Nat} {w0 w : World} {x y : Blk} {bb g cap : Nat} {l : List Bl} {M : List Blk} (h : QHp B w0 w bb g cap l (x :: y :: M)) : Hp B w0 w (x :: y :: ⟨bb, [.slice (some ⟨g, 0, none⟩) l.length cap], 257, 1⟩ :: ⟨g, l.flatMap blV, 124, cap * 2⟩ :: M) := by
  unfold QHp at h
  refine h.reorder (List.Perm.symm ?_)
  refine (List.Perm.cons _ ((List.Perm.swap _ _ _).trans (List.Perm.cons _ (List.Perm.swap _ _ _)))).trans ?_
  refine (List.Perm.swap _ _ _).trans (List.Perm.cons _ ?_)
  exact List.Perm.swap _ _ _
theorem Hp.sub {B : Nat} {w0 w : World} {L L' : List Blk} (hp : Hp B w0 w L) (h : L'.Sublist L) : Hp B w0 w L' :=
  ⟨hp.below, hp.size, (h.map _).nodup hp.nodup, fun p hpL => hp.own p (h.subset hpL)⟩
theorem zhu {od : Int} {fs : List Bl} (h : zW od fs = true) : 3 ≤ od ∧ od ≤ 8 ∧ zcv od fs := by
  unfold zW ZF at h
  simp only [Bool.and_eq_true, decide_eq_true_eq] at h
  exact ⟨h.1.1, h.1.2, h.2⟩
theorem zoO {x y z b r : Blk} {M : List Blk} : (x :: y :: z :: b :: r :: M).Perm (b :: r :: x :: y :: z :: M) := by
  have h1 : (x :: y :: z :: b :: r :: M) = [x, y, z] ++ ([b, r] ++ M) := rfl
  have h2 : (b :: r :: x :: y :: z :: M) = [b, r] ++ ([x, y, z] ++ M) := rfl
  rw [h1, h2, ← List.append_assoc, ← List.append_assoc]
  exact List.perm_append_comm.append_right _
theorem zpA {B : Nat} {w0 w : World} {x y z : Blk} {bb g cap : Nat} {l : List Bl} {M : List Blk} (h : Hp B w0 w (x :: y :: z :: ⟨bb, [.slice (some ⟨g, 0, none⟩) l.length cap], 257, 1⟩ :: ⟨g, l.flatMap blV, 124, cap * 2⟩ :: M)) : QHp B w0 w bb g cap l (x :: y :: z :: M) := h.reorder zoO
theorem zoT {B : Nat} {w0 w : World} {x y z : Blk} {bb g cap : Nat} {l : List Bl} {M : List Blk} (h : QHp B w0 w bb g cap l (x :: y :: z :: M)) : Hp B w0 w (x :: y :: z :: ⟨bb, [.slice (some ⟨g, 0, none⟩) l.length cap], 257, 1⟩ :: ⟨g, l.flatMap blV, 124, cap * 2⟩ :: M) := Hp.reorder h zoO.symm
theorem zkL {B : Nat} {w0 w : World} {x y z : Blk} {bb g cap : Nat} {l : List Bl} {M : List Blk} (hp : Hp B w0 w (x :: y :: z :: ⟨bb, [.slice (some ⟨g, 0, none⟩) l.length cap], 257, 1⟩ :: ⟨g, l.flatMap blV, 124, cap * 2⟩ :: M)) (hl : l.length ≤ 1900) (hcap : l.length ≤ cap ∧ cap ≤ maxLen) (p o : Int) :
    Calls Tryz.prog 229 #[.iface 251 (.agg #[.pointer (some ⟨bb, 0, none⟩)]), .iface 124 (.agg #[.int .i64 p, .int .i64 o])] w (zke B w0 bb (l ++ [⟨p, o⟩]) (x :: y :: z :: M)) := zl9 (zpA hp) hl hcap.1 hcap.2 ⟨p, o⟩
theorem zod (want : Int) (l : List Bl) (k : List Bl) : l.flatMap blV ++ k.flatMap blV = (l ++ k).flatMap blV := List.flatMap_append.symm
theorem zoP {x y z b : Blk} {R M : List Blk} : (x :: y :: z :: b :: (R ++ M)).Perm (b :: (R ++ (x :: y :: z :: M))) := by
  have h1 : (x :: y :: z :: b :: (R ++ M)) = [x, y, z] ++ ([b] ++ (R ++ M)) := rfl
  have h2 : (b :: (R ++ (x :: y :: z :: M))) = [b] ++ (R ++ ([x, y, z] ++ M)) := rfl
  rw [h1, h2, ← List.append_assoc, ← List.append_assoc, ← List.append_assoc, ← List.append_assoc]
  exact ((List.perm_append_comm (l₁ := [x, y, z]) (l₂ := [b])).append_right R |>.trans (by rw [List.append_assoc, List.append_assoc]; exact List.perm_append_comm.append_left _)).append_right M
theorem zpB {B : Nat} {w0 w : World} {x y z : Blk} {bb : Nat} {v : Value} {R M : List Blk} (h : Hp B w0 w (x :: y :: z :: ⟨bb, [v], 257, 1⟩ :: (R ++ M))) : Hp B w0 w (⟨bb, [v], 257, 1⟩ :: (R ++ (x :: y :: z :: M))) := h.reorder zoP
theorem zoU {B : Nat} {w0 w : World} {x y z : Blk} {bb : Nat} {v : Value} {R M : List Blk} (h : Hp B w0 w (⟨bb, [v], 257, 1⟩ :: (R ++ (x :: y :: z :: M)))) : Hp B w0 w (x :: y :: z :: ⟨bb, [v], 257, 1⟩ :: (R ++ M)) := h.reorder zoP.symm
theorem zj5 (order want : Int) (fs : List Bl) (a : Option Addr) (c : Nat) (hl : fs.length ≤ 600) (w : World) (ha : zD w a (fs.flatMap blV)) (hr : zW order fs = true) (h0 : 0 ≤ want) (h1 : want ≤ order) (hg : ZD fs want = true) : Calls Tryz.prog 202 #[.int .i64 order, .slice a fs.length c, .int .i64 want] w (zoa w want fs) := by
  obtain ⟨i0, hi0, hz0, hz1, hz2⟩ := info_parts za6
  have hp := Hp.start w
  have HA := z0j ha
  have HE : Hid (zgL (zW order fs) = 0) := z0j (by rw [hr]; rfl)
  have HM : Hid (zfw order fs want = true) := z0j (by simp [zfw, hg, hr, h0, h1])
  have HGP := z0j (zkK hg)
  have HRB := z0j hr
  have e1 : decide (want < 0) = false := by simp; omega
  have e2 : decide (order < want) = false := by simp; omega
  have mkq := zoG
  have mkb := zmV
  have asb := zmK
  clear ha hr hg
  go_enter Tryz.func202, Tryz.ntmps202
  go_wp2_with (first | (go_at_call 139; (with_reducible refine (zcZ order fs a c hl _ (HA.out.below hp.below)).mono ?_); rintro e w1 ⟨rfl, hb⟩; rw [HE.out]; replace hp := hp.call hb; clear hb) | (go_at_call 226; (with_reducible refine (zll order fs a c hl want _ (HA.out.below hp.below)).mono ?_); rintro e w1 ⟨rfl, hb⟩; rw [HM.out]; replace hp := hp.call hb; clear hb) | (go_at_call 227; (with_reducible refine (zlc fs a c (by omega) want HGP.out _ (HA.out.below hp.below)).mono ?_); rintro e w1 ⟨bb, g, cap, l1, vs, RS, rfl, hos, hq, hperm, hheap, hc1, hc2⟩; replace hp := hp.join (zpQ hq); have HQ := z0j (And.intro hos (And.intro hperm (And.intro hheap (And.intro hc1 hc2)))); have HLQ : Hid (l1.length ≤ 2000) := z0j (by rw [hperm.length_eq]; have := zeX want fs; omega); have HPQ : Hid (0 < l1.length) := z0j (by rw [hperm.length_eq]; exact HGP.out); have HCQ := z0j hc1; have HLT := z0j (zmd hperm hheap HPQ.out); clear hos hq hperm hheap hc1 hc2; simp only [z0f, z0e] at hp) | (go_at_call 228; (with_reducible refine (zny (zpz rfl hp) HLQ.out HPQ.out HCQ.out).mono ?_); clear hp; rintro e w1 ⟨l2, rfl, hq, hperm⟩; have hp := zoS hq; have HPP := z0j hperm; clear hq hperm) | go_skip | ((first | ((refine zh _ rfl ?_); refine lZ hp rfl (by with_reducible first | exact zu | exact zbG) ?_; clear hp; intro b w1 hp) | ((refine zi _ _ rfl ?_); refine lB hp rfl (zb rfl) rfl ?_; clear hp; intro b w1 hp) | ((refine zg _ _ rfl ?_); first | refine lO hp rfl (zb rfl) zdA zq ?_ | refine lA hp rfl (zb rfl) zbH zq ?_) | ((refine zf _ _ _ rfl ?_); (first | refine sO hp rfl (zb rfl) zdA zq ?_ | refine sA hp rfl (zb rfl) (zb rfl) zbH zq ?_ | refine sG hp rfl (zb rfl) (zb rfl) zbH zq ?_); clear hp; intro w1 hp; simp only [spl, z0a, z0b] at hp) | ((refine zm _ _ _ rfl ?_); refine lS hp rfl (by intro w; go_simp; rfl) ?_; clear hp; intro b w1 hp; simp only [z0g, z0h, Nat.reduceAdd] at hp)); simp only [ze, zd, z0b, z0a]))
  obtain ⟨b11, rfl⟩ := hp.id0
  obtain ⟨b9, rfl⟩ := hp.id1
  obtain ⟨b6, rfl⟩ := hp.id2
  obtain ⟨hos, hperm, hheap, hc1, hc2⟩ := HQ.out
  have hsp := zbZ.start hperm HPP.out
  have hcl : l2.length ≤ cap := by have := HPP.out.length_eq; simp at this; omega
  have hlt := HLT.out
  generalize gB l1 0 = bt at hp hsp hlt ⊢
  have HSP := z0j hsp
  have HLE := z0j hlt
  have HCC := z0j (And.intro hcl hc2)
  have HOS := z0j hos
  obtain ⟨g3, g8, hgood⟩ := zhu HRB.out
  obtain ⟨ii, hii, hbe⟩ := List.getElem_of_mem hlt.mem
  have hmay := (hgood ii _ (List.getElem?_eq_getElem hii)).1
  rw [hbe] at hmay
  have hwo := hlt.great
  obtain ⟨tp, to⟩ := bt
  obtain ⟨m1, m2, m3, m4, m5, m6⟩ := zaB g8 hmay
  simp only at hwo
  obtain ⟨N, hN⟩ : ∃ N : Nat, N = (to - want).toNat := ⟨_, rfl⟩
  have HN := z0j hN
  have HNI : Hid ((N : Int) = to - want) := z0j (by omega)
  have HMM := z0j (And.intro m1 (And.intro m3 (And.intro m4 m6)))
  clear hos hperm hheap hc1 hc2 hsp hcl hlt HLT HPP HQ HLQ HPQ HCQ hgood hii hbe hmay hwo m1 m2 m3 m4 m5 m6 hN g3 g8
  go_loopg [] N (fun k wr => ∃ (i : Nat) (co : Int) (g cap : Nat) (l2 : List Bl), k + i = N ∧ Hid (co = to - i) ∧ Hid (zbZ want fs ⟨tp, to⟩ i l2) ∧ Hid (l2.length ≤ cap ∧ cap ≤ maxLen) ∧
    Hp w.heap.size w wr (⟨b11, [.int .i64 tp, .int .i64 co], 124, 2⟩ :: ⟨b9, [.pointer (some ⟨bb, 0, none⟩)], 251, 1⟩ :: ⟨b6, [.int .i64 0, .int .i64 0], 124, 2⟩ :: ⟨bb, [.slice (some ⟨g, 0, none⟩) l2.length cap], 257, 1⟩ :: ⟨g, l2.flatMap blV, 124, cap * 2⟩ :: RS))
  case atStart => exact ⟨0, to, g, cap, l2, by omega, z0j (by simp), HSP, HCC, hp⟩
  case round =>
    clear hp HSP HCC
    obtain ⟨i, co, g, cap, l2, hki, HCO, HSP, HCC, hp⟩ := hrel
    by_cases hlt : want < co
    · obtain ⟨nco, hnco⟩ : ∃ n : Int, n = co - 1 := ⟨_, rfl⟩
      have hco := HCO.out
      obtain ⟨m1, m3, m4, m6⟩ := HMM.out
      have h0n : 0 ≤ nco := by omega
      have h8n : nco ≤ 8 := by omega
      have hpw := zdN h8n
      have hpp := z7 nco
      obtain ⟨q, hq⟩ : ∃ q : Int, q = tp + pw nco := ⟨_, rfl⟩
      have ew1 : wrap64 (co - 1) = nco := by rw [IntWalk.wrap64_in _ ⟨by omega, by omega⟩]; omega
      have ew2 : wrap64 (tp + pw nco) = q := by rw [IntWalk.wrap64_in _ ⟨by omega, by have := z7 to; omega⟩]; omega
      have e3 : decide (want < co) = true := decide_eq_true hlt
      have HST : Hid (q = tp + pw (to - i - 1) ∧ nco = to - i - 1) := z0j (by rw [hq, hnco, hco]; exact ⟨rfl, rfl⟩)
      have HL2 : Hid (l2.length ≤ 1900) := z0j (by have h1 := HSP.out.len; have h2 := zeX want fs; have := HNI.out; omega)
      have HCN : Hid (nco = to - ((i + 1 : Nat) : Int)) := z0j (by omega)
      have HKI := z0j hki
      have EW1 := z0j ew1
      have HGK : Hid (0 < gk) := z0j (by have := HNI.out; omega)
      clear hnco hq hpw hpp hlt hco m1 m3 m4 m6 hki
      go_wp2_with (first | go_skip | ((first | ((refine zh _ rfl ?_); refine lZ hp rfl (by with_reducible first | exact zu | exact zbG) ?_; clear hp; intro b w1 hp) | ((refine zi _ _ rfl ?_); refine lB hp rfl (zb rfl) rfl ?_; clear hp; intro b w1 hp) | ((refine zg _ _ rfl ?_); first | refine lO hp rfl (zb rfl) zdA zq ?_ | refine lA hp rfl (zb rfl) zbH zq ?_) | ((refine zf _ _ _ rfl ?_); (first | refine sO hp rfl (zb rfl) zdA zq ?_ | refine sA hp rfl (zb rfl) (zb rfl) zbH zq ?_ | refine sG hp rfl (zb rfl) (zb rfl) zbH zq ?_); clear hp; intro w1 hp; simp only [spl, z0a, z0b] at hp) | ((refine zm _ _ _ rfl ?_); refine lS hp rfl (by intro w; go_simp; rfl) ?_; clear hp; intro b w1 hp; simp only [z0g, z0h, Nat.reduceAdd] at hp)); simp only [ze, zd, z0b, z0a]))
      refine zk [_, _] (zA.two hp.drew at0 at1) [] [(0, true), (1, true), (2, true), (3, true), (4, true), (5, true), (8, true), (9, true), (6, false), (7, true), (10, true), (11, true), (12, false)] (by kernel_rfl) (by kernel_rfl) rfl (by kernel_rfl) (fun _ _ d _ _ h => by cases d <;> exact h) ?_
      replace hp := hp.drew
      repeat' (with_reducible refine zB ?_); first | (with_reducible refine zt ?_) | ((with_reducible refine zI ?_); refine zy rfl ?_; (first | ((with_reducible refine zS _ _ rfl ?_); first | refine tA rfl (zb rfl) zar aa5 ?_ | refine tO rfl (zb rfl) zw aa5 ?_) | refine tG (fun w _ => (by go_simp; try rfl)) ?_); try simp only [ze, zd, zn, zj, z0b, z0a, z0d, z0c, zr]) | (refine zF rfl (fun K hK => ?_); go_wp2_with (first | (go_at_call 141; (with_reducible refine (zaX _ h0n h8n _).mono ?_); rintro e w' ⟨rfl, rfl⟩) | (go_at_call 229; (with_reducible refine (zkL hp HL2.out HCC.out _ _).mono ?_); clear hp; rintro e w1 ⟨rfl, g', cap', l3, hq, hperm, hc1, hc2⟩; have hp := zoT hq; have HPM := z0j hperm; have HCC' := z0j (And.intro hc1 hc2); clear hq hperm hc1 hc2) | go_skip); (refine hK.out _ _ (.inr (zA.two hp aa5 aa5)) ?_); clear hK K; try simp only [ze, zd, zn, zj, z0b, z0a, z0d, z0c, zr])
      go_wp2_with fail
      go_roundg (gk - 1)
      case measure => have := HGK.out; omega
      case rel => exact ⟨i + 1, nco, g', cap', l3, by have := HKI.out; have := HGK.out; omega, HCN, z0j (HSP.out.step (by have h := HPM.out; rw [HST.out.1, HST.out.2] at h; exact h)), HCC', by have h := hp; rw [EW1.out] at h; exact h⟩
    · have e3 : decide (want < co) = false := decide_eq_false hlt
      have hiN : i = N := by have := HCO.out; have := HNI.out; omega
      have HCW : Hid (co = want) := z0j (by have := HCO.out; have := HNI.out; omega)
      have HIN : Hid (i = (to - want).toNat) := z0j (by rw [hiN, HN.out])
      have HR : Hid (zH 124 2 (.slice (some ⟨g, 0, none⟩) l2.length cap) l2.length (l2.flatMap blV) [⟨g, l2.flatMap blV, 124, cap * 2⟩]) := z0j ⟨zaI l2, .inr ⟨g, cap, rfl, HCC.out.1, HCC.out.2, rfl⟩⟩
      obtain ⟨av, kv, rfl, KV⟩ := HOS.out.kept
      have hlen := HSP.out.len
      have hg1 := zeX want fs
      have hs1 := zlq want fs
      have hni := HNI.out
      obtain ⟨m1, m3, m4, m6⟩ := HMM.out
      have sm1 : l2.length + (zao want fs).length ≤ maxLen := by unfold maxLen; omega
      have sm2 : (l2.length + (zao want fs).length) * 16 ≤ 140737488355328 := by omega
      have HLS : Hid ((l2 ++ zao want fs).length ≤ 5000) := z0j (by rw [List.length_append]; omega)
      clear hlen hg1 hs1 hni m1 m3 m4 m6 hlt hiN hki
      go_wp2_with (first | go_skip | ((first | ((refine zh _ rfl ?_); refine lZ hp rfl (by with_reducible first | exact zu | exact zbG) ?_; clear hp; intro b w1 hp) | ((refine zi _ _ rfl ?_); refine lB hp rfl (zb rfl) rfl ?_; clear hp; intro b w1 hp) | ((refine zg _ _ rfl ?_); first | refine lO hp rfl (zb rfl) zdA zq ?_ | refine lA hp rfl (zb rfl) zbH zq ?_) | ((refine zf _ _ _ rfl ?_); (first | refine sO hp rfl (zb rfl) zdA zq ?_ | refine sA hp rfl (zb rfl) (zb rfl) zbH zq ?_ | refine sG hp rfl (zb rfl) (zb rfl) zbH zq ?_); clear hp; intro w1 hp; simp only [spl, z0a, z0b] at hp) | ((refine zm _ _ _ rfl ?_); refine lS hp rfl (by intro w; go_simp; rfl) ?_; clear hp; intro b w1 hp; simp only [z0g, z0h, Nat.reduceAdd] at hp)); simp only [ze, zd, z0b, z0a]))
      refine zk [_, _] (zA.two hp.drew at1 at3) [11] [(0, true), (1, true), (2, true), (3, true), (4, true), (5, true), (6, true), (7, true), (8, false), (9, true), (10, true), (11, false)] (by kernel_rfl) (by kernel_rfl) rfl (by kernel_rfl) (fun _ _ d _ _ h => by cases d <;> exact h) ?_
      replace hp := hp.drew
      repeat' (with_reducible refine zB ?_); first | (with_reducible refine zt ?_) | ((with_reducible refine zI ?_); refine zy rfl ?_; (first | ((with_reducible refine zV _ rfl ?_); refine tM rfl ?_) | ((with_reducible refine zS _ _ rfl ?_); refine tO rfl (zb rfl) (by with_reducible first | exact Zc | exact ZE) aa5 ?_) | refine tG (fun w _ => (by go_simp; try rfl)) ?_); try simp only [ze, zd, zn, zj, z0b, z0a, z0d, z0c, zr]) | (refine zF rfl (fun K hK => ?_); go_wp2_with (first | ((refine zM _ _ 45 rfl ?_); refine Zp (K := [_, _, _, _]) (R := [_]) (M := RS) hp _ _ _ rfl wy i0 _ 16 Tryz.underlying45 hi0 hz0 hz1 hz2 rfl (by decide) (zb rfl) HR.out av (zao want fs).length kv (zb rfl) _ (zaI _) (KV.at hp (by intro p hp2; simp [hp2])) (zeg _) sm1 sm2 ?_; clear hp HR; intro v' R' w1 hr hp; obtain ⟨a2, k2, rfl, _⟩ := hr.kept; rw [zod want] at hr; have HR : Hid (zH 124 2 (.slice a2 (l2.length + (zao want fs).length) k2) (l2 ++ zao want fs).length ((l2 ++ zao want fs).flatMap blV) R') := z0j (by rw [List.length_append]; exact hr); clear hr; simp only [z0f, z0e] at hp; simp only [ze, zd, z0b, z0a]) | go_skip | (((refine zf _ _ _ rfl ?_); (first | refine sO hp rfl (zb rfl) zdA zq ?_ | refine sA hp rfl (zb rfl) (zb rfl) zbH zq ?_ | refine sG hp rfl (zb rfl) (zb rfl) zbH zq ?_); clear hp; intro w1 hp; simp only [spl, z0a, z0b] at hp); simp only [ze, zd, z0b, z0a])); (first | refine hK.out _ _ (.inl rfl) ?_ | refine hK.out _ _ (.inr (zA.two hp aa5 aa5)) ?_); clear hK K; try simp only [ze, zd, zn, zj, z0b, z0a, z0d, z0c, zr])
      go_wp2_with (first | go_skip | ((first | ((refine zh _ rfl ?_); refine lZ hp rfl (by with_reducible first | exact zu | exact zbG) ?_; clear hp; intro b w1 hp) | ((refine zi _ _ rfl ?_); refine lB hp rfl (zb rfl) rfl ?_; clear hp; intro b w1 hp) | ((refine zg _ _ rfl ?_); first | refine lO hp rfl (zb rfl) zdA zq ?_ | refine lA hp rfl (zb rfl) zbH zq ?_) | ((refine zf _ _ _ rfl ?_); (first | refine sO hp rfl (zb rfl) zdA zq ?_ | refine sA hp rfl (zb rfl) (zb rfl) zbH zq ?_ | refine sG hp rfl (zb rfl) (zb rfl) zbH zq ?_); clear hp; intro w1 hp; simp only [spl, z0a, z0b] at hp) | ((refine zm _ _ _ rfl ?_); refine lS hp rfl (by intro w; go_simp; rfl) ?_; clear hp; intro b w1 hp; simp only [z0g, z0h, Nat.reduceAdd] at hp)); simp only [ze, zd, z0b, z0a]))
      refine zk [_, _] (zA.two hp.drew at0 at1) [4, 5, 6] [(0, true), (1, true), (2, true), (3, false), (4, false), (5, false), (6, false)] (by kernel_rfl) (by kernel_rfl) rfl (by kernel_rfl) (fun _ _ d _ _ h => by cases d <;> exact h) ?_
      replace hp := hp.drew
      repeat' (with_reducible refine zB ?_); first | (with_reducible refine zt ?_) | ((with_reducible refine zI ?_); refine zy rfl ?_; (first | ((with_reducible refine zV _ rfl ?_); refine tM rfl ?_) | ((with_reducible refine zS _ _ rfl ?_); refine tA rfl (zb rfl) (by with_reducible first | exact zl | exact zar) aa5 ?_) | refine tG (fun w _ => (by go_simp; try rfl)) ?_); try simp only [ze, zd, zn, zj, z0b, z0a, z0d, z0c, zr]) | (refine zF rfl (fun K hK => ?_); go_wp2_with (first | (go_at_call 230; (with_reducible refine (znO (zpB hp) HR.out HLS.out).mono ?_); clear hp; rintro e w1 ⟨s, R2, rfl, hr2, hq, hperm, hsort⟩; have hp := zoU hq; have HR2 := z0j (And.intro hr2 (And.intro hperm hsort)); clear hq hr2 hperm hsort) | go_skip | (((refine zf _ _ _ rfl ?_); (first | refine sO hp rfl (zb rfl) zdA zq ?_ | refine sA hp rfl (zb rfl) (zb rfl) zbH zq ?_ | refine sG hp rfl (zb rfl) (zb rfl) zbH zq ?_); clear hp; intro w1 hp; simp only [spl, z0a, z0b] at hp); simp only [ze, zd, z0b, z0a])); (first | refine hK.out _ _ (.inl rfl) ?_ | refine hK.out _ _ (.inr (zA.two hp aa5 aa5)) ?_); clear hK K; try simp only [ze, zd, zn, zj, z0b, z0a, z0d, z0c, zr])
      go_wp2_with fail
      obtain ⟨hr2, hperm, hsort⟩ := HR2.out
      have hsl : s.length = l2.length + (zao want fs).length := by rw [hperm.length_eq, List.length_append]
      refine bodyPost_ret (zx (rs := [.cell 6 124, .tmp 7, .tmp 8]) Tryz.results202 (.cell rfl (hp.loadAgg zl at2 0 _ (by rfl) (by rfl)) (.tmp rfl (.tmp rfl .nil)))) rfl ⟨⟨tp, to⟩, a2, k2, R2, s, ?_, HLE.out, ?_, ?_, ?_⟩
      · rw [hsl, HCW.out]; rfl
      · have h := HSP.out
        rw [HIN.out] at h
        exact h.done hperm hsort
      · rw [hsl]; rw [List.length_append] at hr2; exact hr2
      · exact hp.tail.tail.tail.tail.sub (List.sublist_append_left _ _)
end Go.Proofs.YtaafajaadfgaoaaGreat

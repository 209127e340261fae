/- Parts of the proof. -/
import Derived.Shelf.SlSortCmp.WholeK
import Derived.Test.YtaafajaadfgaoaaGreatRg0
import Derived.Shelf.SlLaysF0
import Derived.Test.YtaafajaadfgaoaaGreatRows
import Derived.Test.YtaafajaadfgaoaaGreatRg1
import Derived.Shelf.SlSortCmp.NoneTotal
import Derived.Shelf.Abstract
import Derived.Test.YtaafajaadfgaoaaGreatRg2
/- Texts merged: base:Srt lay_YtaafajaadfgaoaaGreat:KLay buddy:BSort buddy:TS buddy:TQ buddy:THS buddy:TH buddy:TI buddy:TKS buddy:TJ buddy:TK. -/
set_option linter.unusedSimpArgs false
set_option linter.unusedVariables false
namespace Go.Proofs.YtaafajaadfgaoaaGreat
open Go.RowKit Go.Lib Go.Shelf Go.Sort
theorem Hp.setCells {B : Nat} {w0 : World} {b : Nat} {t : TypeId} {n : Nat} {L : List Blk} (vs : List Value) : ∀ (w : World) (off : Nat) (l : List Value), Hp B w0 w (⟨b, l, t, n⟩ :: L) →
    Hp B w0 (w.setCells b off vs) (⟨b, spl l off vs, t, n⟩ :: L) := by
  induction vs with
  | nil => intro w off l h; exact h
  | cons v vs ih =>
    intro w off l h
    rw [World.setCells]
    have h1 := h.setCell (i := 0) rfl off v
    exact ih _ _ _ h1
theorem setMany_all (F G : Array Value) (h : F.size = G.size) : setMany F 0 G.toList = G := by
  refine ext_get! (by simp [h]) fun t ht => ?_
  have ht' : t < G.size := by simpa [h] using ht
  rw [get_setMany _ _ _ t (by omega), if_pos (by simp [ht'])]
  simp [ht']
theorem flat_list {α : Type} [Inhabited α] (enc : α → List Value) (k : Nat) (hk : ∀ x, (enc x).length = k) (d : Array α) : (flatK enc k d).toList = d.toList.flatMap enc := by
  have hlen : (d.toList.flatMap enc).length = d.size * k := by rw [flat_len enc k hk]; simp
  apply List.ext_getElem?
  intro j
  rcases Nat.lt_or_ge j (d.size * k) with hj | hj
  · have k0 : 0 < k := by rcases Nat.eq_zero_or_pos k with h | h; · subst h; simp at hj
                          · exact h
    have h1 : j / k < d.size := by rw [Nat.div_lt_iff_lt_mul k0]; exact hj
    have h2 : j % k < k := Nat.mod_lt _ k0
    have e1 : d.toList[j / k]? = some d[j / k]! := by rw [getElem!_pos d _ h1]; simp [h1]
    have e2 : (enc d[j / k]!)[j % k]? = some (enc d[j / k]!)[j % k]! := by
      have h3 : j % k < (enc d[j / k]!).length := by rw [hk]; exact h2
      rw [getElem!_pos (enc d[j / k]!) (j % k) h3]; exact List.getElem?_eq_getElem _
    have := flat_get enc k hk d.toList (j / k) (j % k) _ _ e1 e2
    rw [Nat.mul_comm, Nat.div_add_mod] at this
    rw [this, ← get_flatK enc k d j hj, getElem!_pos _ j (by simpa using hj)]
    simp [hj]
  · rw [List.getElem?_eq_none (by simpa using hj), List.getElem?_eq_none (by omega)]
theorem Hp.holdsK {α : Type} [Inhabited α] {enc : α → List Value} {k : Nat} (hk : ∀ x, (enc x).length = k) {d : Array α} {B : Nat} {w0 w : World} {b : Nat} {t : TypeId} {n : Nat} {L : List Blk} (hp : Hp B w0 w (⟨b, d.toList.flatMap enc, t, n⟩ :: L)) :
    HoldsK enc k w b 0 d := by
  intro j hj
  have hl : (d.toList.flatMap enc)[j]? = some (id (flatK enc k d)[j]!) := by
    rw [← flat_list enc k hk d, getElem!_pos _ j hj]; simp [id]
  rw [Nat.zero_add]
  exact ⟨hp.cell (i := 0) rfl hl, hp.free (i := 0) rfl _⟩
theorem Hp.sorted {α : Type} [Inhabited α] {enc : α → List Value} {k : Nat} (hk : ∀ x, (enc x).length = k) {d d' : Array α} {B : Nat} {w0 w : World} {b : Nat} {t : TypeId} {n m : Nat} {os : Array Obj} {L : List Blk} (hp : Hp B w0 w (⟨b, d.toList.flatMap enc, t, n⟩ :: L)) (hs : d'.size = d.size) :
    Hp B w0 (sortWorldK enc k w b 0 m d' os) (⟨b, d'.toList.flatMap enc, t, n⟩ :: L) := by
  have h1 : Hp B w0 (Sort.ahead w m) (⟨b, d.toList.flatMap enc, t, n⟩ :: L) := hp.drewN m
  have h2 := Hp.holdsK hk h1
  have e : putRowK enc k (Sort.ahead w m) b 0 d' = (Sort.ahead w m).setCells b 0 (d'.toList.flatMap enc) := by
    have h3 := setCells_putRow (Sort.ahead w m) b 0 (flatK enc k d').toList 0 (flatK enc k d) (by simp [hs])
    rw [putRow_self id _ b 0 _ h2, setMany_all _ _ (by simp [hs]), flat_list enc k hk d'] at h3
    exact h3.symm
  have h4 := Hp.setCells (d'.toList.flatMap enc) _ 0 _ h1
  rw [spl_all _ _ (by rw [flat_len enc k hk, flat_len enc k hk]; simp [hs]), ← e] at h4
  unfold sortWorldK
  refine h4.call ⟨rfl, rfl, rfl, by simp, fun k hk => ?_⟩
  show (_ ++ os)[k]? = _
  rw [Array.getElem?_append_left hk]
theorem perm_whole {α : Type} [Inhabited α] {d d' : Array α} (h : PermIn 0 d.size d d') : d'.size = d.size ∧ d'.toList.Perm d.toList := by
  obtain ⟨h1, _, h2⟩ := h
  refine ⟨h1, ?_⟩
  have e1 : d'.extract 0 d.size = d' := by rw [← h1]; simp
  rw [e1] at h2
  simpa using h2
theorem sorted_whole {α : Type} [Inhabited α] {lt : α → α → Bool} {d : Array α} {n : Nat} (hn : d.size = n) (h : SortedIn lt 0 n d) : d.toList.Pairwise fun x y => lt y x = false := by
  rw [List.pairwise_iff_getElem]
  intro i j hi hj hij
  have := h i j (Nat.zero_le _) hij (by simpa [hn] using hj)
  have hi' : i < d.size := by simpa using hi
  have hj' : j < d.size := by simpa using hj
  rw [getElem!_pos d i hi', getElem!_pos d j hj'] at this
  simpa using this
end Go.Proofs.YtaafajaadfgaoaaGreat
namespace Go.Proofs.YtaafajaadfgaoaaGreat
open Go.Shelf Go.Proofs
def sortBlLays_ren : Go.Shelf.Ren := ⟨fun | 6 => 144 | 15 => 199 | 14 => 198 | 28 => 222 | 29 => 223 | 20 => 214 | 21 => 215 | 22 => 216 | 23 => 217 | 24 => 218 | 25 => 219 | 26 => 220 | 27 => 221 | 46 => 240 | 47 => 241 | 48 => 242 | 49 => 243 | 50 => 244 | 57 => 262 | n => n, fun | 22 => 45 | 24 => 124 | 25 => 184 | 3 => 3 | 39 => 216 | 0 => 0 | 53 => 244 | 55 => 192 | 4 => 4 | 46 => 238 | 45 => 237 | 50 => 172 | 5 => 5 | 9 => 9 | 66 => 267 | 70 => 190 | 76 => 288 | 77 => 289 | n => n, fun | n => n⟩
theorem sortBlLays : Go.Proofs.SlLaysF0.n6 Tryz.prog sortBlLays_ren := {
  mixed := by kernel_rfl
  f6 := ⟨Tryz.f144.name, by decide, Tryz.func144.trans (congrArg some (by kernel_rfl))⟩
  f14 := ⟨Tryz.f198.name, by decide, Tryz.func198.trans (congrArg some (by kernel_rfl))⟩
  f15 := Tryz.func199.trans (congrArg some (by kernel_rfl))
  f20 := ⟨Tryz.f214.name, by decide, Tryz.func214.trans (congrArg some (by kernel_rfl))⟩
  f21 := ⟨Tryz.f215.name, by decide, Tryz.func215.trans (congrArg some (by kernel_rfl))⟩
  f22 := ⟨Tryz.f216.name, by decide, Tryz.func216.trans (congrArg some (by kernel_rfl))⟩
  f23 := ⟨Tryz.f217.name, by decide, Tryz.func217.trans (congrArg some (by kernel_rfl))⟩
  f24 := ⟨Tryz.f218.name, by decide, Tryz.func218.trans (congrArg some (by kernel_rfl))⟩
  f25 := ⟨Tryz.f219.name, by decide, Tryz.func219.trans (congrArg some (by kernel_rfl))⟩
  f26 := ⟨Tryz.f220.name, by decide, Tryz.func220.trans (congrArg some (by kernel_rfl))⟩
  f27 := ⟨Tryz.f221.name, by decide, Tryz.func221.trans (congrArg some (by kernel_rfl))⟩
  f28 := Tryz.func222.trans (congrArg some (by kernel_rfl))
  f29 := Tryz.func223.trans (congrArg some (by kernel_rfl))
  f46 := ⟨Tryz.f240.name, by decide, Tryz.func240.trans (congrArg some (by kernel_rfl))⟩
  f47 := Tryz.func241.trans (congrArg some (by kernel_rfl))
  f48 := Tryz.func242.trans (congrArg some (by kernel_rfl))
  f49 := ⟨Tryz.f243.name, by decide, Tryz.func243.trans (congrArg some (by kernel_rfl))⟩
  f50 := ⟨Tryz.f244.name, by decide, Tryz.func244.trans (congrArg some (by kernel_rfl))⟩
  f57 := ⟨Tryz.f262.name, by decide, Tryz.func262.trans (congrArg some (by kernel_rfl))⟩
  t0 := Tryz.underlying0
  a0 := Tryz.isAgg0
  z0 := Tryz.sizeOf0
  v0 := Tryz.zeroValue0
  t3 := Tryz.underlying3
  a3 := Tryz.isAgg3
  z3 := Tryz.sizeOf3
  v3 := Tryz.zeroValue3
  t4 := Tryz.underlying4
  a4 := Tryz.isAgg4
  z4 := Tryz.sizeOf4
  v4 := Tryz.zeroValue4
  t5 := Tryz.underlying5
  a5 := Tryz.isAgg5
  z5 := Tryz.sizeOf5
  v5 := Tryz.zeroValue5
  t9 := Tryz.underlying9
  a9 := Tryz.isAgg9
  z9 := Tryz.sizeOf9
  v9 := Tryz.zeroValue9
  t22 := Tryz.underlying45
  a22 := Tryz.isAgg45
  z22 := Tryz.sizeOf45
  v22 := Tryz.zeroValue45
  t25 := Tryz.underlying184
  a25 := Tryz.isAgg184
  z25 := Tryz.sizeOf184
  v25 := Tryz.zeroValue184
  t39 := Tryz.underlying216
  a39 := Tryz.isAgg216
  z39 := Tryz.sizeOf216
  v39 := Tryz.zeroValue216
  t45 := Tryz.underlying237
  a45 := Tryz.isAgg237
  z45 := Tryz.sizeOf237
  v45 := Tryz.zeroValue237
  t46 := Tryz.underlying238
  a46 := Tryz.isAgg238
  z46 := Tryz.sizeOf238
  v46 := Tryz.zeroValue238
  t50 := Tryz.underlying172
  a50 := Tryz.isAgg172
  z50 := Tryz.sizeOf172
  v50 := Tryz.zeroValue172
  t53 := Tryz.underlying244
  a53 := Tryz.isAgg244
  z53 := Tryz.sizeOf244
  v53 := Tryz.zeroValue244
  t55 := Tryz.underlying192
  a55 := Tryz.isAgg192
  z55 := Tryz.sizeOf192
  v55 := Tryz.zeroValue192
  t66 := Tryz.underlying267
  a66 := Tryz.isAgg267
  z66 := Tryz.sizeOf267
  v66 := Tryz.zeroValue267
  t70 := Tryz.underlying190
  a70 := Tryz.isAgg190
  z70 := Tryz.sizeOf190
  v70 := Tryz.zeroValue190
  t76 := Tryz.underlying288
  a76 := Tryz.isAgg288
  z76 := Tryz.sizeOf288
  v76 := Tryz.zeroValue288
  t77 := Tryz.underlying289
  a77 := Tryz.isAgg289
  z77 := Tryz.sizeOf289
  v77 := Tryz.zeroValue289 }
end Go.Proofs.YtaafajaadfgaoaaGreat
namespace Go.Proofs.YtaafajaadfgaoaaGreat
open Go.RowKit Go.Lib Go.Shelf Go.Sort
instance : Inhabited Bl := ⟨⟨0, 0⟩⟩
def byAt (x y : Bl) : Int := cmpI x.p y.p
theorem ltAt (x y : Bl) : ltOf byAt x y = decide (x.p < y.p) := by unfold ltOf byAt; simp only [cmpI_lt]
theorem swoAt : SWO (ltOf byAt) where
  irrefl x := by rw [ltAt]; simp
  trans x y z h1 h2 := by rw [ltAt] at *; simp at *; omega
  ntrans x y z h1 h2 := by rw [ltAt] at *; simp at *; omega
theorem bl_one (x : Bl) (v : Value) (hv : v ∈ blV x) : v.oneCell' = true := by simp [blV] at hv; rcases hv with rfl | rfl <;> rfl
def Compares (g : Nat) : Prop := ∀ (x y : Bl) (W : World), Calls Tryz.prog g #[.agg #[.int .i64 x.p, .int .i64 x.o], .agg #[.int .i64 y.p, .int .i64 y.o]] W fun e w' => e = .returned (.int .i64 (cmpI x.p y.p)) ∧ ∃ q os', w' = Sort.grow (W.drewN q) os'
def Sorts (w : World) (B : Nat) (w0 : World) (L : List Blk) (blk t n : Nat) (d : List Bl) (e : Ending) (w' : World) : Prop :=
  e = .returned (.tuple #[]) ∧ ∃ s : List Bl, s.Perm d ∧ s.Pairwise (fun x y => x.p ≤ y.p) ∧ Hp B w0 w' (⟨blk, s.flatMap blV, t, n⟩ :: L)
theorem sort144 (g : Nat) (eg : ∀ args w, (callFunc g args).run Tryz.prog w = .ok (.enter g args) w) (hg : Compares g) (d : List Bl) (cap : Nat) {B : Nat} {w0 w : World} {blk t n : Nat} {L : List Blk} (hp : Hp B w0 w (⟨blk, d.flatMap blV, t, n⟩ :: L)) (hsz : d.length ≤ 5000) :
    Calls Tryz.prog 144 #[.slice (some ⟨blk, 0, none⟩) d.length cap, .func (.func g) #[] #[]] w (Sorts w B w0 L blk t n d) := by
  have hH : HoldsK blV 2 w blk 0 d.toArray := Hp.holdsK (enc := blV) blV_len (d := d.toArray) hp
  have hcm : CmpLays Tryz.prog g #[] blV 2 byAt blk 0 d.toArray.size w := fun m os dk _ x y => hg x y _
  have hcon := AnyQ.slices_SortFunc sortBlLays 2 Tryz.isAgg124 Tryz.sizeOf124 blV blV_len bl_one byAt swoAt g #[] blk 0 cap d.toArray w eg hcm hH (hp.lt (p := ⟨blk, d.flatMap blV, t, n⟩) (by simp)).2 (by simp; omega)
  change Calls Tryz.prog 144 _ _ _ at hcon
  rw [List.size_toArray] at hcon
  refine hcon.mono ?_
  rintro e w' ⟨rfl, d', m, os, h1, h2, rfl⟩
  have h3 := perm_whole (d := d.toArray) (d' := d') (by rw [List.size_toArray]; exact h1)
  refine ⟨rfl, d'.toList, by simpa using h3.2, ?_, Hp.sorted (enc := blV) blV_len (d := d.toArray) hp h3.1⟩
  have h4 := sorted_whole (by simpa using h3.1) h2
  refine h4.imp (fun {a b} h => ?_)
  rw [ltAt] at h
  simp at h
  exact h
theorem sort144_none (p : Option Addr) (cap : Nat) (fv : Value) (w : World) : Calls Tryz.prog 144 #[.slice p 0 cap, fv] w fun e w' => e = .returned (.tuple #[]) ∧ w' = w := by
  have hcon := AnyF.slices_SortFunc_none sortBlLays p cap fv w
  change Calls Tryz.prog 144 _ _ _ at hcon
  exact hcon
def OwnSorted (B : Nat) (w0 : World) (v : Value) (n : Nat) (d : List Bl) (M : List Blk) (e : Ending) (w' : World) : Prop :=
  e = .returned (.tuple #[]) ∧ ∃ (s : List Bl) (R : List Blk), s.Perm d ∧ s.Pairwise (fun x y => x.p ≤ y.p) ∧ OwnRow 124 2 v n (s.flatMap blV) R ∧ Hp B w0 w' (R ++ M)
theorem sorto144 (g : Nat) (eg : ∀ args w, (callFunc g args).run Tryz.prog w = .ok (.enter g args) w) (hg : Compares g) (d : List Bl) {v : Value} {R M : List Blk} (hr : OwnRow 124 2 v d.length (d.flatMap blV) R) {B : Nat} {w0 w : World} (hp : Hp B w0 w (R ++ M)) (hsz : d.length ≤ 5000) :
    Calls Tryz.prog 144 #[v, .func (.func g) #[] #[]] w (OwnSorted B w0 v d.length d M) := by
  obtain ⟨hl, ⟨h0, hv, hx, hR⟩ | ⟨b, cap, hv, h1, h2, hR⟩⟩ := hr
  · subst hv; subst hR
    have hd : d = [] := List.eq_nil_of_length_eq_zero h0
    subst hd
    refine (sort144_none none 0 _ w).mono ?_
    rintro e w' ⟨rfl, rfl⟩
    exact ⟨rfl, [], [], List.Perm.refl _, List.Pairwise.nil, OwnRow.nil _ _, hp⟩
  · subst hv; subst hR
    refine (sort144 g eg hg d cap hp hsz).mono ?_
    rintro e w' ⟨rfl, s, h3, h4, hp'⟩
    exact ⟨rfl, s, _, h3, h4, ⟨by rw [flat_len blV 2 blV_len, h3.length_eq], .inr ⟨b, cap, rfl, h1, h2, rfl⟩⟩, hp'⟩
end Go.Proofs.YtaafajaadfgaoaaGreat
namespace Go.Proofs.YtaafajaadfgaoaaGreat
open Go.RowKit
end Go.Proofs.YtaafajaadfgaoaaGreat
namespace Go.Proofs.YtaafajaadfgaoaaGreat
open Go.RowKit
theorem Hp.less {B : Nat} {w0 w : World} {b n : Nat} {l1 l2 : List Value} {t : TypeId} {L : List Blk} (h : Hp B w0 w (⟨b, l1 ++ l2, t, n⟩ :: L)) : Hp B w0 w (⟨b, l1, t, n⟩ :: L) := by
  refine ⟨h.below, h.size, by simpa using h.nodup, fun p hp => ?_⟩
  rcases List.mem_cons.1 hp with rfl | hp
  · obtain ⟨h1, c, h2, h3, h4⟩ := h.own _ (List.mem_cons_self ..)
    refine ⟨h1, c, h2, h3, ?_⟩
    simp only at h4 ⊢
    have := congrArg (List.take l1.length) h4
    rw [List.take_take, List.length_append, Nat.min_eq_left (by omega), List.take_append_of_le_length (Nat.le_refl _), List.take_length] at this
    exact this
  · exact h.own p (List.mem_cons_of_mem _ hp)
theorem OwnRow.cons {e : TypeId} {c n : Nat} {v : Value} {xs : List Value} {R : List Blk} (h : OwnRow e c v (n + 1) xs R) : ∃ g cap, v = .slice (some ⟨g, 0, none⟩) (n + 1) cap ∧ n + 1 ≤ cap ∧ cap ≤ maxLen ∧ R = [⟨g, xs, e, cap * c⟩] := by
  obtain ⟨_, ⟨h0, _⟩ | h⟩ := h
  · omega
  · exact h
end Go.Proofs.YtaafajaadfgaoaaGreat
namespace Go.Proofs.YtaafajaadfgaoaaGreat
def LtB (a b : Bl) : Prop := a.o < b.o ∨ (a.o = b.o ∧ a.p < b.p)
theorem LtB.ntrans {a b c : Bl} (h1 : ¬ LtB b a) (h2 : ¬ LtB c b) : ¬ LtB c a := by unfold LtB at *; omega
def gB (l : List Bl) (k : Nat) : Bl := l.getD k ⟨0, 0⟩
def HeapF (l : List Bl) (n i0 : Nat) : Prop := ∀ k c, i0 ≤ k → (c = 2 * k + 1 ∨ c = 2 * k + 2) → c < n → ¬ LtB (gB l c) (gB l k)
def HeapD (l : List Bl) (n i0 j : Nat) : Prop :=
  (∀ k c, i0 ≤ k → k ≠ j → (c = 2 * k + 1 ∨ c = 2 * k + 2) → c < n → ¬ LtB (gB l c) (gB l k)) ∧
  (∀ p c, i0 ≤ p → (j = 2 * p + 1 ∨ j = 2 * p + 2) → (c = 2 * j + 1 ∨ c = 2 * j + 2) → c < n → ¬ LtB (gB l c) (gB l p))
theorem HeapD.start {l : List Bl} {n i0 : Nat} (h : HeapF l n (i0 + 1)) : HeapD l n i0 i0 :=
  ⟨fun k c hk hne hc hn => h k c (by omega) hc hn, fun p c hp hj _ _ => by omega⟩
structure Downs (l l' : List Bl) (n i0 j : Nat) : Prop where
  perm : l'.Perm l
  same : ∀ q, n ≤ q → gB l' q = gB l q
  heap : HeapF l n (i0 + 1) → HeapD l' n i0 j
theorem Downs.start (l : List Bl) (n i0 : Nat) : Downs l l n i0 i0 := ⟨List.Perm.refl _, fun _ _ => rfl, HeapD.start⟩
end Go.Proofs.YtaafajaadfgaoaaGreat
namespace Go.Proofs.YtaafajaadfgaoaaGreat
open Go.RowKit Go.Shelf
end Go.Proofs.YtaafajaadfgaoaaGreat
namespace Go.Proofs.YtaafajaadfgaoaaGreat
open Go.RowKit Go.Shelf
end Go.Proofs.YtaafajaadfgaoaaGreat
namespace Go.Proofs.YtaafajaadfgaoaaGreat
def hv (p o : Int) : Nat → List Bl
  | 0 => []
  | n + 1 => hv p o n ++ [⟨p + pw (o - n - 1), o - n - 1⟩]
theorem hv_len (p o : Int) : ∀ n, (hv p o n).length = n
  | 0 => rfl
  | n + 1 => by rw [hv, List.length_append, hv_len p o n]; rfl
structure LeastT (want : Int) (fs : List Bl) (b : Bl) : Prop where
  mem : b ∈ fs
  great : want ≤ b.o
  least : ∀ y ∈ fs, want ≤ y.o → ¬ LtB y b
structure TakenP (want : Int) (fs : List Bl) (b : Bl) (s : List Bl) : Prop where
  perm : (b :: s).Perm (fs ++ hv b.p b.o (b.o - want).toNat)
  sort : s.Pairwise fun x y => x.p ≤ y.p
def greats (want : Int) (l : List Bl) : List Bl := l.filter fun b => decide (want ≤ b.o)
def smalls (want : Int) (l : List Bl) : List Bl := l.filter fun b => !decide (want ≤ b.o)
theorem gs_perm (want : Int) (l : List Bl) : (greats want l ++ smalls want l).Perm l := List.filter_append_perm _ l
def Splits (want : Int) (fs : List Bl) (b : Bl) (i : Nat) (l : List Bl) : Prop := (b :: l).Perm (greats want fs ++ hv b.p b.o i)
theorem Splits.start {want : Int} {fs l l' : List Bl} (hp : l.Perm (greats want fs)) (h : (l' ++ [gB l 0]).Perm l) : Splits want fs (gB l 0) 0 l' := by
  unfold Splits
  rw [hv, List.append_nil]
  exact (List.perm_append_comm (l₁ := [gB l 0])).trans (h.trans hp)
theorem Splits.step {want : Int} {fs l l' : List Bl} {b : Bl} {i : Nat} (h : Splits want fs b i l) (hp : l'.Perm (l ++ [⟨b.p + pw (b.o - i - 1), b.o - i - 1⟩])) : Splits want fs b (i + 1) l' := by
  unfold Splits at *
  rw [hv, ← List.append_assoc]
  exact (hp.cons b).trans (h.append_right [_])
theorem Splits.len {want : Int} {fs l : List Bl} {b : Bl} {i : Nat} (h : Splits want fs b i l) : l.length + 1 = (greats want fs).length + i := by
  have := h.length_eq
  rw [List.length_append, hv_len, List.length_cons] at this
  exact this
theorem Splits.done {want : Int} {fs l s : List Bl} {b : Bl} (h : Splits want fs b (b.o - want).toNat l) (hs : s.Perm (l ++ smalls want fs)) (hso : s.Pairwise fun x y => x.p ≤ y.p) : TakenP want fs b s := by
  refine ⟨?_, hso⟩
  refine (hs.cons b).trans ?_
  rw [← List.cons_append]
  refine (h.append_right _).trans ?_
  rw [List.append_assoc]
  refine (List.perm_append_comm.append_left _).trans ?_
  rw [← List.append_assoc]
  exact (gs_perm want fs).append_right _
end Go.Proofs.YtaafajaadfgaoaaGreat
namespace Go.Proofs.YtaafajaadfgaoaaGreat
open Go.RowKit Go.Lib Go.Shelf Go.Sort
theorem Keeps.three {B : Nat} {w0 w : World} {L : List Blk} (h : Hp B w0 w L) {i j k : Nat} {p q r : Blk} (hi : L[i]? = some p) (hj : L[j]? = some q) (hk : L[k]? = some r) : Keeps B w0 [p, q, r] w := ⟨L, h, fun s hs => by
  rcases List.mem_cons.1 hs with rfl | hs
  · exact Hp.mem hi
  · rcases List.mem_cons.1 hs with rfl | hs
    · exact Hp.mem hj
    · rw [List.mem_singleton.1 hs]; exact Hp.mem hk⟩
end Go.Proofs.YtaafajaadfgaoaaGreat
namespace Go.Proofs.YtaafajaadfgaoaaGreat
open Go.RowKit
theorem Hp.sub {B : Nat} {w0 w : World} {L L' : List Blk} (hp : Hp B w0 w L) (h : L'.Sublist L) : Hp B w0 w L' :=
  ⟨hp.below, hp.size, (h.map _).nodup hp.nodup, fun p hpL => hp.own p (h.subset hpL)⟩
end Go.Proofs.YtaafajaadfgaoaaGreat
/- Texts merged: buddy:GM buddy:GS buddy:GI buddy:GD. -/
namespace Go.Proofs.YtaafajaadfgaoaaGreat
open Go.RowKit
def BoxIs (w : World) (b : Nat) (q r : Int) : Prop := ∀ (j : Nat) v, [Value.int .i64 q, .int .i64 r][j]? = some v → w.cell? ⟨b, 0 + j, none⟩ = some v
theorem BoxIs.below {w w' : World} {b : Nat} {q r : Int} (h : BoxIs w b q r) (hb : b < w.heap.size) (hw : Below w.heap.size w w') : BoxIs w' b q r := fun j v hj => (hw.cell (p := ⟨b, 0 + j, none⟩) hb).trans (h j v hj)
def IndexP (l : List Bl) (v : Bl) (r : Int) : Prop := (r = -1 ∧ v ∉ l) ∨ ∃ j : Nat, r = j ∧ l[j]? = some v
end Go.Proofs.YtaafajaadfgaoaaGreat
namespace Go.Proofs.YtaafajaadfgaoaaGreat
def Disj (l : List Bl) : Prop := l.Pairwise fun x y => x.p + pw x.o ≤ y.p
theorem Good.disj {od : Int} {l : List Bl} (h : Good od l) : Disj l := by
  unfold Disj
  rw [List.pairwise_iff_getElem]
  intro i j hi hj hij
  exact ((h j _ (List.getElem?_eq_getElem hj)).2 i _ hij (List.getElem?_eq_getElem hi)).1
theorem Disj.sorted {l : List Bl} (h : Disj l) : SortedB l := by
  intro i j x y hij hx hy
  unfold Disj at h
  rw [List.pairwise_iff_getElem] at h
  obtain ⟨hi, rfl⟩ := List.getElem?_eq_some_iff.1 hx
  obtain ⟨hj, rfl⟩ := List.getElem?_eq_some_iff.1 hy
  have := h i j hi hj hij
  have := pw_pos l[i].o
  omega
theorem Disj.apart {l : List Bl} (h : Disj l) {x y : Bl} (hx : x ∈ l) (hy : y ∈ l) (hne : x ≠ y) : ¬ MeetP x y := by
  obtain ⟨i, hi, rfl⟩ := List.getElem_of_mem hx
  obtain ⟨j, hj, rfl⟩ := List.getElem_of_mem hy
  unfold Disj at h
  rw [List.pairwise_iff_getElem] at h
  rintro ⟨m1, m2⟩
  rcases Nat.lt_trichotomy i j with hij | hij | hij
  · have := h i j hi hj hij; omega
  · subst hij; exact hne rfl
  · have := h j i hj hi hij; omega
theorem Disj.sub {l k : List Bl} (h : Disj l) (hs : k.Sublist l) : Disj k := List.Pairwise.sublist hs h
def without (l : List Bl) (v : Bl) : List Bl := l.filter fun x => decide (x ≠ v)
theorem without_sub (l : List Bl) (v : Bl) : (without l v).Sublist l := List.filter_sublist
theorem SortedB.nodup {l : List Bl} (h : SortedB l) : l.Nodup := by
  unfold List.Nodup
  rw [List.pairwise_iff_getElem]
  intro i j hi hj hij he
  have := h i j _ _ hij (List.getElem?_eq_getElem hi) (List.getElem?_eq_getElem hj)
  rw [he] at this; omega
theorem erase_without {l : List Bl} {v : Bl} {j : Nat} (hn : l.Nodup) (hj : l[j]? = some v) : l.eraseIdx j = without l v := by
  induction l generalizing j with
  | nil => simp at hj
  | cons x l ih =>
    obtain ⟨h1, h2⟩ := List.nodup_cons.1 hn
    cases j with
    | zero =>
      simp at hj; subst hj
      rw [List.eraseIdx_cons_zero]
      unfold without
      rw [List.filter_cons_of_neg (by simp)]
      exact (List.filter_eq_self.2 (fun a ha => by simp; intro h; subst h; exact h1 ha)).symm
    | succ j =>
      rw [List.getElem?_cons_succ] at hj
      rw [List.eraseIdx_cons_succ, ih h2 hj]
      unfold without
      rw [List.filter_cons_of_pos (by simp; intro h; subst h; exact h1 (List.mem_of_getElem? hj))]
def withL : List Bl → Bl → List Bl
  | [], b => [b]
  | x :: r, b => if b.p < x.p then b :: x :: r else x :: withL r b
theorem withL_perm (l : List Bl) (b : Bl) : (withL l b).Perm (b :: l) := by
  induction l with
  | nil => exact List.Perm.refl _
  | cons x r ih =>
    unfold withL
    split
    · exact List.Perm.refl _
    · exact (ih.cons x).trans (List.Perm.swap _ _ _)
theorem withL_at {l : List Bl} {b : Bl} {k : Nat} (hk : AtB l b.p k) (hne : ∀ y ∈ l, y.p ≠ b.p) : l.take k ++ b :: l.drop k = withL l b := by
  induction l generalizing k with
  | nil =>
    have : k = 0 := by have := hk.1; simpa using this
    subst this; rfl
  | cons x r ih =>
    unfold withL
    cases k with
    | zero =>
      have h1 := hk.2.2 0 x rfl (Nat.le_refl _)
      have h2 := hne x (by simp)
      rw [if_pos (by omega)]; rfl
    | succ k =>
      have h1 := hk.2.1 0 x rfl (by omega)
      rw [if_neg (by omega), List.take_succ_cons, List.drop_succ_cons, List.cons_append, ih (k := k) ⟨by have := hk.1; simpa using this, fun j y hj hjk => hk.2.1 (j + 1) y (by simpa using hj) (by omega), fun j y hj hjk => hk.2.2 (j + 1) y (by simpa using hj) (by omega)⟩ (fun y hy => hne y (by simp [hy]))]
def mergeB (b : Bl) : Bl := ⟨min b.p (twinP b).p, b.o + 1⟩
def giveF (od : Int) : Nat → List Bl → Bl → List Bl × Bl
  | 0, l, b => (l, b)
  | n + 1, l, b => if b.o < od ∧ twinP b ∈ l then giveF od n (without l (twinP b)) (mergeB b) else (l, b)
theorem pw_dvd {o od : Int} (h0 : 0 ≤ o) (h1 : o ≤ od) (h8 : od ≤ 8) : pw od % pw o = 0 := by
  rcases pw_cases h0 (by omega) with rfl | rfl | rfl | rfl | rfl | rfl | rfl | rfl | rfl <;>
  rcases pw_cases (o := od) (by omega) h8 with rfl | rfl | rfl | rfl | rfl | rfl | rfl | rfl | rfl <;> first | decide | omega
theorem twin_cases {od : Int} {b : Bl} (h : MayP od b) (h8 : od ≤ 8) (ho : b.o < od) : (twinP b = ⟨b.p + pw b.o, b.o⟩ ∧ b.p % (2 * pw b.o) = 0 ∧ b.p + 2 * pw b.o ≤ pw od) ∨ (twinP b = ⟨b.p - pw b.o, b.o⟩ ∧ 0 ≤ b.p - pw b.o ∧ (b.p - pw b.o) % (2 * pw b.o) = 0) := by
  obtain ⟨h1, h2, h3, h4, h5⟩ := h
  have hd := pw_dvd (o := b.o + 1) (by omega) (by omega) h8
  rw [pw_succ h1] at hd
  generalize pw od = E at h4 hd ⊢
  obtain ⟨p, o⟩ := b
  simp only at *
  unfold twinP
  simp only
  by_cases hc : p % (2 * pw o) = 0
  · left
    rw [if_pos hc]
    refine ⟨rfl, hc, ?_⟩
    rcases pw_cases h1 (by omega) with rfl | rfl | rfl | rfl | rfl | rfl | rfl | rfl | rfl
    all_goals
      simp only [pw, Int.reduceToNat, Int.reducePow, Int.reduceMul] at h4 h5 hd hc ⊢
      omega
  · right
    rw [if_neg hc]
    refine ⟨rfl, ?_, ?_⟩
    all_goals
      rcases pw_cases h1 (by omega) with rfl | rfl | rfl | rfl | rfl | rfl | rfl | rfl | rfl
      all_goals
        simp only [pw, Int.reduceToNat, Int.reducePow, Int.reduceMul] at h4 h5 hd hc ⊢
        omega
theorem merge_may {od : Int} {b : Bl} (h : MayP od b) (h8 : od ≤ 8) (ho : b.o < od) : MayP od (mergeB b) := by
  have hp := pw_pos b.o
  have hs := pw_succ h.1
  unfold mergeB MayP
  simp only
  rw [hs]
  rcases twin_cases h h8 ho with ⟨ht, h1, h2⟩ | ⟨ht, h1, h2⟩
  · rw [ht]; simp only
    rw [show min b.p (b.p + pw b.o) = b.p by omega]
    exact ⟨by have := h.1; omega, by omega, h.2.2.1, by omega, h1⟩
  · rw [ht]; simp only
    rw [show min b.p (b.p - pw b.o) = b.p - pw b.o by omega]
    have := h.end_le
    exact ⟨by have := h.1; omega, by omega, h1, by omega, h2⟩
theorem merge_meets {od : Int} {b x : Bl} (h : MayP od b) (h8 : od ≤ 8) (ho : b.o < od) (hm : MeetP x (mergeB b)) : MeetP x b ∨ MeetP x (twinP b) := by
  have hp := pw_pos b.o
  have hs := pw_succ h.1
  have hx := pw_pos x.o
  obtain ⟨m1, m2⟩ := hm
  unfold mergeB at m1 m2
  simp only at m1 m2
  rw [hs] at m1
  unfold MeetP
  rcases twin_cases h h8 ho with ⟨ht, h1, h2⟩ | ⟨ht, h1, h2⟩
  · rw [ht] at m1 m2 ⊢; simp only at m1 m2 ⊢; omega
  · rw [ht] at m1 m2 ⊢; simp only at m1 m2 ⊢; omega
structure GiveAt (od : Int) (l : List Bl) (b : Bl) : Prop where
  disj : Disj l
  may : MayP od b
  free : ∀ x ∈ l, ¬ MeetP x b
theorem GiveAt.step {od : Int} {l : List Bl} {b : Bl} (h : GiveAt od l b) (h8 : od ≤ 8) (ho : b.o < od) (hm : twinP b ∈ l) : GiveAt od (without l (twinP b)) (mergeB b) := by
  refine ⟨h.disj.sub (without_sub _ _), merge_may h.may h8 ho, fun x hx hmm => ?_⟩
  obtain ⟨h1, h2⟩ := List.mem_filter.1 hx
  rcases merge_meets h.may h8 ho hmm with h3 | h3
  · exact h.free x h1 h3
  · exact h.disj.apart h1 hm (by simpa using h2) h3
theorem GiveAt.ne {od : Int} {l : List Bl} {b : Bl} (h : GiveAt od l b) : ∀ y ∈ l, y.p ≠ b.p := fun y hy he => h.free y hy ⟨by have := pw_pos b.o; omega, by have := pw_pos y.o; omega⟩
theorem giveF_no {od : Int} {n : Nat} {l : List Bl} {b : Bl} (h : ¬ (b.o < od ∧ twinP b ∈ l)) : giveF od n l b = (l, b) := by
  cases n with
  | zero => rfl
  | succ n => rw [giveF, if_neg h]
def givenL (od : Int) (fs : List Bl) (b : Bl) : List Bl := withL (giveF od (od - b.o).toNat fs b).1 (giveF od (od - b.o).toNat fs b).2
end Go.Proofs.YtaafajaadfgaoaaGreat
namespace Go.Proofs.YtaafajaadfgaoaaGreat
open Go.RowKit
theorem size124 : (Tryz.prog.info? 124).map (·.size) = some 2 := by kernel_rfl
end Go.Proofs.YtaafajaadfgaoaaGreat
namespace Go.Proofs.YtaafajaadfgaoaaGreat
open Go.RowKit Go.Lib
theorem RowIs.part {B : Nat} {w0 w : World} {g t n j : Nat} {xs : List Value} {M : List Blk} (hp : Hp B w0 w (⟨g, xs, t, n⟩ :: M)) : RowIs w (some ⟨g, j, none⟩) (xs.drop j) := fun q v hq => ⟨g, j, rfl, hp.cell at0 (by rw [List.getElem?_drop] at hq; exact hq)⟩
end Go.Proofs.YtaafajaadfgaoaaGreat
/- The walk of buddy.Give. -/
namespace Go.Proofs.YtaafajaadfgaoaaGreat
open Go.RowKit
theorem RowIs.box {w : World} {b : Nat} {q r : Int} (h : RowIs w (some ⟨b, 0, none⟩) [.int .i64 q, .int .i64 r]) : BoxIs w b q r := fun j v hj => by
  obtain ⟨b', off', he, hc⟩ := h j v hj
  injection he with he; injection he with e1 e2; subst e1; subst e2; exact hc
theorem IndexP.no {l : List Bl} {v : Bl} {r : Int} (h : IndexP l v r) (hn : v ∉ l) : r = -1 := by
  rcases h with ⟨h, _⟩ | ⟨j, _, hj⟩
  · exact h
  · exact absurd (List.mem_of_getElem? hj) hn
def GiveRel (od : Int) (fs : List Bl) (b0 : Bl) (k : Nat) (l : List Bl) (b : Bl) : Prop := GiveAt od l b ∧ giveF od (od - b0.o).toNat fs b0 = giveF od k l b ∧ l.length ≤ 600 ∧ k = (od - b.o).toNat
theorem GiveRel.done {od : Int} {fs : List Bl} {b0 b : Bl} {k : Nat} {l : List Bl} (h : GiveRel od fs b0 k l b) (hn : ¬ (b.o < od ∧ twinP b ∈ l)) {i : Nat} (hi : AtB l b.p i) : l.take i ++ b :: l.drop i = givenL od fs b0 := by
  rw [withL_at hi h.1.ne]
  unfold givenL
  rw [h.2.1, giveF_no hn]
def RowAt (w : World) (M : List Blk) (a : Option Addr) (xs : List Value) : Prop := ∀ (w1 : World) (L : List Blk), Hp w.heap.size w w1 L → (∀ p ∈ M, p ∈ L) → RowIs w1 a xs
theorem RowAt.at {w w1 : World} {M L : List Blk} {a : Option Addr} {xs : List Value} (h : RowAt w M a xs) (hp : Hp w.heap.size w w1 L) (hm : ∀ p ∈ M, p ∈ L) : RowIs w1 a xs := h w1 L hp hm
end Go.Proofs.YtaafajaadfgaoaaGreat
/- Texts merged: buddy:RTS buddy:CS buddy:CT buddy:CB. -/
namespace Go.Proofs.YtaafajaadfgaoaaGreat
def splitL : List Bl → Int → Int → Nat → List Bl
  | out, _, _, 0 => out
  | out, p, o, n + 1 => splitL (withL out ⟨p + pw (o - 1), o - 1⟩) p (o - 1) n
theorem withL_disj {l : List Bl} {b : Bl} (hl : Disj l) (hb : ∀ x ∈ l, x.p + pw x.o ≤ b.p ∨ b.p + pw b.o ≤ x.p) : Disj (withL l b) := by
  induction l with
  | nil => exact List.pairwise_singleton _ _
  | cons x r ih =>
    obtain ⟨h1, h2⟩ := List.pairwise_cons.1 hl
    have hx := hb x (by simp)
    have px := pw_pos x.o
    have pb := pw_pos b.o
    unfold withL
    split
    · rename_i hlt
      refine List.pairwise_cons.2 ⟨fun y hy => ?_, hl⟩
      rcases List.mem_cons.1 hy with rfl | hy
      · omega
      · have := h1 y hy; omega
    · rename_i hlt
      refine List.pairwise_cons.2 ⟨fun y hy => ?_, ih h2 (fun y hy => hb y (by simp [hy]))⟩
      rcases List.mem_cons.1 ((withL_perm r b).mem_iff.1 hy) with rfl | hy
      · omega
      · exact h1 y hy
def Leaves (p o : Int) (l : List Bl) : Prop := Disj l ∧ ∀ x ∈ l, x.p + pw x.o ≤ p ∨ p + pw o ≤ x.p
theorem Leaves.step {p o : Int} {l : List Bl} (h : Leaves p o l) (ho : 1 ≤ o) : Leaves p (o - 1) (withL l ⟨p + pw (o - 1), o - 1⟩) := by
  have hs := pw_succ (o := o - 1) (by omega)
  rw [show o - 1 + 1 = o by omega] at hs
  have hp := pw_pos (o - 1)
  refine ⟨withL_disj h.1 (fun x hx => ?_), fun x hx => ?_⟩
  · have := h.2 x hx; simp only; omega
  · rcases List.mem_cons.1 ((withL_perm _ _).mem_iff.1 hx) with rfl | hx
    · right; exact Int.le_refl _
    · have := h.2 x hx; omega
theorem Leaves.split {p : Int} : ∀ (n : Nat) {o : Int} {l : List Bl}, Leaves p o l → n ≤ o → Leaves p (o - n) (splitL l p o n)
  | 0, o, l, h, _ => by rw [splitL]; simpa using h
  | n + 1, o, l, h, hn => by
    have := Leaves.split n (h.step (by omega)) (by omega)
    rw [splitL, show o - ((n + 1 : Nat) : Int) = o - 1 - n by omega]
    exact this
theorem without_perm {l : List Bl} {v : Bl} (hn : l.Nodup) (hv : v ∈ l) : (v :: without l v).Perm l := by
  obtain ⟨j, hj, rfl⟩ := List.getElem_of_mem hv
  rw [← erase_without hn (List.getElem?_eq_getElem hj)]
  rw [List.eraseIdx_eq_take_drop_succ]
  have h := List.perm_middle (a := l[j]) (l₁ := l.take j) (l₂ := l.drop (j + 1))
  rw [← List.drop_eq_getElem_cons hj, List.take_append_drop] at h
  exact h.symm
theorem without_leaves {l : List Bl} {v : Bl} (hd : Disj l) (hv : v ∈ l) : Leaves v.p v.o (without l v) := by
  refine ⟨hd.sub (without_sub _ _), fun x hx => ?_⟩
  obtain ⟨h1, h2⟩ := List.mem_filter.1 hx
  have h3 := hd.apart h1 hv (by simpa using h2)
  unfold MeetP at h3
  omega
theorem LeastT.uniq {want : Int} {fs : List Bl} {a b : Bl} (h : LeastT want fs a) (k : LeastT want fs b) : a = b := by
  have h1 := h.least b k.mem k.great
  have h2 := k.least a h.mem h.great
  obtain ⟨p, o⟩ := a
  obtain ⟨q, r⟩ := b
  simp only [LtB] at h1 h2
  have : p = q ∧ o = r := by omega
  rw [this.1, this.2]
end Go.Proofs.YtaafajaadfgaoaaGreat
namespace Go.Proofs.YtaafajaadfgaoaaGreat
def InW (x : Bl) (w : Int) : Prop := x.p ≤ w ∧ w < x.p + pw x.o
def cov (l : List Bl) (w : Int) : Prop := ∃ x ∈ l, InW x w
structure Can (od : Int) (l : List Bl) : Prop where
  disj : Disj l
  may : ∀ x ∈ l, MayP od x
  alone : ∀ x ∈ l, ∀ y ∈ l, y.o < od → twinP y ≠ x
theorem twin_twin {od : Int} {b : Bl} (h : MayP od b) (h8 : od ≤ 8) (ho : b.o < od) : twinP (twinP b) = b := by
  have hc := twin_cases h h8 ho
  obtain ⟨h1, h2, h3, h4, h5⟩ := h
  obtain ⟨p, o⟩ := b
  simp only at *
  rcases hc with ⟨ht, h6, _⟩ | ⟨ht, h6, h7⟩
  · rw [ht]
    unfold twinP
    simp only
    rw [if_neg]
    · congr 1; omega
    · rcases pw_cases h1 (by omega) with rfl | rfl | rfl | rfl | rfl | rfl | rfl | rfl | rfl
      all_goals
        simp only [pw, Int.reduceToNat, Int.reducePow, Int.reduceMul] at h6 ⊢
        omega
  · rw [ht]
    unfold twinP
    simp only
    rw [if_pos h7]
    congr 1; omega
theorem twin_o (b : Bl) : (twinP b).o = b.o := by unfold twinP; split <;> rfl
theorem twin_ne (b : Bl) : twinP b ≠ b := by
  have := pw_pos b.o
  unfold twinP
  obtain ⟨p, o⟩ := b
  split <;> (intro h; injection h with h1 h2; simp only at *; omega)
theorem Good.can {od : Int} {l : List Bl} (h8 : od ≤ 8) (h : Good od l) : Can od l := by
  have hm : ∀ x ∈ l, MayP od x := fun x hx => by
    obtain ⟨i, hi, rfl⟩ := List.getElem_of_mem hx
    exact (h i _ (List.getElem?_eq_getElem hi)).1
  refine ⟨h.disj, hm, fun x hx y hy ho ht => ?_⟩
  have hmy := hm y hy
  obtain ⟨i, hi, hyi⟩ := List.getElem_of_mem hy
  obtain ⟨k, hk, hxk⟩ := List.getElem_of_mem hx
  rcases Nat.lt_trichotomy k i with hlt | heq | hgt
  · exact ((h i y (by rw [List.getElem?_eq_getElem hi, hyi])).2 k x hlt (by rw [List.getElem?_eq_getElem hk, hxk])).2 ⟨ho, ht⟩
  · subst heq
    rw [hyi] at hxk
    subst hxk
    exact twin_ne _ ht
  · refine ((h k x (by rw [List.getElem?_eq_getElem hk, hxk])).2 i y hgt (by rw [List.getElem?_eq_getElem hi, hyi])).2 ⟨?_, ?_⟩
    · rw [← ht, twin_o]; exact ho
    · rw [← ht]; exact twin_twin hmy h8 ho
theorem Can.good {od : Int} {l : List Bl} (h : Can od l) : Good od l := by
  intro i y hy
  have hyl := List.mem_of_getElem? hy
  refine ⟨h.may y hyl, fun k x hk hx => ⟨?_, fun ⟨ho, ht⟩ => h.alone x (List.mem_of_getElem? hx) y hyl ho ht⟩⟩
  have hd := h.disj
  unfold Disj at hd
  rw [List.pairwise_iff_getElem] at hd
  obtain ⟨hi, rfl⟩ := List.getElem?_eq_some_iff.1 hy
  obtain ⟨hkk, rfl⟩ := List.getElem?_eq_some_iff.1 hx
  exact hd k i hkk hi hk
theorem nested {od : Int} {x y : Bl} (h8 : od ≤ 8) (hx : MayP od x) (hy : MayP od y) (ho : x.o ≤ y.o) (hm : MeetP x y) : y.p ≤ x.p ∧ x.p + pw x.o ≤ y.p + pw y.o := by
  have hd := pw_dvd hx.1 ho (by have := hy.2.1; omega)
  have ha := pw_pos x.o
  obtain ⟨i, hi⟩ := Int.dvd_of_emod_eq_zero hx.2.2.2.2
  obtain ⟨q, hq⟩ := Int.dvd_of_emod_eq_zero hd
  obtain ⟨j', hj'⟩ := Int.dvd_of_emod_eq_zero hy.2.2.2.2
  obtain ⟨j, hj⟩ : ∃ j, y.p = pw x.o * j := ⟨q * j', by rw [hj', hq, Int.mul_assoc]⟩
  obtain ⟨m1, m2⟩ := hm
  rw [hi, hj, hq] at m1
  rw [hi, hj] at m2
  have e1 : pw x.o * i < pw x.o * (j + q) := by rw [Int.mul_add]; exact m1
  have e2 : pw x.o * j < pw x.o * (i + 1) := by rw [Int.mul_add, Int.mul_one]; exact m2
  have f1 : i < j + q := Int.lt_of_mul_lt_mul_left e1 (by omega)
  have f2 : j < i + 1 := Int.lt_of_mul_lt_mul_left e2 (by omega)
  have g1 : pw x.o * j ≤ pw x.o * i := Int.mul_le_mul_of_nonneg_left (by omega) (by omega)
  have g2 : pw x.o * (i + 1) ≤ pw x.o * (j + q) := Int.mul_le_mul_of_nonneg_left (by omega) (by omega)
  rw [Int.mul_add, Int.mul_one] at g2
  rw [Int.mul_add] at g2
  rw [hi, hj, hq]
  exact ⟨g1, g2⟩
theorem meet_of {x y : Bl} {w : Int} (hx : InW x w) (hy : InW y w) : MeetP x y := ⟨by have := hx.1; have := hy.2; omega, by have := hy.1; have := hx.2; omega⟩
theorem cover_one {od : Int} {l : List Bl} (h8 : od ≤ 8) (hl : Can od l) : ∀ (n : Nat) (y : Bl), y.o = n → MayP od y → (∀ w, InW y w → cov l w) → ∃ z ∈ l, y.o ≤ z.o ∧ z.p ≤ y.p ∧ y.p + pw y.o ≤ z.p + pw z.o := by
  intro n
  induction n with
  | zero =>
    intro y hy hm hc
    have hp := pw_pos y.o
    obtain ⟨z, hz, hw⟩ := hc y.p ⟨Int.le_refl _, by omega⟩
    have ho : y.o ≤ z.o := by have := (hl.may z hz).1; omega
    exact ⟨z, hz, ho, nested h8 hm (hl.may z hz) ho (meet_of (w := y.p) ⟨Int.le_refl _, by omega⟩ hw)⟩
  | succ n ih =>
    intro y hy hm hc
    obtain ⟨p, o⟩ := y
    simp only at hy
    have hs := pw_succ (o := (n : Int)) (by omega)
    have hp := pw_pos (n : Int)
    have hon : o = (n : Int) + 1 := by rw [hy]; push_cast; rfl
    obtain ⟨a1, a2, a3, a4, a5⟩ := hm
    simp only at a1 a2 a3 a4 a5 hc ⊢
    rw [hon] at a2 a4 a5 hc ⊢
    rw [hs] at a4 a5
    have m1 : MayP od ⟨p, n⟩ := ⟨by simp only; omega, by simp only; omega, a3, by simp only; omega, by simp only; exact Int.emod_eq_zero_of_dvd (Int.dvd_trans ⟨2, by omega⟩ (Int.dvd_of_emod_eq_zero a5))⟩
    have m2 : MayP od ⟨p + pw n, n⟩ := ⟨by simp only; omega, by simp only; omega, by simp only; omega, by simp only; omega, by simp only; rw [Int.add_emod_right]; exact m1.2.2.2.2⟩
    obtain ⟨z1, hz1, o1, c1, d1⟩ := ih ⟨p, n⟩ rfl m1 (fun w hw => hc w ⟨hw.1, by have := hw.2; simp only at this ⊢; rw [hs]; omega⟩)
    obtain ⟨z2, hz2, o2, c2, d2⟩ := ih ⟨p + pw n, n⟩ rfl m2 (fun w hw => hc w ⟨by have := hw.1; simp only at this ⊢; omega, by have := hw.2; simp only at this ⊢; rw [hs]; omega⟩)
    simp only at o1 c1 d1 o2 c2 d2
    have hmy : MayP od ⟨p, (n : Int) + 1⟩ := ⟨by simp only; omega, a2, a3, by simp only; rw [hs]; exact a4, by simp only; rw [hs]; exact a5⟩
    by_cases b1 : (n : Int) + 1 ≤ z1.o
    · exact ⟨z1, hz1, b1, nested h8 hmy (hl.may z1 hz1) b1 ⟨by simp only; omega, by simp only; rw [hs]; omega⟩⟩
    · by_cases b2 : (n : Int) + 1 ≤ z2.o
      · exact ⟨z2, hz2, b2, nested h8 hmy (hl.may z2 hz2) b2 ⟨by simp only; omega, by simp only; rw [hs]; omega⟩⟩
      · exfalso
        have e1 : z1 = ⟨p, n⟩ := by
          obtain ⟨q, r⟩ := z1
          simp only at *
          have : r = n := by omega
          subst this
          have : q = p := by omega
          rw [this]
        have e2 : z2 = ⟨p + pw n, n⟩ := by
          obtain ⟨q, r⟩ := z2
          simp only at *
          have : r = n := by omega
          subst this
          have : q = p + pw n := by omega
          rw [this]
        refine hl.alone z2 hz2 z1 hz1 (by rw [e1]; simp only; omega) ?_
        rw [e1, e2]
        unfold twinP
        simp only
        rw [if_pos a5]
theorem mem_of_cov {od : Int} {l k : List Bl} (h8 : od ≤ 8) (hl : Can od l) (hk : Can od k) (h : ∀ w, cov l w ↔ cov k w) : ∀ x ∈ l, x ∈ k := by
  intro x hx
  have hmx := hl.may x hx
  obtain ⟨z, hz, o1, c1, d1⟩ := cover_one h8 hk x.o.toNat x (by have := hmx.1; omega) hmx (fun w hw => (h w).1 ⟨x, hx, hw⟩)
  have hmz := hk.may z hz
  obtain ⟨u, hu, o2, c2, d2⟩ := cover_one h8 hl z.o.toNat z (by have := hmz.1; omega) hmz (fun w hw => (h w).2 ⟨z, hz, hw⟩)
  have hpx := pw_pos x.o
  have hux : x = u := Classical.byContradiction fun hne => hl.disj.apart hx hu hne ⟨by omega, by omega⟩
  subst hux
  have e1 : z.o = x.o := by omega
  have e2 : z.p = x.p := by omega
  obtain ⟨p, o⟩ := z
  obtain ⟨q, r⟩ := x
  simp only at e1 e2
  rw [e1, e2] at hz
  exact hz
theorem sorted_ext : ∀ {l k : List Bl}, Disj l → Disj k → (∀ x, x ∈ l ↔ x ∈ k) → l = k
  | [], [], _, _, _ => rfl
  | [], y :: k, _, _, h => absurd ((h y).2 (by simp)) (by simp)
  | x :: l, [], _, _, h => absurd ((h x).1 (by simp)) (by simp)
  | x :: l, y :: k, hl, hk, h => by
    obtain ⟨l1, l2⟩ := List.pairwise_cons.1 hl
    obtain ⟨k1, k2⟩ := List.pairwise_cons.1 hk
    have px := pw_pos x.o
    have py := pw_pos y.o
    have hxy : x = y := by
      rcases List.mem_cons.1 ((h x).1 (by simp)) with h1 | h1
      · exact h1
      · rcases List.mem_cons.1 ((h y).2 (by simp)) with h2 | h2
        · exact h2.symm
        · have := k1 x h1
          have := l1 y h2
          omega
    subst hxy
    have hnl : x ∉ l := fun hm => by have := l1 x hm; omega
    have hnk : x ∉ k := fun hm => by have := k1 x hm; omega
    rw [sorted_ext l2 k2 (fun z => ⟨fun hz => ?_, fun hz => ?_⟩)]
    · rcases List.mem_cons.1 ((h z).1 (List.mem_cons_of_mem _ hz)) with h1 | h1
      · subst h1; exact absurd hz hnl
      · exact h1
    · rcases List.mem_cons.1 ((h z).2 (List.mem_cons_of_mem _ hz)) with h1 | h1
      · subst h1; exact absurd hz hnk
      · exact h1
theorem Can.uniq {od : Int} {l k : List Bl} (h8 : od ≤ 8) (hl : Can od l) (hk : Can od k) (h : ∀ w, cov l w ↔ cov k w) : l = k :=
  sorted_ext hl.disj hk.disj (fun x => ⟨mem_of_cov h8 hl hk h x, mem_of_cov h8 hk hl (fun w => (h w).symm) x⟩)
end Go.Proofs.YtaafajaadfgaoaaGreat
namespace Go.Proofs.YtaafajaadfgaoaaGreat
theorem mem_without {l : List Bl} {v x : Bl} : x ∈ without l v ↔ x ∈ l ∧ x ≠ v := by unfold without; rw [List.mem_filter]; simp
theorem cov_without {l : List Bl} {t : Bl} (ht : t ∈ l) (w : Int) : cov l w ↔ cov (without l t) w ∨ InW t w := by
  constructor
  · rintro ⟨x, hx, hw⟩
    by_cases h : x = t
    · subst h; exact .inr hw
    · exact .inl ⟨x, mem_without.2 ⟨hx, h⟩, hw⟩
  · rintro (⟨x, hx, hw⟩ | hw)
    · exact ⟨x, (mem_without.1 hx).1, hw⟩
    · exact ⟨t, ht, hw⟩
theorem cov_withL {l : List Bl} {b : Bl} (w : Int) : cov (withL l b) w ↔ cov l w ∨ InW b w := by
  constructor
  · rintro ⟨x, hx, hw⟩
    rcases List.mem_cons.1 ((withL_perm l b).mem_iff.1 hx) with rfl | hx
    · exact .inr hw
    · exact .inl ⟨x, hx, hw⟩
  · rintro (⟨x, hx, hw⟩ | hw)
    · exact ⟨x, (withL_perm l b).mem_iff.2 (List.mem_cons_of_mem _ hx), hw⟩
    · exact ⟨b, (withL_perm l b).mem_iff.2 (by simp), hw⟩
theorem right_can {od : Int} {fs : List Bl} (h : rightB od fs = true) : 3 ≤ od ∧ od ≤ 8 ∧ Can od fs := by
  unfold rightB regionB at h
  simp only [Bool.and_eq_true, decide_eq_true_eq] at h
  exact ⟨h.1.1, h.1.2, h.2.can h.1.2⟩
end Go.Proofs.YtaafajaadfgaoaaGreat
namespace Go.Proofs.YtaafajaadfgaoaaGreat
structure Inv (od : Int) (fs : List Bl) (p : Int) (l : List Bl) (o : Int) : Prop where
  lv : Leaves p o l
  may : ∀ x ∈ l, MayP od x
  alone : ∀ x ∈ l, ∀ y ∈ l, y.o < od → twinP y ≠ x
  cov : ∀ w, cov fs w ↔ cov l w ∨ InW ⟨p, o⟩ w
  sum : sumB l + pw o = sumB fs
  here : MayP od ⟨p, o⟩
theorem half_may {od p o : Int} (h8 : od ≤ 8) (h1 : 1 ≤ o) (h : MayP od ⟨p, o⟩) : MayP od ⟨p, o - 1⟩ ∧ MayP od ⟨p + pw (o - 1), o - 1⟩ ∧ twinP ⟨p + pw (o - 1), o - 1⟩ = ⟨p, o - 1⟩ := by
  have hs := pw_succ (o := o - 1) (by omega)
  rw [show o - 1 + 1 = o by omega] at hs
  have hp := pw_pos (o - 1)
  obtain ⟨a1, a2, a3, a4, a5⟩ := h
  simp only at a1 a2 a3 a4 a5
  rw [hs] at a4 a5
  have e1 : p % pw (o - 1) = 0 := Int.emod_eq_zero_of_dvd (Int.dvd_trans ⟨2, by omega⟩ (Int.dvd_of_emod_eq_zero a5))
  refine ⟨⟨by simp only; omega, by simp only; omega, a3, by simp only; omega, e1⟩, ⟨by simp only; omega, by simp only; omega, by simp only; omega, by simp only; omega, by simp only; rw [Int.add_emod_right]; exact e1⟩, ?_⟩
  unfold twinP
  simp only
  rw [if_neg]
  · congr 1; omega
  · generalize o - 1 = m at a5
    have hm : m = o - 1 ∨ True := .inr trivial
    intro hc
    have h2 : (p + pw m) % (2 * pw m) = 0 := hc
    have hd1 := Int.dvd_of_emod_eq_zero a5
    have hd2 := Int.dvd_of_emod_eq_zero h2
    have hd3 : 2 * pw m ∣ pw m := (Int.dvd_add_right hd1).1 hd2
    have hpm := pw_pos m
    have := Int.le_of_dvd (by omega) hd3
    omega
theorem sum_withL (l : List Bl) (b : Bl) : sumB (withL l b) = pw b.o + sumB l := by rw [sumB_perm (withL_perm l b), sumB_cons]
theorem Inv.step {od : Int} {fs : List Bl} {p : Int} {l : List Bl} {o : Int} (h8 : od ≤ 8) (h : Inv od fs p l o) (h1 : 1 ≤ o) : Inv od fs p (withL l ⟨p + pw (o - 1), o - 1⟩) (o - 1) := by
  have hs := pw_succ (o := o - 1) (by omega)
  rw [show o - 1 + 1 = o by omega] at hs
  have hp := pw_pos (o - 1)
  obtain ⟨m1, m2, ht⟩ := half_may h8 h1 h.here
  have hmem : ∀ x, x ∈ withL l ⟨p + pw (o - 1), o - 1⟩ ↔ x = ⟨p + pw (o - 1), o - 1⟩ ∨ x ∈ l := fun x => by rw [(withL_perm l _).mem_iff, List.mem_cons]
  have hno : (⟨p, o - 1⟩ : Bl) ∉ l := fun hm => by
    have := h.lv.2 _ hm
    simp only at this
    have := pw_pos o
    omega
  refine ⟨h.lv.step h1, fun x hx => ?_, fun x hx y hy ho htw => ?_, fun w => ?_, ?_, m1⟩
  · rcases (hmem x).1 hx with e | hx'
    · rw [e]; exact m2
    · exact h.may x hx'
  · rcases (hmem y).1 hy with e | hy'
    · rw [e, ht] at htw
      rcases (hmem x).1 hx with e2 | hx'
      · rw [e2] at htw; injection htw with q1 q2; omega
      · exact hno (by rw [htw]; exact hx')
    · rcases (hmem x).1 hx with e2 | hx'
      · rw [e2] at htw
        have := twin_twin (h.may y hy') h8 ho
        rw [htw, ht] at this
        exact hno (by rw [this]; exact hy')
      · exact h.alone x hx' y hy' ho htw
  · rw [h.cov w, cov_withL]
    have e : InW ⟨p, o⟩ w ↔ InW ⟨p + pw (o - 1), o - 1⟩ w ∨ InW ⟨p, o - 1⟩ w := by
      unfold InW; simp only; rw [hs]; omega
    rw [e]
    exact or_assoc.symm
  · rw [sum_withL]; have := h.sum; simp only; omega
theorem Inv.split {od : Int} {fs : List Bl} {p : Int} (h8 : od ≤ 8) : ∀ (n : Nat) {l : List Bl} {o : Int}, Inv od fs p l o → n ≤ o → Inv od fs p (splitL l p o n) (o - n)
  | 0, l, o, h, _ => by rw [splitL]; simpa using h
  | n + 1, l, o, h, hn => by
    have := Inv.split h8 n (h.step h8 (by omega)) (by omega)
    rw [splitL, show o - ((n + 1 : Nat) : Int) = o - 1 - n by omega]
    exact this
theorem Inv.start {od : Int} {fs : List Bl} {b : Bl} (hc : Can od fs) (hb : b ∈ fs) : Inv od fs b.p (without fs b) b.o := by
  refine ⟨without_leaves hc.disj hb, fun x hx => hc.may x (mem_without.1 hx).1, fun x hx y hy => hc.alone x (mem_without.1 hx).1 y (mem_without.1 hy).1, fun w => cov_without hb w, ?_, hc.may b hb⟩
  have := sumB_perm (without_perm hc.disj.sorted.nodup hb)
  rw [sumB_cons] at this
  omega
theorem Inv.can {od : Int} {fs : List Bl} {p : Int} {l : List Bl} {o : Int} (h : Inv od fs p l o) : Can od l := ⟨h.lv.1, h.may, h.alone⟩
end Go.Proofs.YtaafajaadfgaoaaGreat
/- What an operation makes of a heap: the plain answer, and that it leaves a right heap right. No program in sight. -/
namespace Go.Proofs.YtaafajaadfgaoaaGreat
def mkOb (h p o : Int) (ws ls : List Int) : Ob := ⟨h, p, o, none, ws, 0, none, ls, 0⟩
def sigO (o : Ob) : Int × Int × Int × Nat × Nat := (o.h, o.p, o.o, o.ws.length, o.ls.length)
def Like (l k : List Ob) : Prop := l.map sigO = k.map sigO
theorem Like.get {l k : List Ob} (h : Like l k) {i : Nat} {b : Ob} (hb : k[i]? = some b) : ∃ a, l[i]? = some a ∧ sigO a = sigO b := by
  have h1 : (k.map sigO)[i]? = some (sigO b) := by rw [List.getElem?_map, hb]; rfl
  rw [← h, List.getElem?_map] at h1
  cases ha : l[i]? with
  | none => rw [ha] at h1; cases h1
  | some a => rw [ha] at h1; injection h1 with h1; exact ⟨a, rfl, h1⟩
theorem Like.mem {l k : List Ob} (h : Like l k) {b : Ob} (hb : b ∈ k) : ∃ a ∈ l, sigO a = sigO b := by
  obtain ⟨i, hi, rfl⟩ := List.getElem_of_mem hb
  obtain ⟨a, ha, hs⟩ := h.get (List.getElem?_eq_getElem hi)
  exact ⟨a, List.mem_of_getElem? ha, hs⟩
theorem Like.symm {l k : List Ob} (h : Like l k) : Like k l := Eq.symm h
theorem Like.leads {l k : List Ob} (h : Like l k) {t : Int} (ht : leadsP l t) : leadsP k t := by
  rcases ht with ht | ⟨o, ho, rfl⟩
  · exact .inl ht
  · obtain ⟨a, ha, hs⟩ := h.symm.mem ho
    unfold sigO at hs
    injection hs with hs
    exact .inr ⟨a, ha, hs⟩
theorem Like.rise {l k : List Ob} {nx : Int} (h : Like l k) (hr : HRise nx l) : HRise nx k := fun i o ho => by
  obtain ⟨a, ha, hs⟩ := h.get ho
  obtain ⟨h1, h2, h3⟩ := hr i a ha
  unfold sigO at hs
  injection hs with hs
  rw [← hs]
  refine ⟨h1, h2, fun j q hj hq => ?_⟩
  obtain ⟨b, hb, hs2⟩ := h.get hq
  unfold sigO at hs2
  injection hs2 with hs2
  rw [← hs2]
  exact h3 j b hj hb
theorem Like.len {l k : List Ob} (h : Like l k) : l.length = k.length := by
  have := congrArg List.length (show l.map sigO = k.map sigO from h)
  simpa using this
theorem Like.need {l k : List Ob} {od : Int} (h : Like l k) (hn : HNeed od l) : HNeed od k := fun o ho => by
  obtain ⟨a, ha, hs⟩ := h.mem ho
  obtain ⟨h1, h2⟩ := hn a ha
  unfold sigO at hs
  injection hs with s1 s2
  injection s2 with s2 s3
  injection s3 with s3 s4
  injection s4 with s4 s5
  unfold obBl at h2 ⊢
  rw [← s2, ← s3, ← s4, ← s5]
  exact ⟨h1, h2⟩
theorem Like.set {l : List Ob} {i : Nat} {a b : Ob} (ha : l[i]? = some a) (h : sigO a = sigO b) : Like l (l.set i b) := by
  unfold Like
  rw [List.map_set, ← h, set_same (by rw [List.getElem?_map, ha]; rfl)]
theorem needI_ok {a b : Int} (h : 0 ≤ needI a b) : 0 ≤ a ∧ a ≤ 32 ∧ 0 ≤ b ∧ b ≤ 16 := by
  unfold needI at h
  split at h
  · rename_i h'; exact h'
  · omega
end Go.Proofs.YtaafajaadfgaoaaGreat
/- A heap in blocks of the call's own. -/
namespace Go.Proofs.YtaafajaadfgaoaaGreat
open Go.RowKit
def ObR (x : Ob) (R : List Blk) : Prop := ∃ Rw Rl, R = Rw ++ Rl ∧ OwnRow 3 1 (.slice x.wa x.ws.length x.wc) x.ws.length (x.ws.flatMap iV) Rw ∧ OwnRow 3 1 (.slice x.la x.ls.length x.lc) x.ls.length (x.ls.flatMap iV) Rl
inductive ObsR : List Ob → List Blk → Prop
  | nil : ObsR [] []
  | cons {x : Ob} {l : List Ob} {R M : List Blk} : ObR x R → ObsR l M → ObsR (x :: l) (R ++ M)
theorem ObsR.snoc {l : List Ob} {M R : List Blk} {x : Ob} (h : ObsR l M) (hx : ObR x R) : ObsR (l ++ [x]) (M ++ R) := by
  induction h with
  | nil => simpa using ObsR.cons hx ObsR.nil
  | @cons y l R' M hR hM ih => rw [List.cons_append, List.append_assoc]; exact .cons hR ih
theorem OwnRow.keptS {e : TypeId} {c n : Nat} {a : Option Addr} {k : Nat} {xs : List Value} {R : List Blk} (h : OwnRow e c (.slice a n k) n xs R) : Kept R fun w => RowIs w a xs := by
  obtain ⟨a', k', hv, hk⟩ := h.kept
  injection hv with h1 h2 h3
  subst h1
  exact hk
theorem ObR.kept {x : Ob} {R : List Blk} (h : ObR x R) : Kept R fun w => x.Is w := by
  obtain ⟨Rw, Rl, rfl, h1, h2⟩ := h
  exact h1.keptS.and h2.keptS
theorem ObsR.kept {l : List Ob} {M : List Blk} (h : ObsR l M) : Kept M fun w => ∀ o ∈ l, o.Is w := by
  induction h with
  | nil => exact Kept.none_ (fun w o ho => by cases ho) _
  | @cons y l R M hR hM ih =>
    refine (hR.kept.and ih).mono (fun p hp => hp) (fun w ⟨h1, h2⟩ o ho => ?_)
    rcases List.mem_cons.1 ho with rfl | ho
    · exact h1
    · exact h2 o ho
structure HvR (x : Hv) (RO RF M : List Blk) : Prop where
  objs : OwnRow 126 5 (.slice x.oa x.os.length x.oc) x.os.length (x.os.flatMap obV) RO
  free : OwnRow 124 2 (.slice x.fa x.fs.length x.fc) x.fs.length (x.fs.flatMap blV) RF
  rows : ObsR x.os M
theorem HvR.kept {x : Hv} {RO RF M : List Blk} (h : HvR x RO RF M) : Kept (RO ++ (RF ++ M)) fun w => x.Is w :=
  (h.objs.keptS.and (h.free.keptS.and h.rows.kept)).mono (fun _ hp => hp) fun _ ⟨h1, h2, h3⟩ => ⟨h1, h3, h2⟩
def WorkAt (B : Nat) (w0 w : World) (b : Nat) (x : Hv) (K : List Blk) : Prop := ∃ RO RF M, HvR x RO RF M ∧ Hp B w0 w (⟨b, hvL x, 113, 8⟩ :: (RO ++ (RF ++ (M ++ K))))
theorem HvR.is {x : Hv} {RO RF M K L : List Blk} (h : HvR x RO RF M) {B : Nat} {w0 w : World} (hp : Hp B w0 w (L ++ (RO ++ (RF ++ (M ++ K))))) : x.Is w :=
  h.kept.at hp (fun p hm => by simp only [List.mem_append] at hm ⊢; rcases hm with hm | hm | hm <;> simp [hm])
theorem OwnRow.own {e : TypeId} {c n : Nat} {a : Option Addr} {k : Nat} {xs : List Value} {R : List Blk} (h : OwnRow e c (.slice a n k) n xs R) (hn : 0 < n) : ∃ g, a = some ⟨g, 0, none⟩ ∧ n ≤ k ∧ k ≤ maxLen ∧ R = [⟨g, xs, e, k * c⟩] ∧ xs.length = n * c := by
  obtain ⟨hl, ⟨h0, _⟩ | ⟨g, cap, hv, h1, h2, hr⟩⟩ := h
  · omega
  · injection hv with v1 v2 v3
    subst v1 v3
    exact ⟨g, rfl, h1, h2, hr, hl⟩
theorem Hp.sublist {B : Nat} {w0 w : World} {L L' : List Blk} (hp : Hp B w0 w L) (h : L'.Sublist L) : Hp B w0 w L' :=
  ⟨hp.below, hp.size, (h.map _).nodup hp.nodup, fun p hpL => hp.own p (h.subset hpL)⟩
end Go.Proofs.YtaafajaadfgaoaaGreat
/- The walk of begin: a heap in blocks of the call's own. -/
namespace Go.Proofs.YtaafajaadfgaoaaGreat
open Go.RowKit
theorem OwnRow.val {e : TypeId} {c n : Nat} {v : Value} {xs : List Value} {R : List Blk} (h : OwnRow e c v n xs R) : ∃ a k, v = .slice a n k := by
  obtain ⟨a, k, hv, _⟩ := h.kept
  exact ⟨a, k, hv⟩
theorem OwnRow.alike {e : TypeId} {c n : Nat} {v : Value} {xs : List Value} {R : List Blk} (h : OwnRow e c v n xs R) (hn : 0 < n) : ∃ g cap, v = .slice (some ⟨g, 0, none⟩) n cap ∧ R = [⟨g, xs, e, cap * c⟩] ∧ ∀ ys : List Value, ys.length = n * c → OwnRow e c v n ys [⟨g, ys, e, cap * c⟩] := by
  obtain ⟨hl, ⟨h0, _⟩ | ⟨g, cap, hv, h1, h2, hr⟩⟩ := h
  · omega
  · exact ⟨g, cap, hv, hr, fun ys hy => ⟨hy, .inr ⟨g, cap, hv, h1, h2, rfl⟩⟩⟩
end Go.Proofs.YtaafajaadfgaoaaGreat
/- The walks of no and lead. -/
namespace Go.Proofs.YtaafajaadfgaoaaGreat
open Go.RowKit
theorem agg29 : aggB Tryz.prog 29 7 = true := by kernel_rfl
theorem cell27 : cellB Tryz.prog 27 = true := by kernel_rfl
def resV (c v : Int) : Value := .agg #[.int .i64 c, .int .i64 v]
end Go.Proofs.YtaafajaadfgaoaaGreat
/- The walk of free. -/
namespace Go.Proofs.YtaafajaadfgaoaaGreat
open Go.RowKit
def WorkPost (B : Nat) (w0 : World) (b : Nat) (s : Hv) (c v : Int) (K : List Blk) (e : Ending) (w' : World) : Prop := e = .returned (resV c v) ∧ ∃ y : Hv, y.Sm s ∧ WorkAt B w0 w' b y K
theorem HRight.small {x : Hv} (h : HRight x) : x.Small := by
  obtain ⟨h3, h8, hcan⟩ := right_can h.free
  refine ⟨⟨by have := h.len; omega, fun o ho => ?_⟩, ?_⟩
  · have h1 := (h.need o ho)
    have h2 : 0 ≤ needI o.ws.length o.ls.length := by rw [h1.1]; exact h1.2.1
    have := needI_ok h2
    omega
  · have h1 := hcan.good.len h3
    have h2 := pw_le h8
    omega
theorem HRight.sorted {x : Hv} (h : HRight x) : SortedO x.os := h.rise.step
theorem Hp.part {B : Nat} {w0 w : World} {L L' D : List Blk} (hp : Hp B w0 w L) (h : L.Perm (L' ++ D)) : Hp B w0 w L' := (hp.reorder h).sublist (List.sublist_append_left _ _)
end Go.Proofs.YtaafajaadfgaoaaGreat

/-
  PACKED (pack8.py): what is needed of the texts Xy.
-/
import Derived.Test.YtmlfcpglhipjgaaGreatB38
namespace Go.Proofs.YtmlfcpglhipjgaaGreat.Re
open Go.RowKit Sc As
/-! ### slices.Compact of what is sorted -/
theorem compact_has {zs : List Int} : ∀ (j : Nat) (h : j < zs.length), zs[j] ∈ Go.Lib.compact zs
 | 0, h => by
   unfold Go.Lib.compact Go.Lib.compactUpTo; exact List.mem_map.2 ⟨0, List.mem_filter.2 ⟨List.mem_range.2 h, by simp [Go.Lib.keeps]⟩, by simp [getElem!_pos, h]⟩
 | j + 1, h => by
   by_cases e : zs[j + 1] = zs[j]
   ·rw [e]; exact compact_has j (by omega)
   ·unfold Go.Lib.compact Go.Lib.compactUpTo
    exact List.mem_map.2 ⟨j + 1, List.mem_filter.2 ⟨List.mem_range.2 h, by
     have h1 : j < zs.toArray.size := by simp; omega
     have h2 : j + 1 < zs.toArray.size := by simpa using h
     simp [Go.Lib.keeps, getElem!_pos zs.toArray (j + 1) h2, getElem!_pos zs.toArray j h1, e]⟩, by simp [getElem!_pos, h]⟩
theorem compact_asc {zs : List Int} (h : zs.Pairwise (· ≤ ·)) : (Go.Lib.compact zs).Pairwise (· < ·) := by
 unfold Go.Lib.compact Go.Lib.compactUpTo; rw [List.pairwise_map, List.pairwise_filter]; refine List.Pairwise.imp_of_mem ?_ List.pairwise_lt_range; intro i j hi hj hij _ hk; have hi := List.mem_range.1 hi; have hj := List.mem_range.1 hj; have h1 : j - 1 < zs.toArray.size := by simp; omega
 have h2 : j < zs.toArray.size := by simpa using hj
 have h3 : i < zs.toArray.size := by simpa using hi
 simp only [Go.Lib.keeps, decide_eq_true_eq, getElem!_pos zs.toArray j h2, getElem!_pos zs.toArray (j - 1) h1] at hk; rw [getElem!_pos zs.toArray j h2, getElem!_pos zs.toArray i h3]; simp only [List.getElem_toArray] at hk ⊢; have g := List.pairwise_iff_getElem.1 h; have a1 : zs[j - 1]'(by omega) ≤ zs[j] := g (j - 1) j (by omega) hj (by omega); have a2 : zs[i] ≤ zs[j - 1]'(by omega) := by
  by_cases e : i = j - 1
  ·subst e; exact Int.le_refl _
  ·exact g i (j - 1) hi (by omega) (by omega)
 rcases hk with hk | hk
 ·omega
 ·omega
theorem farmsOf_asc (F G : List FarmF) : (farmsOf F G).Pairwise (· < ·) := by
 refine compact_asc ?_
 have := List.pairwise_mergeSort (le := fun x y : Int => decide (x ≤ y)) (fun a b c h1 h2 => by simp only [decide_eq_true_eq] at *; omega) (fun a b => by simp only [Bool.or_eq_true, decide_eq_true_eq]; omega) ((F ++ G).map (·.farm)); exact this.imp fun h => by simpa using h
theorem farmsOf_has {F G : List FarmF} {f : FarmF} (h : f ∈ F ∨ f ∈ G) : f.farm ∈ farmsOf F G := by
 have h1 : f.farm ∈ ((F ++ G).map (·.farm)).mergeSort fun x y => decide (x ≤ y) := (List.mergeSort_perm _ _).mem_iff.2 (List.mem_map.2 ⟨f, List.mem_append.2 h, rfl⟩)
 obtain ⟨j, hj, e⟩ := List.getElem_of_mem h1; rw [← e]; exact compact_has j hj
theorem farmsOf_comm {F G : List FarmF} (hm : G.map (·.farm) = F.map (·.farm)) : farmsOf G F = farmsOf F G := by
 unfold farmsOf; rw [List.map_append, List.map_append, hm]
/-! ### back and forth -/
theorem lineB_comm (x y : LineF) : lineB x y = lineB y x := by
 have e : ∀ a b : Int, (a != b) = (b != a) := fun a b => by rw [Bool.eq_iff_iff]; simp only [bne_iff_ne]; exact ⟨fun h e => h e.symm, fun h e => h e.symm⟩
 unfold lineB; rw [e x.decl, e x.sch, e x.season]; have e1 : decide (x.due ≠ y.due) = decide (y.due ≠ x.due) := decide_eq_decide.2 ⟨fun h e => h e.symm, fun h e => h e.symm⟩; have e2 : decide (¬ (x.kind = y.kind ∧ x.area = y.area ∧ x.border = y.border)) = decide (¬ (y.kind = x.kind ∧ y.area = x.area ∧ y.border = x.border)) :=
  decide_eq_decide.2 (not_congr ⟨fun h => ⟨h.1.symm, h.2.1.symm, h.2.2.symm⟩, fun h => ⟨h.1.symm, h.2.1.symm, h.2.2.symm⟩⟩)
 rw [e1, e2]
theorem farmCh_len2 (x y : FarmF) : (farmCh x y).length = (farmCh y x).length := by
 have h : ∀ n, (linesCh x.lines y.lines n).length = (linesCh y.lines x.lines n).length := fun n => by
  induction n with
  | zero => rfl
  | succ n ih =>
    show (linesCh _ _ n ++ lineCh _ _ _).length = (linesCh _ _ n ++ lineCh _ _ _).length
    rw [lap, lap, ih]
    congr 1
    unfold lineCh; rw [lineB_comm]
 have h1 : (dayCh x y).length = (dayCh y x).length := by
  unfold dayCh
  by_cases c : x.day = y.day
  ·rw [if_pos c, if_pos c.symm]
  ·rw [if_neg c, if_neg fun e => c e.symm]
 have h2 : (lenCh x y).length = (lenCh y x).length := by
  unfold lenCh
  by_cases c : x.lines.length = y.lines.length
  ·rw [if_pos c, if_pos c.symm]
  ·rw [if_neg c, if_neg fun e => c e.symm]
 unfold farmCh; simp only [lap]; rw [h1, h2, Nat.min_comm, h]
theorem moved_comm {l : YLaw} {F G : List FarmF} {n : Int} : movedP l F G n ↔ movedP l G F n := by
 unfold movedP
 constructor
 ·rintro (h | h | ⟨h1, h2⟩)
  ·exact .inl (Ne.symm h)
  ·exact .inr (.inl (Ne.symm h))
  ·exact .inr (.inr ⟨h1.symm, Ne.symm h2⟩)
 ·rintro (h | h | ⟨h1, h2⟩)
  ·exact .inl (Ne.symm h)
  ·exact .inr (.inl (Ne.symm h))
  ·exact .inr (.inr ⟨h1.symm, Ne.symm h2⟩)
def keyA (d : Dif) : Int × Int × Int × Nat := (d.farm, d.before, d.after, d.chg.length)
def keyB (d : Dif) : Int × Int × Int × Nat := (d.farm, d.after, d.before, d.chg.length)
theorem difOf_key (l : YLaw) (F G : List FarmF) (n : Int) : (difOf l F G n).map keyA = (difOf l G F n).map keyB := by
 unfold difOf
 by_cases h : amount (assess l F) n = amount (assess l G) n
 ·rw [if_pos h, if_pos h.symm]; rfl
 ·rw [if_neg h, if_neg fun e => h e.symm]
  have e : (dif l F G n).chg.length = (dif l G F n).chg.length := by
   unfold dif movedCh; simp only [lap]; rw [farmCh_len2]
   congr 1
   by_cases c : movedP l F G n
   ·rw [if_pos c, if_pos (moved_comm.1 c)]
   ·rw [if_neg c, if_neg fun e => c (moved_comm.1 e)]
  show [keyA (dif l F G n)] = [keyB (dif l G F n)]
  unfold keyA keyB; rw [e]
  rfl
theorem difs_key {l : YLaw} {F G : List FarmF} (hm : G.map (·.farm) = F.map (·.farm)) : (difs l F G).map keyA = (difs l G F).map keyB := by
 unfold difs; rw [farmsOf_comm hm, List.map_flatMap, List.map_flatMap]
 congr 1
 funext n
 exact difOf_key l F G n
theorem difs_turned {l : YLaw} {F G : List FarmF} (hm : G.map (·.farm) = F.map (·.farm)) : (difs l F G).length = (difs l G F).length ∧ ∀ k (a : k < (difs l F G).length) (b : k < (difs l G F).length),
  (difs l F G)[k].farm = (difs l G F)[k].farm ∧ (difs l F G)[k].before = (difs l G F)[k].after ∧ (difs l F G)[k].after = (difs l G F)[k].before ∧ (difs l F G)[k].chg.length = (difs l G F)[k].chg.length := by
 have h := difs_key (l := l) hm; refine ⟨by have := congrArg List.length h; simpa using this, fun k a b => ?_⟩; have e := congrArg (fun L => L[k]?) h; simp only [List.getElem?_map, List.getElem?_eq_getElem a, List.getElem?_eq_getElem b, Option.map_some, Option.some.injEq, keyA, keyB, Prod.mk.injEq] at e; exact e
def lostK (k : Int × Int × Int × Nat) : Int := if k.2.2.1 < k.2.1 then k.2.1 - k.2.2.1 else 0
def gotK (k : Int × Int × Int × Nat) : Int := if k.2.2.1 < k.2.1 then 0 else k.2.2.1 - k.2.1
theorem lost_key (D : List Dif) : lost D = Sh.sum ((D.map keyA).map lostK) ∧ got D = Sh.sum ((D.map keyA).map gotK) ∧ got D = Sh.sum ((D.map keyB).map lostK) ∧ lost D = Sh.sum ((D.map keyB).map gotK) := by
 unfold lost got; simp only [List.map_map]; refine ⟨rfl, rfl, ?_, ?_⟩
 ·congr 1
  refine List.map_congr_left fun d _ => ?_
  show got1 d = lostK (keyB d)
  unfold got1 lostK keyB; simp only
  by_cases h : d.after < d.before
  ·rw [if_pos h, if_neg (by omega)]
  ·rw [if_neg h]
   by_cases g : d.before < d.after
   ·rw [if_pos g]
   ·rw [if_neg g]; omega
 ·congr 1
  refine List.map_congr_left fun d _ => ?_
  show lost1 d = gotK (keyB d)
  unfold lost1 gotK keyB; simp only
  by_cases h : d.after < d.before
  ·rw [if_pos h, if_neg (by omega)]
  ·rw [if_neg h]
   by_cases g : d.before < d.after
   ·rw [if_pos g]
   ·rw [if_neg g]; omega
theorem lost_got {l : YLaw} {F G : List FarmF} (hm : G.map (·.farm) = F.map (·.farm)) : lost (difs l F G) = got (difs l G F) ∧ got (difs l F G) = lost (difs l G F) := by
 have h := difs_key (l := l) hm; exact ⟨by rw [(lost_key (difs l F G)).1, h, ← (lost_key (difs l G F)).2.2.1], by rw [(lost_key (difs l F G)).2.1, h, ← (lost_key (difs l G F)).2.2.2]⟩
/-! ### totals -/
theorem sum_pick {N : List Int} (h : N.Pairwise (· < ·)) {n d : Int} (hn : n ∈ N) : Sh.sum (N.map fun m => if n = m then d else 0) = d := by
 have z : ∀ {M : List Int}, (∀ m ∈ M, n ≠ m) → Sh.sum (M.map fun m => if n = m then d else 0) = 0 := fun {M} hM => by
  induction M with
  | nil => rfl
  | cons m M ih =>
    show (if n = m then d else 0) + Sh.sum (M.map _) = 0
    rw [if_neg (hM m (List.mem_cons_self ..)), ih fun x hx => hM x (List.mem_cons_of_mem _ hx)]
    rfl
 induction N with
 | nil => cases hn
 | cons m N ih =>
   obtain ⟨h1, h2⟩ := List.pairwise_cons.1 h
   show (if n = m then d else 0) + Sh.sum (N.map _) = d
   rcases List.mem_cons.1 hn with rfl | hn
   ·rw [if_pos rfl, z fun m hm => by have := h1 m hm; omega, Int.add_zero]
   ·rw [if_neg (by have := h1 n hn; omega), ih h2 hn, Int.zero_add]
theorem sum_add (N : List Int) (f g : Int → Int) : Sh.sum (N.map fun m => f m + g m) = Sh.sum (N.map f) + Sh.sum (N.map g) := by
 induction N with
 | nil => rfl
 | cons m N ih =>
   show f m + g m + Sh.sum (N.map _) = f m + Sh.sum (N.map f) + (g m + Sh.sum (N.map g))
   rw [ih]; omega
theorem total_amounts {N : List Int} (h : N.Pairwise (· < ·)) : ∀ {A : List Awd}, (∀ a ∈ A, a.farm ∈ N) → Sh.sum (N.map fun n => amount A n) = total A
 | [], _ => by
   unfold amount total
   induction N with
   | nil => rfl
   | cons m N ih => show (0 : Int) + Sh.sum (N.map _) = _; rw [ih (List.pairwise_cons.1 h).2 fun a h => by cases h]; rfl
 | a :: A, hA => by
   have e : (fun n => amount (a :: A) n) = fun n => (if a.farm = n then a.due else 0) + amount A n := rfl
   rw [e, sum_add, sum_pick h (hA a (List.mem_cons_self ..)), total_amounts h fun x hx => hA x (List.mem_cons_of_mem _ hx)]
   rfl
theorem got_lost {l : YLaw} {F G : List FarmF} : ∀ N : List Int, got (N.flatMap (difOf l F G)) - lost (N.flatMap (difOf l F G)) = Sh.sum (N.map fun n => amount (assess l G) n) - Sh.sum (N.map fun n => amount (assess l F) n)
 | [] => rfl
 | n :: N => by
   have ih := got_lost (l := l) (F := F) (G := G) N; have e1 : Sh.sum ((n :: N).map fun n => amount (assess l G) n) = amount (assess l G) n + Sh.sum (N.map fun n => amount (assess l G) n) := rfl; have e2 : Sh.sum ((n :: N).map fun n => amount (assess l F) n) = amount (assess l F) n + Sh.sum (N.map fun n => amount (assess l F) n) := rfl; rw [e1, e2, List.flatMap_cons]; unfold lost got at ih ⊢; rw [List.map_append, List.map_append, Sh.sum_append, Sh.sum_append]; have h1 : Sh.sum ((difOf l F G n).map got1) - Sh.sum ((difOf l F G n).map lost1) = amount (assess l G) n - amount (assess l F) n := by
    unfold difOf
    by_cases h : amount (assess l F) n = amount (assess l G) n
    ·rw [if_pos h, h]; show (0 : Int) - 0 = _; omega
    ·rw [if_neg h]
     show got1 (dif l F G n) + 0 - (lost1 (dif l F G n) + 0) = _
     unfold got1 lost1 dif; simp only
     by_cases c : amount (assess l G) n < amount (assess l F) n
     ·rw [if_pos c, if_pos c]; omega
     ·rw [if_neg c, if_neg c]; omega
   omega
theorem assess_farm {l : YLaw} {F : List FarmF} (hF : FOk l F) (h0 : assErr l F = 0) {a : Awd} (ha : a ∈ assess l F) : ∃ f ∈ F, a.farm = f.farm := by
 obtain ⟨i, hi, rfl⟩ := List.getElem_of_mem ha; have hi' : i < (allAw l F).length := by rw [← (assess_at h0).1]; exact hi
 rw [(assess_at h0).2.2 i hi hi']; obtain ⟨f, hf, hx⟩ := mem_allAw.1 (List.getElem_mem hi'); exact ⟨f, hf, (farmAw_fine hF.law (hF.farm f hf) hx).farm⟩
theorem totals {l : YLaw} {F G : List FarmF} (hF : FOk l F) (hG : FOk l G) (eF : assErr l F = 0) (eG : assErr l G = 0) : got (difs l F G) - lost (difs l F G) = total (assess l G) - total (assess l F) := by
 unfold difs; rw [got_lost, total_amounts (farmsOf_asc F G) fun a ha => ?_, total_amounts (farmsOf_asc F G) fun a ha => ?_]
 ·obtain ⟨f, hf, e⟩ := assess_farm hF eF ha
  rw [e]; exact farmsOf_has (.inl hf)
 ·obtain ⟨f, hf, e⟩ := assess_farm hG eG ha
  rw [e]; exact farmsOf_has (.inr hf)
theorem difs_mod {l : YLaw} {F G : List FarmF} (eF : assErr l F = 0) (eG : assErr l G = 0) (lF : F.length ≤ 100) (lG : G.length ≤ 100) (hl : (difs l F G).length ≤ (farmsOf F G).length) : Mod (difs l F G) := by
 refine ⟨by have := farmsOf_len F G; omega, fun d hd => ?_⟩
 unfold difs at hd; obtain ⟨n, _, hd⟩ := List.mem_flatMap.1 hd; unfold difOf at hd
 by_cases h : amount (assess l F) n = amount (assess l G) n
 ·rw [if_pos h] at hd; cases hd
 ·rw [if_neg h, List.mem_singleton] at hd
  subst hd; have h1 := amount0 eF n; have h2 := amount0 eG n; exact ⟨h1.1, h1.2, h2.1, h2.2⟩
end Go.Proofs.YtmlfcpglhipjgaaGreat.Re

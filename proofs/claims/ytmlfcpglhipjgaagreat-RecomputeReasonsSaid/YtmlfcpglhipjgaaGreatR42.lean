/-
  PACKED (pack8.py): what is needed of the texts Xx, Sj.
-/
import Derived.Test.YtmlfcpglhipjgaaGreatR38
set_option maxRecDepth 100000
set_option maxHeartbeats 8000000
open Go.Value renaming int → I
open Go.IntKind renaming i64 → O
namespace Go.Proofs.YtmlfcpglhipjgaaGreat.Re
open Go.RowKit Sc As
theorem chTake_nil {bs : List Bool} {i : Int} : ∀ {n : Nat}, chTake bs i n = [] → ∀ k, k < n → bs.getD k false = false
 | 0, _, k, hk => by omega
 | n + 1, h, k, hk => by
   have h1 : chTake bs i n ++ (if bs.getD n false then [⟨2 + n, i⟩] else []) = [] := h; obtain ⟨h2, h3⟩ := List.append_eq_nil_iff.1 h1
   by_cases e : k = n
   ·subst e
    cases hb : bs.getD k false with
    | false => rfl
    | true => rw [hb] at h3; simp at h3
   ·exact chTake_nil h2 k (by omega)
theorem lineCh_nil {x y : LineF} {i : Int} (h : lineCh x y i = []) : x = y := by
 have g := fun k => chTake_nil (n := 5) h k
 have g0 := g 0 (by omega); have g1 := g 1 (by omega); have g2 := g 2 (by omega); have g3 := g 3 (by omega); have g4 := g 4 (by omega); obtain ⟨a1, a2, a3, a4, a5, a6, a7⟩ := x; obtain ⟨b1, b2, b3, b4, b5, b6, b7⟩ := y; simp only [lineB, List.getD_cons_zero, List.getD_cons_succ, bne_eq_false_iff_eq, decide_eq_false_iff_not, Decidable.not_not] at g0 g1 g2 g3 g4; obtain ⟨g4, g5, g6⟩ := g4; subst g0 g1 g2 g3 g4 g5 g6
 rfl
theorem linesCh_nil {X Y : List LineF} : ∀ {n : Nat}, linesCh X Y n = [] → ∀ k, k < n → X.getD k line0 = Y.getD k line0
 | 0, _, k, hk => by omega
 | n + 1, h, k, hk => by
   obtain ⟨h2, h3⟩ := List.append_eq_nil_iff.1 (show linesCh X Y n ++ lineCh (X.getD n line0) (Y.getD n line0) n = [] from h)
   by_cases e : k = n
   ·subst e; exact lineCh_nil h3
   ·exact linesCh_nil h2 k (by omega)
theorem farmCh_nil {x y : FarmF} (h : farmCh x y = []) : x.day = y.day ∧ x.lines = y.lines := by
 unfold farmCh at h; obtain ⟨h1, h3⟩ := List.append_eq_nil_iff.1 h; obtain ⟨h1, h2⟩ := List.append_eq_nil_iff.1 h1; have e3 : x.lines.length = y.lines.length := by
  unfold lenCh at h3
  by_cases c : x.lines.length = y.lines.length
  ·exact c
  ·rw [if_neg c] at h3; cases h3
 refine ⟨?_, List.ext_getElem e3 fun k a b => ?_⟩
 ·unfold dayCh at h1
  by_cases c : x.day = y.day
  ·exact c
  ·rw [if_neg c] at h1; cases h1
 ·have := linesCh_nil h2 k (by omega)
  rwa [List.getD_eq_getElem?_getD, List.getD_eq_getElem?_getD, List.getElem?_eq_getElem a, List.getElem?_eq_getElem b] at this
theorem lineCh_self (x : LineF) (i : Int) : lineCh x x i = [] := by
 have e : lineB x x = [false, false, false, false, false] := by unfold lineB; simp
 unfold lineCh; rw [e]
 rfl
theorem farmCh_self (x : FarmF) : farmCh x x = [] := by
 have h : ∀ n, linesCh x.lines x.lines n = [] := fun n => by
  induction n with
  | zero => rfl
  | succ n ih => show linesCh _ _ n ++ lineCh _ _ _ = []; rw [ih, lineCh_self]; rfl
 unfold farmCh dayCh lenCh; rw [if_pos rfl, if_pos rfl, h]
 rfl
/-! ### where a farm stands -/
structure Cut (F F1 F2 : List FarmF) (f : FarmF) : Prop where
 e : F = F1 ++ f :: F2
 lo : ∀ x ∈ F1, x.farm < f.farm
 hi : ∀ x ∈ F2, f.farm < x.farm
theorem asc_lt {F : List FarmF} (h : ∀ i (h : i + 1 < F.length), F[i].farm < F[i + 1].farm) : ∀ {i j : Nat} (hj : j < F.length) (hij : i < j), F[i].farm < F[j].farm
 | i, j + 1, hj, hij => by
   by_cases e : i = j
   ·subst e; exact h i hj
   ·exact Int.lt_trans (asc_lt h (i := i) (j := j) (by omega) (by omega)) (h j hj)
theorem cut_at {F : List FarmF} (h : ∀ i (h : i + 1 < F.length), F[i].farm < F[i + 1].farm) {i : Nat} (hi : i < F.length) : Cut F (F.take i) (F.drop (i + 1)) F[i] := by
 refine ⟨by rw [List.getElem_cons_drop, List.take_append_drop], fun x hx => ?_, fun x hx => ?_⟩
 ·obtain ⟨j, hj, rfl⟩ := List.getElem_of_mem hx
  rw [List.length_take] at hj; rw [List.getElem_take]; exact asc_lt h hi (by omega)
 ·obtain ⟨j, hj, rfl⟩ := List.getElem_of_mem hx
  rw [List.length_drop] at hj; rw [List.getElem_drop]; exact asc_lt h (by omega) (by omega)
theorem findF_cut {F F1 F2 : List FarmF} {f : FarmF} (h : Cut F F1 F2 f) : findF F f.farm = f := by
 unfold findF; rw [h.e, List.find?_append, List.find?_eq_none.2 fun x hx => by have := h.lo x hx; simp; omega, List.find?_cons_of_pos (by simp)]
 rfl
/-! ### awards -/
def z0 (a : Awd) : Awd := { a with due := 0 }
theorem setDue_z0 (A : List Awd) (c : List Int) : setDue (A.map z0) c = setDue A c := by
 apply List.ext_getElem (by simp [setDue])
 intro i a b
 simp [setDue, z0]
theorem cappeds_z0 (A : List Awd) : cappeds (A.map z0) = cappeds A := by unfold cappeds; rw [List.map_map]; rfl
theorem map_z0_setDue (A : List Awd) (c : List Int) : (setDue A c).map z0 = A.map z0 := by
 apply List.ext_getElem (by simp [setDue])
 intro i a b
 simp [setDue, z0]
theorem others_z0 (A : List Awd) (n : Int) : others A n = (A.map z0).filter fun a => a.farm != n := by
 unfold others; rw [List.filter_map]
 rfl
theorem assess0 {l : YLaw} {F : List FarmF} (h0 : assErr l F = 0) : assess l F = setDue (allAw l F) (En.scale l.env l.unit (cappeds (allAw l F))) := by unfold assess; rw [if_neg (by omega)]
theorem assess_z0 {l : YLaw} {F G : List FarmF} (hF : assErr l F = 0) (hG : assErr l G = 0) (h : (allAw l F).map z0 = (allAw l G).map z0) : assess l F = assess l G := by
 rw [assess0 hF, assess0 hG, ← cappeds_z0 (allAw l F), ← cappeds_z0 (allAw l G), h, ← setDue_z0 (allAw l F), ← setDue_z0 (allAw l G), h]
theorem allAw_farm {l : YLaw} {F : List FarmF} (hl : YOk l) (hF : ∀ f ∈ F, FarmOk l f) (P : Int → Prop) (h : ∀ f ∈ F, P f.farm) (a : Awd) (ha : a ∈ allAw l F) : P a.farm := by
 obtain ⟨f, hf, ha⟩ := mem_allAw.1 ha; rw [(farmAw_fine hl (hF f hf) ha).farm]; exact h f hf
theorem parted {A1 A2 B1 B2 M : List Awd} {n : Int} (a1 : ∀ a ∈ A1, a.farm < n) (a2 : ∀ a ∈ A2, n < a.farm) (b1 : ∀ a ∈ B1, a.farm < n) (b2 : ∀ a ∈ B2, n < a.farm) (m : ∀ a ∈ M, a.farm = n)
  (h : (A1 ++ M ++ A2).filter (fun a => a.farm != n) = (B1 ++ M ++ B2).filter (fun a => a.farm != n)) : A1 = B1 ∧ A2 = B2 := by
 have f1 : ∀ {X : List Awd}, (∀ a ∈ X, a.farm < n) → X.filter (fun a => a.farm != n) = X := fun hX => List.filter_eq_self.2 fun a ha => by have := hX a ha; simp; omega
 have f2 : ∀ {X : List Awd}, (∀ a ∈ X, n < a.farm) → X.filter (fun a => a.farm != n) = X := fun hX => List.filter_eq_self.2 fun a ha => by have := hX a ha; simp; omega
 have f3 : M.filter (fun a => a.farm != n) = [] := List.filter_eq_nil_iff.2 fun a ha => by have := m a ha; simp; omega
 rw [List.filter_append, List.filter_append, List.filter_append, List.filter_append, f1 a1, f1 b1, f2 a2, f2 b2, f3, List.append_nil, List.append_nil] at h; have g1 : ∀ {X Y : List Awd}, (∀ a ∈ X, a.farm < n) → (∀ a ∈ Y, n < a.farm) → (X ++ Y).filter (fun a => decide (a.farm < n)) = X := fun hX hY => by
  rw [List.filter_append, List.filter_eq_self.2 fun a ha => by simpa using hX a ha, List.filter_eq_nil_iff.2 fun a ha => by have := hY a ha; simp; omega, List.append_nil]
 have e1 : A1 = B1 := by rw [← g1 a1 a2, ← g1 b1 b2, h]
 subst e1; exact ⟨rfl, List.append_cancel_left h⟩
theorem amount_plain {l : YLaw} {F F1 F2 : List FarmF} {f : FarmF} (hl : YOk l) (hF : ∀ x ∈ F, FarmOk l x) (h0 : assErr l F = 0) (hd : dvd l F = false) (h : Cut F F1 F2 f) :
  amount (assess l F) f.farm = Sh.sum ((farmAw l f).map fun a => a.capped / l.unit * l.unit) := by
 have he : En.err l.env l.unit (cappeds (allAw l F)) = 0 := by rw [← (assess_at h0).2.1]; exact err0 h0
 have hs : ¬ l.env / l.unit < En.usum l.unit (cappeds (allAw l F)) := by
  unfold dvd En.scaled at hd; rw [(assess_at h0).2.1, he] at hd
  simpa using hd
 have e : assess l F = (allAw l F).map fun a => { a with due := a.capped / l.unit * l.unit } := by
  rw [assess0 h0]; unfold En.scale En.paid En.units; rw [if_pos he, if_neg hs]
  apply List.ext_getElem (by simp [setDue])
  intro i a b; have hi : i < (allAw l F).length := by simpa using b
  simp [setDue, cappeds, List.getD_eq_getElem?_getD, List.getElem?_eq_getElem hi]
 have am : ∀ (A : List Awd), amount (A.map fun a => { a with due := a.capped / l.unit * l.unit }) f.farm = Sh.sum (A.map fun a => if a.farm = f.farm then a.capped / l.unit * l.unit else 0) := fun A => by
  unfold amount; rw [List.map_map]; rfl
 have z : ∀ (A : List Awd), (∀ a ∈ A, a.farm ≠ f.farm) → Sh.sum (A.map fun a => if a.farm = f.farm then a.capped / l.unit * l.unit else 0) = 0 := fun A hA => by
  induction A with
  | nil => rfl
  | cons a A ih =>
    show (if a.farm = f.farm then a.capped / l.unit * l.unit else 0) + Sh.sum (A.map _) = 0
    rw [if_neg (hA a (List.mem_cons_self ..)), ih fun x hx => hA x (List.mem_cons_of_mem _ hx)]
    rfl
 rw [e, am]; have hA : allAw l F = allAw l F1 ++ (farmAw l f ++ allAw l F2) := by unfold allAw; rw [h.e, List.flatMap_append, List.flatMap_cons]
 have sub1 : ∀ x ∈ F1, FarmOk l x := fun x hx => hF x (by rw [h.e]; exact List.mem_append_left _ hx)
 have sub2 : ∀ x ∈ F2, FarmOk l x := fun x hx => hF x (by rw [h.e]; exact List.mem_append_right _ (List.mem_cons_of_mem _ hx))
 have hf : FarmOk l f := hF f (by rw [h.e]; exact List.mem_append_right _ (List.mem_cons_self ..))
 rw [hA, List.map_append, List.map_append, Sh.sum_append, Sh.sum_append,
  z (allAw l F1) fun a ha => by have := allAw_farm hl sub1 (fun n => n < f.farm) h.lo a ha; omega,
  z (allAw l F2) fun a ha => by have := allAw_farm hl sub2 (fun n => f.farm < n) h.hi a ha; omega, Int.zero_add, Int.add_zero]
 congr 1
 exact List.map_congr_left fun a ha => by rw [if_pos (farmAw_fine hl hf ha).farm]
theorem amount_same {l : YLaw} {F G F1 F2 G1 G2 : List FarmF} {f : FarmF} (hl : YOk l) (hF : ∀ x ∈ F, FarmOk l x) (hG : ∀ x ∈ G, FarmOk l x) (eF : assErr l F = 0) (eG : assErr l G = 0) (cF : Cut F F1 F2 f) (cG : Cut G G1 G2 f)
  (hm : ¬ movedP l F G f.farm) : amount (assess l F) f.farm = amount (assess l G) f.farm := by
 unfold movedP at hm
 by_cases hd : dvd l F = true ∨ dvd l G = true
 ·have ho : others (assess l F) f.farm = others (assess l G) f.farm := Classical.byContradiction fun h => hm (.inr (.inr ⟨hd, h⟩))
  rw [others_z0, others_z0, assess0 eF, assess0 eG, map_z0_setDue, map_z0_setDue] at ho; have split : ∀ {F F1 F2 : List FarmF}, Cut F F1 F2 f → (allAw l F).map z0 = (allAw l F1).map z0 ++ (farmAw l f).map z0 ++ (allAw l F2).map z0 := fun h => by
   unfold allAw; rw [h.e, List.flatMap_append, List.flatMap_cons, List.map_append, List.map_append, List.append_assoc]
  have lo : ∀ {F F1 F2 : List FarmF}, Cut F F1 F2 f → (∀ x ∈ F, FarmOk l x) → ∀ a ∈ (allAw l F1).map z0, a.farm < f.farm := fun h hF a ha => by
   obtain ⟨b, hb, rfl⟩ := List.mem_map.1 ha; exact allAw_farm hl (fun x hx => hF x (by rw [h.e]; exact List.mem_append_left _ hx)) (fun n => n < f.farm) h.lo b hb
  have hi : ∀ {F F1 F2 : List FarmF}, Cut F F1 F2 f → (∀ x ∈ F, FarmOk l x) → ∀ a ∈ (allAw l F2).map z0, f.farm < a.farm := fun h hF a ha => by
   obtain ⟨b, hb, rfl⟩ := List.mem_map.1 ha; exact allAw_farm hl (fun x hx => hF x (by rw [h.e]; exact List.mem_append_right _ (List.mem_cons_of_mem _ hx))) (fun n => f.farm < n) h.hi b hb
  have hf : FarmOk l f := hF f (by rw [cF.e]; exact List.mem_append_right _ (List.mem_cons_self ..)); rw [split cF, split cG] at ho
  obtain ⟨e1, e2⟩ := parted (lo cF hF) (hi cF hF) (lo cG hG) (hi cG hG) (fun a ha => by
   obtain ⟨b, hb, rfl⟩ := List.mem_map.1 ha
   exact (farmAw_fine hl hf hb).farm) ho
  rw [assess_z0 eF eG (by rw [split cF, split cG, e1, e2])]
 ·rw [not_or] at hd
  rw [amount_plain hl hF eF (by simpa using hd.1) cF, amount_plain hl hG eG (by simpa using hd.2) cG]
theorem cuts {F G : List FarmF} (hm : G.map (·.farm) = F.map (·.farm)) {n : Int} (hn : n ∈ farmsOf F G) : ∃ (i : Nat) (a : i < F.length) (b : i < G.length), F[i].farm = n ∧ G[i].farm = n := by
 have hl : G.length = F.length := by have := congrArg List.length hm; simpa using this
 have e : ∀ (j : Nat) (a : j < F.length) (b : j < G.length), G[j].farm = F[j].farm := fun j a b => by
  have := congrArg (fun l => l[j]?) hm
  simpa [a, b] using this
 obtain ⟨f, hf, rfl⟩ := farmsOf_mem hn
 rcases hf with hf | hf
 ·obtain ⟨i, hi, rfl⟩ := List.getElem_of_mem hf
  exact ⟨i, hi, by omega, rfl, e i hi (by omega)⟩
 ·obtain ⟨i, hi, rfl⟩ := List.getElem_of_mem hf
  exact ⟨i, by omega, hi, (e i (by omega) hi).symm, rfl⟩
theorem reasons {l : YLaw} {F G : List FarmF} (hF : FOk l F) (hG : FOk l G) (hm : G.map (·.farm) = F.map (·.farm)) (eF : assErr l F = 0) (eG : assErr l G = 0) {x : Dif} (hx : x ∈ difs l F G) :
  x.before ≠ x.after ∧ x.chg ≠ [] ∧ ∀ i (a : i < F.length) (b : i < G.length), F[i].farm = x.farm → F[i] = G[i] → x.chg = [⟨8, -1⟩] := by
 unfold difs at hx; obtain ⟨n, hn, hx⟩ := List.mem_flatMap.1 hx; unfold difOf at hx
 by_cases ha : amount (assess l F) n = amount (assess l G) n
 ·rw [if_pos ha] at hx; cases hx
 rw [if_neg ha, List.mem_singleton] at hx; subst hx; obtain ⟨i, hi, hi', e1, e2⟩ := cuts hm hn; have cF := cut_at hF.asc hi; have cG := cut_at hG.asc hi'; have fF : findF F n = F[i] := by rw [← e1]; exact findF_cut cF
 have fG : findF G n = G[i] := by rw [← e2]; exact findF_cut cG
 have key : F[i] = G[i] → movedP l F G n := fun e => Classical.byContradiction fun h => ha (by
  rw [← e] at cG; rw [← e1] at h ⊢
  exact amount_same hF.law hF.farm hG.farm eF eG cF cG h)
 refine ⟨ha, fun h => ?_, fun j a b ej e => ?_⟩
 ·have h : farmCh (findF F n) (findF G n) ++ movedCh l F G n = [] := h
  obtain ⟨h1, h2⟩ := List.append_eq_nil_iff.1 h; rw [fF, fG] at h1; obtain ⟨g1, g2⟩ := farmCh_nil h1
  have hk := key (by
   have e3 : F[i].farm = G[i].farm := e1.trans e2.symm
   revert g1 g2 e3
   generalize F[i] = u; generalize G[i] = v; obtain ⟨u1, u2, u3⟩ := u; obtain ⟨v1, v2, v3⟩ := v; rintro rfl rfl rfl
   rfl)
  unfold movedCh at h2; rw [if_pos hk] at h2
  cases h2
 ·have hij : j = i := by
   have ej : F[j].farm = n := ej
   rcases Nat.lt_trichotomy j i with h | h | h
   ·have := asc_lt hF.asc hi h; omega
   ·exact h
   ·have := asc_lt hF.asc a h; omega
  subst hij
  show farmCh (findF F n) (findF G n) ++ movedCh l F G n = _
  unfold movedCh; rw [fF, fG, ← e, farmCh_self, if_pos (key e)]
  rfl
theorem difs_self (l : YLaw) (F : List FarmF) : difs l F F = [] := by
 unfold difs; exact List.flatMap_eq_nil_iff.2 fun x _ => by unfold difOf; rw [if_pos rfl]
end Go.Proofs.YtmlfcpglhipjgaaGreat.Re
namespace Go.Proofs.YtmlfcpglhipjgaaGreat
open Go.RowKit Sc As
def IffG (p : Prop) (w : World) (e : Ending) (w' : World) : Prop := ∃ b : Bool, e = .returned (.bool b) ∧ (b = true ↔ p) ∧ Below w.heap.size w w'
theorem reflines34_any {Q Q2 : Nat → Prop} (r s : RL) (x y : LineF) (w : World) (hx : LV Q w r x) (hy : LV Q2 w s y) :
  Calls Tryz.prog 92 #[.agg (lCells r).toArray, .agg (lCells s).toArray] w (IffG (x = y) w) := by
 obtain ⟨adl, asc, adp, adn, adc, ase, aki, aar, abo⟩ := r; obtain ⟨bdl, bsc, bdp, bdn, bdc, bse, bki, bar, bbo⟩ := s; have e2 := hx.dn; have e3 := hy.dn; simp only at e2 e3; subst e2 e3; simp only [lCells]; have EX := mh (show x = ⟨adl, asc, x.due, ase, aki, aar, abo⟩ from by rw [show adl = x.decl from hx.decl, show asc = x.sch from hx.sch, show ase = x.season from hx.season, show aki = x.kind from hx.kind, show aar = x.area from hx.area, show abo = x.border from hx.border]); have EY := mh (show y = ⟨bdl, bsc, y.due, bse, bki, bar, bbo⟩ from by rw [show bdl = y.decl from hy.decl, show bsc = y.sch from hy.sch, show bse = y.season from hy.season, show bki = y.kind from hy.kind, show bar = y.area from hy.area, show bbo = y.border from hy.border]); obtain ⟨g, eg⟩ : ∃ g, w.heap.size = g := ⟨_, rfl⟩; have hA1 := (brf w.heap.size w).alloc mle (.cells #[I O adl, I O asc, .slice adp x.due.length adc, I O ase, I O aki, I O aar, I O abo] 68); have hs1 : (w.alloc (.cells #[I O adl, I O asc, .slice adp x.due.length adc, I O ase, I O aki, I O aar, I O abo] 68)).heap.size = g + 1 := by rw [World.size_alloc, eg]
 have hA2 := (brf (w.alloc (.cells #[I O adl, I O asc, .slice adp x.due.length adc, I O ase, I O aki, I O aar, I O abo] 68)).heap.size (w.alloc (.cells #[I O adl, I O asc, .slice adp x.due.length adc, I O ase, I O aki, I O aar, I O abo] 68))).alloc mle (.cells #[I O bdl, I O bsc, .slice bdp y.due.length bdc, I O bse, I O bki, I O bar, I O bbo] 68); have HB0 := mh (hA1.trans (hA2.mono hA1.size)); have GB := mh (hs1 ▸ Blk.new (w.alloc (.cells #[I O adl, I O asc, .slice adp x.due.length adc, I O ase, I O aki, I O aar, I O abo] 68)) #[I O bdl, I O bsc, .slice bdp y.due.length bdc, I O bse, I O bki, I O bar, I O bbo] 68); have GA := mh ((eg ▸ Blk.new w #[I O adl, I O asc, .slice adp x.due.length adc, I O ase, I O aki, I O aar, I O abo] 68 : Blk (w.alloc (.cells #[I O adl, I O asc, .slice adp x.due.length adc, I O ase, I O aki, I O aar, I O abo] 68)) g #[I O adl, I O asc, .slice adp x.due.length adc, I O ase, I O aki, I O aar, I O abo] 68).below hA2); have DX := mh hx.due; have DY := mh hy.due; clear hx hy hA1 hA2 hs1
 go_enter Tryz.func92, Tryz.ntmps92
 go_upto_region 1 with fail
 clear eg; generalize (w.alloc (.cells #[I O adl, I O asc, .slice adp x.due.length adc, I O ase, I O aki, I O aar, I O abo] 68)).alloc (.cells #[I O bdl, I O bsc, .slice bdp y.due.length bdc, I O bse, I O bki, I O bar, I O bbo] 68) = w0 at *; have EQ := mh (refints24_any adp bdp x.due y.due adc bdc w0 (DX.out.below HB0.out) (DY.out.below HB0.out)); have a0 := GA.out.cell 0; have b0 := GB.out.cell 0; have a1 := GA.out.cell 1; have b1 := GB.out.cell 1; have a2 := GA.out.cell 2; have b2 := GB.out.cell 2; have a3 := GA.out.cell 3; have b3 := GB.out.cell 3; have a4 := GA.out.cell 4; have b4 := GB.out.cell 4; have a5 := GA.out.cell 5; have b5 := GB.out.cell 5; have a6 := GA.out.cell 6; have b6 := GB.out.cell 6;
 by_cases c1 : adl = bdl
 rotate_left
 ·have d1 : (adl == bdl) = false := by simpa using c1
  have HC := mh c1; clear c1
  go_wp2_with fail
  go_ret
  exact ⟨false, rfl, ⟨fun e => (by cases e), fun e => absurd e (fun e => HC.out (by rw [EX.out, EY.out] at e; exact congrArg (·.decl) e))⟩, HB0.out⟩
 subst c1
 by_cases c2 : asc = bsc
 rotate_left
 ·have d1 : (asc == bsc) = false := by simpa using c2
  have HC := mh c2; clear c2
  go_wp2_with fail
  go_ret
  exact ⟨false, rfl, ⟨fun e => (by cases e), fun e => absurd e (fun e => HC.out (by rw [EX.out, EY.out] at e; exact congrArg (·.sch) e))⟩, HB0.out⟩
 subst c2
 by_cases c3 : x.due = y.due
 rotate_left
 ·have d1 : decide (x.due = y.due) = false := by simpa using c3
  have HC := mh c3; rw [d1] at EQ; clear c3 d1
  go_wp2_with (go_at_call 81; (with_reducible refine cmo EQ.out ?_); rintro e w2 ⟨rfl, n2, rfl⟩; have HB2 := mh (HB0.out.trans ((drewN_below w0 n2).mono HB0.out.size)); have KA := GA.out.below (drewN_below w0 n2); have KB := GB.out.below (drewN_below w0 n2); have a3 := KA.cell 3; have a4 := KA.cell 4; have a5 := KA.cell 5; have a6 := KA.cell 6; have b3 := KB.cell 3; have b4 := KB.cell 4; have b5 := KB.cell 5; have b6 := KB.cell 6; clear KA KB)
  go_ret
  exact ⟨false, rfl, ⟨fun e => (by cases e), fun e => absurd e (fun e => HC.out (by rw [EX.out, EY.out] at e; exact congrArg (·.due) e))⟩, HB2.out⟩
 have HC3 := mh c3; have d3 : decide (x.due = y.due) = true := by simpa using c3
 rw [d3] at EQ; clear c3 d3
 by_cases c4 : ase = bse
 rotate_left
 ·have d1 : (ase == bse) = false := by simpa using c4
  have HC := mh c4; clear c4
  go_wp2_with (go_at_call 81; (with_reducible refine cmo EQ.out ?_); rintro e w2 ⟨rfl, n2, rfl⟩; have HB2 := mh (HB0.out.trans ((drewN_below w0 n2).mono HB0.out.size)); have KA := GA.out.below (drewN_below w0 n2); have KB := GB.out.below (drewN_below w0 n2); have a3 := KA.cell 3; have a4 := KA.cell 4; have a5 := KA.cell 5; have a6 := KA.cell 6; have b3 := KB.cell 3; have b4 := KB.cell 4; have b5 := KB.cell 5; have b6 := KB.cell 6; clear KA KB)
  go_ret
  exact ⟨false, rfl, ⟨fun e => (by cases e), fun e => absurd e (fun e => HC.out (by rw [EX.out, EY.out] at e; exact congrArg (·.season) e))⟩, HB2.out⟩
 subst c4
 by_cases c5 : aki = bki
 rotate_left
 ·have d1 : (aki == bki) = false := by simpa using c5
  have HC := mh c5; clear c5
  go_wp2_with (go_at_call 81; (with_reducible refine cmo EQ.out ?_); rintro e w2 ⟨rfl, n2, rfl⟩; have HB2 := mh (HB0.out.trans ((drewN_below w0 n2).mono HB0.out.size)); have KA := GA.out.below (drewN_below w0 n2); have KB := GB.out.below (drewN_below w0 n2); have a3 := KA.cell 3; have a4 := KA.cell 4; have a5 := KA.cell 5; have a6 := KA.cell 6; have b3 := KB.cell 3; have b4 := KB.cell 4; have b5 := KB.cell 5; have b6 := KB.cell 6; clear KA KB)
  go_ret
  exact ⟨false, rfl, ⟨fun e => (by cases e), fun e => absurd e (fun e => HC.out (by rw [EX.out, EY.out] at e; exact congrArg (·.kind) e))⟩, HB2.out⟩
 subst c5
 by_cases c6 : aar = bar
 rotate_left
 ·have d1 : (aar == bar) = false := by simpa using c6
  have HC := mh c6; clear c6
  go_wp2_with (go_at_call 81; (with_reducible refine cmo EQ.out ?_); rintro e w2 ⟨rfl, n2, rfl⟩; have HB2 := mh (HB0.out.trans ((drewN_below w0 n2).mono HB0.out.size)); have KA := GA.out.below (drewN_below w0 n2); have KB := GB.out.below (drewN_below w0 n2); have a3 := KA.cell 3; have a4 := KA.cell 4; have a5 := KA.cell 5; have a6 := KA.cell 6; have b3 := KB.cell 3; have b4 := KB.cell 4; have b5 := KB.cell 5; have b6 := KB.cell 6; clear KA KB)
  go_ret
  exact ⟨false, rfl, ⟨fun e => (by cases e), fun e => absurd e (fun e => HC.out (by rw [EX.out, EY.out] at e; exact congrArg (·.area) e))⟩, HB2.out⟩
 subst c6
 by_cases c7 : abo = bbo
 rotate_left
 ·have d1 : (abo == bbo) = false := by simpa using c7
  have HC := mh c7; clear c7
  go_wp2_with (go_at_call 81; (with_reducible refine cmo EQ.out ?_); rintro e w2 ⟨rfl, n2, rfl⟩; have HB2 := mh (HB0.out.trans ((drewN_below w0 n2).mono HB0.out.size)); have KA := GA.out.below (drewN_below w0 n2); have KB := GB.out.below (drewN_below w0 n2); have a3 := KA.cell 3; have a4 := KA.cell 4; have a5 := KA.cell 5; have a6 := KA.cell 6; have b3 := KB.cell 3; have b4 := KB.cell 4; have b5 := KB.cell 5; have b6 := KB.cell 6; clear KA KB)
  go_ret
  exact ⟨false, rfl, ⟨fun e => (by cases e), fun e => absurd e (fun e => HC.out (by rw [EX.out, EY.out] at e; exact congrArg (·.border) e))⟩, HB2.out⟩
 subst c7
 go_wp2_with (go_at_call 81; (with_reducible refine cmo EQ.out ?_); rintro e w2 ⟨rfl, n2, rfl⟩; have HB2 := mh (HB0.out.trans ((drewN_below w0 n2).mono HB0.out.size)); have KA := GA.out.below (drewN_below w0 n2); have KB := GB.out.below (drewN_below w0 n2); have a3 := KA.cell 3; have a4 := KA.cell 4; have a5 := KA.cell 5; have a6 := KA.cell 6; have b3 := KB.cell 3; have b4 := KB.cell 4; have b5 := KB.cell 5; have b6 := KB.cell 6; clear KA KB)
 go_ret
 exact ⟨true, rfl, ⟨fun _ => by rw [EX.out, EY.out, HC3.out], fun _ => rfl⟩, HB2.out⟩
end Go.Proofs.YtmlfcpglhipjgaaGreat

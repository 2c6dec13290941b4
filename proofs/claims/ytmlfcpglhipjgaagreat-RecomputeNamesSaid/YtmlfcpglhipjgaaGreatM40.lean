/-
  PACKED (pack8.py): what is needed of the texts Xq.
-/
import Derived.Test.YtmlfcpglhipjgaaGreatM35
import Derived.Test.YtmlfcpglhipjgaaGreatM38
import Derived.Test.YtmlfcpglhipjgaaGreatM39
set_option maxRecDepth 100000
set_option maxHeartbeats 8000000
open Go.Value renaming int → I
open Go.IntKind renaming i64 → O
namespace Go.Proofs.YtmlfcpglhipjgaaGreat
open Go.RowKit Sc As
theorem sortAll_any (B : Nat) (p : Option Addr) (n c : Nat) (zs : List Int) (w : World) (hn : zs.length = n) (h : OwnR SI w 3 B (.slice p n c) zs) (hl : n ≤ 100000) :
  Calls Tryz.prog 84 #[.slice p n c] w fun e w' => e = .returned (.tuple #[]) ∧ OwnR SI w' 3 B (.slice p n c) (zs.mergeSort fun x y => decide (x ≤ y)) ∧ Below B w w' := by
 rcases Nat.eq_zero_or_pos n with hz | hz
 ·subst hz
  obtain rfl := List.length_eq_zero_iff.1 hn; exact (sort_none p c w).mono fun e w' ⟨he, hw⟩ => ⟨he, by subst hw; rw [List.mergeSort_nil]; exact h, by subst hw; exact brf _ _⟩
 ·exact sortOwn_any B p n c zs w hn h hl hz
theorem compactAll_any (B : Nat) (p : Option Addr) (n c : Nat) (zs : List Int) (w : World) (hn : zs.length = n) (h : OwnR SI w 3 B (.slice p n c) zs) (hl : n ≤ 100000) :
  Calls Tryz.prog 85 #[.slice p n c] w fun e w' => e = .returned (.slice p (Go.Lib.compact zs).length c) ∧ OwnR SI w' 3 B (.slice p (Go.Lib.compact zs).length c) (Go.Lib.compact zs) ∧ Below B w w' := by
 rcases Nat.eq_zero_or_pos n with hz | hz
 ·subst hz
  obtain rfl := List.length_eq_zero_iff.1 hn; exact (compact_none p c w).mono fun e w' ⟨he, hw⟩ => ⟨he, by subst hw; exact h, by subst hw; exact brf _ _⟩
 ·exact compactOwn_any B p n c zs w hn h hl hz
theorem RowsR.mono {ρ β : Type} {S : Shape ρ} {V : (Nat → Prop) → World → ρ → β → Prop} {T : TypeId} {B B' : Nat} {W : World} {v : Value} {R : List ρ} {K : List β} (hV : Chgs V) (h : RowsR S V T B W v R K) (hB : B' ≤ B) : RowsR S V T B' W v R K :=
 ⟨h.hl, h.own.mono hB, fun k a b => hV _ _ _ _ _ _ (h.rows k a b) mle fun _ q _ => ⟨rfl, ⟨Nat.le_trans hB q.1, q.2⟩⟩⟩
theorem Blk.put4 {wr : World} {g : Nat} {T : TypeId} {z0 z1 z2 z3 : Value} (h : Blk wr g #[z0, z1, z2, z3] T) (u0 u1 u2 u3 : Value) : Blk ((((wr.setCell ⟨g, 0, none⟩ u0).setCell ⟨g, 1, none⟩ u1).setCell ⟨g, 2, none⟩ u2).setCell ⟨g, 3, none⟩ u3) g #[u0, u1, u2, u3] T := (((h.set 0 u0).set 1 u1).set 2 u2).set 3 u3
theorem put4_low {w0 w : World} {B g : Nat} (h : Below B w0 w) (hg : B ≤ g) (u0 u1 u2 u3 : Value) : Below B w0 ((((w.setCell ⟨g, 0, none⟩ u0).setCell ⟨g, 1, none⟩ u1).setCell ⟨g, 2, none⟩ u2).setCell ⟨g, 3, none⟩ u3) := (((h.setCell hg u0).setCell hg u1).setCell hg u2).setCell hg u3
theorem Re.findF_lines {l : YLaw} {F : List FarmF} (h : assErr l F = 0) (farm : Int) : (Re.findF F farm).lines.length ≤ 1000 := by
 unfold Re.findF
 cases e : F.find? (fun f => f.farm == farm) with
 | none => exact Nat.zero_le _
 | some f => have := ((Re.fok0 h).farm f (List.mem_of_find?_eq_some e)).len; show f.lines.length ≤ 1000; omega
theorem Re.farmCh_len {x y : FarmF} (hx : x.lines.length ≤ 1000) (hy : y.lines.length ≤ 1000) : (Re.farmCh x y).length ≤ 10000 := by
 have h := Re.linesCh_len x.lines y.lines (min x.lines.length y.lines.length); unfold Re.farmCh; rw [lap, lap]; have h1 : (Re.dayCh x y).length ≤ 1 := by unfold Re.dayCh; by_cases c : x.day = y.day <;> simp [c]
 have h2 : (Re.lenCh x y).length ≤ 1 := by unfold Re.lenCh; by_cases c : x.lines.length = y.lines.length <;> simp [c]
 omega
theorem Re.difs_len (l : YLaw) (F G : List FarmF) : ∀ L : List Int, (L.flatMap (Re.difOf l F G)).length ≤ L.length
 | [] => Nat.le_refl _
 | x :: L => by
   have ih := Re.difs_len l F G L; have h1 : (Re.difOf l F G x).length ≤ 1 := by unfold Re.difOf; by_cases c : amount (assess l F) x = amount (assess l G) x <;> simp [c]
   rw [List.flatMap_cons, lap, List.length_cons]; omega
theorem Re.moved_int {l : YLaw} {F G : List FarmF} {farm : Int} : (((Re.fac l F).1 : Int) ≠ ((Re.fac l G).1 : Int) ∨ ((Re.fac l F).2 : Int) ≠ ((Re.fac l G).2 : Int) ∨ ((Re.dvd l F = true ∨ Re.dvd l G = true) ∧ Re.others (assess l F) farm ≠ Re.others (assess l G) farm)) ↔ Re.movedP l F G farm := by
 unfold Re.movedP; rw [Ne, Ne, Int.ofNat_inj, Int.ofNat_inj]
def Re.DfG (l : YLaw) (F G : List FarmF) (w : World) (e : Ending) (w' : World) : Prop :=
 (assErr l F ≠ 0 ∧ e = .returned (.tuple #[.slice none 0 0, I O (assErr l F)]) ∧ Below w.heap.size w w') ∨
 (assErr l F = 0 ∧ assErr l G ≠ 0 ∧ e = .returned (.tuple #[.slice none 0 0, I O (assErr l G)]) ∧ Below w.heap.size w w') ∨
 (assErr l F = 0 ∧ assErr l G = 0 ∧ ∃ v R, e = .returned (.tuple #[v, I O 0]) ∧ RowsR Re.SDf Re.DV 88 w.heap.size w' v R (Re.difs l F G) ∧ Below w.heap.size w w')
theorem diffs38_any {Q Q2 Q3 : Nat → Prop} (d : Nat) (r : RY) (l : YLaw) (p : Option Addr) (F : List FarmF) (cF : Nat) (q : Option Addr) (G : List FarmF) (cG : Nat) (w : World) (h : YV Q w d r l) (hF : FsAt Q2 w p F) (hG : FsAt Q3 w q G) (lF : F.length ≤ 1000) (lG : G.length ≤ 1000) :
  Calls Tryz.prog 43 #[.agg (yCells r).toArray, .slice p F.length cF, .slice q G.length cG] w (Re.DfG l F G w) := by
 have SDA := mh (fun (W : World) (hb : Below w.heap.size w W) => side_any d r l p F cF W (h.below hb) (hF.below hb)); have SDB := mh (fun (W : World) (hb : Below w.heap.size w W) => side_any d r l q G cG W (h.below hb) (hG.below hb)); obtain ⟨R1, hR1, hr1, hv1⟩ := hF.ex; obtain ⟨R2, hR2, hr2, hv2⟩ := hG.ex; have HR1 := mh hr1; have HR2 := mh hr2; have HF := mh hF; have HG := mh hG; have EF := mh hR1; have EG := mh hR2
 have FN := mh (show R1.map (·.farm) = F.map (·.farm) from List.ext_getElem (by simp [hR1]) fun i a b => by
  rw [List.getElem_map, List.getElem_map]; exact (hv1 i (by simpa using a) (by simpa using b)).farm)
 have GN := mh (show R2.map (·.farm) = G.map (·.farm) from List.ext_getElem (by simp [hR2]) fun i a b => by
  rw [List.getElem_map, List.getElem_map]; exact (hv2 i (by simpa using a) (by simpa using b)).farm)
 obtain ⟨sp, sn, sc, tp, tn, tc, ldue, llast, lmille, gp, gn, gc, cp, ev, un, wd⟩ := r; simp only [yCells] at SDA SDB ⊢; obtain ⟨gy, egy⟩ : ∃ g, w.heap.size = g := ⟨_, rfl⟩; have HB0 := mh ((brf w.heap.size w).alloc mle (.cells #[.slice sp sn sc, .slice tp tn tc, I O ldue, I O llast, I O lmille, .slice gp gn gc, I O cp, I O ev, I O un, I O wd] 29)); have YB0 := mh (egy ▸ Blk.new w #[.slice sp sn sc, .slice tp tn tc, I O ldue, I O llast, I O lmille, .slice gp gn gc, I O cp, I O ev, I O un, I O wd] 29); clear h hF hG hv1 hv2 hR1 hR2 hr1 hr2
 go_enter Tryz.func43, Tryz.ntmps43
 go_wp2_with fail
 clear egy; generalize w.alloc (.cells #[.slice sp sn sc, .slice tp tn tc, I O ldue, I O llast, I O lmille, .slice gp gn gc, I O cp, I O ev, I O un, I O wd] 29) = w0 at *; (with_reducible refine cmo (SDA.out w0 HB0.out) ?_); rintro e w1 (⟨hE, rfl, hb1⟩ | ⟨hE, pa, ca, rfl, hO, hb1⟩)
 ·have HE := mh hE
  have HB1 := mh ((HB0.out.trans (hb1.mono HB0.out.size)).alloc (Nat.le_trans HB0.out.size hb1.size) (.cells #[.slice none 0 0, .slice none 0 0, I O 0, I O 0, .bool false] 140)); have hne : (assErr l F != 0) = true := by simpa using hE
  clear hE hb1
  go_wp2_with fail
  go_ret2
  exact Or.inl ⟨HE.out, rfl, HB1.out⟩
 have HE := mh hE; have YB1 := mh (YB0.out.below hb1); have OA1 := mh (hO.mono HB0.out.size); have HB1 := mh (HB0.out.trans (hb1.mono HB0.out.size)); have hA1 := (brf w1.heap.size w1).alloc mle (.cells #[.slice p F.length cF, .slice pa (assess l F).length ca, I O ((Re.fac l F).1 : Int), I O ((Re.fac l F).2 : Int), .bool (Re.dvd l F)] 140); obtain ⟨ga, ega⟩ : ∃ g, w1.heap.size = g := ⟨_, rfl⟩; have XA2 := mh (ega ▸ Blk.new w1 #[.slice p F.length cF, .slice pa (assess l F).length ca, I O ((Re.fac l F).1 : Int), I O ((Re.fac l F).2 : Int), .bool (Re.dvd l F)] 140); have YB2 := mh (YB1.out.below hA1); have OA2 := mh (OA1.out.below hA1); have HB2 := mh (HB1.out.trans (hA1.mono HB1.out.size)); have y0 := YB2.out.cell 0; have y1 := YB2.out.cell 1; have y2 := YB2.out.cell 2; have y3 := YB2.out.cell 3; have y4 := YB2.out.cell 4; have y5 := YB2.out.cell 5; have y6 := YB2.out.cell 6; have y7 := YB2.out.cell 7; have y8 := YB2.out.cell 8; have y9 := YB2.out.cell 9; have hgy := YB1.out.lt; rw [ega] at hgy; clear hE hO hb1 hA1
 go_wp2_with fail
 clear ega y0 y1 y2 y3 y4 y5 y6 y7 y8 y9; generalize w1.alloc (.cells #[.slice p F.length cF, .slice pa (assess l F).length ca, I O ((Re.fac l F).1 : Int), I O ((Re.fac l F).2 : Int), .bool (Re.dvd l F)] 140) = w2 at *; (with_reducible refine cmo (SDB.out w2 HB2.out) ?_); rintro e w3 (⟨hE, rfl, hb3⟩ | ⟨hE, pb, cb, rfl, hO, hb3⟩)
 ·have HE3 := mh hE
  have HB3 := mh ((HB2.out.trans (hb3.mono HB2.out.size)).alloc (Nat.le_trans HB2.out.size hb3.size) (.cells #[.slice none 0 0, .slice none 0 0, I O 0, I O 0, .bool false] 140)); have hne : (assErr l G != 0) = true := by simpa using hE
  clear hE hb3
  go_wp2_with fail
  go_ret2
  exact Or.inr (Or.inl ⟨HE.out, HE3.out, rfl, HB3.out⟩)
 have HE3 := mh hE; have XA3 := mh (XA2.out.below hb3); have OA3 := mh (OA2.out.below hb3); have OB3 := mh (hO.mono HB2.out.size); have HB3 := mh (HB2.out.trans (hb3.mono HB2.out.size)); obtain ⟨gb, egb⟩ : ∃ g, w3.heap.size = g := ⟨_, rfl⟩; have hA3 := (brf w3.heap.size w3).alloc mle (.cells #[.slice q G.length cG, .slice pb (assess l G).length cb, I O ((Re.fac l G).1 : Int), I O ((Re.fac l G).2 : Int), .bool (Re.dvd l G)] 140); have hs3 : (w3.alloc (.cells #[.slice q G.length cG, .slice pb (assess l G).length cb, I O ((Re.fac l G).1 : Int), I O ((Re.fac l G).2 : Int), .bool (Re.dvd l G)] 140)).heap.size = gb + 1 := by rw [World.size_alloc, egb]
 have hA4 := (brf (w3.alloc (.cells #[.slice q G.length cG, .slice pb (assess l G).length cb, I O ((Re.fac l G).1 : Int), I O ((Re.fac l G).2 : Int), .bool (Re.dvd l G)] 140)).heap.size (w3.alloc (.cells #[.slice q G.length cG, .slice pb (assess l G).length cb, I O ((Re.fac l G).1 : Int), I O ((Re.fac l G).2 : Int), .bool (Re.dvd l G)] 140))).alloc mle (.cells #[.slice p F.length cF, .slice q G.length cG] 30); have XB5 := mh ((egb ▸ Blk.new w3 #[.slice q G.length cG, .slice pb (assess l G).length cb, I O ((Re.fac l G).1 : Int), I O ((Re.fac l G).2 : Int), .bool (Re.dvd l G)] 140 : Blk (w3.alloc (.cells #[.slice q G.length cG, .slice pb (assess l G).length cb, I O ((Re.fac l G).1 : Int), I O ((Re.fac l G).2 : Int), .bool (Re.dvd l G)] 140)) gb #[.slice q G.length cG, .slice pb (assess l G).length cb, I O ((Re.fac l G).1 : Int), I O ((Re.fac l G).2 : Int), .bool (Re.dvd l G)] 140).below hA4); have LT5 := mh (hs3 ▸ Blk.new (w3.alloc (.cells #[.slice q G.length cG, .slice pb (assess l G).length cb, I O ((Re.fac l G).1 : Int), I O ((Re.fac l G).2 : Int), .bool (Re.dvd l G)] 140)) #[.slice p F.length cF, .slice q G.length cG] 30); have XA5 := mh ((XA3.out.below hA3).below hA4); have OA5 := mh ((OA3.out.below hA3).below hA4); have OB5 := mh ((OB3.out.below hA3).below hA4); have HB5 := mh ((HB3.out.trans (hA3.mono HB3.out.size)).trans (hA4.mono (Nat.le_trans HB3.out.size hA3.size))); clear hE hO hb3 hA3 hA4 hs3
 go_wp2_with fail
 clear egb; generalize (w3.alloc (.cells #[.slice q G.length cG, .slice pb (assess l G).length cb, I O ((Re.fac l G).1 : Int), I O ((Re.fac l G).2 : Int), .bool (Re.dvd l G)] 140)).alloc (.cells #[.slice p F.length cF, .slice q G.length cG] 30) = w5 at *; have CC := mh (concat_any (gb + 1) p q R1 R2 cF cG w5 (HR1.out.below HB5.out) (HR2.out.below HB5.out) (by rw [EF.out]; exact lF) (by rw [EG.out]; exact lG) (by rw [EF.out]; exact LT5.out.cell 0) (by rw [EG.out]; exact LT5.out.cell 1)); (with_reducible refine cmo CC.out ?_); rintro e w6 ⟨v6, rfl, hO6, hb6⟩; obtain ⟨m, em⟩ : ∃ m, F.length + G.length = m := ⟨_, rfl⟩; have EM := mh em; have hm : m ≤ 2000 := by omega
 obtain ⟨p6, c6, rfl, -, -, -, -, hr6⟩ := hO6.cut (n := m) (by rw [lap, EF.out, EG.out, em]); have R6 := mh hr6; have XA6 := mh (XA5.out.below hb6); have XB6 := mh (XB5.out.below hb6); have OA6 := mh (OA5.out.below hb6); have OB6 := mh (OB5.out.below hb6); have HB6 := mh (HB5.out.trans (hb6.mono HB5.out.size)); have NF := mh (show (R1 ++ R2).map (·.farm) = (F ++ G).map (·.farm) from by rw [List.map_append, List.map_append, FN.out, GN.out]); have NL := mh (show (R1 ++ R2).length = m from by rw [lap, EF.out, EG.out, em]); obtain ⟨RR, eRR⟩ : ∃ RR, R1 ++ R2 = RR := ⟨_, rfl⟩; rw [eRR] at R6 NF NL; clear hO6 hb6 hr6 em eRR
 go_wp2_with fail
 go_loopw [11, 41] (fun v i W => ∃ k : Nat, k ≤ m ∧ i = I O k ∧ OwnR SI W 3 w6.heap.size v ((RR.map (·.farm)).take k) ∧ Below w6.heap.size w6 W) (fun _ i _ => m - (intOf i).toNat)
 case atStart => exact ⟨0, Nat.zero_le _, rfl, OwnR.nil _ _ _, brf _ _⟩
 case round =>
  obtain ⟨wo, rfl⟩ : ∃ wo : World, wo = wr := ⟨_, rfl⟩; obtain ⟨k, hk, rfl, hO, hb⟩ := hrel; have HO := mh hO; have HB := mh hb; have hk0 : (0 : Int) ≤ (k : Int) := inn _
  by_cases hlt : k < m
  ·have hk1 : (k : Int) < (m : Int) := by omega
   have hkR : k < RR.length := by rw [NL.out]; exact hlt
   obtain ⟨b, off, e, hl, hc⟩ := (R6.out.below hb).at hkR; subst e; obtain ⟨c0, c1, c2⟩ := (show FCells wo b (off + k * 3) RR[k] from ⟨hc 0 _ rfl, hc 1 _ rfl, hc 2 _ rfl⟩)
   have ST := mh (show (RR.map (·.farm)).take (k + 1) = (RR.map (·.farm)).take k ++ [RR[k].farm] from by
    rw [tsg (by rw [List.length_map]; exact hkR), List.getElem_map])
   have HCL := mh (show ((RR.map (·.farm)).take k).length ≤ 2000 from by rw [List.length_take]; omega); obtain ⟨⟨xf, xd, lp, ln, lc⟩, ex⟩ : ∃ x, RR[k] = x := ⟨_, rfl⟩; rw [ex] at c0 c1 c2 ST; simp only at c0 c1 c2 ST; have hba := (brf wo.heap.size wo).alloc mle (.cells #[I O xf, I O xd, .slice lp ln lc] 47); have HO2 := mh (HO.out.below hba); have HBX := mh (HB.out.trans (hba.mono HB.out.size)); clear hl hc ex hba hO hb
   go_wp2_with (first | (at_builtin; (refine OwnR.append el_int rfl (.tmp 45) (.tmp 48) rfl w6.heap.size _ ((RR.map (·.farm)).take k) xf #[I O xf] rfl HO2.out rfl (by simp [Act.eval]) HBX.out.size (by have := HCL.out; omega) (by decide) ?_); intro v7 w7 hO7 hap7; have HO7 := mh hO7; have HB7 := mh (HBX.out.trans hap7.below); clear hO7 hap7) | fail)
   go_roundw
   case rel => exact ⟨k + 1, by omega, by go_num, by rw [ST.out]; exact HO7.out, HB7.out⟩
   case measure => simp [intOf]; omega
  ·obtain rfl : k = m := by omega
   clear hb hO; have HO' := mh (show OwnR SI wo 3 w6.heap.size _ ((F ++ G).map (·.farm)) from by have := HO.out; rw [List.take_of_length_le (by rw [List.length_map, NL.out]; exact Nat.le_refl _), NF.out] at this; exact this); obtain ⟨p8, c8, rfl, -, -, -, -, -⟩ := HO'.out.cut (n := k) (by rw [List.length_map, lap]; exact EM.out); have ST := mh (sortAll_any w6.heap.size p8 k c8 ((F ++ G).map (·.farm)) wo (by rw [List.length_map, lap]; exact EM.out) HO'.out (by omega))
   go_wp2_with fail
   (with_reducible refine cmo ST.out ?_); rintro e w8 ⟨rfl, hO8, hb8⟩; have CT := mh (compactAll_any w6.heap.size p8 k c8 (((F ++ G).map (·.farm)).mergeSort fun x y => decide (x ≤ y)) w8 (by rw [List.length_mergeSort, List.length_map, lap]; exact EM.out) hO8 (by omega)); have HB8 := mh (HB.out.trans hb8); clear hO8 hb8 ST
   go_wp2_with fail
   (with_reducible refine cmo CT.out ?_); rintro e w9 ⟨rfl, hO9, hb9⟩; have HB9 := mh (HB8.out.trans hb9); have N9 := mh (show OwnR SI w9 3 w6.heap.size (.slice p8 (Re.farmsOf F G).length c8) (Re.farmsOf F G) from hO9); obtain ⟨zs, ezs⟩ : ∃ zs, Re.farmsOf F G = zs := ⟨_, rfl⟩; have EZS := mh ezs; clear hO9 hb9 CT; have HBT := mh (HB6.out.trans (HB9.out.mono HB6.out.size)); rw [ezs] at N9; have hzl : zs.length ≤ 2000 := by rw [← ezs]; have := Re.farmsOf_len F G; have := EM.out; omega
   rw [show (Go.Lib.compact (((F ++ G).map (·.farm)).mergeSort fun x y => decide (x ≤ y))) = zs from ezs]; obtain ⟨Z, eZ⟩ : ∃ Z, zs.length = Z := ⟨_, rfl⟩; have HZ := mh eZ; rw [eZ] at N9 hzl ⊢; clear ezs eZ
   go_wp2_with fail
   go_loopw [14, 56] (fun v i W => ∃ (j : Nat) (R : List Re.RD), j ≤ Z ∧ i = I O j ∧ RowsR Re.SDf Re.DV 88 w9.heap.size W v R ((zs.take j).flatMap (Re.difOf l F G)) ∧ Below w9.heap.size w9 W) (fun _ i _ => Z - (intOf i).toNat)
   case atStart => exact ⟨0, [], Nat.zero_le _, rfl, RowsR.nil _ _ _ _ _, brf _ _⟩
   case round =>
    obtain ⟨wx, rfl⟩ : ∃ wx : World, wx = wr := ⟨_, rfl⟩; obtain ⟨j, RD, hj, rfl, hR, hbx⟩ := hrel; have HR := mh hR; have HBX := mh hbx; have hj0 : (0 : Int) ≤ (j : Int) := inn _; clear hR hbx
    by_cases hlt : j < Z
    ·have hj1 : (j : Int) < (Z : Int) := by omega
     have hjz : j < zs.length := by rw [HZ.out]; exact hlt
     obtain ⟨pz, cz, ez, -, -, -, -, hrz⟩ := N9.out.cut HZ.out
     cases ez
     obtain ⟨bz, oz, rfl, hbz, z0⟩ := (hrz.ints.below HBX.out).at hjz; have gz : zs.getD j 0 = zs[j] := by rw [List.getD_eq_getElem?_getD, List.getElem?_eq_getElem hjz]; rfl
     rw [gz] at z0; have ST := mh (Re.difs_take (l := l) (F := F) (G := G) hjz); obtain ⟨fz, efz⟩ : ∃ f, zs[j] = f := ⟨_, rfl⟩; rw [efz] at z0 ST; clear gz efz hrz; have BX6 := mh (HB9.out.trans (HBX.out.mono HB9.out.size)); have BX0 := mh (HB6.out.trans (BX6.out.mono HB6.out.size)); obtain ⟨_, _, ea, -, -, -, -, hra⟩ := OA6.out.cut rfl
     cases ea
     obtain ⟨_, _, eb, -, -, -, -, hrb⟩ := OB6.out.cut rfl
     cases eb
     have XAX := mh (XA6.out.below BX6.out); have XBX := mh (XB6.out.below BX6.out); have RAX := mh (fun (W : World) (hb : Below wx.heap.size wx W) => hra.below (BX6.out.trans (hb.mono BX6.out.size))); have RBX := mh (fun (W : World) (hb : Below wx.heap.size wx W) => hrb.below (BX6.out.trans (hb.mono BX6.out.size))); have T0 := mh (show 0 < w9.heap.size from Nat.lt_of_le_of_lt (Nat.zero_le _) (XA6.out.below HB9.out).lt); have AMA := mh (fun (W : World) (hb : Below wx.heap.size wx W) => amount34_any pa (assess l F) ca fz W (RAX.out W hb) (Re.due0 HE.out)); have AMB := mh (fun (W : World) (hb : Below wx.heap.size wx W) => amount34_any pb (assess l G) cb fz W (RBX.out W hb) (Re.due0 HE3.out)); have KS := mh (fun (W : World) (hb : Below wx.heap.size wx W) => show W.cell? ⟨ga, 1, none⟩ = some (.slice pa (assess l F).length ca) ∧ W.cell? ⟨gb, 1, none⟩ = some (.slice pb (assess l G).length cb) from ⟨(XAX.out.below hb).cell 1, (XBX.out.below hb).cell 1⟩); have HRL := mh (show RD.length ≤ 2000 by have h1 := HR.out.hl; have h2 := Re.difs_len l F G (zs.take j); have h3 := HZ.out; rw [List.length_take] at h2; omega); clear hra hrb
     go_upto_region 18 with fail
     go_cut [17] (fun s wy => ∃ gd, s = .pointer (some ⟨gd, 0, none⟩) ∧ wx.heap.size ≤ gd ∧ Blk wy gd #[I O fz, I O (amount (assess l F) fz), I O (amount (assess l G) fz), .slice none 0 0] 88 ∧ Below wx.heap.size wx wy)
     case first =>
      have BX1 := mh ((brf wx.heap.size wx).drew); have KD := mh (KS.out _ BX1.out); refine wp_region_held_drew (S := fun w' => w'.cell? ⟨ga, 1, none⟩ = some (.slice pa (assess l F).length ca) ∧ w'.cell? ⟨gb, 1, none⟩ = some (.slice pb (assess l G).length cb)) (by kernel_rfl) KD.out (fun hHeld => ?_); generalize wx.drew = wq at *; refine tkD 0 60 ?_; refine tkD 1 61 ?_; refine tkD 2 62 ?_; refine tkD 3 63 ?_; refine tkD 5 65 ?_; refine tkD 6 66 ?_; refine tkD 7 67 ?_; refine wpAnyH_ready (rs := [4, 10]) (by kernel_rfl) (by simp) ?_; refine AllReadyH.cons (o := ⟨some 64, _, _, _, _, _⟩) rfl (fun K0 hK => ?_) ?_
      ·go_simp
       (with_reducible refine cmo (AMA.out _ BX1.out) ?_); rintro e wa ⟨rfl, hb2⟩; have BX2 := mh (BX1.out.trans (hb2.mono BX1.out.size)); have K2 := mh (KS.out _ BX2.out); clear hb2
       go_wp2_with fail
       refine hK.out _ _ K2.out (fun _ => ?_)
       clear hK K0
       (try dsimp only [Act.put])
       try simp only [mnA, mnB, mnC]
       refine wpAnyH_ready (rs := [8, 10]) (by kernel_rfl) (by simp) ?_
       refine AllReadyH.cons (o := ⟨some 68, _, _, _, _, _⟩) rfl (fun K0 hK => ?_) ?_
       ·go_simp
        (with_reducible refine cmo (AMB.out _ BX2.out) ?_); rintro e wab ⟨rfl, hb3⟩; have BX3 := mh (BX2.out.trans (hb3.mono BX2.out.size)); have K3 := mh (KS.out _ BX3.out); clear hb3
        go_wp2_with fail
        refine hK.out _ _ K3.out (fun _ => ?_)
        clear hK K0
        (try dsimp only [Act.put])
        try simp only [mnA, mnB, mnC]
        refine tkA 9 69 ?_
        simp only [Act.put, mnA, mnB, mnC]; refine rdA 10 17 (fun K0 hK => ?_); go_simp; have hal4 := (brf wab.heap.size wab).alloc mle (.cells #[I O 0, I O 0, I O 0, .slice none 0 0] 88); have BX4 := mh (BX3.out.trans (hal4.mono BX3.out.size)); have K4 := mh (KS.out _ BX4.out); obtain ⟨gd, egd⟩ : ∃ g, wab.heap.size = g := ⟨_, rfl⟩; have XD4 := mh ((show wab.heap.size = gd from egd) ▸ Blk.new wab #[I O 0, I O 0, I O 0, .slice none 0 0] 88); have HGD := mh (show wx.heap.size ≤ gd from (show wab.heap.size = gd from egd) ▸ BX3.out.size); rw [egd]; clear hal4 egd; generalize wab.alloc (.cells #[I O 0, I O 0, I O 0, .slice none 0 0] 88) = wabm at *; refine hK.out _ _ K4.out (fun _ => ?_); clear hK K0
        (try dsimp only [Act.put])
        try simp only [mnA, mnB, mnC]
        refine wpAnyH_ready (rs := [11]) (by kernel_rfl) (by simp) ?_
        refine AllReadyH.cons (o := ⟨none, _, _, _, _, _⟩) rfl (fun K0 hK => ?_) AllReadyH.nil
        have BXF := mh (put4_low BX4.out HGD.out (I O fz) (I O (amount (assess l F) fz)) (I O (amount (assess l G) fz)) (.slice none 0 0)); have KF := mh (KS.out _ BXF.out); have XF := mh (XD4.out.put4 (I O fz) (I O (amount (assess l F) fz)) (I O (amount (assess l G) fz)) (.slice none 0 0)); have y0 := XD4.out.fr 0; have y1 := XD4.out.fr 1; have y2 := XD4.out.fr 2; have y3 := XD4.out.fr 3; have x0 := XD4.out.cell 0; have x1 := XD4.out.cell 1; have x2 := XD4.out.cell 2; have x3 := XD4.out.cell 3; go_simp; refine hK.out _ _ KF.out (fun _ => ?_); clear hK K0
        (try dsimp only [Act.put])
        try simp only [mnA, mnB, mnC]
        refine wpAnyH_done (by kernel_rfl) ?_ _
        go_wp2_with fail
        go_meet
        exact ⟨gd, rfl, HGD.out, XF.out, BXF.out⟩
       refine AllReadyH.cons (o := ⟨some 17, _, _, _, _, _⟩) rfl (fun K0 hK => ?_) AllReadyH.nil
       go_simp
       have hal3 := (brf wa.heap.size wa).alloc mle (.cells #[I O 0, I O 0, I O 0, .slice none 0 0] 88); have BX3 := mh (BX2.out.trans (hal3.mono BX2.out.size)); have K3 := mh (KS.out _ BX3.out); obtain ⟨gd, egd⟩ : ∃ g, wa.heap.size = g := ⟨_, rfl⟩; have XD3 := mh ((show wa.heap.size = gd from egd) ▸ Blk.new wa #[I O 0, I O 0, I O 0, .slice none 0 0] 88); have HGD := mh (show wx.heap.size ≤ gd from (show wa.heap.size = gd from egd) ▸ BX2.out.size); rw [egd]; clear hal3 egd; generalize wa.alloc (.cells #[I O 0, I O 0, I O 0, .slice none 0 0] 88) = wam at *; refine hK.out _ _ K3.out (fun _ => ?_); clear hK K0
       (try dsimp only [Act.put])
       try simp only [mnA, mnB, mnC]
       refine rdA 8 68 (fun K0 hK => ?_)
       go_simp
       (with_reducible refine cmo (AMB.out _ BX3.out) ?_); rintro e wamb ⟨rfl, hb4⟩; have BX4 := mh (BX3.out.trans (hb4.mono BX3.out.size)); have K4 := mh (KS.out _ BX4.out); have XD4 := mh (XD3.out.below hb4); clear hb4
       go_wp2_with fail
       refine hK.out _ _ K4.out (fun _ => ?_)
       clear hK K0
       (try dsimp only [Act.put])
       try simp only [mnA, mnB, mnC]
       refine tkA 9 69 ?_
       simp only [Act.put, mnA, mnB, mnC]; refine wpAnyH_ready (rs := [11]) (by kernel_rfl) (by simp) ?_; refine AllReadyH.cons (o := ⟨none, _, _, _, _, _⟩) rfl (fun K0 hK => ?_) AllReadyH.nil; have BXF := mh (put4_low BX4.out HGD.out (I O fz) (I O (amount (assess l F) fz)) (I O (amount (assess l G) fz)) (.slice none 0 0)); have KF := mh (KS.out _ BXF.out); have XF := mh (XD4.out.put4 (I O fz) (I O (amount (assess l F) fz)) (I O (amount (assess l G) fz)) (.slice none 0 0)); have y0 := XD4.out.fr 0; have y1 := XD4.out.fr 1; have y2 := XD4.out.fr 2; have y3 := XD4.out.fr 3; have x0 := XD4.out.cell 0; have x1 := XD4.out.cell 1; have x2 := XD4.out.cell 2; have x3 := XD4.out.cell 3; go_simp; refine hK.out _ _ KF.out (fun _ => ?_); clear hK K0
       (try dsimp only [Act.put])
       try simp only [mnA, mnB, mnC]
       refine wpAnyH_done (by kernel_rfl) ?_ _
       go_wp2_with fail
       go_meet
       exact ⟨gd, rfl, HGD.out, XF.out, BXF.out⟩
      refine AllReadyH.cons (o := ⟨some 17, _, _, _, _, _⟩) rfl (fun K0 hK => ?_) AllReadyH.nil
      go_simp
      have hal2 := (brf wq.heap.size wq).alloc mle (.cells #[I O 0, I O 0, I O 0, .slice none 0 0] 88); have BX2 := mh (BX1.out.trans (hal2.mono BX1.out.size)); have K2 := mh (KS.out _ BX2.out); obtain ⟨gd, egd⟩ : ∃ g, wq.heap.size = g := ⟨_, rfl⟩; have XD2 := mh ((show wq.heap.size = gd from egd) ▸ Blk.new wq #[I O 0, I O 0, I O 0, .slice none 0 0] 88); have HGD := mh (show wx.heap.size ≤ gd from (show wq.heap.size = gd from egd) ▸ BX1.out.size); rw [egd]; clear hal2 egd; generalize wq.alloc (.cells #[I O 0, I O 0, I O 0, .slice none 0 0] 88) = wm at *; refine hK.out _ _ K2.out (fun _ => ?_); clear hK K0
      (try dsimp only [Act.put])
      try simp only [mnA, mnB, mnC]
      refine rdA 4 64 (fun K0 hK => ?_)
      go_simp
      (with_reducible refine cmo (AMA.out _ BX2.out) ?_); rintro e wma ⟨rfl, hb3⟩; have BX3 := mh (BX2.out.trans (hb3.mono BX2.out.size)); have K3 := mh (KS.out _ BX3.out); have XD3 := mh (XD2.out.below hb3); clear hb3
      go_wp2_with fail
      refine hK.out _ _ K3.out (fun _ => ?_)
      clear hK K0
      (try dsimp only [Act.put])
      try simp only [mnA, mnB, mnC]
      refine rdA 8 68 (fun K0 hK => ?_)
      go_simp
      (with_reducible refine cmo (AMB.out _ BX3.out) ?_); rintro e wmab ⟨rfl, hb4⟩; have BX4 := mh (BX3.out.trans (hb4.mono BX3.out.size)); have K4 := mh (KS.out _ BX4.out); have XD4 := mh (XD3.out.below hb4); clear hb4
      go_wp2_with fail
      refine hK.out _ _ K4.out (fun _ => ?_)
      clear hK K0
      (try dsimp only [Act.put])
      try simp only [mnA, mnB, mnC]
      refine tkA 9 69 ?_
      simp only [Act.put, mnA, mnB, mnC]; refine wpAnyH_ready (rs := [11]) (by kernel_rfl) (by simp) ?_; refine AllReadyH.cons (o := ⟨none, _, _, _, _, _⟩) rfl (fun K0 hK => ?_) AllReadyH.nil; have BXF := mh (put4_low BX4.out HGD.out (I O fz) (I O (amount (assess l F) fz)) (I O (amount (assess l G) fz)) (.slice none 0 0)); have KF := mh (KS.out _ BXF.out); have XF := mh (XD4.out.put4 (I O fz) (I O (amount (assess l F) fz)) (I O (amount (assess l G) fz)) (.slice none 0 0)); have y0 := XD4.out.fr 0; have y1 := XD4.out.fr 1; have y2 := XD4.out.fr 2; have y3 := XD4.out.fr 3; have x0 := XD4.out.cell 0; have x1 := XD4.out.cell 1; have x2 := XD4.out.cell 2; have x3 := XD4.out.cell 3; go_simp; refine hK.out _ _ KF.out (fun _ => ?_); clear hK K0
      (try dsimp only [Act.put])
      try simp only [mnA, mnB, mnC]
      refine wpAnyH_done (by kernel_rfl) ?_ _
      go_wp2_with fail
      go_meet
      exact ⟨gd, rfl, HGD.out, XF.out, BXF.out⟩
     case rest =>
      obtain ⟨gd, rfl, hgd, hxd, hby⟩ := hcut; obtain ⟨wy, rfl⟩ : ∃ wy : World, wy = wc := ⟨_, rfl⟩; have HGD := mh hgd; have XD := mh hxd; have BY := mh hby; have x1 := hxd.cell 1; have x2 := hxd.cell 2; clear hgd hxd hby
      by_cases ham : amount (assess l F) fz = amount (assess l G) fz
      ·have hab : (amount (assess l F) fz == amount (assess l G) fz) = true := by simpa using ham
       have NED := mh (show Re.difOf l F G fz = [] from by unfold Re.difOf; rw [if_pos ham]); have HRY := mh (HR.out.below Re.DV.chgs BY.out); have BF := mh (HBX.out.trans (BY.out.mono HBX.out.size)); clear ham
       go_wp2_with fail
       go_roundw
       case rel => exact ⟨j + 1, RD, by omega, by go_num, by rw [ST.out, NED.out, List.append_nil]; exact HRY.out, BF.out⟩
       case measure => simp [intOf]; omega
      ·have hab : (amount (assess l F) fz == amount (assess l G) fz) = false := by simpa using ham
       have NED := mh (show Re.difOf l F G fz = [Re.dif l F G fz] from by unfold Re.difOf; rw [if_neg ham]); clear ham; have XAY := mh (XAX.out.below BY.out); have XBY := mh (XBX.out.below BY.out); have FMA := mh (fun (W : World) (hb : Below wx.heap.size wx W) => farm38_any p F cF pa (assess l F).length ca ((Re.fac l F).1 : Int) ((Re.fac l F).2 : Int) (Re.dvd l F) fz W (HF.out.below (BX0.out.trans (hb.mono BX0.out.size)))); have FMB := mh (fun (W : World) (hb : Below wx.heap.size wx W) => farm38_any q G cG pb (assess l G).length cb ((Re.fac l G).1 : Int) ((Re.fac l G).2 : Int) (Re.dvd l G) fz W (HG.out.below (BX0.out.trans (hb.mono BX0.out.size)))); have MV := mh (fun (W : World) (hb : Below wx.heap.size wx W) => moved_any p q F.length cF G.length cG pa pb (assess l F) (assess l G) ca cb ((Re.fac l F).1 : Int) ((Re.fac l F).2 : Int) ((Re.fac l G).1 : Int) ((Re.fac l G).2 : Int) (Re.dvd l F) (Re.dvd l G) fz W (RAX.out W hb) (RBX.out W hb) (Re.due0 HE.out).1 (Re.due0 HE3.out).1); have LXA := mh (Re.findF_lines (F := F) HE.out fz); have LXB := mh (Re.findF_lines (F := G) HE3.out fz); have BYD := mh (BY.out.trans (((brf wy.heap.size wy).drew).mono BY.out.size)); have KT := mh (fun (W : World) (hb : Below wx.heap.size wx W) => show W.cell? ⟨ga, 0, none⟩ = some (.slice p F.length cF) ∧ W.cell? ⟨ga, 1, none⟩ = some (.slice pa (assess l F).length ca) ∧ W.cell? ⟨ga, 2, none⟩ = some (I O ((Re.fac l F).1 : Int)) ∧ W.cell? ⟨ga, 3, none⟩ = some (I O ((Re.fac l F).2 : Int)) ∧ W.cell? ⟨ga, 4, none⟩ = some (.bool (Re.dvd l F)) ∧ W.cell? ⟨gb, 0, none⟩ = some (.slice q G.length cG) ∧ W.cell? ⟨gb, 1, none⟩ = some (.slice pb (assess l G).length cb) ∧ W.cell? ⟨gb, 2, none⟩ = some (I O ((Re.fac l G).1 : Int)) ∧ W.cell? ⟨gb, 3, none⟩ = some (I O ((Re.fac l G).2 : Int)) ∧ W.cell? ⟨gb, 4, none⟩ = some (.bool (Re.dvd l G)) from ⟨(XAX.out.below hb).cell 0, (XAX.out.below hb).cell 1, (XAX.out.below hb).cell 2, (XAX.out.below hb).cell 3, (XAX.out.below hb).cell 4, (XBX.out.below hb).cell 0, (XBX.out.below hb).cell 1, (XBX.out.below hb).cell 2, (XBX.out.below hb).cell 3, (XBX.out.below hb).cell 4⟩); have KD2 := mh (KT.out _ BYD.out)
       go_wp2_with fail
       clear x1 x2; refine wp_region_K (fun w' => w'.cell? ⟨ga, 0, none⟩ = some (.slice p F.length cF) ∧ w'.cell? ⟨ga, 1, none⟩ = some (.slice pa (assess l F).length ca) ∧ w'.cell? ⟨ga, 2, none⟩ = some (I O ((Re.fac l F).1 : Int)) ∧ w'.cell? ⟨ga, 3, none⟩ = some (I O ((Re.fac l F).2 : Int)) ∧ w'.cell? ⟨ga, 4, none⟩ = some (.bool (Re.dvd l F)) ∧ w'.cell? ⟨gb, 0, none⟩ = some (.slice q G.length cG) ∧ w'.cell? ⟨gb, 1, none⟩ = some (.slice pb (assess l G).length cb) ∧ w'.cell? ⟨gb, 2, none⟩ = some (I O ((Re.fac l G).1 : Int)) ∧ w'.cell? ⟨gb, 3, none⟩ = some (I O ((Re.fac l G).2 : Int)) ∧ w'.cell? ⟨gb, 4, none⟩ = some (.bool (Re.dvd l G))) 8 (by kernel_rfl) KD2.out (fun hHeld => ?_); refine wpAnyK_take 0 (i := 0) (oi := ⟨some 75, _, _, _, _, _⟩) (v := ?vk51_0) rfl (by kernel_rfl) (by kernel_rfl) (by kernel_rfl) (by kernel_rfl) (fun _ _ _ h => h) (Or.inl ⟨by kernel_rfl, ?yk51_0⟩) (by assumption) ?rk51_0
       case yk51_0 =>
        intro W0 hSw
        (try dsimp only at hSw)
        go_simp
        try with_reducible rfl
       simp only [Act.put, mnA, mnB, mnC]; refine wpAnyK_take 1 (i := 1) (oi := ⟨some 76, _, _, _, _, _⟩) (v := ?vk51_1) rfl (by kernel_rfl) (by kernel_rfl) (by kernel_rfl) (by kernel_rfl) (fun _ _ _ h => h) (Or.inl ⟨by kernel_rfl, ?yk51_1⟩) (by assumption) ?rk51_1
       case yk51_1 =>
        intro W0 hSw
        (try dsimp only at hSw)
        go_simp
        try with_reducible rfl
       simp only [Act.put, mnA, mnB, mnC]; refine wpAnyK_take 3 (i := 3) (oi := ⟨some 78, _, _, _, _, _⟩) (v := ?vk51_3) rfl (by kernel_rfl) (by kernel_rfl) (by kernel_rfl) (by kernel_rfl) (fun _ _ _ h => h) (Or.inl ⟨by kernel_rfl, ?yk51_3⟩) (by assumption) ?rk51_3
       case yk51_3 =>
        intro W0 hSw
        (try dsimp only at hSw)
        go_simp
        try with_reducible rfl
       simp only [Act.put, mnA, mnB, mnC]; refine wpAnyK_take 4 (i := 4) (oi := ⟨some 79, _, _, _, _, _⟩) (v := ?vk51_4) rfl (by kernel_rfl) (by kernel_rfl) (by kernel_rfl) (by kernel_rfl) (fun _ _ _ h => h) (Or.inl ⟨by kernel_rfl, ?yk51_4⟩) (by assumption) ?rk51_4
       case yk51_4 =>
        intro W0 hSw
        (try dsimp only at hSw)
        go_simp
        try with_reducible rfl
       simp only [Act.put, mnA, mnB, mnC]; refine wpAnyK_one (i := 2) (o := ⟨some 77, _, _, _, _, _⟩) (by kernel_rfl) (by kernel_rfl) rfl (fun K0 hK => ?_); go_simp; (with_reducible refine cmo (FMA.out wy.drew BYD.out) ?_); rintro e wa ⟨ra, rfl, hva, hba⟩; have BA := mh (BYD.out.trans (hba.mono BYD.out.size)); have KA := mh (KT.out _ BA.out); have VA := mh hva; have BYA := mh (((brf wy.heap.size wy).drew).trans hba); clear hva hba
       go_wp2_with fail
       refine hK.out _ _ KA.out ?_
       clear hK K0
       (try dsimp only [Act.put])
       try simp only [mnA, mnB, mnC]
       refine wpAnyK_one (i := 5) (o := ⟨some 80, _, _, _, _, _⟩) (by kernel_rfl) (by kernel_rfl) rfl (fun K0 hK => ?_)
       go_simp
       (with_reducible refine cmo (FMB.out wa BA.out) ?_); rintro e wb ⟨rb, rfl, hvb, hbb⟩; have BB := mh (BA.out.trans (hbb.mono BA.out.size)); have KB := mh (KT.out _ BB.out); have VB := mh hvb; have VA2 := mh (VA.out.change hbb.size fun b q hl => ⟨hbb.block b hl, q⟩); have BYB := mh (BYA.out.trans (hbb.mono BYA.out.size)); clear hvb hbb
       go_wp2_with fail
       refine hK.out _ _ KB.out ?_
       clear hK K0
       (try dsimp only [Act.put])
       try simp only [mnA, mnB, mnC]
       refine wpAnyK_one (i := 6) (o := ⟨some 81, _, _, _, _, _⟩) (by kernel_rfl) (by kernel_rfl) rfl (fun K0 hK => ?_)
       go_simp
       (with_reducible refine cmo (changes38_any ra rb (Re.findF F fz) (Re.findF G fz) wb VA2.out VB.out LXA.out LXB.out) ?_); rintro e wc ⟨vc, rfl, hoc, hbc⟩; obtain ⟨LC, eLC⟩ : ∃ L, Re.farmCh (Re.findF F fz) (Re.findF G fz) = L := ⟨_, rfl⟩; rw [eLC] at hoc; have ELC := mh eLC; obtain ⟨pc, cc, rfl, -, -, -, -, -⟩ := hoc.cut (n := LC.length) rfl; have OC := mh hoc; have BC := mh (BB.out.trans (hbc.mono BB.out.size)); have KC := mh (KT.out _ BC.out); have BYC := mh (BYB.out.trans (hbc.mono BYB.out.size)); have WBC := mh hbc.size; have GLT := mh (show gd < wb.heap.size from nll XD.out.lt BYB.out.size); have XDC := mh (XD.out.below BYC.out); have XAC := mh (XAY.out.below BYC.out); have XBC := mh (XBY.out.below BYC.out); clear hoc hbc eLC
       go_wp2_with fail
       refine hK.out _ _ KC.out ?_
       clear hK K0
       (try dsimp only [Act.put])
       try simp only [mnA, mnB, mnC]
       refine wpAnyK_take 7 (i := 7) (oi := ⟨some 82, _, _, _, _, _⟩) (v := ?vk51_7) rfl (by kernel_rfl) (by kernel_rfl) (by kernel_rfl) (by kernel_rfl) (fun _ _ _ h => h) (Or.inl ⟨by kernel_rfl, ?yk51_7⟩) (by assumption) ?rk51_7
       case yk51_7 =>
        intro W0 hSw
        (try dsimp only at hSw)
        go_simp
        try with_reducible rfl
       simp only [Act.put, mnA, mnB, mnC]; have y3 := XDC.out.fr 3; have x3 := XDC.out.cell 3; refine wpAnyK_last (o := ⟨none, _, _, _, _, _⟩) (by kernel_rfl) rfl (fun K0 hK => ?_); go_simp; refine hK.out _ _ ?_; clear hK K0 y3 x3
       (try dsimp only [Act.put])
       try simp only [mnA, mnB, mnC]
       refine wpAnyH_done (by kernel_rfl) ?_ _
       have NGA := mh (show ga ≠ gd by have h1 := XAX.out.lt; have h2 := HGD.out; omega); have NGB := mh (show gb ≠ gd by have h1 := XBX.out.lt; have h2 := HGD.out; omega); have XDD := mh (show Blk (wc.setCell ⟨gd, 3, none⟩ (.slice pc LC.length cc)) gd #[I O fz, I O (amount (assess l F) fz), I O (amount (assess l G) fz), .slice pc LC.length cc] 88 from XDC.out.set 3 _); have XAD := mh (show Blk (wc.setCell ⟨gd, 3, none⟩ (.slice pc LC.length cc)) ga _ _ from XAC.out.far NGA.out _); have XBD := mh (show Blk (wc.setCell ⟨gd, 3, none⟩ (.slice pc LC.length cc)) gb _ _ from XBC.out.far NGB.out _); have OCD := mh (show OwnR Re.SCh (wc.setCell ⟨gd, 3, none⟩ (.slice pc LC.length cc)) 91 wb.heap.size (.slice pc LC.length cc) LC from OC.out.blocks fun g _ hB _ => setCell_far _ (by have := GLT.out; omega) _ _); have BD := mh (show Below wx.heap.size wx (wc.setCell ⟨gd, 3, none⟩ (.slice pc LC.length cc)) from BC.out.setCell HGD.out _); have BYWB := mh (show wx.heap.size ≤ wb.heap.size from BB.out.size); have BWD := mh (show wb.heap.size ≤ (wc.setCell ⟨gd, 3, none⟩ (.slice pc LC.length cc)).heap.size from Nat.le_trans (show wb.heap.size ≤ wc.heap.size from WBC.out) (by rw [setCell_sz]; exact Nat.le_refl _)); generalize wc.setCell ⟨gd, 3, none⟩ (.slice pc LC.length cc) = wd at *; have a0 := XAD.out.cell 0; have a1 := XAD.out.cell 1; have a2 := XAD.out.cell 2; have a3 := XAD.out.cell 3; have a4 := XAD.out.cell 4; have b0 := XBD.out.cell 0; have b1 := XBD.out.cell 1; have b2 := XBD.out.cell 2; have b3 := XBD.out.cell 3; have b4 := XBD.out.cell 4
       go_wp2_with fail
       clear a0 a1 a2 a3 a4 b0 b1 b2 b3 b4; (with_reducible refine cmo (MV.out wd BD.out) ?_); rintro e we ⟨mv, rfl, hmv, hbe⟩; have BT := mh (BD.out.trans (hbe.mono BD.out.size)); have BE := mh BT.out; have XDE := mh (XDD.out.below hbe); have OCE := mh (OCD.out.below hbe); have BWE := mh (Nat.le_trans BWD.out hbe.size)
       cases mv
       ·have HMV := mh (show ¬ Re.movedP l F G fz from fun h => by simpa using hmv.2 (Re.moved_int.2 h))
        clear hmv hbe
        go_upto_region 23 with fail
        have XDT := mh XDE.out; have x0 := XDT.out.cell 0; have x1 := XDT.out.cell 1; have x2 := XDT.out.cell 2; have x3 := XDT.out.cell 3; have HRT := mh (HR.out.own.below BT.out); have BT9 := mh (HBX.out.trans (BT.out.mono HBX.out.size)); obtain ⟨pv, cv, ev, hz, hq, hle, -, hrv⟩ := OCE.out.cut (n := LC.length) rfl
        cases ev
        have DVT := mh (show Re.DV (NewQ wx.heap.size) we ⟨fz, amount (assess l F) fz, amount (assess l G) fz, pc, LC.length, cc⟩ (Re.dif l F G fz) from
         ⟨rfl, rfl, rfl, by rw [show (Re.dif l F G fz).chg = LC from by unfold Re.dif Re.movedCh; rw [if_neg HMV.out, ELC.out, List.append_nil]]; exact hrv, by rw [show (Re.dif l F G fz).chg = LC from by unfold Re.dif Re.movedCh; rw [if_neg HMV.out, ELC.out, List.append_nil]], hle, fun e => (hz e).1, fun a e => .inr (Nat.le_trans BYWB.out (hq a e).2.2.1)⟩)
        clear hz hq hle hrv
        go_wp2_with (first | (at_builtin; (refine OwnR.append Re.el_dif rfl (.tmp 93) (.tmp 95) rfl w9.heap.size _ RD ⟨fz, amount (assess l F) fz, amount (assess l G) fz, pc, LC.length, cc⟩ #[I O fz, I O (amount (assess l F) fz), I O (amount (assess l G) fz), .slice pc LC.length cc] rfl HRT.out rfl (by simp [Act.eval]) BT9.out.size (by have := HRL.out; omega) (by decide) ?_); intro v7 w7 hO7 hap7; have PU := mh (HR.out.push Re.DV.chgs HBX.out.size (But.of_below (t := 0) BT.out) T0.out (Nat.le_succ _) DVT.out hO7 hap7); have BF := mh (BT9.out.trans hap7.below); clear hO7 hap7) | fail)
        go_roundw
        case rel => exact ⟨j + 1, RD ++ [_], by omega, by go_num, by rw [ST.out, NED.out]; exact PU.out, BF.out⟩
        case measure => simp [intOf]; omega
       ·have HMV := mh (show Re.movedP l F G fz from Re.moved_int.1 (hmv.1 rfl))
        have LCL := mh (show LC.length ≤ 10000 by rw [← ELC.out]; exact Re.farmCh_len LXA.out LXB.out); have x3e := XDE.out.cell 3; clear hmv hbe BT
        go_wp2_with (first | (at_builtin; (refine OwnR.append Re.el_chg rfl (.tmp 88) (.tmp 90) rfl wb.heap.size _ LC ⟨8, -1⟩ #[I O 8, I O (-1)] rfl OCE.out rfl rfl BWE.out (by have := LCL.out; omega) (by decide) ?_); intro v5 w5 hO5 hap5; obtain ⟨p5, c5, rfl, -, -, -, -, -⟩ := hO5.cut (n := LC.length + 1) (by rw [lap]; rfl); have O5 := mh hO5; have XD5 := mh (show Blk w5 gd #[I O fz, I O (amount (assess l F) fz), I O (amount (assess l G) fz), .slice pc LC.length cc] 88 from (hap5.below.block gd GLT.out).trans XDE.out); have B5 := mh (BE.out.trans (hap5.below.mono BYWB.out)); have y3 := XD5.out.fr 3; have z3 := XD5.out.cell 3; have XDG := mh (show Blk (w5.setCell ⟨gd, 3, none⟩ (.slice p5 (LC.length + 1) c5)) gd #[I O fz, I O (amount (assess l F) fz), I O (amount (assess l G) fz), .slice p5 (LC.length + 1) c5] 88 from XD5.out.set 3 _); have OG := mh (show OwnR Re.SCh (w5.setCell ⟨gd, 3, none⟩ (.slice p5 (LC.length + 1) c5)) 91 wb.heap.size (.slice p5 (LC.length + 1) c5) (LC ++ [⟨8, -1⟩]) from O5.out.blocks fun g _ hB _ => setCell_far _ (by have := GLT.out; omega) _ _); have BT := mh (show Below wx.heap.size wx (w5.setCell ⟨gd, 3, none⟩ (.slice p5 (LC.length + 1) c5)) from B5.out.setCell HGD.out _); clear hO5 hap5; have XDT := mh XDG.out; have x0 := XDT.out.cell 0; have x1 := XDT.out.cell 1; have x2 := XDT.out.cell 2; have x3 := XDT.out.cell 3; have HRT := mh (HR.out.own.below BT.out); have BT9 := mh (HBX.out.trans (BT.out.mono HBX.out.size)); obtain ⟨pv, cv, ev, hz, hq, hle, -, hrv⟩ := OG.out.cut (n := (LC.length + 1)) (by rw [lap]; rfl); cases ev; have DVT := mh (show Re.DV (NewQ wx.heap.size) (w5.setCell ⟨gd, 3, none⟩ (.slice p5 (LC.length + 1) c5)) ⟨fz, amount (assess l F) fz, amount (assess l G) fz, p5, (LC.length + 1), c5⟩ (Re.dif l F G fz) from   ⟨rfl, rfl, rfl, by rw [show (Re.dif l F G fz).chg = LC ++ [⟨8, -1⟩] from by unfold Re.dif Re.movedCh; rw [if_pos HMV.out, ELC.out]]; exact hrv, by rw [show (Re.dif l F G fz).chg = LC ++ [⟨8, -1⟩] from by unfold Re.dif Re.movedCh; rw [if_pos HMV.out, ELC.out], lap]; rfl, hle, fun e => (hz e).1, fun a e => .inr (Nat.le_trans BYWB.out (hq a e).2.2.1)⟩); clear hz hq hle hrv) | (at_builtin; (refine OwnR.append Re.el_dif rfl (.tmp 93) (.tmp 95) rfl w9.heap.size _ RD ⟨fz, amount (assess l F) fz, amount (assess l G) fz, p5, (LC.length + 1), c5⟩ #[I O fz, I O (amount (assess l F) fz), I O (amount (assess l G) fz), .slice p5 (LC.length + 1) c5] rfl HRT.out rfl (by simp [Act.eval]) BT9.out.size (by have := HRL.out; omega) (by decide) ?_); intro v7 w7 hO7 hap7; have PU := mh (HR.out.push Re.DV.chgs HBX.out.size (But.of_below (t := 0) BT.out) T0.out (Nat.le_succ _) DVT.out hO7 hap7); have BF := mh (BT9.out.trans hap7.below); clear hO7 hap7) | fail)
        go_roundw
        case rel => exact ⟨j + 1, RD ++ [_], by omega, by go_num, by rw [ST.out, NED.out]; exact PU.out, BF.out⟩
        case measure => simp [intOf]; omega
    ·obtain rfl : j = Z := by omega
     have HD := mh (show RowsR Re.SDf Re.DV 88 w9.heap.size wx _ RD (Re.difs l F G) from by have := HR.out; rw [List.take_of_length_le (by rw [HZ.out]; exact Nat.le_refl _)] at this; unfold Re.difs; rw [EZS.out]; exact this)
     go_wp2_with fail
     go_ret2
     exact Or.inr (Or.inr ⟨HE.out, HE3.out, _, RD, rfl, HD.out.mono Re.DV.chgs HBT.out.size, HBT.out.trans (HBX.out.mono HBT.out.size)⟩)
end Go.Proofs.YtmlfcpglhipjgaaGreat

/-
  THE COMPARISON that crop.Parse hands to slices.SortFunc, and the sorting itself.
-/
import Derived.Test.YtcghhagnibabeaaGreatDoorSo
import Derived.Test.YtcghhagnibabeaaGreatDoorMC
import Derived.Test.YtcghhagnibabeaaGreatDoorMB
import Derived.Test.YtcghhagnibabeaaGreatDoorME
namespace Go.Proofs.YtcghhagnibabeaaGreatDoor
open Go.RowKit Go.Sort Go.Lib Go.Shelf Cr

def cmpS (a b : ByteArray) : Int := if Cr.lt a b = true then -1 else if Cr.lt b a = true then 1 else 0

theorem cmpS_lt (a b : ByteArray) : decide (cmpS a b < 0) = Cr.lt a b := by
  unfold cmpS
  cases h : Cr.lt a b with
  | true => rfl
  | false =>
    rw [if_neg (by simp)]
    split <;> rfl

theorem isnan_any (s : ByteArray) (w : World) : Calls Tryz.prog 76 #[.string s] w fun e w' => e = .returned (.bool false) ∧ w = w' := by
  have h : (s.toList != s.toList) = false := by simp
  go_enter Tryz.func76, Tryz.ntmps76
  go_wp2
  go_ret
  exact ⟨rfl, rfl⟩

set_option maxHeartbeats 1000000 in
theorem compareS_any (a b : ByteArray) (w : World) : Calls Tryz.prog 40 #[.string a, .string b] w fun e w' => e = .returned (.int .i64 (cmpS a b)) ∧ w = w' := by
  have NA := Lib.hid (fun (W : World) => isnan_any a W)
  have NB := Lib.hid (fun (W : World) => isnan_any b W)
  cases h1 : Cr.lt a b with
  | true =>
    have HV := Lib.hid (show cmpS a b = -1 by unfold cmpS; rw [if_pos h1])
    have hb1 : Op.bytesLess a.toList b.toList = true := h1
    clear h1
    go_enter Tryz.func40, Tryz.ntmps40
    go_wp2_with (first | (go_at_call 76; (with_reducible refine Calls.mono (NA.out _) ?_); rintro e w1 ⟨rfl, rfl⟩) | (go_at_call 76; (with_reducible refine Calls.mono (NB.out _) ?_); rintro e w1 ⟨rfl, rfl⟩) | fail)
    go_ret
    exact ⟨by rw [HV.out]; rfl, rfl⟩
  | false =>
    cases h2 : Cr.lt b a with
    | true =>
      have HV := Lib.hid (show cmpS a b = 1 by unfold cmpS; rw [if_neg (by rw [h1]; simp), if_pos h2])
      have hb1 : Op.bytesLess a.toList b.toList = false := h1
      have he : (a.toList == b.toList) = false := by have := le_eq a b; rw [hb1, h2] at this; simpa using this
      clear h1 h2
      go_enter Tryz.func40, Tryz.ntmps40
      go_wp2_with (first | (go_at_call 76; (with_reducible refine Calls.mono (NA.out _) ?_); rintro e w1 ⟨rfl, rfl⟩) | (go_at_call 76; (with_reducible refine Calls.mono (NB.out _) ?_); rintro e w1 ⟨rfl, rfl⟩) | fail)
      go_ret
      exact ⟨by rw [HV.out]; rfl, rfl⟩
    | false =>
      have HV := Lib.hid (show cmpS a b = 0 by unfold cmpS; rw [if_neg (by rw [h1]; simp), if_neg (by rw [h2]; simp)])
      have hb1 : Op.bytesLess a.toList b.toList = false := h1
      have he : (a.toList == b.toList) = true := by have := le_eq a b; rw [hb1, h2] at this; simpa using this
      clear h1 h2
      go_enter Tryz.func40, Tryz.ntmps40
      go_wp2_with (first | (go_at_call 76; (with_reducible refine Calls.mono (NA.out _) ?_); rintro e w1 ⟨rfl, rfl⟩) | (go_at_call 76; (with_reducible refine Calls.mono (NB.out _) ?_); rintro e w1 ⟨rfl, rfl⟩) | fail)
      go_ret
      exact ⟨by rw [HV.out]; rfl, rfl⟩

def cfC (x y : Crp) : Int := cmpS x.nm y.nm

theorem parse1_any (x y : Crp) (W : World) : Calls Tryz.prog 39 #[.agg (cCells x).toArray, .agg (cCells y).toArray] W fun e w' => e = .returned (.int .i64 (cfC x y)) ∧ ∃ q os, w' = grow (W.drewN q) os := by
  have CS := Lib.hid (fun (W : World) => compareS_any x.nm y.nm W)
  have HV := Lib.hid (show cfC x y = cmpS x.nm y.nm from rfl)
  obtain ⟨xn, xf, xm⟩ := x
  obtain ⟨yn, yf, ym⟩ := y
  simp only [cCells] at CS HV ⊢
  go_enter Tryz.func39, Tryz.ntmps39
  go_wp2_with (first | (go_at_call 40; (with_reducible refine Calls.mono (CS.out _) ?_); rintro e w1 ⟨rfl, rfl⟩))
  go_ret
  refine ⟨by rw [HV.out]; rfl, 0, #[Obj.cells #[.string xn, .int .i64 xf, .int .i64 xm] 31, Obj.cells #[.string yn, .int .i64 yf, .int .i64 ym] 31], ?_⟩
  rw [alloc_eq_grow, alloc_eq_grow, grow_grow]
  rfl

theorem swoC : SWO (ltOf cfC) where
  irrefl x := by unfold ltOf cfC; rw [cmpS_lt, lt_irrefl]
  trans x y z h1 h2 := by
    unfold ltOf cfC at *
    rw [cmpS_lt] at *
    exact Cr.lt_trans h1 h2
  ntrans x y z h1 h2 := by
    unfold ltOf cfC at *
    rw [cmpS_lt] at *
    cases h : Cr.lt x.nm z.nm with
    | false => rfl
    | true =>
      exfalso
      cases h3 : Cr.lt z.nm y.nm with
      | true => rw [Cr.lt_trans h h3] at h1; cases h1
      | false =>
        have := lt_total h2 h3
        rw [this, h] at h1
        cases h1

instance : Inhabited Crp := ⟨⟨⟨#[]⟩, 0, 0⟩⟩

theorem flat_get (L : List Crp) (t : Nat) (ht : t < L.length * 3) : (SC.flat L)[t]? = some (flatK cCells 3 L.toArray)[t]! := by
  have hj : t / 3 < L.length := Nat.div_lt_of_lt_mul (by omega)
  have hi : t % 3 < 3 := Nat.mod_lt _ (by decide)
  rw [get_flatK cCells 3 L.toArray t (by simpa using ht)]
  have e : t = t / 3 * SC.k + t % 3 := by show t = t / 3 * 3 + t % 3; omega
  have h1 := SC.flat_at L (t / 3) hj (t % 3) hi
  rw [← e] at h1
  rw [h1, getElem!_arr L _ hj]
  show (cCells L[t / 3])[t % 3]? = some (cCells L[t / 3])[t % 3]!
  rw [getElem!_pos (cCells L[t / 3]) (t % 3) (by show t % 3 < 3; exact hi), List.getElem?_eq_getElem]

theorem holdsC {w : World} {T : TypeId} {B g c n : Nat} {L : List Crp} (h : OwnR SC w T B (.slice (some ⟨g, 0, none⟩) n c) L) : HoldsK cCells 3 w g 0 L.toArray := by
  intro t ht
  have ht : t < L.length * 3 := by simpa using ht
  have hj : t / 3 < L.length := Nat.div_lt_of_lt_mul (by omega)
  obtain ⟨g2, e, -, -, -, hc, hf, -⟩ := h.at hj
  cases e
  rw [Nat.zero_add]
  refine ⟨?_, hf t⟩
  have h1 := flat_get L t ht
  have e : t = t / 3 * SC.k + t % 3 := by show t = t / 3 * 3 + t % 3; omega
  have h2 := SC.flat_at L (t / 3) hj (t % 3) (Nat.mod_lt _ (by decide))
  rw [← e] at h2
  have := hc (t % 3) _ (h2.symm.trans h1)
  rw [← e] at this
  exact this

theorem recsC {w : World} {g : Nat} {M : List Crp} (hg : g < w.heap.size) (hm : M.length ≤ maxLen) (h : HoldsK cCells 3 w g 0 M.toArray) : Crops w (some ⟨g, 0, none⟩) M := by
  refine Recs.of_cells hm hg fun t u hu => ?_
  have ht : t < M.length * 3 := by
    have := (List.getElem?_eq_some_iff.1 hu).1
    rw [SC.flat_len] at this
    exact this
  rw [flat_get M t ht] at hu
  injection hu with hu
  rw [← hu]
  exact (h t (by simpa using ht)).1

def SortGive (w : World) (B g : Nat) (L : List Crp) (e : Ending) (w' : World) : Prop :=
  e = .returned (.tuple #[]) ∧ ∃ M : List Crp, M.Perm L ∧ (M.Pairwise fun a b => Cr.lt b.nm a.nm = false) ∧ Crops w' (some ⟨g, 0, none⟩) M ∧ Below B w w'

set_option maxRecDepth 100000 in
set_option maxHeartbeats 1000000 in
theorem sort_crops (w : World) (B g cap n : Nat) (L : List Crp) (hn : L.length = n) (h : OwnR SC w 31 B (.slice (some ⟨g, 0, none⟩) n cap) L) (hB : B ≤ w.heap.size) (h40 : L.length ≤ 1000000) :
    Calls Tryz.prog 38 #[.slice (some ⟨g, 0, none⟩) n cap, .func (.func 39) #[] #[]] w (SortGive w B g L) := by
  subst hn
  have hgB : B ≤ g := (h.lt rfl).1
  have hgl : g < w.heap.size := (h.lt rfl).2
  have hH := holdsC h
  have hS := Tryz.slices_SortFunc_rows 3 ?aE ?zE cCells (fun _ => rfl) SC.one cfC swoC 39 #[] g 0 cap L.toArray w
    (enters_of Tryz.func39 (by kernel_rfl) rfl) (fun m os dk _ x y => parse1_any x y _) hH hgl (by simp; omega)
  case aE => exact fun w => by kernel_rfl
  case zE => exact fun w => by kernel_rfl
  rw [show L.toArray.size = L.length by simp] at hS
  refine hS.mono fun e w' ⟨he, d', m, os, hp, hs, hw⟩ => ?_
  subst hw
  have hsz : d'.size = L.toArray.size := hp.1
  have hH' := holdsK_sortWorldK_c cCells 3 w g 0 L.toArray d' m os hH hgl hsz
  have hsL : d'.size = L.length := by rw [hsz]; simp
  have hSz : (sortWorldK cCells 3 w g 0 m d' os).heap.size = w.heap.size + os.size := by
    unfold sortWorldK putRowK
    rw [size_grow, Sort.size_putRow]; rfl
  refine ⟨he, d'.toList, ?_, ?_, recsC (by omega) (by rw [Array.length_toList, hsL]; unfold maxLen; omega) hH', ?_⟩
  · have h3 := hp.2.2
    rw [show L.length = d'.size from hsL.symm, Array.extract_size] at h3
    rw [show L.toArray.extract 0 d'.size = L.toArray by rw [hsL, show L.length = L.toArray.size by simp, Array.extract_size]] at h3
    simpa using h3
  · rw [List.pairwise_iff_getElem]
    intro i j hi hj hij
    rw [Array.length_toList] at hi hj
    have := hs i j (Nat.zero_le _) hij (by omega)
    rw [getElem!_pos d' j hj, getElem!_pos d' i hi] at this
    unfold ltOf cfC at this
    rw [cmpS_lt] at this
    simpa using this
  · refine ⟨rfl, rfl, rfl, by omega, fun k hk => ?_⟩
    unfold sortWorldK putRowK
    rw [heap_grow_old _ _ (by rw [Sort.size_putRow]; exact Nat.lt_of_lt_of_le hk hB)]
    unfold putRow mapBlock
    simp only [Array.getElem?_modify]
    rw [if_neg (by omega)]
    rfl
end Go.Proofs.YtcghhagnibabeaaGreatDoor

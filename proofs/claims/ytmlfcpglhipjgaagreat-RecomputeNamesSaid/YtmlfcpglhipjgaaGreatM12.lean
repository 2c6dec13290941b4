/-
  PACKED (pack8.py): what is needed of the texts T24, T25, T26.
-/
import Derived.Test.YtmlfcpglhipjgaaGreatM10
set_option maxRecDepth 100000
set_option maxHeartbeats 3000000
open Go.Value renaming int → I
open Go.IntKind renaming i64 → O
namespace Go.Proofs.YtmlfcpglhipjgaaGreat
open Go.RowKit Te Sc
def idx (pr : Sch → Bool) (L : List Sch) : Int := match L.findIdx? pr with | some i => (i : Int) | none => -1
def numIs (q : Int) (s : Sch) : Bool := s.num == q
def nmIs (q : ByteArray) (s : Sch) : Bool := s.nm.data.toList == q.data.toList
theorem find_idx (L : List Sch) (n : Int) : find17 L n = idx (numIs n) L := rfl
theorem idx_none {pr : Sch → Bool} {L : List Sch} (h : ∀ j (hj : j < L.length), pr L[j] = false) : idx pr L = -1 := by
 unfold idx
 rw [show L.findIdx? pr = none from List.findIdx?_eq_none_iff.2 fun x hx => by
  obtain ⟨j, hj, rfl⟩ := List.mem_iff_getElem.1 hx
  exact h j hj]
theorem idx_at {pr : Sch → Bool} {L : List Sch} {k : Nat} (hk : k < L.length) (h : ∀ j (hj : j < L.length), j < k → pr L[j] = false) (h2 : pr L[k] = true) : idx pr L = (k : Int) := by
 unfold idx; rw [show L.findIdx? pr = some k from List.findIdx?_eq_some_iff_getElem.2 ⟨hk, h2, fun j hj => by rw [h j (by omega) hj]; decide⟩]
theorem idx_any (pr : Sch → Bool) (L : List Sch) : decide (0 ≤ idx pr L) = L.any pr := by
 unfold idx
 cases h : L.findIdx? pr with
 | none =>
   have h1 := List.findIdx?_eq_none_iff.1 h; have h2 : L.any pr = false := by
    rw [Bool.eq_false_iff]; intro h3; obtain ⟨x, hx, hp⟩ := List.any_eq_true.1 h3; rw [h1 x hx] at hp
    cases hp
   rw [h2]; rfl
 | some k =>
   obtain ⟨hk, h1, -⟩ := List.findIdx?_eq_some_iff_getElem.1 h; rw [show L.any pr = true from List.any_eq_true.2 ⟨L[k], List.getElem_mem hk, h1⟩]
   simp
theorem idx_ge (pr : Sch → Bool) (L : List Sch) : -1 ≤ idx pr L ∧ idx pr L < (L.length : Int) := by
 unfold idx
 cases h : L.findIdx? pr with
 | none => simp; omega
 | some k =>
   obtain ⟨hk, -, -⟩ := List.findIdx?_eq_some_iff_getElem.1 h; simp only; omega
theorem bytes_eq (a b : ByteArray) : (a.toList == b.toList) = (a.data.toList == b.data.toList) := by
 rw [ByteArray.toList_eq, ByteArray.toList_eq]
theorem nump_any {Q : Nat → Prop} (d : Nat) (r : RSx) (s : Sch) (nb : Nat) (q : Int) (w : World) (h : SV Q w d r s) (hc : w.cell? ⟨nb, 0, none⟩ = some (I O q)) (hl : nb < w.heap.size) :
  Calls Tryz.prog 179 #[.agg #[I O r.num, .string r.nm, I O r.t.op, I O r.t.num, I O r.t.more, .slice r.t.p r.t.n r.t.c, .slice r.bp r.bn r.bc, I O r.least, I O r.ex, .bool r.needs], .pointer (some ⟨nb, 0, none⟩)] w (BoolG ((numIs q) s) w) := by
 have HP := mh (show (r.num == q) = (numIs q) s from by rw [h.num]; rfl); clear h; obtain ⟨num, nm, ⟨o, tn, tm, tp, tl, tc⟩, bp, bn, bc, least, ex, needs⟩ := r
 go_enter Tryz.func179, Tryz.ntmps179
 go_wp2
 go_ret
 exact ⟨ret_bool HP.out, (brf _ _).alloc mle _⟩
theorem indexnum_any {Q : Nat → Prop} (d : Nat) (p : Option Addr) (L : List Sch) (cap nb : Nat) (q : Int) (w : World) (h : SsAt Q w d p L) (hc : w.cell? ⟨nb, 0, none⟩ = some (I O q)) (hl : nb < w.heap.size) :
  Calls Tryz.prog 134 #[.slice p L.length cap, .func (.func 179) #[] #[.pointer (some ⟨nb, 0, none⟩)]] w (IntG (idx (numIs q) L) w) := by
 have hn := h.len; have H := mh h; have HC := mh hc; clear h hc
 go_enter Tryz.func134, Tryz.ntmps134
 go_wp2
 go_loopw [8] (fun i wr => ∃ k : Nat, k ≤ L.length ∧ i = I O k ∧ (∀ j (hj : j < L.length), j < k → (numIs q) L[j] = false) ∧ Below w.heap.size w wr) (fun i _ => L.length - (intOf i).toNat)
 case atStart => exact ⟨0, Nat.zero_le _, rfl, fun j hj hk => absurd hk (Nat.not_lt_zero j), brf _ _⟩
 case round =>
  obtain ⟨k, hk, rfl, hall, hb⟩ := hrel; have HA := mh hall; have HB := mh hb; have hsz := hb.size; have hk0 : (0 : Int) ≤ (k : Int) := inn _
  by_cases hlt : k < L.length
  ·obtain ⟨b, off, r, rfl, hbl, hC, hv⟩ := (H.out.below hb).at hlt
   have CE := mh (nump_any d r L[k] nb q wr hv ((hb.cell (p := ⟨nb, 0, none⟩) hl).trans HC.out) (by omega)); have hk1 : (k : Int) < (L.length : Int) := by omega
   obtain ⟨z, ez⟩ : ∃ z, (numIs q) L[k] = z := ⟨_, rfl⟩; have HZ := mh ez; rw [ez] at CE; obtain ⟨c0, c1, c2, c3, c4, c5, c6, c7, c8, c9⟩ := hC; obtain ⟨num, nm, ⟨o, tn, tm, tp, tl, tc⟩, bp, bn, bc, least, ex, needs⟩ := r; simp only at c0 c1 c2 c3 c4 c5 c6 c7 c8 c9 CE; clear hall hb hv ez
   cases z
   ·go_wp2_with (first | (go_at_call 179; (with_reducible refine cmo CE.out ?_); rintro e w1 ⟨rfl, hb1⟩))
    go_roundw
    case rel => exact ⟨k + 1, by omega, by go_num, fun j hj hjk => by
     by_cases e : j = k
     ·subst e; exact HZ.out
     ·exact HA.out j hj (by omega), bstep mle HB.out hb1⟩
    case measure => simp [intOf]; omega
   ·have HN := mh (idx_at (pr := numIs q) hlt HA.out HZ.out)
    go_wp2_with (first | (go_at_call 179; (with_reducible refine cmo CE.out ?_); rintro e w1 ⟨rfl, hb1⟩))
    go_ret
    exact ⟨by rw [HN.out]; rfl, bstep mle HB.out hb1⟩
  ·obtain rfl : k = L.length := by omega
   have HN := mh (idx_none (pr := numIs q) (fun j hj => HA.out j hj hj)); clear hall hb
   go_wp2
   go_ret
   exact ⟨by rw [HN.out]; rfl, HB.out⟩
theorem find17_any {Q : Nat → Prop} (d : Nat) (p : Option Addr) (L : List Sch) (cap : Nat) (q : Int) (w : World) (h : SsAt Q w d p L) : Calls Tryz.prog 135 #[.slice p L.length cap, I O q] w (IntG (find17 L q) w) := by
 have hb : Below w.heap.size w (w.alloc (.cells #[I O q] 3)) := (brf _ _).alloc mle _; have HX := mh (indexnum_any d p L cap w.heap.size q (w.alloc (.cells #[I O q] 3)) (h.below hb) (cwn w #[I O q] 3 0) (by simp)); have HB := mh hb; rw [find_idx]; clear hb h
 go_enter Tryz.func135, Tryz.ntmps135
 go_wp2_with (first | (go_at_call 134; (with_reducible refine cmo HX.out ?_); rintro e w1 ⟨rfl, hb1⟩))
 go_ret
 exact ⟨rfl, HB.out.trans (hb1.mono HB.out.size)⟩
theorem namep_any {Q : Nat → Prop} (d : Nat) (r : RSx) (s : Sch) (nb : Nat) (q : ByteArray) (w : World) (h : SV Q w d r s) (hc : w.cell? ⟨nb, 1, none⟩ = some (.string q)) (hl : nb < w.heap.size) :
  Calls Tryz.prog 97 #[.agg #[I O r.num, .string r.nm, I O r.t.op, I O r.t.num, I O r.t.more, .slice r.t.p r.t.n r.t.c, .slice r.bp r.bn r.bc, I O r.least, I O r.ex, .bool r.needs], .pointer (some ⟨nb, 0, none⟩)] w (BoolG ((nmIs q) s) w) := by
 have HP := mh (show (r.nm.toList == q.toList) = (nmIs q) s from by rw [h.nm, bytes_eq]; rfl); clear h; obtain ⟨num, nm, ⟨o, tn, tm, tp, tl, tc⟩, bp, bn, bc, least, ex, needs⟩ := r
 go_enter Tryz.func97, Tryz.ntmps97
 go_wp2
 go_ret
 exact ⟨ret_bool HP.out, (brf _ _).alloc mle _⟩
theorem indexname_any {Q : Nat → Prop} (d : Nat) (p : Option Addr) (L : List Sch) (cap nb : Nat) (q : ByteArray) (w : World) (h : SsAt Q w d p L) (hc : w.cell? ⟨nb, 1, none⟩ = some (.string q)) (hl : nb < w.heap.size) :
  Calls Tryz.prog 134 #[.slice p L.length cap, .func (.func 97) #[] #[.pointer (some ⟨nb, 0, none⟩)]] w (IntG (idx (nmIs q) L) w) := by
 have hn := h.len; have H := mh h; have HC := mh hc; clear h hc
 go_enter Tryz.func134, Tryz.ntmps134
 go_wp2
 go_loopw [8] (fun i wr => ∃ k : Nat, k ≤ L.length ∧ i = I O k ∧ (∀ j (hj : j < L.length), j < k → (nmIs q) L[j] = false) ∧ Below w.heap.size w wr) (fun i _ => L.length - (intOf i).toNat)
 case atStart => exact ⟨0, Nat.zero_le _, rfl, fun j hj hk => absurd hk (Nat.not_lt_zero j), brf _ _⟩
 case round =>
  obtain ⟨k, hk, rfl, hall, hb⟩ := hrel; have HA := mh hall; have HB := mh hb; have hsz := hb.size; have hk0 : (0 : Int) ≤ (k : Int) := inn _
  by_cases hlt : k < L.length
  ·obtain ⟨b, off, r, rfl, hbl, hC, hv⟩ := (H.out.below hb).at hlt
   have CE := mh (namep_any d r L[k] nb q wr hv ((hb.cell (p := ⟨nb, 1, none⟩) hl).trans HC.out) (by omega)); have hk1 : (k : Int) < (L.length : Int) := by omega
   obtain ⟨z, ez⟩ : ∃ z, (nmIs q) L[k] = z := ⟨_, rfl⟩; have HZ := mh ez; rw [ez] at CE; obtain ⟨c0, c1, c2, c3, c4, c5, c6, c7, c8, c9⟩ := hC; obtain ⟨num, nm, ⟨o, tn, tm, tp, tl, tc⟩, bp, bn, bc, least, ex, needs⟩ := r; simp only at c0 c1 c2 c3 c4 c5 c6 c7 c8 c9 CE; clear hall hb hv ez
   cases z
   ·go_wp2_with (first | (go_at_call 97; (with_reducible refine cmo CE.out ?_); rintro e w1 ⟨rfl, hb1⟩))
    go_roundw
    case rel => exact ⟨k + 1, by omega, by go_num, fun j hj hjk => by
     by_cases e : j = k
     ·subst e; exact HZ.out
     ·exact HA.out j hj (by omega), bstep mle HB.out hb1⟩
    case measure => simp [intOf]; omega
   ·have HN := mh (idx_at (pr := nmIs q) hlt HA.out HZ.out)
    go_wp2_with (first | (go_at_call 97; (with_reducible refine cmo CE.out ?_); rintro e w1 ⟨rfl, hb1⟩))
    go_ret
    exact ⟨by rw [HN.out]; rfl, bstep mle HB.out hb1⟩
  ·obtain rfl : k = L.length := by omega
   have HN := mh (idx_none (pr := nmIs q) (fun j hj => HA.out j hj hj)); clear hall hb
   go_wp2
   go_ret
   exact ⟨by rw [HN.out]; rfl, HB.out⟩
theorem containsname_any {Q : Nat → Prop} (d : Nat) (p : Option Addr) (L : List Sch) (cap nb : Nat) (q : ByteArray) (w : World) (h : SsAt Q w d p L) (hc : w.cell? ⟨nb, 1, none⟩ = some (.string q)) (hl : nb < w.heap.size) :
  Calls Tryz.prog 96 #[.slice p L.length cap, .func (.func 97) #[] #[.pointer (some ⟨nb, 0, none⟩)]] w (BoolG (L.any (nmIs q)) w) := by
 have CI := mh (indexname_any d p L cap nb q w h hc hl); have HV := mh (idx_any (nmIs q) L); obtain ⟨i, ei⟩ : ∃ i, idx (nmIs q) L = i := ⟨_, rfl⟩; rw [ei] at CI HV; clear ei h hc
 go_enter Tryz.func96, Tryz.ntmps96
 go_wp2_with (first | (go_at_call 134; (with_reducible refine cmo CI.out ?_); rintro e w1 ⟨rfl, hb⟩))
 go_ret
 exact ⟨ret_bool HV.out, hb⟩
theorem reffind17_any {Q : Nat → Prop} (d : Nat) (p : Option Addr) (L : List Sch) (cap : Nat) (q : Int) (w : World) (h : SsAt Q w d p L) : Calls Tryz.prog 101 #[.slice p L.length cap, I O q] w (IntG (find17 L q) w) := by
 have hn := h.len; have H := mh h; rw [find_idx]; clear h
 go_enter Tryz.func101, Tryz.ntmps101
 go_wp2
 go_loopw [9] (fun i wr => ∃ k : Nat, k ≤ L.length ∧ i = I O k ∧ (∀ j (hj : j < L.length), j < k → numIs q L[j] = false) ∧ Below w.heap.size w wr) (fun i _ => L.length - (intOf i).toNat)
 case atStart => exact ⟨0, Nat.zero_le _, rfl, fun j hj hk => absurd hk (Nat.not_lt_zero j), brf _ _⟩
 case round =>
  obtain ⟨k, hk, rfl, hall, hb⟩ := hrel; have HA := mh hall; have HB := mh hb; have hk0 : (0 : Int) ≤ (k : Int) := inn _
  by_cases hlt : k < L.length
  ·obtain ⟨b, off, r, rfl, hbl, hC, hv⟩ := (H.out.below hb).at hlt
   have hk1 : (k : Int) < (L.length : Int) := by omega
   have HQ := mh hv.num; obtain ⟨c0, c1, c2, c3, c4, c5, c6, c7, c8, c9⟩ := hC; obtain ⟨num, nm, ⟨o, tn, tm, tp, tl, tc⟩, bp, bn, bc, least, ex, needs⟩ := r; simp only at c0 c1 c2 c3 c4 c5 c6 c7 c8 c9 HQ; clear hall hb hv; have HB1 := mh (balloc mle HB.out (.cells #[I O num, .string nm, I O o, I O tn, I O tm, .slice tp tl tc, .slice bp bn bc, I O least, I O ex, .bool needs] 101))
   by_cases e1 : num = q
   ·have HN := mh (idx_at (pr := numIs q) hlt HA.out (by unfold numIs; rw [← HQ.out]; exact beq_iff_eq.2 e1))
    subst e1
    go_wp2
    go_ret
    exact ⟨by rw [HN.out]; rfl, HB1.out⟩
   ·have HZ := mh (show numIs q L[k] = false by unfold numIs; rw [← HQ.out]; exact beq_false_of_ne e1)
    go_wp2
    go_roundw
    case rel => exact ⟨k + 1, by omega, by go_num, fun j hj hjk => by
     by_cases e : j = k
     ·subst e; exact HZ.out
     ·exact HA.out j hj (by omega), HB1.out⟩
    case measure => simp [intOf]; omega
  ·obtain rfl : k = L.length := by omega
   have HN := mh (idx_none (pr := numIs q) (fun j hj => HA.out j hj hj)); clear hall hb
   go_wp2
   go_ret
   exact ⟨by rw [HN.out]; rfl, HB.out⟩
theorem find17_neg {L : List Sch} {n : Int} (h : find17 L n < 0) : (L.find? fun x => x.num == n) = none := by
 unfold find17 at h
 cases e : L.findIdx? fun s => s.num == n with
 | none =>
   rw [List.find?_eq_none]; intro x hx; rw [List.findIdx?_eq_none_iff.1 e x hx]
   decide
 | some k => rw [e] at h; simp only at h; omega
theorem find17_pos {L : List Sch} {n : Int} {k : Nat} (h : find17 L n = (k : Int)) : ∃ hk : k < L.length, (L.find? fun x => x.num == n) = some L[k] := by
 unfold find17 at h
 cases e : L.findIdx? fun s => s.num == n with
 | none => rw [e] at h; simp only at h; omega
 | some j =>
   rw [e] at h; simp only at h; obtain rfl : j = k := by omega
   obtain ⟨hk, h1, h2⟩ := List.findIdx?_eq_some_iff_getElem.1 e; refine ⟨hk, List.find?_eq_some_iff_getElem.2 ⟨h1, j, hk, rfl, fun i hi => ?_⟩⟩; have := h2 i hi
   simpa using this
theorem find17_ge (L : List Sch) (n : Int) : -1 ≤ find17 L n ∧ find17 L n < (L.length : Int) := idx_ge _ L
theorem mut_bad {L : List Sch} {s : Sch} {k : Nat} (hk : k < 16) (h : mutN L s k = false) : mutual17 L s = false := by
 unfold mutual17; rw [Bool.eq_false_iff]; intro h2; rw [List.all_eq_true] at h2; rw [h2 k (List.mem_range.2 hk)] at h
 cases h
theorem mut_zero {L : List Sch} {s : Sch} {k : Nat} (h : bitB s.ex k = false) : mutN L s k = true := by unfold mutN; rw [if_pos h]
theorem mut_none {L : List Sch} {s : Sch} {k : Nat} (h : bitB s.ex k = true) (h2 : find17 L k < 0) : mutN L s k = false := by
 unfold mutN; rw [if_neg (by rw [h]; decide), find17_neg h2]
theorem mut_some {L : List Sch} {s : Sch} {k j : Nat} (h : bitB s.ex k = true) (h2 : find17 L k = (j : Int)) (hj : j < L.length) : mutN L s k = bitB L[j].ex s.num := by
 obtain ⟨_, e⟩ := find17_pos h2; unfold mutN; rw [if_neg (by rw [h]; decide), e]
theorem all_range_succ (f : Nat → Bool) (k : Nat) : (List.range (k + 1)).all f = ((List.range k).all f && f k) := by
 rw [List.range_succ, List.all_append]; simp
theorem mutual_any {Q : Nat → Prop} (d : Nat) (p : Option Addr) (L : List Sch) (cap : Nat) (r : RSx) (s : Sch) (w : World) (h : SsAt Q w d p L) (hn : r.num = s.num) (he : r.ex = s.ex) (h0 : 0 ≤ r.num) (h15 : r.num ≤ 15) :
  Calls Tryz.prog 98 #[.slice p L.length cap, .agg #[I O r.num, .string r.nm, I O r.t.op, I O r.t.num, I O r.t.more, .slice r.t.p r.t.n r.t.c, .slice r.bp r.bn r.bc, I O r.least, I O r.ex, .bool r.needs]] w (BoolG (mutual17 L s) w) := by
 have hlen := h.len; have H := mh h; have HN := mh hn; have HE := mh he; clear h hn he; obtain ⟨num, nm, ⟨o, tn, tm, tp, tl, tc⟩, bp, bn, bc, least, ex, needs⟩ := r; simp only at h0 h15 HN HE; have HA := mh (show Below w.heap.size w (w.alloc (.cells #[I O num, .string nm, I O o, I O tn, I O tm, .slice tp tl tc, .slice bp bn bc, I O least, I O ex, .bool needs] 101)) from (brf _ _).alloc mle _); have HAs := mh (show (w.alloc (.cells #[I O num, .string nm, I O o, I O tn, I O tm, .slice tp tl tc, .slice bp bn bc, I O least, I O ex, .bool needs] 101)).heap.size = w.heap.size + 1 by simp)
 go_enter Tryz.func98, Tryz.ntmps98
 go_wp2
 go_loopw [7] (fun i wr => ∃ k : Nat, k ≤ 16 ∧ i = I O k ∧ (List.range k).all (mutN L s) = true ∧ Below (w.heap.size + 1) (w.alloc (.cells #[I O num, .string nm, I O o, I O tn, I O tm, .slice tp tl tc, .slice bp bn bc, I O least, I O ex, .bool needs] 101)) wr) (fun i _ => 16 - (intOf i).toNat)
 case atStart => exact ⟨0, Nat.zero_le _, rfl, rfl, brf _ _⟩
 case round =>
  obtain ⟨wo, rfl⟩ : ∃ wo : World, wo = wr := ⟨_, rfl⟩; obtain ⟨k, hk, rfl, ha, hb⟩ := hrel; have HAL := mh ha; have HB := mh hb; have HBW := mh (show Below w.heap.size w wo from HA.out.trans (hb.mono (by omega))); have hk0 := mcell hb 0; have hk8 := mcell hb 8; have HSZ := mh (show w.heap.size + 1 ≤ wo.heap.size from HAs.out ▸ hb.size); obtain ⟨i, ei⟩ : ∃ i : Int, (k : Int) = i := ⟨_, rfl⟩; have EI := mh ei; have hi0 : (0 : Int) ≤ i := by omega
  rw [ei]
  by_cases hlt : k < 16
  ·have hi1 : i < 16 := by omega
   cases eb : bitB ex i
   ·have EB : (bits BinOp.and IntKind.i64 (ex / 2 ^ i.toNat) 1 == 0) = true := by rw [bit_zero, eb]; rfl
    have HM := mh (show (List.range (k + 1)).all (mutN L s) = true by rw [all_range_succ, HAL.out, mut_zero (by rw [← HE.out, EI.out]; exact eb)]; rfl); clear ha hb eb ei
    go_wp2
    go_roundw
    case rel => exact ⟨k + 1, by omega, by rw [← EI.out]; go_num, HM.out, HB.out⟩
    case measure => rw [← EI.out]; simp [intOf]; omega
   ·have EB : (bits BinOp.and IntKind.i64 (ex / 2 ^ i.toNat) 1 == 0) = false := by rw [bit_zero, eb]; rfl
    have EBH := mh (show bitB s.ex k = true by rw [← HE.out, EI.out]; exact eb); have CF := mh (find17_any d p L cap i wo (H.out.below HBW.out)); have FG := mh (find17_ge L i); obtain ⟨f, ef⟩ : ∃ f, find17 L i = f := ⟨_, rfl⟩; rw [ef] at CF FG; have EF := mh (show find17 L k = f by rw [EI.out]; exact ef); clear ha hb eb ei ef
    rcases Int.lt_or_le f 0 with hf | hf
    ·have HV := mh (mut_bad hlt (mut_none EBH.out (by rw [EF.out]; exact hf)))
     have d1 : decide (f < 0) = true := dqt hf; clear hf
     go_wp2_with (first | (go_at_call 135; (with_reducible refine cmo CF.out ?_); rintro e w1 ⟨rfl, hb1⟩; have HB1 := mh (bstep mle HBW.out hb1); clear hb1))
     go_quiet (fail)
     go_wp2
     go_ret
     exact ⟨ret_bool HV.out.symm, HB1.out.trans ((drewN_below _ _).mono HB1.out.size)⟩
    ·have d1 : decide (f < 0) = false := by rw [decide_eq_false_iff_not]; omega
     obtain ⟨j, rfl⟩ := Int.eq_ofNat_of_zero_le hf; have hj : j < L.length := by have := FG.out; omega
     have MS := mh (mut_some EBH.out EF.out hj); obtain ⟨b, off, x, rfl, hbl, hC, hv⟩ := (H.out.below HBW.out).at hj; have C8 := mh hC.c8; have hxe := hv.ex; have hj0' : (0 : Int) ≤ (j : Int) := inn _; have hj1' : (j : Int) < (L.length : Int) := by omega
     obtain ⟨xe, exe⟩ : ∃ xe, x.ex = xe := ⟨_, rfl⟩; rw [exe] at C8 hxe; have EN := HN.out
     cases eb2 : bitB xe num
     ·have EB2 : (bits BinOp.and IntKind.i64 (xe / 2 ^ num.toNat) 1 == 0) = true := by rw [bit_zero, eb2]; rfl
      have HV := mh (mut_bad hlt (by rw [MS.out, ← hxe, ← EN]; exact eb2)); clear hf hC hv eb2 hxe exe EN
      go_wp2_with (first | (go_at_call 135; (with_reducible refine cmo CF.out ?_); rintro e w1 ⟨rfl, hb1⟩; have HB1 := mh (bstep mle HBW.out hb1); have HB2 := mh (show Below (w.heap.size + 1) (w.alloc (.cells #[I O num, .string nm, I O o, I O tn, I O tm, .slice tp tl tc, .slice bp bn bc, I O least, I O ex, .bool needs] 101)) w1 from HB.out.trans (hb1.mono HSZ.out)); have hj0 := (hb1.cell (p := ⟨w.heap.size, 0, none⟩) HSZ.out).trans hk0; have hx8 := (hb1.cell (p := ⟨b, off + j * 10 + 8, none⟩) hbl).trans C8.out; clear hb1))
      go_quiet (fail)
      go_wp2
      go_ret
      exact ⟨ret_bool HV.out.symm, HB1.out.trans ((drewN_below _ _).mono HB1.out.size)⟩
     ·have EB2 : (bits BinOp.and IntKind.i64 (xe / 2 ^ num.toNat) 1 == 0) = false := by rw [bit_zero, eb2]; rfl
      have HM := mh (show (List.range (k + 1)).all (mutN L s) = true by rw [all_range_succ, HAL.out, MS.out, ← hxe, ← EN, eb2]; rfl); clear hf hC hv eb2 hxe exe EN
      go_wp2_with (first | (go_at_call 135; (with_reducible refine cmo CF.out ?_); rintro e w1 ⟨rfl, hb1⟩; have HB1 := mh (bstep mle HBW.out hb1); have HB2 := mh (show Below (w.heap.size + 1) (w.alloc (.cells #[I O num, .string nm, I O o, I O tn, I O tm, .slice tp tl tc, .slice bp bn bc, I O least, I O ex, .bool needs] 101)) w1 from HB.out.trans (hb1.mono HSZ.out)); have hj0 := (hb1.cell (p := ⟨w.heap.size, 0, none⟩) HSZ.out).trans hk0; have hx8 := (hb1.cell (p := ⟨b, off + j * 10 + 8, none⟩) hbl).trans C8.out; clear hb1))
      go_quiet (fail)
      go_wp2
      go_roundw
      case rel => exact ⟨k + 1, by omega, by rw [← EI.out]; go_num, HM.out, HB2.out.trans ((drewN_below _ _).mono (by have := HB2.out.size; have := HAs.out; omega))⟩
      case measure => rw [← EI.out]; simp [intOf]; omega
  ·obtain rfl : k = 16 := by omega
   have HV := mh (show mutual17 L s = true from ha); have hi1 : i = 16 := ei.symm; clear ha hb ei; subst hi1
   go_wp2
   go_ret
   exact ⟨ret_bool HV.out.symm, HBW.out⟩
def ChkG (v : Int × Int) (w : World) (e : Ending) (w' : World) : Prop := e = .returned (.tuple #[I O v.1, I O v.2]) ∧ Below w.heap.size w w'
theorem chk_long {L : List Sch} (h : 16 < L.length) : chk17 L = (0, 1) := by unfold chk17; rw [if_pos h]
theorem chk_A {L : List Sch} (h : ¬ 16 < L.length) {k : Nat} (hk : k < L.length) (ha : ∀ j, j < k → errA L j = 0) (h2 : errA L k ≠ 0) : chk17 L = ((k : Int), errA L k) := by
 unfold chk17; rw [if_neg h, fst_some hk ha h2]
theorem chk_B {L : List Sch} (h : ¬ 16 < L.length) (hA : ∀ j, j < L.length → errA L j = 0) {k : Nat} (hk : k < L.length) (ha : ∀ j, j < k → errB L j = 0) (h2 : errB L k ≠ 0) : chk17 L = ((k : Int), 17) := by
 unfold chk17; rw [if_neg h, fst_none hA]; simp only; rw [fst_some hk ha h2]
theorem chk_ok {L : List Sch} (h : ¬ 16 < L.length) (hA : ∀ j, j < L.length → errA L j = 0) (hB : ∀ j, j < L.length → errB L j = 0) : chk17 L = (-1, 0) := by
 unfold chk17; rw [if_neg h, fst_none hA]; simp only; rw [fst_none hB]
theorem errA_one {L : List Sch} {k : Nat} (hk : k < L.length) (h : one17 L[k] ≠ 0) : errA L k = one17 L[k] := by
 unfold errA; rw [List.getElem?_eq_getElem hk]; simp only; rw [if_pos h]
theorem errA_twice {L : List Sch} {k : Nat} (hk : k < L.length) (h : one17 L[k] = 0) : errA L k = if twice L k L[k] = true then 6 else 0 := by
 unfold errA; rw [List.getElem?_eq_getElem hk]; simp only; rw [if_neg (by omega)]
theorem errB_at {L : List Sch} {k : Nat} (hk : k < L.length) : errB L k = if mutual17 L L[k] = true then 0 else 17 := by
 unfold errB; rw [List.getElem?_eq_getElem hk]
theorem one_num {s : Sch} (h : one17 s = 0) : 0 ≤ s.num ∧ s.num ≤ 15 := by
 unfold one17 at h
 split at h
 ·cases h
 ·omega
theorem errA_num {L : List Sch} {k : Nat} (hk : k < L.length) (h : errA L k = 0) : 0 ≤ L[k].num ∧ L[k].num ≤ 15 := by
 by_cases h1 : one17 L[k] = 0
 ·exact one_num h1
 ·rw [errA_one hk h1] at h; exact absurd h h1
theorem twice_num {L : List Sch} {m : Nat} {s : Sch} (hm : m < L.length) (h : s.num ≤ L[m].num) : twice L (m + 1) s = true := by
 unfold twice; simp only; rw [List.getElem?_eq_getElem hm]; simp only; rw [dqt h, Bool.true_or]
theorem twice_any {L : List Sch} {m : Nat} {s : Sch} (hm : m < L.length) (h : ¬ s.num ≤ L[m].num) : twice L (m + 1) s = (L.take (m + 1)).any (nmIs s.nm) := by
 unfold twice; simp only; rw [List.getElem?_eq_getElem hm]; simp only; rw [dqf h, Bool.false_or]; rfl
theorem twice_zero {L : List Sch} {s : Sch} : twice L 0 s = (L.take 0).any (nmIs s.nm) := by
 unfold twice; simp
theorem wp_tailQ {P : Program} {id : Nat} {Q : Exit → Act → World → Prop} {a : Act} {w : World} {l : List Oper} (n : Nat) (hm : P.follows .mixedOrders = true) (hB : Region.lexTailB .any l.toArray n = true)
  (h : ∀ R : Act → Prop, (∀ a', wpList P l.toArray Q (l.drop n) a' w.drew → R a') → wpStill P l.toArray w.drew R (l.take n) a) : (Code.region id l.toArray true).wp P Q a w := wp_tail n hm hB (h _ fun _ k => k)
theorem wpStill_skip {P : Program} {ops : Array Oper} {w : World} {Q : Act → Prop} {a : Act} {o : Oper} {rest : List Oper} (h0 : Region.wanted o (yielded ops a.tmps) = false) (h : wpStill P ops w Q rest (a.put o.dst undef)) : wpStill P ops w Q (o :: rest) a := by
 rw [wpStill, if_neg (by rw [h0]; simp)]; exact h
theorem check17_any {Q : Nat → Prop} (d : Nat) (p : Option Addr) (L : List Sch) (cap : Nat) (w : World) (h : SsAt Q w d p L) (hz : ∀ s ∈ L, s.nm.size ≤ 9223372036854775807) (hcap : L.length ≤ cap) :
  Calls Tryz.prog 58 #[.slice p L.length cap] w (ChkG (chk17 L) w) := by
 have hlen := h.len; have H := mh h; have HZ := mh hz; clear h hz; obtain ⟨cv, ecv⟩ : ∃ v, chk17 L = v := ⟨_, rfl⟩; rw [ecv]; have ECV := mh ecv; clear ecv
 by_cases h16 : 16 < L.length
 ·have HV := mh (show cv = (0, 1) from ECV.out ▸ chk_long h16)
  go_enter Tryz.func58, Tryz.ntmps58
  go_wp2
  go_ret2
  exact ⟨by rw [HV.out]; rfl, brf _ _⟩
 go_enter Tryz.func58, Tryz.ntmps58
 go_wp2
 go_loopw [14] (fun i wr => ∃ k : Nat, k ≤ L.length ∧ i = I O k ∧ (∀ j, j < k → errA L j = 0) ∧ Below w.heap.size w wr) (fun i _ => L.length - (intOf i).toNat)
 case atStart => exact ⟨0, Nat.zero_le _, rfl, fun j hj => absurd hj (Nat.not_lt_zero j), brf _ _⟩
 case round =>
  obtain ⟨wo, rfl⟩ : ∃ wo : World, wo = wr := ⟨_, rfl⟩; obtain ⟨k, hk, rfl, ha, hb⟩ := hrel; have HAL := mh ha; have HB := mh hb; have hk0 : (0 : Int) ≤ (k : Int) := inn _
  by_cases hlt : k < L.length
  ·have hk1 : (k : Int) < (L.length : Int) := by omega
   obtain ⟨b, off, r, rfl, hbl, hC, hv⟩ := (H.out.below hb).at hlt; have CV := mh (valid_any d r L[k] _ (hv.below (balloc mle (brf _ _) (.cells (sCells r).toArray 101))) (by rw [hv.nm]; exact HZ.out _ (List.getElem_mem hlt))); have HQ := mh hv; have RN := mh hv.nm; have RU := mh hv.num; obtain ⟨c0, c1, c2, c3, c4, c5, c6, c7, c8, c9⟩ := hC; obtain ⟨num, nm, ⟨o, tn, tm, tp, tl, tc⟩, bp, bn, bc, least, ex, needs⟩ := r; simp only at c0 c1 c2 c3 c4 c5 c6 c7 c8 c9 RN RU; simp only [sCells] at CV; have HBA := mh (balloc mle HB.out (.cells #[I O num, .string nm, I O o, I O tn, I O tm, .slice tp tl tc, .slice bp bn bc, I O least, I O ex, .bool needs] 101)); obtain ⟨v, ev⟩ : ∃ v, one17 L[k] = v := ⟨_, rfl⟩; have EV := mh ev; rw [ev] at CV; clear ha hb hv ev
   by_cases hv0 : v = 0
   ·subst hv0
    have E6 := mh (fun (h : twice L k L[k] = true) => (show cv = ((k : Int), 6) from by rw [← ECV.out, chk_A h16 hlt HAL.out (by rw [errA_twice hlt EV.out, if_pos h]; decide), errA_twice hlt EV.out, if_pos h])); have E0 := mh (fun (h : twice L k L[k] = false) => (show errA L k = 0 from by rw [errA_twice hlt EV.out, if_neg (by rw [h]; decide)]))
    have CN := mh (fun (W : World) (hW : Below w.heap.size w W) (hc1 : W.cell? ⟨wo.heap.size, 1, none⟩ = some (.string nm)) (hl1 : wo.heap.size < W.heap.size) => (show Calls Tryz.prog 96 #[.slice (some ⟨b, off, none⟩) k cap, .func (.func 97) #[] #[.pointer (some ⟨wo.heap.size, 0, none⟩)]] W (BoolG ((L.take k).any (nmIs nm)) W) from by
     have := containsname_any d (some ⟨b, off, none⟩) (L.take k) cap wo.heap.size nm W ((H.out.below hW).take k) hc1 hl1; rw [List.length_take, Nat.min_eq_left hk] at this
     exact this))
    rcases Nat.eq_zero_or_pos k with hk00 | hkp
    ·subst hk00
     have TW := mh (show twice L 0 L[0] = (L.take 0).any (nmIs nm) from by rw [RN.out]; exact twice_zero); have TF : (L.take 0).any (nmIs nm) = false := by simp
     rw [TF] at CN TW; clear TF; have hcz : (0 : Int) ≤ (cap : Int) := inn _
     ·have HV := mh (E0.out TW.out)
      rw [Nat.zero_mul, Nat.add_zero] at c0 c1 c2 c3 c4 c5 c6 c7 c8 c9; rw [show ((0 : Nat) : Int) = 0 from rfl]
      go_wp2_with (first | (go_at_call 95; (with_reducible refine cmo CV.out ?_); rintro e w1 ⟨rfl, hb1⟩; have HB1 := mh (bstep mle HBA.out hb1); have v0 := mcell hb1 0; have v1 := mcell hb1 1; have v2 := mcell hb1 2; have v3 := mcell hb1 3; have v4 := mcell hb1 4; have v5 := mcell hb1 5; have v6 := mcell hb1 6; have v7 := mcell hb1 7; have v8 := mcell hb1 8; have v9 := mcell hb1 9; have HD1 := mh (show Below w.heap.size w w1.drew from HB1.out.drew); have HS1 := mh (show wo.heap.size < w1.heap.size from nll (by simp) hb1.size); clear hb1))
      refine wp_tailQ 18 (by kernel_rfl) (by kernel_rfl) (fun R hR => ?_)
      simp only [List.take_succ_cons, List.take_zero, List.drop_succ_cons, List.drop_zero] at hR ⊢
      still_step
      still_step
      still_step
      iterate 9 ((with_reducible refine wpStill_skip (by kernel_rfl) ?_); simp only [Act.put, mnA, mnB, mnC])
      still_step
      still_step
      still_step
      still_step
      still_step
      still_step
      with_reducible refine wpStill_nil ?_
      with_reducible refine hR _ ?_
      clear hR R; have CW := mh (CN.out w1.drew HD1.out v1 HS1.out)
      go_wp2_with (first | (go_at_call 96; (with_reducible refine cmo CW.out ?_); rintro e w2 ⟨rfl, hb2⟩; have HB2 := mh (HD1.out.trans (hb2.mono HD1.out.size)); clear hb2))
      go_roundw
      case rel => exact ⟨1, by omega, by go_num, fun j hj => by
       by_cases e : j = 0
       ·subst e; exact HV.out
       ·omega, HB2.out⟩
      case measure => simp [intOf]; omega
    ·obtain ⟨m, rfl⟩ : ∃ m, k = m + 1 := ⟨k - 1, by omega⟩
     obtain ⟨b', off', y, ey, -, hCy, hy⟩ := (H.out.below HB.out).at (show m < L.length by omega)
     cases ey
     have Y0 := mh hCy.c0; have YN := mh hy.num; obtain ⟨pn, epn⟩ : ∃ x, y.num = x := ⟨_, rfl⟩; rw [epn] at Y0 YN; clear hCy hy epn; obtain ⟨i, ei⟩ : ∃ i : Int, ((m + 1 : Nat) : Int) = i := ⟨_, rfl⟩; have EI := mh ei
     by_cases hle : num ≤ pn
     ·have HV := mh (E6.out (twice_num (by omega) (by rw [← RU.out, ← YN.out]; exact hle)))
      have d1 : decide (num ≤ pn) = true := dqt hle; clear hle ei
      go_wp2_with (first | (go_at_call 95; (with_reducible refine cmo CV.out ?_); rintro e w1 ⟨rfl, hb1⟩; have HB1 := mh (bstep mle HBA.out hb1); have v0 := mcell hb1 0; have v1 := mcell hb1 1; have v2 := mcell hb1 2; have v3 := mcell hb1 3; have v4 := mcell hb1 4; have v5 := mcell hb1 5; have v6 := mcell hb1 6; have v7 := mcell hb1 7; have v8 := mcell hb1 8; have v9 := mcell hb1 9; have HD1 := mh (show Below w.heap.size w w1.drew from HB1.out.drew); have HS1 := mh (show wo.heap.size < w1.heap.size from nll (by simp) hb1.size); have hy0 := (hb1.cell (p := ⟨b, off + m * 10, none⟩) (show b < (wo.alloc _).heap.size by simp; omega)).trans ((World.cell?_alloc_past _ _ _ hbl).trans Y0.out); clear hb1))
      go_quiet (fail)
      go_wp2
      go_ret2
      exact ⟨by rw [HV.out]; rfl, HB1.out.trans ((drewN_below _ _).mono HB1.out.size)⟩
     ·have d1 : decide (num ≤ pn) = false := dqf hle
      have TW := mh (show twice L (m + 1) L[m + 1] = (L.take (m + 1)).any (nmIs nm) from by rw [RN.out]; exact twice_any (by omega) (by rw [← RU.out, ← YN.out]; exact hle)); obtain ⟨z, ez⟩ : ∃ z, (L.take (m + 1)).any (nmIs nm) = z := ⟨_, rfl⟩; rw [ez] at CN TW; obtain ⟨j, ej⟩ : ∃ j : Int, (m : Int) = j := ⟨_, rfl⟩; have hi0 : 0 < i := by omega
      have hi1 : i < (L.length : Int) := by omega
      have hic : i ≤ (cap : Int) := by omega
      have hit : i.toNat = m + 1 := by omega
      have hij : i - 1 = j := by omega
      have hj0 : 0 ≤ j := by omega
      have hj1 : j < (L.length : Int) := by omega
      have hjt : j.toNat = m := by omega
      have hw : IntKind.i64.wrap (i - 1) = j := by rw [hij, IntKind.wrap_i64]; omega
      rw [ei]; rw [ei] at hk0 hk1; have hwj : IntKind.i64.wrap j = j := by rw [IntKind.wrap_i64]; omega
      clear hle ei ez ej hij
      cases z
      ·have HV := mh (E0.out TW.out)
       go_wp2_with (first | (go_at_call 95; (with_reducible refine cmo CV.out ?_); rintro e w1 ⟨rfl, hb1⟩; have HB1 := mh (bstep mle HBA.out hb1); have v0 := mcell hb1 0; have v1 := mcell hb1 1; have v2 := mcell hb1 2; have v3 := mcell hb1 3; have v4 := mcell hb1 4; have v5 := mcell hb1 5; have v6 := mcell hb1 6; have v7 := mcell hb1 7; have v8 := mcell hb1 8; have v9 := mcell hb1 9; have HD1 := mh (show Below w.heap.size w w1.drew from HB1.out.drew); have HS1 := mh (show wo.heap.size < w1.heap.size from nll (by simp) hb1.size); have hy0 := (hb1.cell (p := ⟨b, off + m * 10, none⟩) (show b < (wo.alloc _).heap.size by simp; omega)).trans ((World.cell?_alloc_past _ _ _ hbl).trans Y0.out); clear hb1))
       refine wp_tailQ 18 (by kernel_rfl) (by kernel_rfl) (fun R hR => ?_)
       simp only [List.take_succ_cons, List.take_zero, List.drop_succ_cons, List.drop_zero] at hR ⊢
       iterate 18 still_step
       with_reducible refine wpStill_nil ?_
       with_reducible refine hR _ ?_
       clear hR R; have CW := mh (CN.out w1.drew HD1.out v1 HS1.out)
       go_wp2_with (first | (go_at_call 96; (with_reducible refine cmo CW.out ?_); rintro e w2 ⟨rfl, hb2⟩; have HB2 := mh (HD1.out.trans (hb2.mono HD1.out.size)); clear hb2))
       go_roundw
       case rel => exact ⟨m + 1 + 1, by omega, by rw [← EI.out]; go_num, fun j hj => by
        by_cases e : j = m + 1
        ·subst e; exact HV.out
        ·exact HAL.out j (by omega), HB2.out⟩
       case measure => rw [← EI.out]; simp [intOf]; omega
      ·have HV := mh (E6.out TW.out)
       go_wp2_with (first | (go_at_call 95; (with_reducible refine cmo CV.out ?_); rintro e w1 ⟨rfl, hb1⟩; have HB1 := mh (bstep mle HBA.out hb1); have v0 := mcell hb1 0; have v1 := mcell hb1 1; have v2 := mcell hb1 2; have v3 := mcell hb1 3; have v4 := mcell hb1 4; have v5 := mcell hb1 5; have v6 := mcell hb1 6; have v7 := mcell hb1 7; have v8 := mcell hb1 8; have v9 := mcell hb1 9; have HD1 := mh (show Below w.heap.size w w1.drew from HB1.out.drew); have HS1 := mh (show wo.heap.size < w1.heap.size from nll (by simp) hb1.size); have hy0 := (hb1.cell (p := ⟨b, off + m * 10, none⟩) (show b < (wo.alloc _).heap.size by simp; omega)).trans ((World.cell?_alloc_past _ _ _ hbl).trans Y0.out); clear hb1))
       refine wp_tailQ 18 (by kernel_rfl) (by kernel_rfl) (fun R hR => ?_)
       simp only [List.take_succ_cons, List.take_zero, List.drop_succ_cons, List.drop_zero] at hR ⊢
       iterate 18 still_step
       with_reducible refine wpStill_nil ?_
       with_reducible refine hR _ ?_
       clear hR R; have CW := mh (CN.out w1.drew HD1.out v1 HS1.out)
       go_wp2_with (first | (go_at_call 96; (with_reducible refine cmo CW.out ?_); rintro e w2 ⟨rfl, hb2⟩; have HB2 := mh (HD1.out.trans (hb2.mono HD1.out.size)); clear hb2))
       go_ret2
       exact ⟨by rw [HV.out, EI.out]; rfl, HB2.out⟩
   ·have HV := mh (show cv = ((k : Int), v) from by rw [← ECV.out, chk_A h16 hlt HAL.out (by rw [errA_one hlt (by rw [EV.out]; exact hv0), EV.out]; exact hv0), errA_one hlt (by rw [EV.out]; exact hv0), EV.out])
    go_wp2_with (first | (go_at_call 95; (with_reducible refine cmo CV.out ?_); rintro e w1 ⟨rfl, hb1⟩; have HB1 := mh (bstep mle HBA.out hb1); have v0 := mcell hb1 0; have v1 := mcell hb1 1; have v2 := mcell hb1 2; have v3 := mcell hb1 3; have v4 := mcell hb1 4; have v5 := mcell hb1 5; have v6 := mcell hb1 6; have v7 := mcell hb1 7; have v8 := mcell hb1 8; have v9 := mcell hb1 9; clear hb1))
    go_ret2
    exact ⟨by rw [HV.out]; rfl, HB1.out⟩
  ·obtain rfl : k = L.length := by omega
   clear ha hb; have HBO := HB
   go_wp2
   go_loopw [49] (fun i wr => ∃ k : Nat, k ≤ L.length ∧ i = I O k ∧ (∀ j, j < k → errB L j = 0) ∧ Below w.heap.size w wr) (fun i _ => L.length - (intOf i).toNat)
   case atStart => exact ⟨0, Nat.zero_le _, rfl, fun j hj => absurd hj (Nat.not_lt_zero j), HBO.out⟩
   case round =>
    obtain ⟨wp, rfl⟩ : ∃ wp : World, wp = wr := ⟨_, rfl⟩; obtain ⟨k, hk, rfl, ha, hb⟩ := hrel; have HBL := mh ha; have HC := mh hb; have hk0' : (0 : Int) ≤ (k : Int) := inn _
    by_cases hlt : k < L.length
    ·have hk1 : (k : Int) < (L.length : Int) := by omega
     obtain ⟨b, off, r, rfl, hbl, hCc, hv⟩ := (H.out.below hb).at hlt; have HN := errA_num hlt (HAL.out k hlt); have CV := mh (mutual_any d (some ⟨b, off, none⟩) L cap r L[k] _ (H.out.below (balloc mle hb (.cells (sCells r).toArray 101))) hv.num hv.ex (by rw [hv.num]; exact HN.1) (by rw [hv.num]; exact HN.2)); obtain ⟨c0, c1, c2, c3, c4, c5, c6, c7, c8, c9⟩ := hCc; obtain ⟨num, nm, ⟨o, tn, tm, tp, tl, tc⟩, bp, bn, bc, least, ex, needs⟩ := r; simp only at c0 c1 c2 c3 c4 c5 c6 c7 c8 c9; simp only [sCells] at CV; have HBA := mh (balloc mle HC.out (.cells #[I O num, .string nm, I O o, I O tn, I O tm, .slice tp tl tc, .slice bp bn bc, I O least, I O ex, .bool needs] 101)); have ER := mh (errB_at hlt); obtain ⟨mb, em⟩ : ∃ v, mutual17 L L[k] = v := ⟨_, rfl⟩; rw [em] at CV ER; clear ha hb hv em HN
     cases mb
     ·have HV := mh (show cv = ((k : Int), 17) from by rw [← ECV.out, chk_B h16 HAL.out hlt HBL.out (by rw [ER.out]; decide)])
      go_wp2_with (first | (go_at_call 98; (with_reducible refine cmo CV.out ?_); rintro e w1 ⟨rfl, hb1⟩; have HB1 := mh (bstep mle HBA.out hb1); clear hb1))
      go_ret2
      exact ⟨by rw [HV.out]; rfl, HB1.out⟩
     ·go_wp2_with (first | (go_at_call 98; (with_reducible refine cmo CV.out ?_); rintro e w1 ⟨rfl, hb1⟩; have HB1 := mh (bstep mle HBA.out hb1); clear hb1))
      go_roundw
      case rel => exact ⟨k + 1, by omega, by go_num, fun j hj => by
       by_cases e : j = k
       ·subst e; rw [ER.out]; rfl
       ·exact HBL.out j (by omega), HB1.out⟩
      case measure => simp [intOf]; omega
    ·obtain rfl : k = L.length := by omega
     have HV := mh (show cv = (-1, 0) from ECV.out ▸ chk_ok h16 HAL.out HBL.out); clear ha hb
     go_wp2
     go_ret2
     exact ⟨by rw [HV.out]; rfl, HC.out⟩
end Go.Proofs.YtmlfcpglhipjgaaGreat

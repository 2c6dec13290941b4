/-
  PACKED (pack8.py): what is needed of the texts Q11, Q12, Q6, Rh, Ra, Er, Ca.
-/
import Derived.Test.YtmlfcpglhipjgaaGreatM10
set_option maxRecDepth 100000
set_option maxHeartbeats 8000000
open Go.Value renaming int → I
open Go.IntKind renaming i64 → O
namespace Go.Proofs.YtmlfcpglhipjgaaGreat
open Go.RowKit Sc
theorem info_lim : (Tryz.prog.info? 239).map (fun i => (i.zero, i.size, i.bytes)) = some (some (.agg #[I O 0, I O 0]), 2, 16) := by kernel_rfl
theorem el_lim : Elem SBk Tryz.prog 239 235 16 := by
 obtain ⟨i0, h1, h2, h3, h4⟩ := info_parts info_lim; exact ⟨⟨i0, _, h1, h2, h3, h4, rfl⟩, Tryz.underlying235⟩
theorem OwnR.litB {α : Type} {S : Shape α} (w : World) (T : TypeId) (L : List α) (hl : L.length ≤ maxLen) : OwnR S (w.alloc (.cells (S.flat L).toArray T)) T w.heap.size (.slice (some ⟨w.heap.size, 0, none⟩) L.length L.length) L :=
 OwnR.of_block (cur := (S.flat L).toArray) (World.alloc_heap_new _ _) mle mle hl (by simp [S.flat_len]) (by rw [List.take_of_length_le (by simp [S.flat_len])])
def As.limT (o : Option (Int × Int)) : List Brk := match o with | some (r, a) => [⟨r, a⟩] | none => []
def As.limD (f : As.Fct) (width : Int) : List Brk := ⟨1, f.due⟩ :: As.limT (As.lim f width)
def As.LimG (D : List Brk) (w : World) (e : Ending) (w' : World) : Prop := ∃ p c, e = .returned (.tuple #[.slice p D.length c, I O 0]) ∧ Recs SBk w' p D ∧ Below w.heap.size w w'
theorem As.LimG.row {w w1 : World} {v : Value} {D : List Brk} (h : OwnR SBk w1 239 w.heap.size v D) (hb : Below w.heap.size w w1) : As.LimG D w (.returned (.tuple #[v, I O 0])) w1 := by
 obtain ⟨p, c, rfl, -, -, -, -, hr⟩ := h.cut rfl; exact ⟨p, c, rfl, hr, hb⟩
theorem lim_season (d u : Int) (a b width : Int) (w : World) : Calls Tryz.prog 191 #[.agg #[I O d, I O u, I O (-1), I O 0, I O a, I O b], I O width] w (As.LimG [⟨1, u⟩, ⟨2, 0⟩] w) := by
 have HA := mh (balloc mle (brf w.heap.size w) (.cells #[I O d, I O u, I O (-1), I O 0, I O a, I O b] 135))
 have HL := mh (show OwnR SBk ((w.alloc (.cells #[I O d, I O u, I O (-1), I O 0, I O a, I O b] 135)).alloc (.cells #[I O 1, I O u] 239)) 239 w.heap.size (.slice (some ⟨w.heap.size + 1, 0, none⟩) 1 1) [⟨1, u⟩] from by
  have h := OwnR.litB (S := SBk) (w.alloc (.cells #[I O d, I O u, I O (-1), I O 0, I O a, I O b] 135)) 239 [⟨1, u⟩] (by unfold maxLen; simp); rw [World.size_alloc] at h
  exact OwnR.mono h (by omega))
 have HB := mh (balloc mle HA.out (.cells #[I O 1, I O u] 239)); have HS := mh (show w.heap.size ≤ ((w.alloc (.cells #[I O d, I O u, I O (-1), I O 0, I O a, I O b] 135)).alloc (.cells #[I O 1, I O u] 239)).heap.size by simp <;> omega)
 go_enter Tryz.func191, Tryz.ntmps191
 go_wp2_with (first | (at_builtin; (refine OwnR.append el_lim rfl (.tmp 21) (.tmp 23) rfl w.heap.size _ [⟨1, u⟩] ⟨2, 0⟩ #[I O 2, I O 0] rfl HL.out rfl (by simp [Act.eval]) HS.out (by simp) (by decide) ?_); intro v5 w5 hO5 hap5; have HO5 := mh hO5; have HB5 := mh (HB.out.trans hap5.below); clear hO5 hap5) | fail)
 go_ret2
 exact As.LimG.row HO5.out HB5.out
theorem lim_refused (d u : Int) (s : Int) (a b width : Int) (w : World) : Calls Tryz.prog 191 #[.agg #[I O d, I O u, I O s, I O 4, I O a, I O b], I O width] w (As.LimG [⟨1, u⟩, ⟨3, 0⟩] w) := by
 have HA := mh (balloc mle (brf w.heap.size w) (.cells #[I O d, I O u, I O s, I O 4, I O a, I O b] 135))
 have HL := mh (show OwnR SBk ((w.alloc (.cells #[I O d, I O u, I O s, I O 4, I O a, I O b] 135)).alloc (.cells #[I O 1, I O u] 239)) 239 w.heap.size (.slice (some ⟨w.heap.size + 1, 0, none⟩) 1 1) [⟨1, u⟩] from by
  have h := OwnR.litB (S := SBk) (w.alloc (.cells #[I O d, I O u, I O s, I O 4, I O a, I O b] 135)) 239 [⟨1, u⟩] (by unfold maxLen; simp); rw [World.size_alloc] at h
  exact OwnR.mono h (by omega))
 have HB := mh (balloc mle HA.out (.cells #[I O 1, I O u] 239)); have HS := mh (show w.heap.size ≤ ((w.alloc (.cells #[I O d, I O u, I O s, I O 4, I O a, I O b] 135)).alloc (.cells #[I O 1, I O u] 239)).heap.size by simp <;> omega)
 go_enter Tryz.func191, Tryz.ntmps191
 go_wp2_with (first | (at_builtin; (refine OwnR.append el_lim rfl (.tmp 27) (.tmp 29) rfl w.heap.size _ [⟨1, u⟩] ⟨3, 0⟩ #[I O 3, I O 0] rfl HL.out rfl (by simp [Act.eval]) HS.out (by simp) (by decide) ?_); intro v5 w5 hO5 hap5; have HO5 := mh hO5; have HB5 := mh (HB.out.trans hap5.below); clear hO5 hap5) | fail)
 go_ret2
 exact As.LimG.row HO5.out HB5.out
theorem lim_nothing (d u : Int) (s : Int) (a b width : Int) (w : World) : Calls Tryz.prog 191 #[.agg #[I O d, I O u, I O s, I O 3, I O a, I O b], I O width] w (As.LimG [⟨1, u⟩, ⟨4, 0⟩] w) := by
 have HA := mh (balloc mle (brf w.heap.size w) (.cells #[I O d, I O u, I O s, I O 3, I O a, I O b] 135))
 have HL := mh (show OwnR SBk ((w.alloc (.cells #[I O d, I O u, I O s, I O 3, I O a, I O b] 135)).alloc (.cells #[I O 1, I O u] 239)) 239 w.heap.size (.slice (some ⟨w.heap.size + 1, 0, none⟩) 1 1) [⟨1, u⟩] from by
  have h := OwnR.litB (S := SBk) (w.alloc (.cells #[I O d, I O u, I O s, I O 3, I O a, I O b] 135)) 239 [⟨1, u⟩] (by unfold maxLen; simp); rw [World.size_alloc] at h
  exact OwnR.mono h (by omega))
 have HB := mh (balloc mle HA.out (.cells #[I O 1, I O u] 239)); have HS := mh (show w.heap.size ≤ ((w.alloc (.cells #[I O d, I O u, I O s, I O 3, I O a, I O b] 135)).alloc (.cells #[I O 1, I O u] 239)).heap.size by simp <;> omega)
 go_enter Tryz.func191, Tryz.ntmps191
 go_wp2_with (first | (at_builtin; (refine OwnR.append el_lim rfl (.tmp 33) (.tmp 35) rfl w.heap.size _ [⟨1, u⟩] ⟨4, 0⟩ #[I O 4, I O 0] rfl HL.out rfl (by simp [Act.eval]) HS.out (by simp) (by decide) ?_); intro v5 w5 hO5 hap5; have HO5 := mh hO5; have HB5 := mh (HB.out.trans hap5.below); clear hO5 hap5) | fail)
 go_ret2
 exact As.LimG.row HO5.out HB5.out
theorem lim_crop (d u : Int) (s : Int) (a b width : Int) (w : World) : Calls Tryz.prog 191 #[.agg #[I O d, I O u, I O s, I O 2, I O a, I O b], I O width] w (As.LimG [⟨1, u⟩, ⟨5, 0⟩] w) := by
 have HA := mh (balloc mle (brf w.heap.size w) (.cells #[I O d, I O u, I O s, I O 2, I O a, I O b] 135))
 have HL := mh (show OwnR SBk ((w.alloc (.cells #[I O d, I O u, I O s, I O 2, I O a, I O b] 135)).alloc (.cells #[I O 1, I O u] 239)) 239 w.heap.size (.slice (some ⟨w.heap.size + 1, 0, none⟩) 1 1) [⟨1, u⟩] from by
  have h := OwnR.litB (S := SBk) (w.alloc (.cells #[I O d, I O u, I O s, I O 2, I O a, I O b] 135)) 239 [⟨1, u⟩] (by unfold maxLen; simp); rw [World.size_alloc] at h
  exact OwnR.mono h (by omega))
 have HB := mh (balloc mle HA.out (.cells #[I O 1, I O u] 239)); have HS := mh (show w.heap.size ≤ ((w.alloc (.cells #[I O d, I O u, I O s, I O 2, I O a, I O b] 135)).alloc (.cells #[I O 1, I O u] 239)).heap.size by simp <;> omega)
 go_enter Tryz.func191, Tryz.ntmps191
 go_wp2_with (first | (at_builtin; (refine OwnR.append el_lim rfl (.tmp 39) (.tmp 41) rfl w.heap.size _ [⟨1, u⟩] ⟨5, 0⟩ #[I O 5, I O 0] rfl HL.out rfl (by simp [Act.eval]) HS.out (by simp) (by decide) ?_); intro v5 w5 hO5 hap5; have HO5 := mh hO5; have HB5 := mh (HB.out.trans hap5.below); clear hO5 hap5) | fail)
 go_ret2
 exact As.LimG.row HO5.out HB5.out
theorem lim_none (d u s : Int) (a b width : Int) (w : World) (hs : s ≠ -1) : Calls Tryz.prog 191 #[.agg #[I O d, I O u, I O s, I O 0, I O a, I O b], I O width] w (As.LimG [⟨1, u⟩] w) := by
 have HA := mh (balloc mle (brf w.heap.size w) (.cells #[I O d, I O u, I O s, I O 0, I O a, I O b] 135))
 have HL := mh (show OwnR SBk ((w.alloc (.cells #[I O d, I O u, I O s, I O 0, I O a, I O b] 135)).alloc (.cells #[I O 1, I O u] 239)) 239 w.heap.size (.slice (some ⟨w.heap.size + 1, 0, none⟩) 1 1) [⟨1, u⟩] from by
  have h := OwnR.litB (S := SBk) (w.alloc (.cells #[I O d, I O u, I O s, I O 0, I O a, I O b] 135)) 239 [⟨1, u⟩] (by unfold maxLen; simp); rw [World.size_alloc] at h
  exact OwnR.mono h (by omega))
 have HB := mh (balloc mle HA.out (.cells #[I O 1, I O u] 239)); have HS := mh (show w.heap.size ≤ ((w.alloc (.cells #[I O d, I O u, I O s, I O 0, I O a, I O b] 135)).alloc (.cells #[I O 1, I O u] 239)).heap.size by simp <;> omega)
 go_enter Tryz.func191, Tryz.ntmps191
 go_wp2_with (fail)
 go_ret2
 exact As.LimG.row HL.out HB.out
theorem lim_area (d u s : Int) (a b width : Int) (w : World) (hm : As.measB a b = true) (w0 : 0 ≤ width) (w1 : width ≤ 200) (c0 : 0 ≤ d) (c1 : d ≤ 268435456) : Calls Tryz.prog 191 #[.agg #[I O d, I O u, I O s, I O 1, I O a, I O b], I O width] w (As.LimG [⟨1, u⟩, ⟨6, As.accept d a b width⟩] w) := by
 have AC := mh (fun (W : World) => accept8_any d a b width W hm w0 w1 c0 c1); obtain ⟨V, eV⟩ : ∃ V, As.accept d a b width = V := ⟨_, rfl⟩; rw [eV] at AC ⊢; clear eV hm w0 w1 c0 c1; have HA := mh (balloc mle (brf w.heap.size w) (.cells #[I O d, I O u, I O s, I O 1, I O a, I O b] 135))
 have HL := mh (show OwnR SBk ((w.alloc (.cells #[I O d, I O u, I O s, I O 1, I O a, I O b] 135)).alloc (.cells #[I O 1, I O u] 239)) 239 w.heap.size (.slice (some ⟨w.heap.size + 1, 0, none⟩) 1 1) [⟨1, u⟩] from by
  have h := OwnR.litB (S := SBk) (w.alloc (.cells #[I O d, I O u, I O s, I O 1, I O a, I O b] 135)) 239 [⟨1, u⟩] (by unfold maxLen; simp); rw [World.size_alloc] at h
  exact OwnR.mono h (by omega))
 have HB := mh (balloc mle HA.out (.cells #[I O 1, I O u] 239)); have HS := mh (show w.heap.size ≤ ((w.alloc (.cells #[I O d, I O u, I O s, I O 1, I O a, I O b] 135)).alloc (.cells #[I O 1, I O u] 239)).heap.size by simp <;> omega)
 go_enter Tryz.func191, Tryz.ntmps191
 go_wp2_with (first
  | (go_at_call 222; (with_reducible refine cmo (AC.out _) ?_); rintro e w3 ⟨rfl, hb3⟩; have HL3 := mh (OwnR.below HL.out hb3); have HB3 := mh (bstep mle HB.out hb3); have HS3 := mh HB3.out.size; clear hb3)
  | (at_builtin; (refine OwnR.append el_lim rfl (.tmp 58) (.tmp 61) rfl w.heap.size _ [⟨1, u⟩] ⟨6, V⟩ #[I O 6, I O V] rfl HL3.out rfl rfl HS3.out (by simp) (by decide) ?_); intro v5 w5 hO5 hap5; have HO5 := mh hO5; have HB5 := mh (HB3.out.trans hap5.below); clear hO5 hap5)
  | fail)
 go_ret2
 exact As.LimG.row HO5.out HB5.out
theorem limits28_any (f : As.Fct) (width : Int) (w : World) (h : As.FactOk f) (w0 : 0 ≤ width) (w1 : width ≤ 200) :
  Calls Tryz.prog 191 #[.agg #[I O f.decl, I O f.due, I O f.season, I O f.kind, I O f.area, I O f.border], I O width] w (As.LimG (As.limD f width) w) := by
 have k0 := h.k0; have k1 := h.k1; have d0 := h.d0; have d1 := h.d1; have hm : f.kind = 1 → As.measB f.area f.border = true := fun _ => As.measB_iff.2 ⟨h.a0, h.a1, h.b0, h.b1⟩
 clear h; obtain ⟨d, u, s, k, a, b⟩ := f; simp only at k0 k1 d0 d1 hm ⊢
 rcases (show k = 0 ∨ k = 1 ∨ k = 2 ∨ k = 3 ∨ k = 4 by omega) with rfl | rfl | rfl | rfl | rfl
 ·by_cases hs : s = -1
  ·subst hs
   exact lim_season d u a b width w
  ·have e : As.limD ⟨d, u, s, 0, a, b⟩ width = [⟨1, u⟩] := by simp [As.limD, As.limT, As.lim, hs]
   rw [e]; exact lim_none d u s a b width w hs
 ·exact lim_area d u s a b width w (hm rfl) w0 w1 d0 d1
 ·exact lim_crop d u s a b width w
 ·exact lim_nothing d u s a b width w
 ·exact lim_refused d u s a b width w
def As.pick (d : Int) (L : List Brk) : Nat → Int × Int
 | 0 => (d, 0)
 | k + 1 => match L[k]? with
   | some b => if b.rate < (As.pick d L k).1 then (b.rate, b.up) else As.pick d L k
   | none => As.pick d L k
theorem As.pick_succ {d : Int} {L : List Brk} {k : Nat} (hk : k < L.length) : As.pick d L (k + 1) = if L[k].rate < (As.pick d L k).1 then (L[k].rate, L[k].up) else As.pick d L k := by
 show (match L[k]? with | some b => if b.rate < (As.pick d L k).1 then (b.rate, b.up) else As.pick d L k | none => As.pick d L k) = _
 rw [List.getElem?_eq_getElem hk]
theorem As.pick_det (f : As.Fct) (width : Int) : As.pick f.decl (As.limD f width) (As.limD f width).length = As.det f width := by
 unfold As.limD As.det As.det1
 cases h : As.lim f width with
 | none => simp [As.limT, As.pick]; rfl
 | some x => obtain ⟨r, a⟩ := x; simp [As.limT, As.pick]; rfl
def As.detV (f : As.Fct) (width : Int) : Int × Int := if As.chk28 f width = 0 then As.det f width else (0, 0)
def As.DetG (v : Int × Int) (er : Int) (w : World) (e : Ending) (w' : World) : Prop := e = .returned (.tuple #[I O v.1, I O v.2, I O er]) ∧ Below w.heap.size w w'
theorem line28_any (f : As.Fct) (width : Int) (w : World) :
  Calls Tryz.prog 152 #[.agg #[I O f.decl, I O f.due, I O f.season, I O f.kind, I O f.area, I O f.border], I O width] w (As.DetG (As.detV f width) (As.chk28 f width) w) := by
 by_cases hc : As.chk28 f width = 0
 rotate_left
 ·have EV := mh (show As.detV f width = (0, 0) from by unfold As.detV; rw [if_neg hc])
  obtain ⟨V, eV⟩ : ∃ V, As.detV f width = V := ⟨_, rfl⟩; rw [eV] at EV ⊢; clear eV; obtain ⟨d, u, s, k, a, b⟩ := f; have CK := mh (fun (W : World) => check28_any d u s k a b width W); have HA := mh (balloc mle (brf w.heap.size w) (.cells #[I O d, I O u, I O s, I O k, I O a, I O b] 135)); obtain ⟨v, ev⟩ : ∃ v, As.chk28 ⟨d, u, s, k, a, b⟩ width = v := ⟨_, rfl⟩; rw [ev] at CK hc ⊢; clear ev; have hne : (v != 0) = true := by simpa using hc
  clear hc
  go_enter Tryz.func152, Tryz.ntmps152
  go_wp2_with (go_at_call 140; (with_reducible refine cmo (CK.out _) ?_); rintro e w1 ⟨rfl, hb1⟩; have HB1 := mh (bstep mle HA.out hb1); have C0 := mcell hb1 0; have C1 := mcell hb1 1; have C2 := mcell hb1 2; have C3 := mcell hb1 3; have C4 := mcell hb1 4; have C5 := mcell hb1 5; have S1 := mh (show w.heap.size < w1.heap.size from nll (by simp) hb1.size); clear hb1)
  go_ret3
  exact ⟨by rw [EV.out]; rfl, HB1.out⟩
 ·obtain ⟨hf, w0, w1⟩ := As.chk28_zero hc
  have EV := mh (show As.detV f width = As.pick f.decl (As.limD f width) (As.limD f width).length from by unfold As.detV; rw [if_pos hc, As.pick_det]); have LM := mh (fun (W : World) => limits28_any f width W hf w0 w1); obtain ⟨D, eD⟩ : ∃ D, As.limD f width = D := ⟨_, rfl⟩; obtain ⟨V, eV⟩ : ∃ V, As.detV f width = V := ⟨_, rfl⟩; rw [eD] at LM EV; rw [eV] at EV ⊢; clear eD eV hf w0 w1; rw [hc]; obtain ⟨d, u, s, k, a, b⟩ := f; have CK := mh (fun (W : World) => check28_any d u s k a b width W); rw [hc] at CK; clear hc; simp only at LM EV; have HA := mh (balloc mle (brf w.heap.size w) (.cells #[I O d, I O u, I O s, I O k, I O a, I O b] 135))
  go_enter Tryz.func152, Tryz.ntmps152
  go_wp2_with (first | (go_at_call 140; (with_reducible refine cmo (CK.out _) ?_); rintro e w1 ⟨rfl, hb1⟩; have HB1 := mh (bstep mle HA.out hb1); have C0 := mcell hb1 0; have C1 := mcell hb1 1; have C2 := mcell hb1 2; have C3 := mcell hb1 3; have C4 := mcell hb1 4; have C5 := mcell hb1 5; have S1 := mh (show w.heap.size < w1.heap.size from nll (by simp) hb1.size); clear hb1) | (go_at_call 191; (with_reducible refine cmo (LM.out _) ?_); rintro e w2 ⟨p, c, rfl, hr2, hb2⟩; have HR := mh hr2; have HB2 := mh (bstep mle HB1.out hb2); have D0 := (hb2.cell (p := ⟨w.heap.size, 0, none⟩) S1.out).trans C0; clear hb2 hr2 C0 C1 C2 C3 C4 C5) | fail)
  have hlen := HR.out.len
  go_loopw [10, 11, 33] (fun x y i wr => ∃ j : Nat, j ≤ D.length ∧ i = I O j ∧ x = I O (As.pick d D j).1 ∧ y = I O (As.pick d D j).2 ∧ Below w2.heap.size w2 wr) (fun _ _ i _ => D.length - (intOf i).toNat)
  case atStart => exact ⟨0, Nat.zero_le _, rfl, rfl, rfl, brf _ _⟩
  case round =>
   obtain ⟨wo, rfl⟩ : ∃ wo : World, wo = wr := ⟨_, rfl⟩; obtain ⟨j, hj, rfl, rfl, rfl, hb⟩ := hrel; have HB := mh hb; have hj0 : (0 : Int) ≤ (j : Int) := inn _
   by_cases hlt : j < D.length
   ·have hj1 : (j : Int) < (D.length : Int) := by omega
    obtain ⟨bb, off, x, rfl, hbl, x0, x1, hx⟩ := SBk_at (HR.out.below hb) hlt; have PS := As.pick_succ (d := d) hlt; rw [hx.out] at PS; obtain ⟨up, rate⟩ := x; simp only at x0 x1 PS; obtain ⟨A, eA⟩ : ∃ A, (As.pick d D j).1 = A := ⟨_, rfl⟩; obtain ⟨R, eR⟩ : ∃ R, (As.pick d D j).2 = R := ⟨_, rfl⟩; have HBJ := mh (balloc mle hb (.cells #[I O up, I O rate] 239))
    by_cases hcmp : rate < A
    ·have P := mh (show As.pick d D (j + 1) = (rate, up) from by rw [PS, eA, if_pos hcmp])
     rw [eA, eR]; clear hb hx PS eA eR
     go_wp2
     go_quiet (fail)
     go_wp2
     go_roundw
     case rel => exact ⟨j + 1, by omega, by go_num, by rw [P.out], by rw [P.out], bnext HBJ.out HBJ.out.size (drewN_below _ _)⟩
     case measure => simp [intOf]; omega
    ·have P := mh (show As.pick d D (j + 1) = As.pick d D j from by rw [PS, eA, if_neg hcmp])
     have PA := mh eA; have PR := mh eR; rw [eA, eR]; clear hb hx PS eA eR
     go_wp2
     go_roundw
     case rel => exact ⟨j + 1, by omega, by go_num, by rw [P.out, PA.out], by rw [P.out, PR.out], HBJ.out⟩
     case measure => simp [intOf]; omega
   ·obtain rfl : j = D.length := by omega
    have HB3 := mh (bstep mle HB2.out hb); clear hb
    go_wp2
    go_ret3
    exact ⟨by rw [EV.out]; rfl, HB3.out⟩
theorem day30_any (n : Int) (w : World) : Calls Tryz.prog 195 #[I O n] w fun e w' => e = .returned (.bool (As.dayB n)) ∧ w = w' := by
 by_cases h1 : 0 ≤ n
 rotate_left
 ·rw [show As.dayB n = false from by unfold As.dayB; simp [h1]]
  go_enter Tryz.func195, Tryz.ntmps195
  go_wp2
  go_ret
  exact ⟨rfl, rfl⟩
 by_cases h2 : n ≤ 36864
 rotate_left
 ·rw [show As.dayB n = false from by unfold As.dayB; simp [h2]]
  go_enter Tryz.func195, Tryz.ntmps195
  go_wp2
  go_ret
  exact ⟨rfl, rfl⟩
 ·rw [show As.dayB n = true from by unfold As.dayB; simp [h1, h2]]
  go_enter Tryz.func195, Tryz.ntmps195
  go_wp2
  go_ret
  exact ⟨rfl, rfl⟩
theorem check30_any (d l m : Int) (w : World) : Calls Tryz.prog 60 #[.agg #[I O d, I O l, I O m]] w fun e w' => e = .returned (I O (As.chkL ⟨d, l, m⟩)) ∧ Below w.heap.size w w' := by
 have HA := mh (balloc mle (brf w.heap.size w) (.cells #[I O d, I O l, I O m] 26)); obtain ⟨v, ev⟩ : ∃ v, As.chkL ⟨d, l, m⟩ = v := ⟨_, rfl⟩; have hv : (d < 0 ∧ v = 66) ∨ (¬ d < 0 ∧ l < d ∧ v = 66) ∨ (¬ d < 0 ∧ ¬ l < d ∧ 36864 < l ∧ v = 66) ∨ (¬ d < 0 ∧ ¬ l < d ∧ ¬ 36864 < l ∧ m < 0 ∧ v = 66) ∨ (¬ d < 0 ∧ ¬ l < d ∧ ¬ 36864 < l ∧ ¬ m < 0 ∧ 1000 < m ∧ v = 66) ∨ (¬ d < 0 ∧ ¬ l < d ∧ ¬ 36864 < l ∧ ¬ m < 0 ∧ ¬ 1000 < m ∧ v = 0) := by
  rw [← ev]; unfold As.chkL; simp only
  split <;> omega
 rw [ev]; clear ev
 rcases hv with ⟨h1, rfl⟩ | ⟨h1, h2, rfl⟩ | ⟨h1, h2, h3, rfl⟩ | ⟨h1, h2, h3, h4, rfl⟩ | ⟨h1, h2, h3, h4, h5, rfl⟩ | ⟨h1, h2, h3, h4, h5, rfl⟩
 all_goals
  go_enter Tryz.func60, Tryz.ntmps60
  go_wp2
  go_ret
  exact ⟨rfl, HA.out⟩
theorem ret_i {a b : Int} (h : a = b) : Ending.returned (I O a) = .returned (I O b) := by rw [h]
theorem before30_any (d : Int) (w : World) (d0 : 0 ≤ d) (d1 : d ≤ 36865) : Calls Tryz.prog 224 #[I O d] w fun e w' => e = .returned (I O (As.bef d)) ∧ w = w' := by
 have EV := mh (show As.bef d = d / 7 * 5 + min (d % 7) 5 from rfl)
 go_enter Tryz.func224, Tryz.ntmps224
 go_wp2
 all_goals
  go_ret
  exact ⟨ret_i (by rw [EV.out] <;> omega), rfl⟩
theorem As.days_cases (a b : Int) : (As.dayB a = false ∧ As.days a b = 0) ∨ (As.dayB a = true ∧ As.dayB b = false ∧ As.days a b = 0) ∨ (As.dayB a = true ∧ As.dayB b = true ∧ b ≤ a ∧ As.days a b = 0) ∨
  (As.dayB a = true ∧ As.dayB b = true ∧ ¬ b ≤ a ∧ (0 ≤ a ∧ b ≤ 36864) ∧ As.days a b = As.bef (b + 1) - As.bef (a + 1)) := by
 have ha : As.dayB a = true ↔ 0 ≤ a ∧ a ≤ 36864 := by unfold As.dayB; simp
 have hb : As.dayB b = true ↔ 0 ≤ b ∧ b ≤ 36864 := by unfold As.dayB; simp
 unfold As.days
 cases h1 : As.dayB a
 ·exact .inl ⟨rfl, by simp⟩
 cases h2 : As.dayB b
 ·exact .inr (.inl ⟨rfl, rfl, by simp⟩)
 by_cases h : b ≤ a
 ·exact .inr (.inr (.inl ⟨rfl, rfl, h, by rw [if_pos (.inr (.inr h))]⟩))
 ·have := ha.1 h1
  have := hb.1 h2; exact .inr (.inr (.inr ⟨rfl, rfl, h, by omega, by rw [if_neg]; simp [h]⟩))
theorem days30_any (a b : Int) (w : World) : Calls Tryz.prog 197 #[I O a, I O b] w fun e w' => e = .returned (I O (As.days a b)) ∧ w = w' := by
 have D1 := mh (fun (W : World) => day30_any a W); have D2 := mh (fun (W : World) => day30_any b W)
 rcases As.days_cases a b with ⟨h1, h⟩ | ⟨h1, h2, h⟩ | ⟨h1, h2, h3, h⟩ | ⟨h1, h2, h3, h4, h⟩
 ·rw [h]; rw [h1] at D1
  go_enter Tryz.func197, Tryz.ntmps197
  go_wp2_with (first | (go_at_call 195; (with_reducible refine cmo (D1.out _) ?_); rintro e w1 ⟨rfl, rfl⟩) | (go_at_call 195; (with_reducible refine cmo (D2.out _) ?_); rintro e w1 ⟨rfl, rfl⟩))
  go_ret
  exact ⟨rfl, rfl⟩
 ·rw [h]; rw [h1] at D1; rw [h2] at D2
  go_enter Tryz.func197, Tryz.ntmps197
  go_wp2_with (first | (go_at_call 195; (with_reducible refine cmo (D1.out _) ?_); rintro e w1 ⟨rfl, rfl⟩) | (go_at_call 195; (with_reducible refine cmo (D2.out _) ?_); rintro e w1 ⟨rfl, rfl⟩))
  go_ret
  exact ⟨rfl, rfl⟩
 ·rw [h]; rw [h1] at D1; rw [h2] at D2
  go_enter Tryz.func197, Tryz.ntmps197
  go_wp2_with (first | (go_at_call 195; (with_reducible refine cmo (D1.out _) ?_); rintro e w1 ⟨rfl, rfl⟩) | (go_at_call 195; (with_reducible refine cmo (D2.out _) ?_); rintro e w1 ⟨rfl, rfl⟩))
  go_ret
  exact ⟨rfl, rfl⟩
 ·rw [h]; rw [h1] at D1; rw [h2] at D2
  have w1 : IntKind.i64.wrap (b + 1) = b + 1 := by rw [IntKind.wrap_i64]; omega
  have w2 : IntKind.i64.wrap (a + 1) = a + 1 := by rw [IntKind.wrap_i64]; omega
  have B1 := mh (fun (W : World) => before30_any (b + 1) W (by omega) (by omega)); have B2 := mh (fun (W : World) => before30_any (a + 1) W (by omega) (by omega)); have hx : 0 ≤ As.bef (b + 1) ∧ As.bef (b + 1) ≤ 36865 := by unfold As.bef; omega
  have hy : 0 ≤ As.bef (a + 1) ∧ As.bef (a + 1) ≤ 36865 := by unfold As.bef; omega
  obtain ⟨X, eX⟩ : ∃ X, As.bef (b + 1) = X := ⟨_, rfl⟩; obtain ⟨Y, eY⟩ : ∃ Y, As.bef (a + 1) = Y := ⟨_, rfl⟩; rw [eX] at hx B1 ⊢; rw [eY] at hy B2 ⊢; have w3 : IntKind.i64.wrap (X - Y) = X - Y := by rw [IntKind.wrap_i64]; omega
  clear h h4 eX eY
  go_enter Tryz.func197, Tryz.ntmps197
  go_wp2_with (first | (go_at_call 195; (with_reducible refine cmo (D1.out _) ?_); rintro e w1 ⟨rfl, rfl⟩) | (go_at_call 195; (with_reducible refine cmo (D2.out _) ?_); rintro e w1 ⟨rfl, rfl⟩) | (go_at_call 224; (with_reducible refine cmo (B1.out _) ?_); rintro e w1 ⟨rfl, rfl⟩) | (go_at_call 224; (with_reducible refine cmo (B2.out _) ?_); rintro e w1 ⟨rfl, rfl⟩))
  go_ret
  exact ⟨rfl, rfl⟩
theorem area_any (n : Int) (w : World) : Calls Tryz.prog 192 #[I O n] w fun e w' => e = .returned (.bool (Re.area n)) ∧ w = w' := by
 by_cases h : 0 ≤ n
 ·by_cases h2 : n ≤ 268435456
  ·rw [Re.area_iff.2 ⟨h, h2⟩]
   go_enter Tryz.func192, Tryz.ntmps192
   go_wp2
   go_ret
   exact ⟨rfl, rfl⟩
  ·rw [Re.area_not.2 (.inr (by omega))]
   go_enter Tryz.func192, Tryz.ntmps192
   go_wp2
   go_ret
   exact ⟨rfl, rfl⟩
 ·rw [Re.area_not.2 (.inl (by omega))]
  go_enter Tryz.func192, Tryz.ntmps192
  go_wp2
  go_ret
  exact ⟨rfl, rfl⟩
theorem stOk {D : List (Int × Int)} {k : Nat} {x y lx ly : Int} (h : D.getD k (0, 0) = (x, y)) (hl : k ≠ 0 → D.getD (k - 1) (0, 0) = (lx, ly)) :
  Re.okAt D k = true ↔ ¬ (x < 0 ∨ 100000 < x ∨ (k ≠ 0 ∧ x ≤ lx)) ∧ ((y = -1 ∧ k + 1 = D.length) ∨ ¬ (y < 0 ∨ 10 < y ∨ (k ≠ 0 ∧ y < ly))) := by
 rw [Re.okAt_iff]; unfold Re.ab Re.ti; rw [h]
 by_cases hk : k = 0
 ·simp only; omega
 ·rw [hl hk]
  simp only; omega
theorem rchk_bad {D : List (Int × Int)} {k : Nat} (hk : k < D.length) (h : ¬ Re.okAt D k = true) : Re.chk D = 66 := Re.chk_not fun hR => h (hR.ok k hk)
theorem rcheck_any (p : Option Addr) (D : List (Int × Int)) (cap : Nat) (w : World) (h : Pairs w p D) :
  Calls Tryz.prog 59 #[.slice p D.length cap] w fun e w' => e = .returned (I O (Re.chk D)) ∧ Below w.heap.size w w' := by
 have hn := h.len
 by_cases h6 : 6 < D.length ∨ D.length < 1
 ·have hc : Re.chk D = 66 := Re.chk_not fun hR => by have := hR.len; have := hR.len1; omega
  rw [hc]; clear h hc
  rcases h6 with h6 | h6
  ·go_enter Tryz.func59, Tryz.ntmps59
   go_wp2
   go_ret
   exact ⟨rfl, brf _ _⟩
  ·have hz : ¬ (6 : Int) < (D.length : Int) := by omega
   go_enter Tryz.func59, Tryz.ntmps59
   go_wp2
   go_ret
   exact ⟨rfl, brf _ _⟩
 ·have h1 : 1 ≤ D.length := by omega
  have h66 : D.length ≤ 6 := by omega
  have H := mh h; clear h h6; have hwl : IntKind.i64.wrap ((D.length : Int) - 1) = (D.length : Int) - 1 := by rw [IntKind.wrap_i64]; omega
  go_enter Tryz.func59, Tryz.ntmps59
  go_wp2
  go_loopw [15] (fun i wr => ∃ k : Nat, k ≤ D.length ∧ i = I O k ∧ (∀ j, j < k → Re.okAt D j = true) ∧ Below w.heap.size w wr) (fun i _ => D.length - (intOf i).toNat)
  case atStart => exact ⟨0, Nat.zero_le _, rfl, fun j hj => absurd hj (Nat.not_lt_zero j), brf _ _⟩
  case round =>
   obtain ⟨k, hk, rfl, hok, hb⟩ := hrel; have HOK := mh hok; have HB := mh hb; have hsz := hb.size
   by_cases hlt : k < D.length
   ·obtain ⟨b, off, x, y, rfl, hbl, hx0, hy0, hxy⟩ := H.out.get hlt
    have hx1 := (hb.cell (p := ⟨b, off + k * 2, none⟩) hbl).trans hx0; have hy1 := (hb.cell (p := ⟨b, off + k * 2 + 1, none⟩) hbl).trans hy0; have hbl2 : b < wr.heap.size := nll hbl hsz; have hk0 : (0 : Int) ≤ (k : Int) := inn _; have hk1 : (k : Int) < (D.length : Int) := by omega
    have next : Re.okAt D k = true → ∀ j, j < k + 1 → Re.okAt D j = true := fun h j hj => by
     by_cases e : j = k
     ·rw [e]; exact h
     ·exact HOK.out j (by omega)
    have NEXT := mh next; clear hok hb hx0 hy0 next
    rcases Nat.eq_zero_or_pos k with rfl | hpos
    ·simp only [Nat.zero_mul, Nat.add_zero] at hx1 hy1
     have ST := mh (stOk (lx := 0) (ly := 0) hxy.out (fun h => absurd rfl h))
     rcases (show (x < 0) ∨ (¬ (x < 0) ∧ 100000 < x) ∨ (¬ (x < 0) ∧ ¬ (100000 < x) ∧ y = -1 ∧ (0 : Int) = (D.length : Int) - 1) ∨ (¬ (x < 0) ∧ ¬ (100000 < x) ∧ y = -1 ∧ ¬ ((0 : Int) = (D.length : Int) - 1) ∧ y < 0) ∨ (¬ (x < 0) ∧ ¬ (100000 < x) ∧ ¬ (y = -1) ∧ y < 0) ∨ (¬ (x < 0) ∧ ¬ (100000 < x) ∧ ¬ (y = -1) ∧ ¬ (y < 0) ∧ 10 < y) ∨ (¬ (x < 0) ∧ ¬ (100000 < x) ∧ ¬ (y = -1) ∧ ¬ (y < 0) ∧ ¬ (10 < y)) by omega) with h0 | ⟨h0, h1⟩ | ⟨h0, h1, h2, h3⟩ | ⟨h0, h1, h2, h3, h4⟩ | ⟨h0, h1, h2, h3⟩ | ⟨h0, h1, h2, h3, h4⟩ | ⟨h0, h1, h2, h3, h4⟩
     ·have hB := mh (rchk_bad hlt fun h => absurd (ST.out.1 h) (by omega))
      have f0 : decide (x < 0) = true := dqt h0
      go_wp2_with fail
      go_quiet (fail)
      go_wp2
      go_ret
      exact ⟨by rw [hB.out]; rfl, by first | exact bnext (HB.out.alloc hsz _) (by simp; omega) (drewN_below _ _) | exact bnext (bnext (HB.out.alloc hsz _) (by simp; omega) (drewN_below _ _)) (by show w.heap.size ≤ (wr.alloc _).heap.size; simp; omega) (drewN_below _ _)⟩
     ·have hB := mh (rchk_bad hlt fun h => absurd (ST.out.1 h) (by omega))
      have f0 : decide (x < 0) = false := dqf h0; have f1 : decide (100000 < x) = true := dqt h1
      go_wp2_with fail
      go_quiet (fail)
      go_wp2
      go_ret
      exact ⟨by rw [hB.out]; rfl, by first | exact bnext (HB.out.alloc hsz _) (by simp; omega) (drewN_below _ _) | exact bnext (bnext (HB.out.alloc hsz _) (by simp; omega) (drewN_below _ _)) (by show w.heap.size ≤ (wr.alloc _).heap.size; simp; omega) (drewN_below _ _)⟩
     ·have hG := NEXT.out (ST.out.2 (by omega))
      have HG := mh hG; clear hG; have f0 : decide (x < 0) = false := dqf h0; have f1 : decide (100000 < x) = false := dqf h1; have f2 : (y == -1) = true := beq_iff_eq.2 h2; have f3 : ((0 : Int) == (D.length : Int) - 1) = true := beq_iff_eq.2 h3; clear h2 h3
      go_wp2_with fail
      go_quiet (fail)
      go_wp2
      go_roundw
      case rel => exact ⟨0 + 1, by omega, by go_num, HG.out, by first | exact bnext (HB.out.alloc hsz _) (by simp; omega) (drewN_below _ _) | exact bnext (bnext (HB.out.alloc hsz _) (by simp; omega) (drewN_below _ _)) (by show w.heap.size ≤ (wr.alloc _).heap.size; simp; omega) (drewN_below _ _)⟩
      case measure => simp [intOf]; omega
     ·have hB := mh (rchk_bad hlt fun h => absurd (ST.out.1 h) (by omega))
      have f0 : decide (x < 0) = false := dqf h0; have f1 : decide (100000 < x) = false := dqf h1; have f2 : (y == -1) = true := beq_iff_eq.2 h2; have f3 : ((0 : Int) == (D.length : Int) - 1) = false := beq_eq_false_iff_ne.2 h3; have f4 : decide (y < 0) = true := dqt h4; clear h2 h3
      go_wp2_with fail
      go_quiet (fail)
      go_wp2_with fail
      go_quiet (fail)
      go_wp2
      go_ret
      exact ⟨by rw [hB.out]; rfl, by first | exact bnext (HB.out.alloc hsz _) (by simp; omega) (drewN_below _ _) | exact bnext (bnext (HB.out.alloc hsz _) (by simp; omega) (drewN_below _ _)) (by show w.heap.size ≤ (wr.alloc _).heap.size; simp; omega) (drewN_below _ _)⟩
     ·have hB := mh (rchk_bad hlt fun h => absurd (ST.out.1 h) (by omega))
      have f0 : decide (x < 0) = false := dqf h0; have f1 : decide (100000 < x) = false := dqf h1; have f2 : (y == -1) = false := beq_eq_false_iff_ne.2 h2; have f3 : decide (y < 0) = true := dqt h3; clear h2
      go_wp2_with fail
      go_quiet (fail)
      go_wp2_with fail
      go_quiet (fail)
      go_wp2
      go_ret
      exact ⟨by rw [hB.out]; rfl, by first | exact bnext (HB.out.alloc hsz _) (by simp; omega) (drewN_below _ _) | exact bnext (bnext (HB.out.alloc hsz _) (by simp; omega) (drewN_below _ _)) (by show w.heap.size ≤ (wr.alloc _).heap.size; simp; omega) (drewN_below _ _)⟩
     ·have hB := mh (rchk_bad hlt fun h => absurd (ST.out.1 h) (by omega))
      have f0 : decide (x < 0) = false := dqf h0; have f1 : decide (100000 < x) = false := dqf h1; have f2 : (y == -1) = false := beq_eq_false_iff_ne.2 h2; have f3 : decide (y < 0) = false := dqf h3; have f4 : decide (10 < y) = true := dqt h4; clear h2
      go_wp2_with fail
      go_quiet (fail)
      go_wp2_with fail
      go_quiet (fail)
      go_wp2
      go_ret
      exact ⟨by rw [hB.out]; rfl, by first | exact bnext (HB.out.alloc hsz _) (by simp; omega) (drewN_below _ _) | exact bnext (bnext (HB.out.alloc hsz _) (by simp; omega) (drewN_below _ _)) (by show w.heap.size ≤ (wr.alloc _).heap.size; simp; omega) (drewN_below _ _)⟩
     ·have hG := NEXT.out (ST.out.2 (by omega))
      have HG := mh hG; clear hG; have f0 : decide (x < 0) = false := dqf h0; have f1 : decide (100000 < x) = false := dqf h1; have f2 : (y == -1) = false := beq_eq_false_iff_ne.2 h2; have f3 : decide (y < 0) = false := dqf h3; have f4 : decide (10 < y) = false := dqf h4; clear h2
      go_wp2_with fail
      go_quiet (fail)
      go_wp2_with fail
      go_quiet (fail)
      go_wp2
      go_roundw
      case rel => exact ⟨0 + 1, by omega, by go_num, HG.out, by first | exact bnext (HB.out.alloc hsz _) (by simp; omega) (drewN_below _ _) | exact bnext (bnext (HB.out.alloc hsz _) (by simp; omega) (drewN_below _ _)) (by show w.heap.size ≤ (wr.alloc _).heap.size; simp; omega) (drewN_below _ _)⟩
      case measure => simp [intOf]; omega
    ·obtain ⟨k', rfl⟩ : ∃ k', k = k' + 1 := ⟨k - 1, by omega⟩
     obtain ⟨b', off', lx, ly, e, -, hlx0, hly0, hlxy⟩ := H.out.get (k := k') (by omega); simp only [Option.some.injEq, Addr.mk.injEq] at e; obtain ⟨rfl, rfl, -⟩ := e; have ST := mh (stOk (lx := lx) (ly := ly) hxy.out (fun _ => hlxy.out)); have hlx1 := (HB.out.cell (p := ⟨b, off + k' * 2, none⟩) hbl).trans hlx0; have hly1 := (HB.out.cell (p := ⟨b, off + k' * 2 + 1, none⟩) hbl).trans hly0; have hw : IntKind.i64.wrap ((k' : Int) + 1 - 1) = (k' : Int) := by rw [IntKind.wrap_i64]; omega
     have hq0 : (0 : Int) ≤ (k' : Int) := inn _; have hq1 : (k' : Int) < (D.length : Int) := by omega
     have hk0' : (0 : Int) ≤ (k' : Int) + 1 := by omega
     have hk1' : (k' : Int) + 1 < (D.length : Int) := by omega
     have hk2' : (0 : Int) < (k' : Int) + 1 := by omega
     clear hlx0 hly0
     rcases (show (x < 0) ∨ (¬ (x < 0) ∧ 100000 < x) ∨ (¬ (x < 0) ∧ ¬ (100000 < x) ∧ x ≤ lx) ∨ (¬ (x < 0) ∧ ¬ (100000 < x) ∧ ¬ (x ≤ lx) ∧ y = -1 ∧ ((k' : Int) + 1) = (D.length : Int) - 1) ∨ (¬ (x < 0) ∧ ¬ (100000 < x) ∧ ¬ (x ≤ lx) ∧ y = -1 ∧ ¬ (((k' : Int) + 1) = (D.length : Int) - 1) ∧ y < 0) ∨ (¬ (x < 0) ∧ ¬ (100000 < x) ∧ ¬ (x ≤ lx) ∧ ¬ (y = -1) ∧ y < 0) ∨ (¬ (x < 0) ∧ ¬ (100000 < x) ∧ ¬ (x ≤ lx) ∧ ¬ (y = -1) ∧ ¬ (y < 0) ∧ 10 < y) ∨ (¬ (x < 0) ∧ ¬ (100000 < x) ∧ ¬ (x ≤ lx) ∧ ¬ (y = -1) ∧ ¬ (y < 0) ∧ ¬ (10 < y) ∧ y < ly) ∨ (¬ (x < 0) ∧ ¬ (100000 < x) ∧ ¬ (x ≤ lx) ∧ ¬ (y = -1) ∧ ¬ (y < 0) ∧ ¬ (10 < y) ∧ ¬ (y < ly)) by omega) with h0 | ⟨h0, h1⟩ | ⟨h0, h1, h2⟩ | ⟨h0, h1, h2, h3, h4⟩ | ⟨h0, h1, h2, h3, h4, h5⟩ | ⟨h0, h1, h2, h3, h4⟩ | ⟨h0, h1, h2, h3, h4, h5⟩ | ⟨h0, h1, h2, h3, h4, h5, h6⟩ | ⟨h0, h1, h2, h3, h4, h5, h6⟩
     ·have hB := mh (rchk_bad hlt fun h => absurd (ST.out.1 h) (by omega))
      have f0 : decide (x < 0) = true := dqt h0
      go_wp2_with fail
      go_quiet (fail)
      go_wp2
      go_ret
      exact ⟨by rw [hB.out]; rfl, by first | exact bnext (HB.out.alloc hsz _) (by simp; omega) (drewN_below _ _) | exact bnext (bnext (HB.out.alloc hsz _) (by simp; omega) (drewN_below _ _)) (by show w.heap.size ≤ (wr.alloc _).heap.size; simp; omega) (drewN_below _ _)⟩
     ·have hB := mh (rchk_bad hlt fun h => absurd (ST.out.1 h) (by omega))
      have f0 : decide (x < 0) = false := dqf h0; have f1 : decide (100000 < x) = true := dqt h1
      go_wp2_with fail
      go_quiet (fail)
      go_wp2
      go_ret
      exact ⟨by rw [hB.out]; rfl, by first | exact bnext (HB.out.alloc hsz _) (by simp; omega) (drewN_below _ _) | exact bnext (bnext (HB.out.alloc hsz _) (by simp; omega) (drewN_below _ _)) (by show w.heap.size ≤ (wr.alloc _).heap.size; simp; omega) (drewN_below _ _)⟩
     ·have hB := mh (rchk_bad hlt fun h => absurd (ST.out.1 h) (by omega))
      have f0 : decide (x < 0) = false := dqf h0; have f1 : decide (100000 < x) = false := dqf h1; have f2 : decide (x ≤ lx) = true := dqt h2
      go_wp2_with fail
      go_quiet (fail)
      go_wp2
      go_ret
      exact ⟨by rw [hB.out]; rfl, by first | exact bnext (HB.out.alloc hsz _) (by simp; omega) (drewN_below _ _) | exact bnext (bnext (HB.out.alloc hsz _) (by simp; omega) (drewN_below _ _)) (by show w.heap.size ≤ (wr.alloc _).heap.size; simp; omega) (drewN_below _ _)⟩
     ·have hG := NEXT.out (ST.out.2 (by omega))
      have HG := mh hG; clear hG; have f0 : decide (x < 0) = false := dqf h0; have f1 : decide (100000 < x) = false := dqf h1; have f2 : decide (x ≤ lx) = false := dqf h2; have f3 : (y == -1) = true := beq_iff_eq.2 h3; have f4 : (((k' : Int) + 1) == (D.length : Int) - 1) = true := beq_iff_eq.2 h4; clear h3 h4
      go_wp2_with fail
      go_quiet (fail)
      go_wp2
      go_roundw
      case rel => exact ⟨k' + 1 + 1, by omega, by go_num, HG.out, by first | exact bnext (HB.out.alloc hsz _) (by simp; omega) (drewN_below _ _) | exact bnext (bnext (HB.out.alloc hsz _) (by simp; omega) (drewN_below _ _)) (by show w.heap.size ≤ (wr.alloc _).heap.size; simp; omega) (drewN_below _ _)⟩
      case measure => simp [intOf]; omega
     ·have hB := mh (rchk_bad hlt fun h => absurd (ST.out.1 h) (by omega))
      have f0 : decide (x < 0) = false := dqf h0; have f1 : decide (100000 < x) = false := dqf h1; have f2 : decide (x ≤ lx) = false := dqf h2; have f3 : (y == -1) = true := beq_iff_eq.2 h3; have f4 : (((k' : Int) + 1) == (D.length : Int) - 1) = false := beq_eq_false_iff_ne.2 h4; have f5 : decide (y < 0) = true := dqt h5; clear h3 h4
      go_wp2_with fail
      go_quiet (fail)
      go_wp2_with fail
      go_quiet (fail)
      go_wp2
      go_ret
      exact ⟨by rw [hB.out]; rfl, by first | exact bnext (HB.out.alloc hsz _) (by simp; omega) (drewN_below _ _) | exact bnext (bnext (HB.out.alloc hsz _) (by simp; omega) (drewN_below _ _)) (by show w.heap.size ≤ (wr.alloc _).heap.size; simp; omega) (drewN_below _ _)⟩
     ·have hB := mh (rchk_bad hlt fun h => absurd (ST.out.1 h) (by omega))
      have f0 : decide (x < 0) = false := dqf h0; have f1 : decide (100000 < x) = false := dqf h1; have f2 : decide (x ≤ lx) = false := dqf h2; have f3 : (y == -1) = false := beq_eq_false_iff_ne.2 h3; have f4 : decide (y < 0) = true := dqt h4; clear h3
      go_wp2_with fail
      go_quiet (fail)
      go_wp2_with fail
      go_quiet (fail)
      go_wp2
      go_ret
      exact ⟨by rw [hB.out]; rfl, by first | exact bnext (HB.out.alloc hsz _) (by simp; omega) (drewN_below _ _) | exact bnext (bnext (HB.out.alloc hsz _) (by simp; omega) (drewN_below _ _)) (by show w.heap.size ≤ (wr.alloc _).heap.size; simp; omega) (drewN_below _ _)⟩
     ·have hB := mh (rchk_bad hlt fun h => absurd (ST.out.1 h) (by omega))
      have f0 : decide (x < 0) = false := dqf h0; have f1 : decide (100000 < x) = false := dqf h1; have f2 : decide (x ≤ lx) = false := dqf h2; have f3 : (y == -1) = false := beq_eq_false_iff_ne.2 h3; have f4 : decide (y < 0) = false := dqf h4; have f5 : decide (10 < y) = true := dqt h5; clear h3
      go_wp2_with fail
      go_quiet (fail)
      go_wp2_with fail
      go_quiet (fail)
      go_wp2
      go_ret
      exact ⟨by rw [hB.out]; rfl, by first | exact bnext (HB.out.alloc hsz _) (by simp; omega) (drewN_below _ _) | exact bnext (bnext (HB.out.alloc hsz _) (by simp; omega) (drewN_below _ _)) (by show w.heap.size ≤ (wr.alloc _).heap.size; simp; omega) (drewN_below _ _)⟩
     ·have hB := mh (rchk_bad hlt fun h => absurd (ST.out.1 h) (by omega))
      have f0 : decide (x < 0) = false := dqf h0; have f1 : decide (100000 < x) = false := dqf h1; have f2 : decide (x ≤ lx) = false := dqf h2; have f3 : (y == -1) = false := beq_eq_false_iff_ne.2 h3; have f4 : decide (y < 0) = false := dqf h4; have f5 : decide (10 < y) = false := dqf h5; have f6 : decide (y < ly) = true := dqt h6; clear h3
      go_wp2_with fail
      go_quiet (fail)
      go_wp2_with fail
      go_quiet (fail)
      go_wp2
      go_ret
      exact ⟨by rw [hB.out]; rfl, by first | exact bnext (HB.out.alloc hsz _) (by simp; omega) (drewN_below _ _) | exact bnext (bnext (HB.out.alloc hsz _) (by simp; omega) (drewN_below _ _)) (by show w.heap.size ≤ (wr.alloc _).heap.size; simp; omega) (drewN_below _ _)⟩
     ·have hG := NEXT.out (ST.out.2 (by omega))
      have HG := mh hG; clear hG; have f0 : decide (x < 0) = false := dqf h0; have f1 : decide (100000 < x) = false := dqf h1; have f2 : decide (x ≤ lx) = false := dqf h2; have f3 : (y == -1) = false := beq_eq_false_iff_ne.2 h3; have f4 : decide (y < 0) = false := dqf h4; have f5 : decide (10 < y) = false := dqf h5; have f6 : decide (y < ly) = false := dqf h6; clear h3
      go_wp2_with fail
      go_quiet (fail)
      go_wp2_with fail
      go_quiet (fail)
      go_wp2
      go_roundw
      case rel => exact ⟨k' + 1 + 1, by omega, by go_num, HG.out, by first | exact bnext (HB.out.alloc hsz _) (by simp; omega) (drewN_below _ _) | exact bnext (bnext (HB.out.alloc hsz _) (by simp; omega) (drewN_below _ _)) (by show w.heap.size ≤ (wr.alloc _).heap.size; simp; omega) (drewN_below _ _)⟩
      case measure => simp [intOf]; omega
   ·obtain rfl : k = D.length := by omega
    have hc := mh (show Re.chk D = 0 from Re.chk_zero.2 ⟨h1, by omega, HOK.out⟩); clear hok hb hlt hk
    go_wp2
    go_ret
    exact ⟨by rw [hc.out]; rfl, HB.out⟩
theorem up_all (a b : Int) (w : World) (ha : -9223372036854775808 ≤ a) (ha' : a ≤ 9223372036854775807) :
  Calls Tryz.prog 198 #[I O a, I O b] w fun e w' => e = .returned (I O (Ex.up a b)) ∧ w = w' := by
 by_cases h : a = -9223372036854775808
 ·have e : Ex.up a b = 0 := by
   unfold Ex.up Ex.down; rw [if_neg (by rw [Ex.fits_iff]; omega)]
   rfl
  have e2 : Ex.down a b = 0 := by
   unfold Ex.down; rw [if_neg (by rw [Ex.fits_iff]; omega)]
  have mm : IntKind.i64.wrap (-a) = a := by rw [IntKind.wrap_i64]; omega
  have hd := fun w => down_any a b w
  rw [e2] at hd; rw [e]; have HD := mh hd; clear hd e e2 h ha ha'
  go_enter Tryz.func198, Tryz.ntmps198
  go_wp2_with ((go_at_call 194; refine (HD.out _).mono ?_; rintro e w' ⟨rfl, rfl⟩))
  go_ret
  exact ⟨rfl, rfl⟩
 ·exact up_any a b w (by omega) ha'
theorem money_any (n : Int) (w : World) : Calls Tryz.prog 99 #[I O n] w fun e w' => e = .returned (.bool (En.money n)) ∧ w = w' := by
 by_cases h : 0 ≤ n
 ·by_cases h2 : n ≤ 68719476736
  ·rw [En.money_iff.2 ⟨h, h2⟩]
   go_enter Tryz.func99, Tryz.ntmps99
   go_wp2
   go_ret
   exact ⟨rfl, rfl⟩
  ·rw [En.money_not.2 (.inr (by omega))]
   go_enter Tryz.func99, Tryz.ntmps99
   go_wp2
   go_ret
   exact ⟨rfl, rfl⟩
 ·rw [En.money_not.2 (.inl (by omega))]
  go_enter Tryz.func99, Tryz.ntmps99
  go_wp2
  go_ret
  exact ⟨rfl, rfl⟩
theorem okAt_not {D : List (Int × Int)} {k : Nat} {x y lx ly : Int} (h : D.getD k (0, 0) = (x, y)) (hl : k ≠ 0 → D.getD (k - 1) (0, 0) = (lx, ly)) (h0 : k = 0 → lx = 0 ∧ ly = 0)
  (hb : En.money x = false ∨ y < 0 ∨ 1000 < y ∨ y < ly ∨ (0 < k ∧ x ≤ lx)) : ¬ Ce.okAt D k = true := by
 rw [Ce.okAt_iff]; unfold Ce.fr Ce.mi; rw [h]; rw [En.money_not] at hb
 by_cases hk : k = 0
 ·obtain ⟨rfl, rfl⟩ := h0 hk
  simp only; omega
 ·rw [hl hk]
  simp only; omega
theorem okAt_yes {D : List (Int × Int)} {k : Nat} {x y lx ly : Int} (h : D.getD k (0, 0) = (x, y)) (hl : k ≠ 0 → D.getD (k - 1) (0, 0) = (lx, ly))
  (h1 : En.money x = true) (h2 : ¬ y < 0) (h3 : ¬ 1000 < y) (h4 : ¬ y < ly) (h5 : ¬ (0 < k ∧ x ≤ lx)) : Ce.okAt D k = true := by
 rw [Ce.okAt_iff]; unfold Ce.fr Ce.mi; rw [h]; rw [En.money_iff] at h1
 by_cases hk : k = 0
 ·simp only
  omega
 ·rw [hl hk]
  simp only; omega
theorem chk_bad {D : List (Int × Int)} {k : Nat} (hk : k < D.length) (h : ¬ Ce.okAt D k = true) : Ce.chk D = 66 := Ce.chk_not fun hR => h (hR.ok k hk)
structure ChkAt (w wr : World) (D : List (Int × Int)) (k : Nat) (lx ly : Int) : Prop where
 below : Below w.heap.size w wr
 two : Two wr w.heap.size lx ly
 last : k ≠ 0 → D.getD (k - 1) (0, 0) = (lx, ly)
 first : k = 0 → lx = 0 ∧ ly = 0
 ok : ∀ j, j < k → Ce.okAt D j = true
theorem ChkAt.step {w wr : World} {D : List (Int × Int)} {k : Nat} {lx ly x y : Int} (h : ChkAt w wr D k lx ly) (hxy : D.getD k (0, 0) = (x, y)) (hok : Ce.okAt D k = true) (o : Obj) :
  ChkAt w (((wr.setCell ⟨w.heap.size, 0, none⟩ (I O x)).setCell ⟨w.heap.size, 1, none⟩ (I O y)).alloc o) D (k + 1) x y := by
 obtain ⟨lt, c0, c1, f0, f1⟩ := h.two; refine ⟨?_, ⟨by simp; omega, by go_simp, by go_simp, by go_simp, by go_simp⟩, fun _ => hxy, fun h => absurd h (by omega), fun j hj => ?_⟩
 ·exact ((h.below.setCell (p := ⟨w.heap.size, 0, none⟩) (by simp) _).setCell (p := ⟨w.heap.size, 1, none⟩) (by simp) _).alloc (by simp; omega) o
 ·by_cases e : j = k
  ·rw [e]; exact hok
  ·exact h.ok j (by omega)
theorem check_any (p : Option Addr) (D : List (Int × Int)) (cap : Nat) (w : World) (h : Pairs w p D) :
  Calls Tryz.prog 61 #[.slice p D.length cap] w fun e w' => e = .returned (I O (Ce.chk D)) ∧ Below w.heap.size w w' := by
 have hn := h.len
 by_cases h6 : 6 < D.length
 ·have hc : Ce.chk D = 66 := Ce.chk_not fun hR => by have := hR.len; omega
  rw [hc]; clear h
  go_enter Tryz.func61, Tryz.ntmps61
  go_wp2
  go_ret
  exact ⟨rfl, brf _ _⟩
 ·have H := mh h
  clear h
  go_enter Tryz.func61, Tryz.ntmps61
  go_wp2
  have hst : ChkAt w (w.alloc (Obj.cells #[I O 0, I O 0] 155)) D 0 0 0 :=
   ⟨(brf _ _).alloc mle _, ⟨by simp, by go_simp, by go_simp, by go_simp, by go_simp⟩, fun h => absurd rfl h, fun _ => ⟨rfl, rfl⟩, fun j hj => absurd hj (Nat.not_lt_zero j)⟩
  have HST := mh hst; clear hst
  go_loopw [11] (fun i wr => ∃ (k : Nat) (lx ly : Int), k ≤ D.length ∧ i = I O k ∧ ChkAt w wr D k lx ly) (fun i _ => D.length - (intOf i).toNat)
  case atStart => exact ⟨0, 0, 0, Nat.zero_le _, rfl, HST.out⟩
  case round =>
   clear HST; obtain ⟨k, lx, ly, hk, rfl, hC⟩ := hrel; have HC := mh hC
   by_cases hlt : k < D.length
   ·obtain ⟨b, off, x, y, rfl, hbl, hx0, hy0, hxy⟩ := H.out.get hlt
    have hx1 := (hC.below.cell (p := ⟨b, off + k * 2, none⟩) hbl).trans hx0; have hy1 := (hC.below.cell (p := ⟨b, off + k * 2 + 1, none⟩) hbl).trans hy0; have c0 := hC.two.c0; have c1 := hC.two.c1; have f0 := hC.two.f0; have f1 := hC.two.f1; have lt := hC.two.lt; clear hC hx0 hy0
    go_wp2_with (first | (go_at_call 99; refine (money_any _ _).mono ?_; rintro e w' ⟨rfl, rfl⟩))
    all_goals try (go_ret; exact ⟨by rw [chk_bad hlt (okAt_not hxy.out HC.out.last HC.out.first (by first | exact .inl (Bool.eq_false_iff.2 (by assumption)) | exact .inr (by omega)))]; rfl, HC.out.below.alloc (Nat.le_of_lt HC.out.two.lt) _⟩)
    all_goals try exact ⟨⟨k + 1, x, y, by omega, by go_num, HC.out.step hxy.out (okAt_yes hxy.out HC.out.last (by assumption) (by omega) (by omega) (by omega) (by omega)) _⟩, by simp [intOf]; omega⟩
   ·obtain rfl : k = D.length := by omega
    have hc := mh (show Ce.chk D = 0 from Ce.chk_zero.2 ⟨by omega, HC.out.ok⟩); clear hC hlt hk
    go_wp2
    go_ret
    exact ⟨by rw [hc.out]; rfl, HC.out.below⟩
end Go.Proofs.YtmlfcpglhipjgaaGreat

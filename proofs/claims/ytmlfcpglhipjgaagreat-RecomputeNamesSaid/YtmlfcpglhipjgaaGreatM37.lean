/-
  PACKED (pack8.py): what is needed of the texts Shelf2, Xn, Xo, Xd.
-/
import Derived.Test.YtmlfcpglhipjgaaGreatM32
set_option maxRecDepth 100000
set_option maxHeartbeats 4000000
open Go.Value renaming int → I
open Go.IntKind renaming i64 → O
namespace Go.Proofs
open Go.Shelf
def Tryz.laysSlE43_f85_ren : Go.Shelf.Ren := ⟨fun | 43 => 85 | n => n, fun | 22 => 22 | 23 => 3 | 3 => 3 | 4 => 4 | 0 => 0 | n => n, fun | n => n⟩
theorem Tryz.laysSlE43_f85 : Go.Proofs.SlLaysE.n43 Tryz.prog Tryz.laysSlE43_f85_ren := {
 mixed := by kernel_rfl
 f43 := ⟨Tryz.f85.name, by decide, Tryz.func85.trans (congrArg some (by kernel_rfl))⟩
 t0 := Tryz.underlying0
 a0 := Tryz.isAgg0
 z0 := Tryz.sizeOf0
 v0 := Tryz.zeroValue0
 t3 := Tryz.underlying3
 a3 := Tryz.isAgg3
 z3 := Tryz.sizeOf3
 v3 := Tryz.zeroValue3
 t4 := Tryz.underlying4
 a4 := Tryz.isAgg4
 z4 := Tryz.sizeOf4
 v4 := Tryz.zeroValue4
 t22 := Tryz.underlying22
 a22 := Tryz.isAgg22
 z22 := Tryz.sizeOf22
 v22 := Tryz.zeroValue22
 a23 := Tryz.isAgg3
 z23 := Tryz.sizeOf3 }
open Go.RowKit Go.Lib Go.Sort in
theorem Tryz.slices_Compact {α : Type} [Inhabited α] [DecidableEq α] (enc : α → Value) (hO : OneCell enc) (heq : EqlAt Tryz.prog 3 enc (fun x y => decide (x = y))) (hne : NeqAt Tryz.prog 3 enc (fun x y => decide (x = y))) (zr : α) (v23 : ∀ w, (zeroValue 3).run Tryz.prog w = .ok (enc zr) w) (blk off cap : Nat) (d : Array α) (w : World) (hH : Holds enc w blk off d) (hsz : d.size ≤ 9223372036854775807) (hcap : d.size ≤ cap) :
  Calls Tryz.prog 85 #[.slice (some ⟨blk, off, none⟩) d.size cap] w fun e w' => e = .returned (.slice (some ⟨blk, off, none⟩) (compactUpTo d d.size).length cap) ∧ ∃ q, w' = putRow enc (Sort.ahead w q) blk off (compactUpTo d d.size ++ List.replicate (d.size - (compactUpTo d d.size).length) zr).toArray := AnyE.slices_Compact Tryz.laysSlE43_f85 enc hO heq hne zr v23 blk off cap d w hH hsz hcap
def Tryz.laysNm189_ren : Go.Shelf.Ren := ⟨fun | 189 => 84 | 125 => 124 | 257 => 123 | 128 => 175 | 129 => 176 | 294 => 166 | 295 => 167 | 296 => 168 | 297 => 169 | 298 => 170 | 299 => 171 | 216 => 172 | 300 => 173 | 301 => 174 | 328 => 202 | 329 => 203 | 330 => 204 | 331 => 205 | 332 => 206 | 215 => 189 | 343 => 226 | n => n, fun | 28 => 22 | 3 => 3 | 46 => 178 | 0 => 0 | 51 => 217 | 53 => 219 | 4 => 4 | 183 => 210 | 182 => 209 | 131 => 179 | 5 => 5 | 9 => 9 | 218 => 240 | 222 => 244 | 228 => 257 | 229 => 84 | n => n, fun | n => n⟩
theorem Tryz.laysNm189 : Go.Proofs.Lays.n189 Tryz.prog Tryz.laysNm189_ren := {
 mixed := by kernel_rfl
 f125 := Tryz.func124.trans (congrArg some (by kernel_rfl))
 f128 := Tryz.func175.trans (congrArg some (by kernel_rfl))
 f129 := Tryz.func176.trans (congrArg some (by kernel_rfl))
 f189 := Tryz.func84.trans (congrArg some (by kernel_rfl))
 f215 := Tryz.func189.trans (congrArg some (by kernel_rfl))
 f216 := Tryz.func172.trans (congrArg some (by kernel_rfl))
 f257 := Tryz.func123.trans (congrArg some (by kernel_rfl))
 f294 := Tryz.func166.trans (congrArg some (by kernel_rfl))
 f295 := Tryz.func167.trans (congrArg some (by kernel_rfl))
 f296 := Tryz.func168.trans (congrArg some (by kernel_rfl))
 f297 := Tryz.func169.trans (congrArg some (by kernel_rfl))
 f298 := Tryz.func170.trans (congrArg some (by kernel_rfl))
 f299 := Tryz.func171.trans (congrArg some (by kernel_rfl))
 f300 := Tryz.func173.trans (congrArg some (by kernel_rfl))
 f301 := Tryz.func174.trans (congrArg some (by kernel_rfl))
 f328 := Tryz.func202.trans (congrArg some (by kernel_rfl))
 f329 := Tryz.func203.trans (congrArg some (by kernel_rfl))
 f330 := Tryz.func204.trans (congrArg some (by kernel_rfl))
 f331 := Tryz.func205.trans (congrArg some (by kernel_rfl))
 f332 := Tryz.func206.trans (congrArg some (by kernel_rfl))
 f343 := Tryz.func226.trans (congrArg some (by kernel_rfl))
 t0 := Tryz.underlying0
 a0 := Tryz.isAgg0
 z0 := Tryz.sizeOf0
 v0 := Tryz.zeroValue0
 t3 := Tryz.underlying3
 a3 := Tryz.isAgg3
 z3 := Tryz.sizeOf3
 v3 := Tryz.zeroValue3
 t4 := Tryz.underlying4
 a4 := Tryz.isAgg4
 z4 := Tryz.sizeOf4
 v4 := Tryz.zeroValue4
 t5 := Tryz.underlying5
 a5 := Tryz.isAgg5
 z5 := Tryz.sizeOf5
 v5 := Tryz.zeroValue5
 t9 := Tryz.underlying9
 a9 := Tryz.isAgg9
 z9 := Tryz.sizeOf9
 v9 := Tryz.zeroValue9
 t28 := Tryz.underlying22
 a28 := Tryz.isAgg22
 z28 := Tryz.sizeOf22
 v28 := Tryz.zeroValue22
 t46 := Tryz.underlying178
 a46 := Tryz.isAgg178
 z46 := Tryz.sizeOf178
 v46 := Tryz.zeroValue178
 t51 := Tryz.underlying217
 a51 := Tryz.isAgg217
 z51 := Tryz.sizeOf217
 v51 := Tryz.zeroValue217
 t53 := Tryz.underlying219
 a53 := Tryz.isAgg219
 z53 := Tryz.sizeOf219
 v53 := Tryz.zeroValue219
 t131 := Tryz.underlying179
 a131 := Tryz.isAgg179
 z131 := Tryz.sizeOf179
 v131 := Tryz.zeroValue179
 t182 := Tryz.underlying209
 a182 := Tryz.isAgg209
 z182 := Tryz.sizeOf209
 v182 := Tryz.zeroValue209
 t183 := Tryz.underlying210
 a183 := Tryz.isAgg210
 z183 := Tryz.sizeOf210
 v183 := Tryz.zeroValue210
 t218 := Tryz.underlying240
 a218 := Tryz.isAgg240
 z218 := Tryz.sizeOf240
 v218 := Tryz.zeroValue240
 t222 := Tryz.underlying244
 a222 := Tryz.isAgg244
 z222 := Tryz.sizeOf244
 v222 := Tryz.zeroValue244
 t228 := Tryz.underlying257
 a228 := Tryz.isAgg257
 z228 := Tryz.sizeOf257
 v228 := Tryz.zeroValue257
 t229 := Tryz.underlying84
 a229 := Tryz.isAgg84
 z229 := Tryz.sizeOf84
 v229 := Tryz.zeroValue84 }
open Go.RowKit Go.Lib Go.Sort in
theorem Tryz.slices_Sort_int (blk off cap : Nat) (zs : List Int) (w : World) (hH : Holds (Value.int .i64) w blk off zs.toArray) (hblk : blk < w.heap.size) (hsz : zs.length < 4611686018427387904) :
  Calls Tryz.prog 84 #[.slice (some ⟨blk, off, none⟩) zs.length cap] w fun e w' => e = .returned (.tuple #[]) ∧ ∃ n os, w' = grow (putRow (Value.int .i64) (Sort.ahead w n) blk off (zs.mergeSort fun x y => decide (x ≤ y)).toArray) os := Any.slices_Sort_int Tryz.laysNm189 blk off cap zs w hH hblk hsz
end Go.Proofs
namespace Go.Proofs.YtmlfcpglhipjgaaGreat
open Go.RowKit Sc As Go.Sort
theorem SI_flat (zs : List Int) : SI.flat zs = zs.map (Value.int .i64) := by
 induction zs with
 | nil => rfl
 | cons z zs ih =>
   rw [show z :: zs = [z] ++ zs from rfl, Shape.flat_append, ih]
   rfl
theorem sortOwn_any (B : Nat) (p : Option Addr) (n c : Nat) (zs : List Int) (w : World) (hn : zs.length = n) (h : OwnR SI w 3 B (.slice p n c) zs) (hl : n ≤ 100000) (h0 : 0 < n) :
  Calls Tryz.prog 84 #[.slice p n c] w fun e w' => e = .returned (.tuple #[]) ∧ OwnR SI w' 3 B (.slice p n c) (zs.mergeSort fun x y => decide (x ≤ y)) ∧ Below B w w' := by
 subst hn; unfold OwnR at h; rw [SI_flat] at h
 rcases h.2 with ⟨e, e2⟩ | ⟨g, cap, cur, e, hB, hb, hc1, hc2, hcs, hct⟩
 ·omega
 cases e
 have hct' : cur.toList.take zs.length = zs.map (Value.int .i64) := by rw [← hct]; show _ = cur.toList.take (zs.length * 1); rw [Nat.mul_one]
 have hcs' : cur.size = c * 1 := hcs; have hg : g < w.heap.size := (Array.getElem?_eq_some_iff.1 hb).1; refine (Tryz.slices_Sort_int g 0 c zs w (holds_of_blockI hb hct') hg (by omega)).mono fun e w' ⟨he, n, os, hw⟩ => ⟨he, ?_, ?_⟩
 ·subst hw
  have hlen : (zs.mergeSort fun x y => decide (x ≤ y)).length = zs.length := List.length_mergeSort _; have := ownsRow_sortedI (n := n) (os := os) (base := B) (ss := zs) hlen hB hb hc1 hc2 hcs'; unfold OwnR; rw [SI_flat, hlen]; exact this
 ·subst hw
  have hgr := grownBy_sortedI (w := w) (g := g) (n := n) (os := os) (zs.mergeSort fun x y => decide (x ≤ y)).toArray; exact (brf B w).grown hgr (by omega) fun k hk => by cases hk; exact hB
theorem Re.putRow_grow0 {w : World} {g n : Nat} (d : Array Int) : putRow (Value.int .i64) (Sort.ahead w n) g 0 d = grow (putRow (Value.int .i64) (Sort.ahead w n) g 0 d) #[] := (grow_empty _).symm
theorem compactOwn_any (B : Nat) (p : Option Addr) (n c : Nat) (zs : List Int) (w : World) (hn : zs.length = n) (h : OwnR SI w 3 B (.slice p n c) zs) (hl : n ≤ 100000) (h0 : 0 < n) :
  Calls Tryz.prog 85 #[.slice p n c] w fun e w' => e = .returned (.slice p (Go.Lib.compact zs).length c) ∧ OwnR SI w' 3 B (.slice p (Go.Lib.compact zs).length c) (Go.Lib.compact zs) ∧ Below B w w' := by
 subst hn; unfold OwnR at h; rw [SI_flat] at h
 rcases h.2 with ⟨e, e2⟩ | ⟨g, cap, cur, e, hB, hb, hc1, hc2, hcs, hct⟩
 ·omega
 cases e
 have hct' : cur.toList.take zs.length = zs.map (Value.int .i64) := by rw [← hct]; show _ = cur.toList.take (zs.length * 1); rw [Nat.mul_one]
 have hcs' : cur.size = c * 1 := hcs; have hg : g < w.heap.size := (Array.getElem?_eq_some_iff.1 hb).1; have hK : (Go.Lib.compact zs).length ≤ zs.length := by
  unfold Go.Lib.compact Go.Lib.compactUpTo; rw [List.length_map]; exact Nat.le_trans (List.length_filter_le _ _) (by rw [List.length_range]; exact Nat.le_refl _)
 refine (Tryz.slices_Compact (Value.int .i64) (fun _ => rfl) (EqlAt.intD _ _ .i64) (NeqAt.intD _ _ .i64) 0 Tryz.zeroValue3 g 0 c zs.toArray w (holds_of_blockI hb hct') (by simp; omega) (by simpa using hc1)).mono fun e w' ⟨he, q, hw⟩ => ⟨he, ?_, ?_⟩
 ·obtain ⟨ts, ets⟩ : ∃ ts, Go.Lib.compact zs ++ List.replicate (zs.length - (Go.Lib.compact zs).length) 0 = ts := ⟨_, rfl⟩
  have hlt : ts.length = zs.length := by rw [← ets, lap, List.length_replicate]; omega
  have hw2 : w' = grow (putRow (Value.int .i64) (Sort.ahead w q) g 0 ts.toArray) #[] := by rw [hw, ← ets]; exact Re.putRow_grow0 _
  subst hw2; have hh := heap_sortedI (n := q) (os := #[]) ts.toArray hb; have ht := take_putCellsI cur ts (by rw [hlt, hcs']; omega); unfold OwnR; rw [SI_flat]; refine ⟨by rw [List.length_map]; show _ = _ * 1; omega, .inr ⟨g, c, _, rfl, hB, hh, by omega, hc2, by simp [putCells, hcs']; show c = c * 1; omega, ?_⟩⟩
  show List.take ((Go.Lib.compact zs).length * 1) _ = _
  rw [Nat.mul_one, show (Go.Lib.compact zs).length = min (Go.Lib.compact zs).length ts.length from by omega, ← List.take_take, ht, ← ets, List.map_append]; rw [List.take_append_of_le_length (by rw [List.length_map]; omega), List.take_of_length_le (by rw [List.length_map]; omega)]
 ·rw [hw, Re.putRow_grow0]
  have hgr := grownBy_sortedI (w := w) (g := g) (n := q) (os := #[]) (Go.Lib.compactUpTo zs.toArray zs.toArray.size ++ List.replicate (zs.toArray.size - (Go.Lib.compactUpTo zs.toArray zs.toArray.size).length) 0).toArray; exact (brf B w).grown hgr (by omega) fun k hk => by cases hk; exact hB
open Go.Shelf
theorem sort_none (p : Option Addr) (c : Nat) (w : World) : Calls Tryz.prog 84 #[.slice p 0 c] w fun e w' => e = .returned (.tuple #[]) ∧ w' = w :=
 calls_of_every_depth fun D => AnyS.slices_Sort_int_none_in Tryz.laysNm189 D p c w
theorem compact_none (p : Option Addr) (c : Nat) (w : World) : Calls Tryz.prog 85 #[.slice p 0 c] w fun e w' => e = .returned (.slice p 0 c) ∧ w' = w := by
 go_enter Tryz.func85, Tryz.ntmps85
 go_wp2
 go_ret
 exact ⟨rfl, rfl⟩
namespace Re
def others (A : List Awd) (farm : Int) : List Awd := (A.filter fun a => a.farm != farm).map fun a => { a with due := 0 }
theorem others_take {A : List Awd} {farm : Int} {k : Nat} (hk : k < A.length) : others (A.take (k + 1)) farm = others (A.take k) farm ++ (if A[k].farm = farm then [] else [{ A[k] with due := 0 }]) := by
 unfold others; rw [tsg hk, List.filter_append, List.map_append]
 congr 1
 by_cases h : A[k].farm = farm
 ·rw [if_pos h]; simp [h]
 ·rw [if_neg h]; simp [h]
theorem others_len (A : List Awd) (farm : Int) : (others A farm).length ≤ A.length := by
 unfold others; rw [List.length_map]; exact List.length_filter_le _ _
end Re
theorem others_any (fp : Option Addr) (fn fc : Nat) (num den : Int) (dv : Bool) (p : Option Addr) (A : List Awd) (c : Nat) (farm : Int) (w : World) (h : Recs SA w p A) (hl : A.length ≤ 1000) :
  Calls Tryz.prog 126 #[.agg #[.slice fp fn fc, .slice p A.length c, I O num, I O den, .bool dv], I O farm] w (RowG (Re.others A farm) w) := by
 have H := mh h; have hlen := h.len; have HB0 := mh ((brf w.heap.size w).alloc mle (.cells #[.slice fp fn fc, .slice p A.length c, I O num, I O den, .bool dv] 140)); clear h
 go_enter Tryz.func126, Tryz.ntmps126
 go_wp2
 generalize w.alloc (.cells #[.slice fp fn fc, .slice p A.length c, I O num, I O den, .bool dv] 140) = w0 at *
 go_loopw [5, 11] (fun v i wr => ∃ k : Nat, k ≤ A.length ∧ i = I O k ∧ OwnR SA wr 60 w.heap.size v (Re.others (A.take k) farm) ∧ Below w.heap.size w wr) (fun _ i _ => A.length - (intOf i).toNat)
 case atStart => exact ⟨0, Nat.zero_le _, rfl, OwnR.nil _ _ _, HB0.out⟩
 case round =>
  obtain ⟨wo, rfl⟩ : ∃ wo : World, wo = wr := ⟨_, rfl⟩; obtain ⟨k, hk, rfl, hown, hb⟩ := hrel; have HO := mh hown; have HB := mh hb; have hk0 : (0 : Int) ≤ (k : Int) := inn _
  by_cases hlt : k < A.length
  ·have hk1 : (k : Int) < (A.length : Int) := by omega
   obtain ⟨b, off, e, hbl, ⟨c0, c1, c2, c3, c4, c5, c6, c7, c8⟩⟩ := SA_at (H.out.below hb) hlt
   cases e
   have ST := Re.others_take (farm := farm) hlt; obtain ⟨⟨a1, a2, a3, a4, a5, a6, a7, a8, a9⟩, ea⟩ : ∃ a, A[k] = a := ⟨_, rfl⟩; rw [ea] at c0 c1 c2 c3 c4 c5 c6 c7 c8 ST; simp only at c0 c1 c2 c3 c4 c5 c6 c7 c8 ST
   have HCL := mh (show (Re.others (A.take k) farm).length < 1073741824 by
    have := Re.others_len (A.take k) farm; rw [List.length_take] at this
    omega)
   have HSZ := mh hb.size
   by_cases hf : a1 = farm
   ·have STH := mh (show Re.others (A.take (k + 1)) farm = Re.others (A.take k) farm from by rw [ST, if_pos hf, List.append_nil])
    have hfb : (a1 != farm) = false := by simpa using hf
    have hba := (brf wo.heap.size wo).alloc mle (.cells #[I O a1, I O a2, I O a3, I O a4, I O a5, I O a6, I O a7, I O a8, I O a9] 60); have HOA := mh (HO.out.below hba); have HBA := mh (HB.out.trans (hba.mono HB.out.size)); clear ST ea hb hown hf hba
    go_wp2_with fail
    go_roundw
    case rel => exact ⟨k + 1, by omega, by go_num, by rw [STH.out]; exact HOA.out, HBA.out⟩
    case measure => simp [intOf]; omega
   ·have STH := mh (show Re.others (A.take (k + 1)) farm = Re.others (A.take k) farm ++ [⟨a1, a2, a3, a4, a5, a6, a7, a8, 0⟩] from by rw [ST, if_neg hf])
    have hfb : (a1 != farm) = true := by simpa using hf
    have hba := (brf wo.heap.size wo).alloc mle (.cells #[I O a1, I O a2, I O a3, I O a4, I O a5, I O a6, I O a7, I O a8, I O 0] 60); have HOA := mh (HO.out.below hba); have HBA := mh (HB.out.trans (hba.mono HB.out.size)); have HSA := mh (Nat.le_trans HSZ.out hba.size); clear ST ea hb hown hf hba
    go_wp2_with (first | (at_builtin; (refine OwnR.append el_awd rfl (.tmp 20) (.tmp 22) rfl w.heap.size _ (Re.others (A.take k) farm) ⟨a1, a2, a3, a4, a5, a6, a7, a8, 0⟩ #[I O a1, I O a2, I O a3, I O a4, I O a5, I O a6, I O a7, I O a8, I O 0] rfl HOA.out rfl (by simp [Act.eval]) HSA.out HCL.out (by decide) ?_); intro v5 w5 hO5 hap5; have HO5 := mh hO5; have HB5 := mh (HBA.out.trans hap5.below); clear hO5 hap5) | fail)
    go_roundw
    case rel => exact ⟨k + 1, by omega, by go_num, by rw [STH.out]; exact HO5.out, HB5.out⟩
    case measure => simp [intOf]; omega
  ·obtain rfl : k = A.length := by omega
   rw [List.take_length] at HO; obtain ⟨p4, c4, rfl, -, -, -, -, hr⟩ := HO.out.cut rfl; have HR := mh hr; clear hb hown hr
   go_wp2_with fail
   go_ret
   exact ⟨p4, c4, rfl, HR.out, HB.out⟩
end Go.Proofs.YtmlfcpglhipjgaaGreat

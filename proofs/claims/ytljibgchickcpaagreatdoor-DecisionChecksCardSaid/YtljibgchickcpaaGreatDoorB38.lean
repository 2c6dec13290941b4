/- Packed. -/
import Derived.Test.YtljibgchickcpaaGreatDoorB37
set_option maxRecDepth 100000
set_option maxHeartbeats 8000000
open Go.Value renaming int → I
open Go.IntKind renaming i64 → O
namespace Go.Proofs.YtljibgchickcpaaGreatDoor
open Go.RowKit Sc As Dn
theorem IsRow.below {k : IntKind} {w w' : World} {a : Option Addr} {len cap : Nat} {zs : List Int} (h : IsRow k w a len cap zs) (hb : Below w.heap.size w w') : IsRow k w' a len cap zs := by
 rcases h with h | ⟨x, e, h1, h2, h3, h4, h5⟩
 ·exact .inl h
 ·exact .inr ⟨x, e, h1, h2, h3, fun i hi => (hb.cell (World.block_lt_of_cell? w _ (h4 i hi))).trans (h4 i hi), h5⟩
theorem num_bd (y f v : Int) : -9223372036854775808 ≤ Dn.num y f v ∧ Dn.num y f v ≤ 9223372036854775807 := by
 unfold Dn.num
 split
 ·rename_i h
  unfold named at h; simp only [Bool.and_eq_true, inR_iff] at h; omega
 ·omega
theorem checks35_walk (p : Option Addr) (len cap : Nat) (z : List Int) (r : RD) (D0 : Dec) (y f v num x : Int) (w : World) (hp : IsRow .i64 w p len cap z) (h0 : DV w r D0) (hE : Env w)
  (hx : -9223372036854775808 ≤ x ∧ x ≤ 9223372036854775807) (hy : -9223372036854775808 ≤ y ∧ y ≤ 9223372036854775807) (hf : -9223372036854775808 ≤ f ∧ f ≤ 9223372036854775807) (hv : -9223372036854775808 ≤ v ∧ v ≤ 9223372036854775807) (hnum : -9223372036854775808 ≤ num ∧ num ≤ 9223372036854775807) :
  Calls Tryz.prog 3 #[.slice p len cap, .agg (dCells r).toArray, I O y, I O f, I O v, I O num, I O x] w (BoolG true w) := by
 have h30 := mh h0; have n0 : 0 ≤ (r.an : Int) := inn _; have n1 : 0 ≤ (r.rn : Int) := inn _; have BX := mh (show Below w.heap.size w (w.alloc (.cells #[I O r.year, I O r.farm, I O r.ver, .slice r.ap r.an r.ac, .slice r.rp r.rn r.rc] 26)) from (brf _ _).alloc mle _); have AW := mh (fun (W : World) (hW : Below w.heap.size w W) => awake35_any W (hE.below hW)); unfold BoolG at AW; have RX := mh (Blk.new w #[I O r.year, I O r.farm, I O r.ver, .slice r.ap r.an r.ac, .slice r.rp r.rn r.rc] 26); have SZX := mh (show (w.alloc (.cells #[I O r.year, I O r.farm, I O r.ver, .slice r.ap r.an r.ac, .slice r.rp r.rn r.rc] 26)).heap.size = w.heap.size + 1 from by simp); have NW := mh (new_any p len cap z (w.alloc (.cells #[I O r.year, I O r.farm, I O r.ver, .slice r.ap r.an r.ac, .slice r.rp r.rn r.rc] 26)) (IsRow.below hp BX.out)); have MD := mh (fun W : World => mod_any x 70 W hx.1 (by omega)); clear hp h0 hE; simp only [dCells]
 by_cases hlong : 30 < r.an ∨ 210 < r.rn
 ·have AL := mh (AW.out _ BX.out)
  have hl : (30 : Int) < (r.an : Int) ∨ (¬ (30 : Int) < (r.an : Int) ∧ (210 : Int) < (r.rn : Int)) := by omega
  clear hlong
  rcases hl with hl | ⟨hl, hl2⟩
  all_goals
   go_enter Tryz.func3, Tryz.ntmps3
   go_wp2_with (go_at_call 6; (with_reducible refine cmo AL.out ?_); rintro e wz ⟨rfl, hbz⟩)
   go_ret
   exact ⟨rfl, BX.out.trans (hbz.mono BX.out.size)⟩
 have g1 : ¬ (30 : Int) < (r.an : Int) := by omega
 have g2 : ¬ (210 : Int) < (r.rn : Int) := by omega
 clear hlong
 go_enter Tryz.func3, Tryz.ntmps3
 go_upto_region 4 with (first | (go_at_call 7; (with_reducible refine cmo NW.out ?_); rintro e w1 ⟨rfl, ht1, hb1⟩; rw [SZX.out] at ht1; have T1 := mh ht1; have HB1 := mh (show Below w.heap.size w w1 from BX.out.trans (hb1.mono BX.out.size)); have RX1 := mh (RX.out.below hb1); clear ht1 hb1) | fail)
 obtain ⟨l, el⟩ : ∃ l, (z.take len).take 400 = l := ⟨_, rfl⟩; rw [el] at T1; obtain ⟨t, et⟩ : ∃ t, w.heap.size + 1 = t := ⟨_, rfl⟩; rw [et] at T1 ⊢
 have KS := mh (show ∀ W : World, W.heap[w.heap.size]? = w1.heap[w.heap.size]? → (W.cell? ⟨w.heap.size, 0, none⟩ = some (I O r.year) ∧ W.cell? ⟨w.heap.size, 1, none⟩ = some (I O r.farm) ∧ W.cell? ⟨w.heap.size, 2, none⟩ = some (I O r.ver) ∧ W.cell? ⟨w.heap.size, 3, none⟩ = some (.slice r.ap r.an r.ac) ∧ W.cell? ⟨w.heap.size, 4, none⟩ = some (.slice r.rp r.rn r.rc)) from fun W h => by
  have g : Blk W w.heap.size #[I O r.year, I O r.farm, I O r.ver, .slice r.ap r.an r.ac, .slice r.rp r.rn r.rc] 26 := h.trans RX1.out
  exact ⟨g.cell 0, g.cell 1, g.cell 2, g.cell 3, g.cell 4⟩)
 have hbt : w.heap.size ≠ t := by omega
 have hbl := RX1.out.lt; have htw : w.heap.size ≤ t := by omega
 have DC := mh (decision2_any t l 0 w1.drew (T1.out.below (brf _ _).drew)); unfold DecG at DC; have SPF := mh (fun (W : World) (q : Nat) (u : Int) (h : TapeAt W t l q) => spoilt35_any t l q u W h); unfold SpG at SPF; have TP0 := mh (show TpB w1 w1.drew t l 0 from (TpB.init T1.out).drew); refine wp_region_held_drew (S := fun w' => w'.cell? ⟨w.heap.size, 0, none⟩ = some (I O r.year) ∧ w'.cell? ⟨w.heap.size, 1, none⟩ = some (I O r.farm) ∧ w'.cell? ⟨w.heap.size, 2, none⟩ = some (I O r.ver) ∧ w'.cell? ⟨w.heap.size, 3, none⟩ = some (.slice r.ap r.an r.ac) ∧ w'.cell? ⟨w.heap.size, 4, none⟩ = some (.slice r.rp r.rn r.rc)) (by kernel_rfl) (KS.out _ rfl) (fun hHeld => ?_); refine tkD 0 44 ?_ (hS := hHeld); refine tkD 2 46 ?_ (hS := hHeld); refine tkD 3 47 ?_ (hS := hHeld); refine tkD 5 49 ?_ (hS := hHeld); refine tkD 6 50 ?_ (hS := hHeld); refine tkD 10 54 ?_ (hS := hHeld); refine tkD 13 57 ?_ (hS := hHeld); refine rdA 1 45 (fun K hK => ?_); go_simp; (with_reducible refine cmo DC.out ?_); rintro e w2 ⟨r1, D1, q1, rfl, hd1, -, tp1⟩; simp only [dCells]; have HD1 := mh hd1; have TP1 := mh (TP0.out.trans tp1); clear hd1 tp1; have hH2 := KS.out _ (TP1.out.but.block _ hbl hbt)
 go_wp2_with fail
 refine hK.out _ _ hH2 (fun _ => ?_)
 clear hK K
 (try dsimp only [Act.put])
 try simp only [mnA, mnB, mnC]
 refine rdA 4 48 (fun K hK => ?_)
 go_simp
 (with_reducible refine cmo (SPF.out w2 q1 x TP1.out.tape) ?_); rintro e w3 ⟨r2, D2, q2, rfl, hd2, tp2⟩; simp only [dCells]; have HD2 := mh hd2; have HD1 := mh (HD1.out.but tp2.but T1.out.lt); have TP2 := mh (TP1.out.trans tp2); clear hd2 tp2; have hH3 := KS.out _ (TP2.out.but.block _ hbl hbt)
 go_wp2_with fail
 refine hK.out _ _ hH3 (fun _ => ?_)
 clear hK K
 (try dsimp only [Act.put])
 try simp only [mnA, mnB, mnC]
 obtain ⟨mm, emm⟩ : ∃ mm, mod x 70 = mm := ⟨_, rfl⟩; have MB := mod_bd x (n := 70) (by omega); rw [emm] at MD MB; obtain ⟨mb0, mb1⟩ := MB; have hwm : IntKind.i64.wrap (mm - 2) = mm - 2 := IntWalk.i64_in _ ⟨by omega, by omega⟩; refine rdA 7 51 (fun K hK => ?_); go_simp; (with_reducible refine cmo (MD.out w3) ?_); rintro e w3b ⟨rfl, rfl⟩; have hH4 := KS.out _ (TP2.out.but.block _ hbl hbt)
 go_wp2_with fail
 refine hK.out _ _ hH4 (fun _ => ?_)
 clear hK K
 (try dsimp only [Act.put])
 try simp only [mnA, mnB, mnC]
 refine tkA 8 52 ?_ (hS := hH4)
 simp only [Act.put, mnA, mnB, mnC]; refine rdA 9 53 (fun K hK => ?_); go_simp; (with_reducible refine cmo (SPF.out w3 q2 (mm - 2) TP2.out.tape) ?_); rintro e w4 ⟨r3, D3, q3, rfl, hd3, tp3⟩; simp only [dCells]; have HD3 := mh hd3; have HD2 := mh (HD2.out.but tp3.but (show t < w2.heap.size from nll T1.out.lt TP1.out.but.size)); have HD1 := mh (HD1.out.but tp3.but T1.out.lt); have TP3 := mh (TP2.out.trans tp3); clear hd3 tp3; have hH5 := KS.out _ (TP3.out.but.block _ hbl hbt)
 go_wp2_with fail
 refine hK.out _ _ hH5 (fun _ => ?_)
 clear hK K
 (try dsimp only [Act.put])
 try simp only [mnA, mnB, mnC]
 refine rdA 11 55 (fun K hK => ?_)
 go_simp
 have BW4 := mh (show Below w.heap.size w w4 from HB1.out.trans (TP3.out.but.below htw HB1.out.size)); have B5 := mh (show Below w4.heap.size w4 (w4.alloc (.cells #[I O r1.year, I O r1.farm, I O r1.ver, .slice r1.ap r1.an r1.ac, .slice r1.rp r1.rn r1.rc, I O r2.year, I O r2.farm, I O r2.ver, .slice r2.ap r2.an r2.ac, .slice r2.rp r2.rn r2.rc, I O r3.year, I O r3.farm, I O r3.ver, .slice r3.ap r3.an r3.ac, .slice r3.rp r3.rn r3.rc, I O r.year, I O r.farm, I O r.ver, .slice r.ap r.an r.ac, .slice r.rp r.rn r.rc] 26)) from (brf _ _).alloc mle _); have RW := mh (show Recs SDc (w4.alloc (.cells #[I O r1.year, I O r1.farm, I O r1.ver, .slice r1.ap r1.an r1.ac, .slice r1.rp r1.rn r1.rc, I O r2.year, I O r2.farm, I O r2.ver, .slice r2.ap r2.an r2.ac, .slice r2.rp r2.rn r2.rc, I O r3.year, I O r3.farm, I O r3.ver, .slice r3.ap r3.an r3.ac, .slice r3.rp r3.rn r3.rc, I O r.year, I O r.farm, I O r.ver, .slice r.ap r.an r.ac, .slice r.rp r.rn r.rc] 26)) (some ⟨w4.heap.size, 0, none⟩) [r1, r2, r3, r] from Recs.lit (S := SDc) w4 26 [r1, r2, r3, r] (by show 4 ≤ _; unfold maxLen; omega)); have DS := mh (show DsV (w4.alloc (.cells #[I O r1.year, I O r1.farm, I O r1.ver, .slice r1.ap r1.an r1.ac, .slice r1.rp r1.rn r1.rc, I O r2.year, I O r2.farm, I O r2.ver, .slice r2.ap r2.an r2.ac, .slice r2.rp r2.rn r2.rc, I O r3.year, I O r3.farm, I O r3.ver, .slice r3.ap r3.an r3.ac, .slice r3.rp r3.rn r3.rc, I O r.year, I O r.farm, I O r.ver, .slice r.ap r.an r.ac, .slice r.rp r.rn r.rc] 26)) [r1, r2, r3, r] [D1, D2, D3, D0] from (DsV.four HD1.out.dv HD2.out.dv HD3.out.dv (h30.out.below BW4.out)).below B5.out); have BW5 := mh (show Below w.heap.size w (w4.alloc (.cells #[I O r1.year, I O r1.farm, I O r1.ver, .slice r1.ap r1.an r1.ac, .slice r1.rp r1.rn r1.rc, I O r2.year, I O r2.farm, I O r2.ver, .slice r2.ap r2.an r2.ac, .slice r2.rp r2.rn r2.rc, I O r3.year, I O r3.farm, I O r3.ver, .slice r3.ap r3.an r3.ac, .slice r3.rp r3.rn r3.rc, I O r.year, I O r.farm, I O r.ver, .slice r.ap r.an r.ac, .slice r.rp r.rn r.rc] 26)) from BW4.out.trans (B5.out.mono BW4.out.size)); have hH6 := KS.out (w4.alloc (.cells #[I O r1.year, I O r1.farm, I O r1.ver, .slice r1.ap r1.an r1.ac, .slice r1.rp r1.rn r1.rc, I O r2.year, I O r2.farm, I O r2.ver, .slice r2.ap r2.an r2.ac, .slice r2.rp r2.rn r2.rc, I O r3.year, I O r3.farm, I O r3.ver, .slice r3.ap r3.an r3.ac, .slice r3.rp r3.rn r3.rc, I O r.year, I O r.farm, I O r.ver, .slice r.ap r.an r.ac, .slice r.rp r.rn r.rc] 26)) ((B5.out.block _ (nll hbl TP3.out.but.size)).trans (TP3.out.but.block _ hbl hbt)); refine hK.out _ _ hH6 (fun _ => ?_); clear hK K
 (try dsimp only [Act.put])
 try simp only [mnA, mnB, mnC]
 generalize w4.alloc (.cells #[I O r1.year, I O r1.farm, I O r1.ver, .slice r1.ap r1.an r1.ac, .slice r1.rp r1.rn r1.rc, I O r2.year, I O r2.farm, I O r2.ver, .slice r2.ap r2.an r2.ac, .slice r2.rp r2.rn r2.rc, I O r3.year, I O r3.farm, I O r3.ver, .slice r3.ap r3.an r3.ac, .slice r3.rp r3.rn r3.rc, I O r.year, I O r.farm, I O r.ver, .slice r.ap r.an r.ac, .slice r.rp r.rn r.rc] 26) = w5 at *; obtain ⟨g5, eg5⟩ : ∃ g, w4.heap.size = g := ⟨_, rfl⟩; rw [eg5] at RW ⊢; refine tkD 12 56 ?_ (hS := hH6); refine wpAnyH_done (by kernel_rfl) ?_ _; clear hHeld hH2 hH3 hH4 hH5 hH6 eg5 hwm mb0 mb1
 go_wp2_with fail
 go_loopw [57] (fun iv W => ∃ k : Nat, k ≤ 4 ∧ iv = I O (k : Int) ∧ Below w5.heap.size w5 W) (fun iv _ => 4 - (intOf iv).toNat)
 case atStart => exact ⟨0, Nat.zero_le _, rfl, brf _ _⟩
 case round =>
  obtain ⟨k, hk, rfl, hb⟩ := hrel; have HBr := mh hb; have hk0 : (0 : Int) ≤ (k : Int) := inn _
  by_cases hlt : k < 4
  ·have hk1 : (k : Int) < 4 := by omega
   obtain ⟨bb, oo, ebo, hbl6, e0, e1, e2, e3, e4⟩ := SDc_at (RW.out.below hb) (k := k) (by show k < 4; exact hlt)
   cases ebo
   rw [Nat.zero_add] at e0 e1 e2 e3 e4; have DVk := (DS.out.below hb).2 k (by show k < 4; exact hlt) (by show k < 4; exact hlt); obtain ⟨rr, err⟩ : ∃ rr, ([r1, r2, r3, r] : List RD)[k]'(by show k < 4; exact hlt) = rr := ⟨_, rfl⟩; obtain ⟨Dk, eDk⟩ : ∃ Dk, ([D1, D2, D3, D0] : List Dec)[k]'(by show k < 4; exact hlt) = Dk := ⟨_, rfl⟩; rw [err] at e0 e1 e2 e3 e4 DVk; rw [eDk] at DVk; have HDV := mh DVk; clear err eDk DVk hb
   go_upto_region 7 with fail
   have R6 := mh (Blk.new wr #[I O rr.year, I O rr.farm, I O rr.ver, .slice rr.ap rr.an rr.ac, .slice rr.rp rr.rn rr.rc] 26); have A6 := mh (show Below wr.heap.size wr (wr.alloc (.cells #[I O rr.year, I O rr.farm, I O rr.ver, .slice rr.ap rr.an rr.ac, .slice rr.rp rr.rn rr.rc] 26)) from (brf _ _).alloc mle _); have HB6 := mh (show Below w5.heap.size w5 (wr.alloc (.cells #[I O rr.year, I O rr.farm, I O rr.ver, .slice rr.ap rr.an rr.ac, .slice rr.rp rr.rn rr.rc] 26)) from HBr.out.trans (A6.out.mono HBr.out.size)); have HDV6 := mh (HDV.out.below A6.out); generalize (wr.alloc (.cells #[I O rr.year, I O rr.farm, I O rr.ver, .slice rr.ap rr.an rr.ac, .slice rr.rp rr.rn rr.rc] 26)) = w6 at *; obtain ⟨g6, eg6⟩ : ∃ g, wr.heap.size = g := ⟨_, rfl⟩; rw [eg6] at R6 ⊢; have hl6 := R6.out.lt
   have KK := mh (show ∀ W : World, W.heap[g6]? = w6.heap[g6]? → (W.cell? ⟨g6, 0, none⟩ = some (I O rr.year) ∧ W.cell? ⟨g6, 1, none⟩ = some (I O rr.farm) ∧ W.cell? ⟨g6, 2, none⟩ = some (I O rr.ver) ∧ W.cell? ⟨g6, 3, none⟩ = some (.slice rr.ap rr.an rr.ac) ∧ W.cell? ⟨g6, 4, none⟩ = some (.slice rr.rp rr.rn rr.rc)) from fun W h => by
    have g : Blk W g6 #[I O rr.year, I O rr.farm, I O rr.ver, .slice rr.ap rr.an rr.ac, .slice rr.rp rr.rn rr.rc] 26 := h.trans R6.out
    exact ⟨g.cell 0, g.cell 1, g.cell 2, g.cell 3, g.cell 4⟩)
   have C1 := mh (fun (W : World) (hW : Below w6.heap.size w6 W) => show Calls Tryz.prog 11 #[.agg #[I O rr.year, I O rr.farm, I O rr.ver, .slice rr.ap rr.an rr.ac, .slice rr.rp rr.rn rr.rc]] W (IntG (chk Dk) W) from check35_any rr Dk W (HDV6.out.below hW)); have C2 := mh (fun (W : World) (hW : Below w6.heap.size w6 W) => show Calls Tryz.prog 12 #[.agg #[I O rr.year, I O rr.farm, I O rr.ver, .slice rr.ap rr.an rr.ac, .slice rr.rp rr.rn rr.rc]] W (IntG (chk Dk) W) from refcheck35_any rr Dk W (HDV6.out.below hW)); have C3 := mh (fun (W : World) (hW : Below w6.heap.size w6 W) => show Calls Tryz.prog 13 #[.agg #[I O rr.year, I O rr.farm, I O rr.ver, .slice rr.ap rr.an rr.ac, .slice rr.rp rr.rn rr.rc]] W (IntG (totW Dk.aw) W) from total35_any rr Dk W (HDV6.out.below hW)); have C4 := mh (fun (W : World) (hW : Below w6.heap.size w6 W) => show Calls Tryz.prog 14 #[.agg #[I O rr.year, I O rr.farm, I O rr.ver, .slice rr.ap rr.an rr.ac, .slice rr.rp rr.rn rr.rc]] W (IntG (totW Dk.aw) W) from reftotal35_any rr Dk W (HDV6.out.below hW)); obtain ⟨ck, eck⟩ : ∃ z, chk Dk = z := ⟨_, rfl⟩; obtain ⟨tw, etw⟩ : ∃ z, totW Dk.aw = z := ⟨_, rfl⟩; rw [eck] at C1 C2; rw [etw] at C3 C4; unfold IntG at C1 C2 C3 C4; have hd6 : Below w6.heap.size w6 w6.drew := (brf _ _).drew; clear eck etw eg6 e0 e1 e2 e3 e4 hbl6
   go_region_held3 (fun w' => w'.cell? ⟨g6, 0, none⟩ = some (I O rr.year) ∧ w'.cell? ⟨g6, 1, none⟩ = some (I O rr.farm) ∧ w'.cell? ⟨g6, 2, none⟩ = some (I O rr.ver) ∧ w'.cell? ⟨g6, 3, none⟩ = some (.slice rr.ap rr.an rr.ac) ∧ w'.cell? ⟨g6, 4, none⟩ = some (.slice rr.rp rr.rn rr.rc)) (first | exact KK.out _ rfl | exact K1 | exact K2 | exact K3 | exact K4) ((first | (go_at_call 11; (with_reducible refine cmo (C1.out _ hd6) ?_); rintro e v1 ⟨rfl, hc1⟩; have hb1 : Below w6.heap.size w6 v1 := (hd6).trans (hc1.mono (hd6).size); have K1 := KK.out v1 (hb1.block _ hl6); clear hc1) | (go_at_call 12; (with_reducible refine cmo (C2.out _ hb1) ?_); rintro e v2 ⟨rfl, hc2⟩; have hb2 : Below w6.heap.size w6 v2 := (hb1).trans (hc2.mono (hb1).size); have K2 := KK.out v2 (hb2.block _ hl6); clear hc2) | (go_at_call 13; (with_reducible refine cmo (C3.out _ hb2) ?_); rintro e v3 ⟨rfl, hc3⟩; have hb3 : Below w6.heap.size w6 v3 := (hb2).trans (hc3.mono (hb2).size); have K3 := KK.out v3 (hb3.block _ hl6); clear hc3) | (go_at_call 14; (with_reducible refine cmo (C4.out _ hb3) ?_); rintro e v4 ⟨rfl, hc4⟩; have hb4 : Below w6.heap.size w6 v4 := (hb3).trans (hc4.mono (hb3).size); have K4 := KK.out v4 (hb4.block _ hl6); clear hc4) | fail))
   have HB9 := mh (show Below w5.heap.size w5 v4 from HB6.out.trans (hb4.mono HB6.out.size)); clear hb1 hb2 hb3 hb4 K1 K2 K3 K4
   go_wp2_with fail
   go_roundw
   case rel => exact ⟨k + 1, by omega, by go_num, HB9.out⟩
   case measure => simp [intOf]; omega
  ·obtain rfl : k = 4 := by omega
   have HBW := mh (BW5.out.trans (hb.mono BW5.out.size)); have q1 := mod_bd y (n := 103) (by omega); have q2 := mod_bd f (n := 63) (by omega); have q3 := mod_bd v (n := 102) (by omega); have q4 := mod_bd num (n := 620000) (by omega); have M1 := mh (fun W : World => mod_any y 103 W hy.1 (by omega)); have M2 := mh (fun W : World => mod_any f 63 W hf.1 (by omega)); have M3 := mh (fun W : World => mod_any v 102 W hv.1 (by omega)); have M4 := mh (fun W : World => mod_any num 620000 W hnum.1 (by omega)); obtain ⟨a1, ea1⟩ : ∃ z, mod y 103 = z := ⟨_, rfl⟩; obtain ⟨a2, ea2⟩ : ∃ z, mod f 63 = z := ⟨_, rfl⟩; obtain ⟨a3, ea3⟩ : ∃ z, mod v 102 = z := ⟨_, rfl⟩; obtain ⟨a4, ea4⟩ : ∃ z, mod num 620000 = z := ⟨_, rfl⟩; rw [ea1] at q1 M1; rw [ea2] at q2 M2; rw [ea3] at q3 M3; rw [ea4] at q4 M4; have w1' : IntKind.i64.wrap (a1 - 1) = a1 - 1 := IntWalk.i64_in _ ⟨by omega, by omega⟩; have w2' : IntKind.i64.wrap (a2 - 1) = a2 - 1 := IntWalk.i64_in _ ⟨by omega, by omega⟩; have w3' : IntKind.i64.wrap (a3 - 1) = a3 - 1 := IntWalk.i64_in _ ⟨by omega, by omega⟩; have NR := mh (fun W : World => refnum35_any (a1 - 1) (a2 - 1) (a3 - 1) W); have Q := mh q4; clear ea1 ea2 ea3 ea4 q1 q2 q3 q4 hb hlt
   go_upto_region 12 with (first | (go_at_call 10; (with_reducible refine cmo (M1.out _) ?_); rintro e wm ⟨rfl, rfl⟩) | (go_at_call 10; (with_reducible refine cmo (M2.out _) ?_); rintro e wm ⟨rfl, rfl⟩) | (go_at_call 10; (with_reducible refine cmo (M3.out _) ?_); rintro e wm ⟨rfl, rfl⟩) | (go_at_call 10; (with_reducible refine cmo (M4.out _) ?_); rintro e wm ⟨rfl, rfl⟩) | (go_at_call 15; (with_reducible refine cmo (NR.out _) ?_); rintro e wm ⟨rfl, rfl⟩) | fail)
   have NB := num_bd (a1 - 1) (a2 - 1) (a3 - 1); have QQ := Q.out; obtain ⟨nn, enn⟩ : ∃ z, Dn.num (a1 - 1) (a2 - 1) (a3 - 1) = z := ⟨_, rfl⟩; rw [enn] at NB
   (try rw [enn])
   have RI := mh (show Recs SI (wr.alloc (.cells #[I O num, I O a4, I O nn] 3)) (some ⟨wr.heap.size, 0, none⟩) [num, a4, nn] from Recs.lit (S := SI) wr 3 [num, a4, nn] (by show 3 ≤ _; unfold maxLen; omega)); have BI := mh (show Below w.heap.size w (wr.alloc (.cells #[I O num, I O a4, I O nn] 3)) from HBW.out.alloc HBW.out.size _)
   have HBD := mh (show ∀ (j : Nat) (hj : j < [num, a4, nn].length), -9223372036854775808 ≤ [num, a4, nn][j] ∧ [num, a4, nn][j] ≤ 9223372036854775807 from fun j hj => by
    match j, hj with
    | 0, _ => exact hnum
    | 1, _ => show -9223372036854775808 ≤ a4 ∧ a4 ≤ 9223372036854775807; omega
    | 2, _ => show -9223372036854775808 ≤ nn ∧ nn ≤ 9223372036854775807; omega)
   clear QQ NB; generalize wr.alloc (.cells #[I O num, I O a4, I O nn] 3) = wi at *; obtain ⟨gi, egi⟩ : ∃ g, wr.heap.size = g := ⟨_, rfl⟩; rw [egi] at RI ⊢; clear egi w1' w2' w3'; obtain ⟨LI, eLI⟩ : ∃ L, [num, a4, nn] = L := ⟨_, rfl⟩; have hLI : LI.length = 3 := by rw [← eLI]; rfl
   rw [eLI] at RI HBD; clear eLI
   go_loopw [92] (fun iv W => ∃ j : Nat, j ≤ 3 ∧ iv = I O (j : Int) ∧ wi = W) (fun iv _ => 3 - (intOf iv).toNat)
   case atStart => exact ⟨0, Nat.zero_le _, rfl, rfl⟩
   case round =>
    obtain ⟨j, hj, rfl, rfl⟩ := hrel; have hj0 : (0 : Int) ≤ (j : Int) := inn _
    by_cases hjl : j < 3
    ·have hj1 : (j : Int) < 3 := by omega
     obtain ⟨bi, oi, ebi, hbi, hci⟩ := RI.out.at (k := j) (by omega)
     cases ebi
     have hci := hci 0 (I O (LI[j]'(by omega))) rfl; rw [show SI.k = 1 from rfl, Nat.mul_one, Nat.add_zero, Nat.zero_add] at hci; obtain ⟨u0, u1⟩ := HBD.out j (by omega); obtain ⟨u, eu⟩ : ∃ u, LI[j]'(by omega) = u := ⟨_, rfl⟩; rw [eu] at hci u0 u1; have S1' := split35_any u wi u1 u0; have S2' := refsplit35_any u wi u1 u0; unfold SplG at S1' S2'; obtain ⟨c1, c2, c3, cb, ec⟩ : ∃ (c1 c2 c3 : Int) (cb : Bool), spl u = #[I O c1, I O c2, I O c3, .bool cb] := by
      unfold spl
      (try split)
      all_goals exact ⟨_, _, _, _, rfl⟩
     rw [ec] at S1' S2'; have SA1 := mh S1'; have SA2 := mh S2'; clear S1' S2' ec eu u0 u1
     go_wp2_with (first | (go_at_call 16; (with_reducible refine cmo SA1.out ?_); rintro e wm ⟨rfl, rfl⟩) | (go_at_call 17; (with_reducible refine cmo SA2.out ?_); rintro e wm ⟨rfl, rfl⟩) | fail)
     go_roundw
     case rel => exact ⟨j + 1, by omega, by go_num, by first | rfl | trivial⟩
     case measure => simp [intOf]; omega
    ·obtain rfl : j = 3 := by omega
     have AE := mh (AW.out wi BI.out); have N1 := mh (num35_any y f v wi); have N2 := mh (refnum35_any y f v wi); have N3 := mh (num35_any (a1 - 1) (a2 - 1) (a3 - 1) wi); have N4 := mh (refnum35_any (a1 - 1) (a2 - 1) (a3 - 1) wi); obtain ⟨m1, em1⟩ : ∃ z, Dn.num y f v = z := ⟨_, rfl⟩; rw [em1] at N1 N2; rw [enn] at N3 N4; clear em1 enn
     go_wp2_with (first | (go_at_call 18; (with_reducible refine cmo N1.out ?_); rintro e wm ⟨rfl, rfl⟩) | (go_at_call 18; (with_reducible refine cmo N3.out ?_); rintro e wm ⟨rfl, rfl⟩) | (go_at_call 15; (with_reducible refine cmo N2.out ?_); rintro e wm ⟨rfl, rfl⟩) | (go_at_call 15; (with_reducible refine cmo N4.out ?_); rintro e wm ⟨rfl, rfl⟩) | (go_at_call 6; (with_reducible refine cmo AE.out ?_); rintro e wz ⟨rfl, hbz⟩) | fail)
     go_ret
     exact ⟨rfl, BI.out.trans (hbz.mono BI.out.size)⟩
open Go.Deep Go.ChangeShapes Go.WideShapes
section
variable {H : Type} {enc : TypeId × Value → H} {P : Program} {W : World} {base : Nat} {spare : Nat → Bool} {held : Bool}
theorem field_one {cs : List Value} {fs : Array Field} {xs : List (DataW H × List MemPlace)} {n i : Nat} {f : Field} (hf : ∀ (i : Nat) (f : Field), fs[i]? = some f → DataW.trod enc P W base spare held n f.type ((cs.drop f.offset).take (P.cellsOf f.type)) = xs[i]?)
  (hl : xs.length = fs.size) (h : fs[i]? = some f) (ho : f.offset = i) (hc : P.cellsOf f.type = 1) : ∃ x, DataW.trod enc P W base spare held n f.type ((cs.drop i).take 1) = some x := by
 have := hf i f h; rw [ho, hc] at this; obtain ⟨hi, -⟩ := Array.getElem?_eq_some_iff.1 h; rw [List.getElem?_eq_getElem (by omega)] at this; exact ⟨_, this⟩
theorem take_one {cs : List Value} {i : Nat} {v : Value} (h : (cs.drop i).take 1 = [v]) : cs[i]? = some v := by
 have := congrArg (fun l => l[0]?) h
 simpa using this
theorem open_recs {α : Type} [Inhabited α] {S : Shape α} (mk : (Nat → Int) → α) (hmk : ∀ g j, j < S.k → (S.cells (mk g))[j]? = some (I O (g j))) {t e : TypeId} {fs : Array Field} {fuel : Nat} {a : Option Addr} {len cap : Nat} {x : DataW H × List MemPlace}
  (ht : P.underlying t = some (.slice e)) (he : P.underlying e = some (.struct fs)) (ce : P.cellsOf e = S.k) (hfs : ∀ j, j < S.k → ∃ f, fs[j]? = some f ∧ f.offset = j ∧ P.cellsOf f.type = 1 ∧ P.underlying f.type = some (.int .i64))
  (h : DataW.trod enc P W base spare held fuel t [.slice a len cap] = some x) : ∃ L : List α, L.length = len ∧ Recs S W a L := by
 rcases open_slice ht h with ⟨hcs, _⟩ | ⟨ad, l, c, m, n, D, Pl, hcs, _, hl, hm, hmm, _, hx⟩
 ·simp at hcs
  obtain ⟨rfl, rfl, rfl⟩ := hcs; exact ⟨[], rfl, Recs.nil _ _⟩
 simp at hcs
 obtain ⟨rfl, rfl, rfl⟩ := hcs; have hlm : len ≤ m := by rw [hmm]; split <;> omega
 have each : ∀ i, i < len → ∃ d : α, ∀ j u, (S.cells d)[j]? = some u → W.cell? (ad.add (i * S.k + j)) = some u := by
  intro i hi; obtain ⟨cs', h1, h2⟩ := hx i (by omega); rw [ce] at h1; obtain ⟨_, hlen, hcell⟩ := World.cells?_some h1; obtain ⟨xs, k, _, _, _, hxl, hf⟩ := DataW.trod_struct he h2; obtain ⟨g, hg⟩ := choose_lt (n := S.k) (p := fun j (v : Int) => cs'[j]? = some (I O v)) fun j hj => by
   obtain ⟨f, f1, f2, f3, f4⟩ := hfs j hj; obtain ⟨y, gy⟩ := field_one hf hxl (i := j) (f := f) f1 f2 f3; obtain ⟨v, ev, -⟩ := DataW.trod_int f4 gy; exact ⟨v, take_one ev⟩
  refine ⟨mk g, fun j u hu => ?_⟩
  have hj : j < S.k := by
   have := (List.getElem?_eq_some_iff.1 hu).1; rw [S.len] at this; exact this
  rw [hmk g j hj] at hu
  cases hu
  have hc := hcell j (by omega); rw [add_add] at hc; rw [hc]; exact hg j hj
 obtain ⟨f, hf⟩ := choose_lt each; refine ⟨(List.range len).map f, by simp, by simp; omega, ?_⟩
 by_cases hz : len = 0
 ·subst hz; exact .inl rfl
 ·have hk := S.pos
  have h0 := hf 0 (by omega) 0 _ (List.getElem?_eq_getElem (by rw [S.len]; exact hk)); obtain ⟨bb, off, spot⟩ := ad; have hspot : spot = none := by simpa [Addr.add] using World.cell?_spot h0
  subst hspot; refine .inr ⟨bb, off, rfl, ?_, fun q u hu => ?_⟩
  ·have := World.block_lt_of_cell? W _ h0
   simpa [Addr.add] using this
  ·have hq : q < len * S.k := by
    have := (List.getElem?_eq_some_iff.1 hu).1; rw [Shape.flat_len] at this
    simpa using this
   have hi : q / S.k < len := Nat.div_lt_of_lt_mul (by rw [Nat.mul_comm]; exact hq); have hm := Nat.mod_lt q hk; have e : q = q / S.k * S.k + q % S.k := by rw [Nat.mul_comm]; exact (Nat.div_add_mod q S.k).symm
   rw [e, S.flat_at _ (q / S.k) (by simpa using hi) (q % S.k) hm] at hu; simp only [List.getElem_map, List.getElem_range] at hu; have := hf (q / S.k) hi (q % S.k) u hu; rw [Go.WideShapes.add_plain] at this; rw [e]; exact this
theorem open_dec {t : TypeId} {f0 f1 f2 f3 f4 : Field} {ea er : TypeId} {fa fr : Array Field} {fuel : Nat} {cs : List Value} {x : DataW H × List MemPlace} (he : P.underlying t = some (.struct #[f0, f1, f2, f3, f4])) (hlen5 : cs.length = 5)
  (o0 : f0.offset = 0) (o1 : f1.offset = 1) (o2 : f2.offset = 2) (o3 : f3.offset = 3) (o4 : f4.offset = 4) (c0 : P.cellsOf f0.type = 1) (c1 : P.cellsOf f1.type = 1) (c2 : P.cellsOf f2.type = 1) (c3 : P.cellsOf f3.type = 1) (c4 : P.cellsOf f4.type = 1)
  (t0 : P.underlying f0.type = some (.int .i64)) (t1 : P.underlying f1.type = some (.int .i64)) (t2 : P.underlying f2.type = some (.int .i64))
  (t3 : P.underlying f3.type = some (.slice ea)) (t4 : P.underlying f4.type = some (.slice er)) (ha : P.underlying ea = some (.struct fa)) (hr : P.underlying er = some (.struct fr)) (ca : P.cellsOf ea = 9) (cr : P.cellsOf er = 3)
  (hfa : ∀ j, j < 9 → ∃ f, fa[j]? = some f ∧ f.offset = j ∧ P.cellsOf f.type = 1 ∧ P.underlying f.type = some (.int .i64)) (hfr : ∀ j, j < 3 → ∃ f, fr[j]? = some f ∧ f.offset = j ∧ P.cellsOf f.type = 1 ∧ P.underlying f.type = some (.int .i64))
  (h : DataW.trod enc P W base spare held fuel t cs = some x) : ∃ (r : RD) (D : Dn.Dec), cs = dCells r ∧ DV W r D := by
 obtain ⟨xs, k, _, _, _, hxl, hf⟩ := DataW.trod_struct he h; obtain ⟨y0, g0⟩ := field_one hf hxl (i := 0) (f := f0) rfl o0 c0; obtain ⟨y1, g1⟩ := field_one hf hxl (i := 1) (f := f1) rfl o1 c1; obtain ⟨y2, g2⟩ := field_one hf hxl (i := 2) (f := f2) rfl o2 c2; obtain ⟨y3, g3⟩ := field_one hf hxl (i := 3) (f := f3) rfl o3 c3; obtain ⟨y4, g4⟩ := field_one hf hxl (i := 4) (f := f4) rfl o4 c4; obtain ⟨v0, e0, -⟩ := DataW.trod_int t0 g0; obtain ⟨v1, e1, -⟩ := DataW.trod_int t1 g1; obtain ⟨v2, e2, -⟩ := DataW.trod_int t2 g2; obtain ⟨a3, n3, k3, e3, l3, z3⟩ : ∃ (a : Option Addr) (n c : Nat), (cs.drop 3).take 1 = [.slice a n c] ∧ n ≤ c ∧ (a = none → c = 0) := by
  rcases open_slice t3 g3 with ⟨hcs, _⟩ | ⟨ad, l, c, m, n, D, Pl, hcs, _, hl, hm, hmm, _⟩
  ·exact ⟨_, _, _, hcs, Nat.le_refl _, fun _ => rfl⟩
  ·exact ⟨_, _, _, hcs, by omega, fun h => by cases h⟩
 obtain ⟨a4, n4, k4, e4, l4, z4⟩ : ∃ (a : Option Addr) (n c : Nat), (cs.drop 4).take 1 = [.slice a n c] ∧ n ≤ c ∧ (a = none → c = 0) := by
  rcases open_slice t4 g4 with ⟨hcs, _⟩ | ⟨ad, l, c, m, n, D, Pl, hcs, _, hl, hm, hmm, _⟩
  ·exact ⟨_, _, _, hcs, Nat.le_refl _, fun _ => rfl⟩
  ·exact ⟨_, _, _, hcs, by omega, fun h => by cases h⟩
 rw [e3] at g3; rw [e4] at g4
 letI : Inhabited Awd := ⟨⟨0, 0, 0, 0, 0, 0, 0, 0, 0⟩⟩
 letI : Inhabited Rsn := ⟨⟨0, 0, 0⟩⟩
 obtain ⟨A, hA, RA⟩ := open_recs (S := SA) (fun g => ⟨g 0, g 1, g 2, g 3, g 4, g 5, g 6, g 7, g 8⟩) (fun g j hj => by
  match j, hj with
  | 0, _ => rfl
  | 1, _ => rfl
  | 2, _ => rfl
  | 3, _ => rfl
  | 4, _ => rfl
  | 5, _ => rfl
  | 6, _ => rfl
  | 7, _ => rfl
  | 8, _ => rfl) t3 ha ca hfa g3
 obtain ⟨R, hR, RR⟩ := open_recs (S := SRn) (fun g => ⟨g 0, g 1, g 2⟩) (fun g j hj => by
  match j, hj with
  | 0, _ => rfl
  | 1, _ => rfl
  | 2, _ => rfl) t4 hr cr hfr g4
 refine ⟨⟨v0, v1, v2, a3, n3, k3, a4, n4, k4⟩, ⟨v0, v1, v2, A, R⟩, ?_, ⟨rfl, rfl, rfl, RA, hA.symm, l3, RR, hR.symm, l4, z3, z4⟩⟩
 have q0 := take_one e0; have q1 := take_one e1; have q2 := take_one e2; have q3 := take_one e3; have q4 := take_one e4
 match cs, hlen5 with
 | [z0, z1, z2, z3, z4], _ =>
   simp at q0 q1 q2 q3 q4
   subst q0 q1 q2 q3 q4
   rfl
end
end Go.Proofs.YtljibgchickcpaaGreatDoor
namespace Go.Proofs.YtljibgchickcpaaGreatDoor
open Go.RowKit
theorem bd_i64 {n : Int} (h : (Lit.int .i64 n).wf = true) : -9223372036854775808 ≤ n ∧ n ≤ 9223372036854775807 := by simpa [Lit.wf, IntKind.min, IntKind.max, IntKind.signed, IntKind.bits] using h
open Sc As Dn
theorem decisionChecks_walk (p : Option Addr) (len cap : Nat) (z : List Int) (r : RD) (D0 : Dec) (y f v num x : Int) (w : World) (hp : IsRow .i64 w p len cap z) (h0 : DV w r D0)
  (hy : (Lit.int .i64 y).wf = true) (hf : (Lit.int .i64 f).wf = true) (hv : (Lit.int .i64 v).wf = true) (hnum : (Lit.int .i64 num).wf = true) (hx : (Lit.int .i64 x).wf = true) (hE : Env w) :
  Calls Tryz.prog 3 #[.slice p len cap, .agg (dCells r).toArray, I O y, I O f, I O v, I O num, I O x] w (BoolG true w) :=
 checks35_walk p len cap z r D0 y f v num x w hp h0 hE (bd_i64 hx) (bd_i64 hy) (bd_i64 hf) (bd_i64 hv) (bd_i64 hnum)
end Go.Proofs.YtljibgchickcpaaGreatDoor

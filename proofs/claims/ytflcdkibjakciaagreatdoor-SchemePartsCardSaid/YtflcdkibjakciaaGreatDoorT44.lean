/-
  THE WALK over ref17.Same, at two readings of one law.
-/
import Derived.Test.YtflcdkibjakciaaGreatDoorM24
import Derived.Test.YtflcdkibjakciaaGreatDoorM25
import Derived.Deep.DeepCutAuto
import Derived.BigRegion
namespace Go.Proofs.YtflcdkibjakciaaGreatDoor
open Go.RowKit Te Sc

structure TwoS (wo wx : World) (x y : Nat) (r1 r2 : RSx) : Prop where
  a : SCells wx x 0 r1
  b : SCells wx y 0 r2
  below : Below wo.heap.size wo wx
  lx : x < wx.heap.size
  ly : y < wx.heap.size

theorem TwoS.drew {wo wx : World} {x y : Nat} {r1 r2 : RSx} (h : TwoS wo wx x y r1 r2) : TwoS wo wx.drew x y r1 r2 := ⟨h.a.below (Below.refl _ _).drew h.lx, h.b.below (Below.refl _ _).drew h.ly, h.below.drew, h.lx, h.ly⟩

theorem twoS (wo : World) (r1 r2 : RSx) (T : TypeId) : TwoS wo ((wo.alloc (.cells (sCells r1).toArray T)).alloc (.cells (sCells r2).toArray T)) wo.heap.size (wo.heap.size + 1) r1 r2 := by
  have hA : Below wo.heap.size wo (wo.alloc (.cells (sCells r1).toArray T)) := (Below.refl _ _).alloc (Nat.le_refl _) _
  have hA2 := balloc (Nat.le_refl _) (Below.refl (wo.alloc (.cells (sCells r1).toArray T)).heap.size (wo.alloc (.cells (sCells r1).toArray T))) (.cells (sCells r2).toArray T)
  have h2 := SCells.box (wo.alloc (.cells (sCells r1).toArray T)) r2 T
  rw [World.size_alloc] at h2
  exact ⟨(SCells.box wo r1 T).below hA2 (by simp), h2, bstep (Nat.le_refl _) hA hA2, by simp; omega, by simp⟩

theorem TwoS.turn {wo wx : World} {x y : Nat} {r1 r2 : RSx} (h : TwoS wo wx x y r1 r2) : TwoS wo wx y x r2 r1 := ⟨h.b, h.a, h.below, h.ly, h.lx⟩

set_option maxRecDepth 100000 in
set_option maxHeartbeats 8000000 in
theorem same17_any {Q1 Q2 : Nat → Prop} (d e : Nat) (p1 p2 : Option Addr) (L : List Sch) (n c1 c2 : Nat) (w : World) (hn : L.length = n) (h1 : SsAt Q1 w d p1 L) (h2 : SsAt Q2 w e p2 L) :
    Calls Tryz.prog 28 #[.slice p1 n c1, .slice p2 n c2] w (BoolG true w) := by
  have hlen := h1.len
  rw [hn] at hlen
  have H1 := Lib.hid h1
  have H2 := Lib.hid h2
  have HN := Lib.hid hn
  clear h1 h2 hn
  go_enter Tryz.func28, Tryz.ntmps28
  go_wp2
  go_loopw [16] (fun i wr => ∃ k : Nat, k ≤ n ∧ i = .int .i64 k ∧ Below w.heap.size w wr) (fun i _ => n - (intOf i).toNat)
  case atStart => exact ⟨0, Nat.zero_le _, rfl, Below.refl _ _⟩
  case round =>
    obtain ⟨wo, rfl⟩ : ∃ wo : World, wo = wr := ⟨_, rfl⟩
    obtain ⟨k, hk, rfl, hb⟩ := hrel
    have HB := Lib.hid hb
    have hk0 : (0 : Int) ≤ (k : Int) := Int.natCast_nonneg _
    by_cases hlt : k < n
    · have hk1 : (k : Int) < (n : Int) := by omega
      have hkL : k < L.length := by rw [HN.out]; exact hlt
      obtain ⟨b1, off1, r1, rfl, hl1, hC1, hv1⟩ := (H1.out.below hb).at hkL
      obtain ⟨b2, off2, r2, rfl, hl2, hC2, hv2⟩ := (H2.out.below hb).at hkL
      have HV1 := Lib.hid hv1
      have HV2 := Lib.hid hv2
      have TW := Lib.hid (twoS wo r1 r2 32)
      have TW2 := Lib.hid (twoS wo r2 r1 32)
      obtain ⟨s, es⟩ : ∃ s, L[k] = s := ⟨_, rfl⟩
      rw [es] at HV1 HV2
      obtain ⟨a0, a1, a2, a3, a4, a5, a6, a7, a8, a9⟩ := hC1
      obtain ⟨g0, g1, g2, g3, g4, g5, g6, g7, g8, g9⟩ := hC2
      clear hb hv1 hv2 es hkL
      go_upto_region 6 with fail
      go_cut [6, 7] (fun s6 s7 wx => ∃ x y : Nat, s6 = .pointer (some ⟨x, 0, none⟩) ∧ s7 = .pointer (some ⟨y, 0, none⟩) ∧ TwoS wo wx x y r1 r2)
      case first =>
        go_region
        all_goals (go_wp2_with fail; go_meet)
        · exact ⟨_, _, rfl, rfl, TW.out.drew⟩
        · exact ⟨_, _, rfl, rfl, TW2.out.turn.drew⟩
      case rest =>
        clear a0 a1 a2 a3 a4 a5 a6 a7 a8 a9 g0 g1 g2 g3 g4 g5 g6 g7 g8 g9 TW TW2
        obtain ⟨x, y, rfl, rfl, hT⟩ := hcut
        have HT := Lib.hid hT
        have HBX := Lib.hid (bstep (Nat.le_refl _) HB.out hT.below)
        have V1 := Lib.hid (HV1.out.below hT.below)
        have V2 := Lib.hid (HV2.out.below hT.below)
        clear hT HV1 HV2
        have en : r2.num = r1.num := V2.out.num.trans V1.out.num.symm
        have em : r2.nm = r1.nm := V2.out.nm.trans V1.out.nm.symm
        have el : r2.least = r1.least := V2.out.least.trans V1.out.least.symm
        have ee : r2.ex = r1.ex := V2.out.ex.trans V1.out.ex.symm
        have ed : r2.needs = r1.needs := V2.out.needs.trans V1.out.needs.symm
        have eb : r2.bn = r1.bn := V2.out.bn.trans V1.out.bn.symm
        obtain ⟨num, nm, ⟨o, tn, tm, tp, tl, tc⟩, bp, bn, bc, least, ex, needs⟩ := r1
        obtain ⟨num2, nm2, ⟨o2, tn2, tm2, tp2, tl2, tc2⟩, bp2, bn2, bc2, least2, ex2, needs2⟩ := r2
        simp only at en em el ee ed eb
        subst en em el ee ed eb
        have SM := Lib.hid (same16_any d e ⟨o, tn, tm, tp, tl, tc⟩ ⟨o2, tn2, tm2, tp2, tl2, tc2⟩ s.cond _ V1.out.t V2.out.t)
        have BL1 := Lib.hid V1.out.br
        have BL2 := Lib.hid V2.out.br
        have BN := Lib.hid (show s.br.length = bn2 from V1.out.bn.symm)
        have hbl : bn2 ≤ 9223372036854775807 := by rw [← BN.out]; exact V1.out.br.len
        obtain ⟨⟨v0, v1, v2, v3, v4, v5, v6, v7, v8, v9⟩, ⟨u0, u1, u2, u3, u4, u5, u6, u7, u8, u9⟩, -, -, -⟩ := HT.out
        simp only [Nat.zero_add] at v1 v2 v3 v4 v5 v6 v7 v8 v9 u1 u2 u3 u4 u5 u6 u7 u8 u9
        unfold BoolG at SM
        go_wp2_with (first | (go_at_call 57; (with_reducible refine Calls.mono SM.out ?_); rintro e w1 ⟨rfl, hb1⟩; have HB1 := Lib.hid hb1; obtain ⟨-, -, -, -, -, -, v61, v71, v81, v91⟩ := HT.out.a.below hb1 HT.out.lx; obtain ⟨-, -, -, -, -, -, u61, u71, u81, u91⟩ := HT.out.b.below hb1 HT.out.ly; simp only [Nat.zero_add] at v61 v71 v81 v91 u61 u71 u81 u91; clear hb1) | fail)
        have BX1 := Lib.hid (BL1.out.below HB1.out)
        have BX2 := Lib.hid (BL2.out.below HB1.out)
        have LX := Lib.hid (Nat.lt_of_lt_of_le HT.out.lx HB1.out.size)
        have LY := Lib.hid (Nat.lt_of_lt_of_le HT.out.ly HB1.out.size)
        have HBW := Lib.hid (bstep (Nat.le_refl _) HBX.out HB1.out)
        have V61 := Lib.hid v61
        have U61 := Lib.hid u61
        go_loopw [80] (fun i wr => ∃ j : Nat, j ≤ bn2 ∧ i = .int .i64 j ∧ Below w1.heap.size w1 wr) (fun i _ => bn2 - (intOf i).toNat)
        case atStart => exact ⟨0, Nat.zero_le _, rfl, Below.refl _ _⟩
        case round =>
          obtain ⟨wi, rfl⟩ : ∃ wi : World, wi = wr := ⟨_, rfl⟩
          obtain ⟨j, hj, rfl, hbi⟩ := hrel
          have HBI := Lib.hid hbi
          have hj0 : (0 : Int) ≤ (j : Int) := Int.natCast_nonneg _
          have x6 := (hbi.cell (p := ⟨x, 6, none⟩) LX.out).trans V61.out
          have y6 := (hbi.cell (p := ⟨y, 6, none⟩) LY.out).trans U61.out
          by_cases hjk : j < bn2
          · have hj1 : (j : Int) < (bn2 : Int) := by omega
            have hjL : j < s.br.length := by rw [BN.out]; exact hjk
            obtain ⟨q1, o1, z1, rfl, -, f1, f2, e1⟩ := SBk_at (BX1.out.below hbi) hjL
            obtain ⟨q2, o2', z2, rfl, -, f3, f4, e2⟩ := SBk_at (BX2.out.below hbi) hjL
            obtain rfl : z1 = z2 := e1.out.symm.trans e2.out
            obtain ⟨up, rate⟩ := z1
            simp only at f1 f2 f3 f4
            clear e1 e2 hbi hjL
            go_wp2_with fail
            go_quiet (fail)
            go_wp2
            go_roundw
            case rel => exact ⟨j + 1, by omega, by go_num, HBI.out.trans ((drewN_below _ _).mono HBI.out.size)⟩
            case measure => simp [intOf]; omega
          · obtain rfl : j = bn2 := by omega
            clear hbi
            go_wp2
            go_roundw
            case rel => exact ⟨k + 1, by omega, by go_num, bstep (Nat.le_refl _) HBW.out HBI.out⟩
            case measure => simp [intOf]; omega
    · obtain rfl : k = n := by omega
      clear hb
      go_wp2
      go_ret
      exact ⟨rfl, HB.out⟩

end Go.Proofs.YtflcdkibjakciaaGreatDoor

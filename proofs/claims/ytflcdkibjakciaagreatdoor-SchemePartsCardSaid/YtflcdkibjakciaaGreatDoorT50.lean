/-
  THE WALK over law17.SchemeParts.
-/
import Derived.Test.YtflcdkibjakciaaGreatDoorT47
namespace Go.Proofs.YtflcdkibjakciaaGreatDoor
open Go.RowKit Te Sc

/-- A copy of a scheme in block g, with other brackets. -/
structure PtS (wo wr : World) (g : Nat) (r : RSx) (B : List Brk) (bp : Option Addr) (bn bc : Nat) : Prop where
  cells : SCells wr g 0 { r with bp := bp, bn := bn, bc := bc }
  fr : ∀ i, wr.frozen? ⟨g, i, none⟩ = false
  br : Recs SBk wr bp B
  hn : B.length = bn
  hc : bn ≤ bc
  hz : bp = none → bc = 0
  below : Below wo.heap.size wo wr
  lt : g < wr.heap.size

theorem PtS.sv {Q : Nat → Prop} {wo wr : World} {g d : Nat} {r : RSx} {s : Sch} {B : List Brk} {bp : Option Addr} {bn bc : Nat} (h : PtS wo wr g r B bp bn bc) (hv : SV Q wo d r s) : SV (fun _ => True) wr d { r with bp := bp, bn := bn, bc := bc } { s with br := B } :=
  ⟨hv.num, hv.nm, hv.t.change h.below.size fun b _ hl => ⟨h.below.block b hl, trivial⟩, h.br, h.hn.symm, h.hc, h.hz, fun _ _ => .inr trivial, hv.least, hv.ex, hv.needs⟩

theorem PtS.below' {wo wr w' : World} {g : Nat} {r : RSx} {B : List Brk} {bp : Option Addr} {bn bc : Nat} (h : PtS wo wr g r B bp bn bc) (hb : Below wr.heap.size wr w') : PtS wo w' g r B bp bn bc :=
  ⟨h.cells.below hb h.lt, fun i => (hb.frozen (p := ⟨g, i, none⟩) h.lt).trans (h.fr i), h.br.below hb, h.hn, h.hc, h.hz, bstep (Nat.le_refl _) h.below hb, Nat.lt_of_lt_of_le h.lt hb.size⟩

/-- The brackets are copied, and the copy's rate i is written. -/
theorem PtS.next {wo wr w7 : World} {g k c7 : Nat} {r : RSx} {B : List Brk} {bp : Option Addr} {bn bc : Nat} (h : PtS wo wr g r B bp bn bc) (hg : wo.heap.size ≤ g) {p7 : Option Addr} (hO : OwnR SBk w7 34 wr.heap.size (.slice p7 bn c7) B) (hb : Below wr.heap.size wr w7) (hk : k < B.length) (x : Int) :
    ∃ g7, p7 = some ⟨g7, 0, none⟩ ∧ wr.heap.size ≤ g7 ∧ PtS wo (((w7.setCell ⟨g, 6, none⟩ (.slice p7 bn c7)).setCell ⟨g7, k * 2 + 1, none⟩ (.int .i64 x)).drew) g r (B.set k ⟨B[k].up, x⟩) p7 bn c7 := by
  have e7 : w7.heap[g]? = wr.heap[g]? := hb.block g h.lt
  obtain ⟨c0, c1, c2, c3, c4, c5, c6, c7', c8, c9⟩ := h.cells.blk e7
  have hS : Below g w7 (w7.setCell ⟨g, 6, none⟩ (.slice p7 bn c7)) := scBelow _ _ _ _ (Nat.le_refl _)
  have hO2 := hO.setOther (b := g) (i := 6) (fun e => by have := (hO.lt e).1; have := h.lt; omega) (.slice p7 bn c7)
  obtain ⟨g7, e, hn, hgB, hgl, -, -, hput⟩ := hO2.at hk
  subst e
  have hput := hput 1 (.int .i64 x) ⟨B[k].up, x⟩ (by decide) rfl
  have hk2 : SBk.k = 2 := rfl
  rw [hk2] at hput
  obtain ⟨p, c, e, h1, h2, h3, -, h5⟩ := hput.cut (n := bn) (by rw [List.length_set]; exact h.hn)
  simp only [Value.slice.injEq, true_and] at e
  obtain ⟨rfl, rfl⟩ := e
  have hne : g7 ≠ g := by have := h.lt; omega
  have hS2 : Below wr.heap.size (w7.setCell ⟨g, 6, none⟩ (.slice (some ⟨g7, 0, none⟩) bn c7)) ((w7.setCell ⟨g, 6, none⟩ (.slice (some ⟨g7, 0, none⟩) bn c7)).setCell ⟨g7, k * 2 + 1, none⟩ (.int .i64 x)) := scBelow _ _ _ _ hgB
  have hlt7 := Nat.lt_of_lt_of_le h.lt hb.size
  have far : ∀ {i : Nat} {u : Value}, i ≠ 6 → w7.cell? ⟨g, 0 + i, none⟩ = some u → (w7.setCell ⟨g, 6, none⟩ (.slice (some ⟨g7, 0, none⟩) bn c7)).cell? ⟨g, 0 + i, none⟩ = some u := fun hi hu => (World.cell?_setCell_other _ _ _ _ (fun e => by injection e with _ e; omega)).trans hu
  have C7 : SCells (w7.setCell ⟨g, 6, none⟩ (.slice (some ⟨g7, 0, none⟩) bn c7)) g 0 { r with bp := some ⟨g7, 0, none⟩, bn := bn, bc := c7 } :=
    ⟨far (i := 0) (by decide) c0, far (i := 1) (by decide) c1, far (i := 2) (by decide) c2, far (i := 3) (by decide) c3, far (i := 4) (by decide) c4, far (i := 5) (by decide) c5, World.cell?_setCell_same _ _ _ c6, far (i := 7) (by decide) c7', far (i := 8) (by decide) c8, far (i := 9) (by decide) c9⟩
  refine ⟨g7, rfl, hgB, (C7.below hS2 h.lt).below (Below.refl wr.heap.size _).drew h.lt, fun i => ?_, h5.below (Below.refl _ _).drew, by rw [List.length_set]; exact h.hn, h3, fun e => (h1 e).1, ?_, ?_⟩
  · show (World.drew _).frozen? _ = false
    have : (World.drew ((w7.setCell ⟨g, 6, none⟩ (.slice (some ⟨g7, 0, none⟩) bn c7)).setCell ⟨g7, k * 2 + 1, none⟩ (.int .i64 x))).frozen? ⟨g, i, none⟩ = ((w7.setCell ⟨g, 6, none⟩ (.slice (some ⟨g7, 0, none⟩) bn c7)).setCell ⟨g7, k * 2 + 1, none⟩ (.int .i64 x)).frozen? ⟨g, i, none⟩ := rfl
    rw [this, World.frozen?_setCell, World.frozen?_setCell]
    have := h.fr i
    simp only [World.frozen?, e7] at *
    exact this
  · have a1 := h.below.trans (hb.mono h.below.size)
    exact ((a1.trans (hS.mono hg)).trans (hS2.mono h.below.size)).drew
  · show g < (World.drew _).heap.size
    show g < ((w7.setCell ⟨g, 6, none⟩ (.slice (some ⟨g7, 0, none⟩) bn c7)).setCell ⟨g7, k * 2 + 1, none⟩ (.int .i64 x)).heap.size
    rw [setCell_sz, setCell_sz]; exact hlt7

set_option maxRecDepth 100000 in
set_option maxHeartbeats 8000000 in
theorem schemeParts_walk (a : Option Addr) (len cap : Nat) (z : List Int) (s1 s2 : Int) (w : World) (h : IsRow .i64 w a len cap z) (wb1 : (Lit.int .u8 s1).wf = true) (wb2 : (Lit.int .u8 s2).wf = true) (hE : Env w) :
    Calls Tryz.prog 4 #[.slice a len cap, .int .u8 s1, .int .u8 s2] w (Yes w) := by
  have HN := Lib.hid (new_any a len cap z w h)
  have HE := Lib.hid hE
  obtain ⟨b0, b1⟩ := bd_u8 wb1
  obtain ⟨b2, b3⟩ := bd_u8 wb2
  clear h hE wb1 wb2
  obtain ⟨l, el⟩ : ∃ l, (z.take len).take 400 = l := ⟨_, rfl⟩
  rw [el] at HN
  clear el
  go_enter Tryz.func4, Tryz.ntmps4
  go_wp2_with (first
    | (go_at_call 9; refine Calls.mono HN.out ?_; rintro e w1 ⟨rfl, ht1, hb1⟩)
    | fail)
  (with_reducible refine Calls.mono (tapeLaw_any w.heap.size l 0 3 (by decide) w1 ht1) ?_)
  rintro e w2 ⟨v, L, q, rfl, hLw, hck, -, -, -, hB2⟩
  have HB2 := Lib.hid (hb1.trans (hB2.below (Nat.le_refl _) hb1.size))
  obtain ⟨n, hn⟩ : ∃ n, L.length = n := ⟨_, rfl⟩
  obtain ⟨p, c, d, rfl, hnc, -, hss⟩ := hLw.ss hn
  have OK := Lib.hid (lawOk hck)
  have HS := Lib.hid hss
  have HLN := Lib.hid hn
  have hnb : n ≤ 16 := by rw [← hn]; exact OK.out.len
  clear hLw hck hB2 hb1 ht1 hss hn HN hnc
  go_wp2_with fail
  go_loopw [22] (fun i wr => ∃ k : Nat, k ≤ n ∧ i = .int .i64 k ∧ Below w2.heap.size w2 wr) (fun i _ => n - (intOf i).toNat)
  case atStart => exact ⟨0, Nat.zero_le _, rfl, Below.refl _ _⟩
  case round =>
    obtain ⟨wo, rfl⟩ : ∃ wo : World, wo = wr := ⟨_, rfl⟩
    obtain ⟨k, hk, rfl, hb⟩ := hrel
    have HB := Lib.hid hb
    have hk0 : (0 : Int) ≤ (k : Int) := Int.natCast_nonneg _
    by_cases hlt : k < n
    · have hk1 : (k : Int) < (n : Int) := by omega
      have hkL : k < L.length := by rw [HLN.out]; exact hlt
      obtain ⟨b, off, r, rfl, hbl, hC, hv⟩ := (HS.out.below hb).at hkL
      obtain ⟨A, eA⟩ : ∃ A, L[k] = A := ⟨_, rfl⟩
      rw [eA] at hv
      have MA := Lib.hid (show A ∈ L from eA ▸ List.getElem_mem hkL)
      have ONE := Lib.hid (OK.out.one A MA.out)
      have RB := Lib.hid (one_parts ONE.out).2.2.2.2.2.1
      have HNZ := Lib.hid (show r.nm.size ≤ 9223372036854775807 by rw [hv.nm]; exact OK.out.small A MA.out)
      have HV := Lib.hid hv
      have HBN := Lib.hid (show A.br.length = r.bn from hv.bn.symm)
      have hbn : r.bn ≤ 6 := by rw [← HBN.out]; exact (brB_len RB.out).2
      have hbn1 : 1 ≤ r.bn := by rw [← HBN.out]; exact (brB_len RB.out).1
      have HAL := balloc (Nat.le_refl _) (Below.refl wo.heap.size wo) (.cells (sCells r).toArray 32)
      have PT0 : PtS wo (wo.alloc (.cells (sCells r).toArray 32)) wo.heap.size r A.br r.bp r.bn r.bc :=
        ⟨SCells.box wo r 32, fun i => by simp only [World.frozen?, World.alloc_heap_new]; simp, hv.br.below HAL, hv.bn.symm, hv.bc, hv.bz, HAL, by simp⟩
      obtain ⟨c0, c1, c2, c3, c4, c5, c6, c7, c8, c9⟩ := hC
      obtain ⟨num, nm, ⟨o, tn, tm, tp, tl, tc⟩, bp, bn, bc, least, ex, needs⟩ := r
      simp only at c0 c1 c2 c3 c4 c5 c6 c7 c8 c9 HBN hbn hbn1 PT0 HNZ
      clear hb eA hv HAL
      go_wp2_with fail
      obtain ⟨W1, eW1⟩ : ∃ W : World, W = wo.alloc (.cells #[.int .i64 num, .string nm, .int .i64 o, .int .i64 tn, .int .i64 tm, .slice tp tl tc, .slice bp bn bc, .int .i64 least, .int .i64 ex, .bool needs] 32) := ⟨_, rfl⟩
      have PT1 := Lib.hid (show PtS wo W1 wo.heap.size ⟨num, nm, ⟨o, tn, tm, tp, tl, tc⟩, bp, bn, bc, least, ex, needs⟩ A.br bp bn bc from eW1 ▸ PT0)
      obtain ⟨g, eg⟩ : ∃ g, wo.heap.size = g := ⟨_, rfl⟩
      have EG := Lib.hid eg
      rw [← eW1]
      rw [eg] at PT1 ⊢
      clear eW1 c0 c1 c2 c3 c4 c5 c6 c7 c8 c9 PT0 eg
      go_loopw [10] (fun iv wr => ∃ (i : Nat) (B : List Brk) (bp' : Option Addr) (bc' : Nat), 1 ≤ i ∧ i ≤ bn ∧ iv = .int .i64 i ∧ Capd A.br B i ∧ PtS wo wr g ⟨num, nm, ⟨o, tn, tm, tp, tl, tc⟩, bp, bn, bc, least, ex, needs⟩ B bp' bn bc') (fun iv _ => bn - (intOf iv).toNat)
      case atStart => exact ⟨1, A.br, bp, bc, Nat.le_refl _, hbn1, rfl, capd0 RB.out, PT1.out⟩
      case round =>
        clear PT1
        obtain ⟨wi, rfl⟩ : ∃ wi : World, wi = wr := ⟨_, rfl⟩
        obtain ⟨i, B, bp', bc', hi1, hi, rfl, hcap, hP⟩ := hrel
        have HP := Lib.hid hP
        have HCD := Lib.hid hcap
        have hi0 : (0 : Int) ≤ (i : Int) := Int.natCast_nonneg _
        obtain ⟨v0, v1, v2, v3, v4, v5, v6, v7, v8, v9⟩ := hP.cells
        simp only [Nat.zero_add] at v0 v1 v2 v3 v4 v5 v6 v7 v8 v9
        have f6 := hP.fr 6
        clear hcap hP
        by_cases hib : i < bn
        · have hib1 : (i : Int) < (bn : Int) := by omega
          clear v0 v1 v2 v3 v4 v5 v7 v8 v9
          have HA := Lib.hid (balloc (Nat.le_refl _) (Below.refl wi.heap.size wi) (.cells #[] 34))
          have HRC := Lib.hid (HP.out.br.below HA.out)
          have V6 := Lib.hid v6
          have F6 := Lib.hid f6
          have e6 := (HA.out.cell (p := ⟨g, 6, none⟩) HP.out.lt).trans v6
          obtain ⟨m, rfl⟩ : ∃ m, i = m + 1 := ⟨i - 1, by omega⟩
          obtain ⟨I, eI⟩ : ∃ I : Int, ((m + 1 : Nat) : Int) = I := ⟨_, rfl⟩
          have EI := Lib.hid eI
          have hI1 : I < (bn : Int) := by omega
          have hI0 : 0 ≤ I := by omega
          have hIt : I.toNat = m + 1 := by omega
          have hJ : I - 1 = (m : Int) := by omega
          have hm0 : (0 : Int) ≤ (m : Int) := Int.natCast_nonneg _
          have hm1 : (m : Int) < (bn : Int) := by omega
          rw [eI] at hi0 hib1 ⊢
          clear eI
          have hiB : m + 1 < B.length := by rw [HP.out.hn]; exact hib
          have hmB : m < B.length := by omega
          go_wp2_with (first | (at_builtin; (refine OwnR.appendAll el_brk rfl (.tmp 33) (.tmp 35) rfl wi.heap.size (.slice (some ⟨wi.heap.size, 0, none⟩) 0 0) [] B bp' bc' bn HP.out.hn (OwnR.made0 wi 34) HRC.out HP.out.hz rfl (by simp [Act.eval]) (by simp) (by show 0 + _ < _; omega) (by decide) ?_); intro v7 w7 hO7 hap7; obtain ⟨p7, c7, rfl, -⟩ := hO7.cut (show ([] ++ B).length = bn from HP.out.hn); have HB7 := Lib.hid (HA.out.trans hap7.below); have q6 := (HB7.out.cell (p := ⟨g, 6, none⟩) HP.out.lt).trans V6.out; have u6 := (HB7.out.frozen (p := ⟨g, 6, none⟩) HP.out.lt).trans F6.out; have HO7 := Lib.hid (show OwnR SBk w7 34 wi.heap.size (.slice p7 bn c7) B from hO7); clear v6 f6 e6) | fail)
          have HSO := HO7.out.setOther (b := g) (i := 6) (fun e => by have := (HO7.out.lt e).1; have := HP.out.lt; omega) (.slice p7 bn c7)
          obtain ⟨g7, rfl, -, -, -, hca, hfa, -⟩ := HSO.at hiB
          obtain ⟨g8, eg8, -, -, -, hcb, -, -⟩ := HSO.at hmB
          cases eg8
          have ra := hca 1 _ rfl
          have rb := hcb 1 _ rfl
          rw [show SBk.k = 2 from rfl] at ra rb
          have fa := hfa ((m + 1) * 2 + 1)
          have n6 : (w7.setCell ⟨g, 6, none⟩ (.slice (some ⟨g7, 0, none⟩) bn c7)).cell? ⟨g, 6, none⟩ = some (.slice (some ⟨g7, 0, none⟩) bn c7) := World.cell?_setCell_same _ _ _ q6
          obtain ⟨xa, exa⟩ : ∃ x, B[m + 1].rate = x := ⟨_, rfl⟩
          obtain ⟨xb, exb⟩ : ∃ x, B[m].rate = x := ⟨_, rfl⟩
          have EXA := Lib.hid exa
          have EXB := Lib.hid exb
          have ra : (w7.setCell ⟨g, 6, none⟩ (.slice (some ⟨g7, 0, none⟩) bn c7)).cell? ⟨g7, (m + 1) * 2 + 1, none⟩ = some (.int .i64 xa) := by rw [← exa]; exact ra
          have rb : (w7.setCell ⟨g, 6, none⟩ (.slice (some ⟨g7, 0, none⟩) bn c7)).cell? ⟨g7, m * 2 + 1, none⟩ = some (.int .i64 xb) := by rw [← exb]; exact rb
          obtain ⟨W8, eW8⟩ : ∃ W : World, w7.setCell ⟨g, 6, none⟩ (.slice (some ⟨g7, 0, none⟩) bn c7) = W := ⟨_, rfl⟩
          have EW8 := Lib.hid eW8
          rw [eW8] at ra rb fa n6 ⊢
          clear hca hcb hfa HSO exa exb q6 u6 eW8
          go_region
          obtain ⟨g9, eg9, -, NX⟩ := HP.out.next (Nat.le_of_eq EG.out) HO7.out HB7.out hiB (min xa xb)
          cases eg9
          rw [EW8.out] at NX
          have HNX := Lib.hid NX
          have HCN := Lib.hid (show Capd A.br (B.set (m + 1) ⟨B[m + 1].up, min xa xb⟩) (m + 1 + 1) from by rw [← EXA.out, ← EXB.out]; exact HCD.out.step (by omega) hiB)
          have hIs : I + 1 = ((m + 1 + 1 : Nat) : Int) := by have := EI.out; omega
          clear NX
          go_wp2
          go_roundw
          case rel => exact ⟨m + 1 + 1, _, _, c7, by omega, by omega, by go_num, HCN.out, HNX.out⟩
          case measure => simp [intOf]; omega
        · obtain rfl : i = bn := by omega
          have HSV := Lib.hid (HP.out.sv HV.out)
          have RB2 := Lib.hid (HCD.out.right RB.out)
          have ONE2 := one_with ONE.out RB2.out
          have DE := desc_of fun j hj => HCD.out.desc j hj (by rw [HP.out.hn] at hj; exact hj)
          obtain ⟨p1, p2, p3⟩ := parts_ok RB2.out DE b0 b2
          have bd1 := amt_bd RB2.out s1
          have bd2 := amt_bd RB2.out s2
          have bd3 := amt_bd RB2.out (s1 + s2)
          have e1 := amtE_zero ONE2 b0 (show s1 ≤ 268435456 by omega)
          have e2 := amtE_zero ONE2 b2 (show s2 ≤ 268435456 by omega)
          have e3 := amtE_zero ONE2 (show 0 ≤ s1 + s2 by omega) (show s1 + s2 ≤ 268435456 by omega)
          obtain ⟨P, eP⟩ : ∃ x, amt B s1 B.length / 100 = x := ⟨_, rfl⟩
          obtain ⟨Q, eQ⟩ : ∃ x, amt B s2 B.length / 100 = x := ⟨_, rfl⟩
          obtain ⟨R, eR⟩ : ∃ x, amt B (s1 + s2) B.length / 100 = x := ⟨_, rfl⟩
          have v1' : amtV { A with br := B } s1 = P := by unfold amtV; rw [e1, if_neg (by decide)]; exact eP
          have v2' : amtV { A with br := B } s2 = Q := by unfold amtV; rw [e2, if_neg (by decide)]; exact eQ
          have v3' : amtV { A with br := B } (s1 + s2) = R := by unfold amtV; rw [e3, if_neg (by decide)]; exact eR
          rw [eP, eQ, eR] at p1
          rw [eP, eR] at p2
          rw [eQ, eR] at p3
          have hP0 : 0 ≤ P := by omega
          have hP1 : P ≤ 281474976710656 := by omega
          have hQ0 : 0 ≤ Q := by omega
          have hQ1 : Q ≤ 281474976710656 := by omega
          have hR0 : 0 ≤ R := by omega
          have hR1 : R ≤ 281474976710656 := by omega
          have AM := Lib.hid (fun (sq : Int) (W : World) (hW : Below wi.heap.size wi W) => amount17_any d _ _ sq W (HSV.out.below hW) HNZ.out)
          have A1 := AM.out s1 wi (Below.refl _ _)
          have A2 := fun W hW => AM.out s2 W hW
          have A3 := fun W hW => AM.out (s1 + s2) W hW
          rw [v1', e1] at A1
          simp only [v2', e2] at A2
          simp only [v3', e3] at A3
          unfold ChkG at A1 A2 A3
          simp only at A1 A2 A3
          have A1 := Lib.hid A1
          have A2 := Lib.hid A2
          have A3 := Lib.hid A3
          have HPT := Lib.hid (fun (W : World) (hW : Below wi.heap.size wi W) => (HP.out.below' hW).cells)
          clear bd1 bd2 bd3 e1 e2 e3 v1' v2' v3' eP eQ eR DE ONE2 AM f6
          go_wp2_with fail
          (with_reducible refine Calls.mono A1.out ?_)
          rintro e wa ⟨rfl, hba⟩
          have HBa := Lib.hid hba
          obtain ⟨v0, v1, v2, v3, v4, v5, v6, v7, v8, v9⟩ := HPT.out wa hba
          simp only [Nat.zero_add] at v0 v1 v2 v3 v4 v5 v6 v7 v8 v9
          clear hba
          go_wp2_with fail
          (with_reducible refine Calls.mono (A2.out wa HBa.out) ?_)
          rintro e wb ⟨rfl, hbb⟩
          have HBb := Lib.hid (bstep (Nat.le_refl _) HBa.out hbb)
          clear hbb v0 v1 v2 v3 v4 v5 v6 v7 v8 v9
          obtain ⟨v0, v1, v2, v3, v4, v5, v6, v7, v8, v9⟩ := HPT.out wb HBb.out
          simp only [Nat.zero_add] at v0 v1 v2 v3 v4 v5 v6 v7 v8 v9
          go_wp2_with fail
          (with_reducible refine Calls.mono (A3.out wb HBb.out) ?_)
          rintro e wc ⟨rfl, hbc⟩
          have HBc := Lib.hid (bstep (Nat.le_refl _) HBb.out hbc)
          have HWF := Lib.hid (show Below w2.heap.size w2 wc from bstep (Nat.le_refl _) HB.out (bstep (Nat.le_refl _) HP.out.below HBc.out))
          clear hbc v0 v1 v2 v3 v4 v5 v6 v7 v8 v9
          go_wp2_with fail
          go_roundw
          case rel => exact ⟨k + 1, by omega, by go_num, HWF.out⟩
          case measure => simp [intOf]; omega
    · obtain rfl : k = n := by omega
      have HBF := Lib.hid (bstep (Nat.le_refl _) HB2.out hb)
      have AW := Lib.hid (awake17_any wo (HE.out.below HBF.out))
      unfold Yes at AW
      clear hb
      go_wp2_with (first | (go_at_call 12; (with_reducible refine Calls.mono AW.out ?_); rintro e w7 ⟨rfl, hb7⟩; have HF := Lib.hid (bstep (Nat.le_refl _) HBF.out hb7); clear hb7) | fail)
      go_ret
      exact ⟨rfl, HF.out⟩

end Go.Proofs.YtflcdkibjakciaaGreatDoor

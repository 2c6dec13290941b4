/-
  THE WALK over law12.CropAnswers.
-/
import Derived.Test.YtcghhagnibabeaaGreatDoorK30
import Derived.Deep.DeepCutAuto
import Derived.Deep.CutBlock
namespace Go.Proofs.YtcghhagnibabeaaGreatDoor
open Go.RowKit Cr
set_option linter.unusedVariables false

theorem parseR_to {s : ByteArray} {R : List Crp × Int × Int} (h : parse s = R) (hs : s.size ≤ 9223372036854775807) (w : World) (hE : Env w) : Calls Tryz.prog 29 #[.string s] w (PaGive R w) := by
  subst h
  exact (refparse12_any s w hE hs).mono fun e w' ⟨p, c, h1, h2, h3⟩ => ⟨p, c, h1, Lib.hid h2, h3⟩

theorem Recs.old {w : World} {p : Option Addr} {L : List Crp} (h : Crops w p L) : L = [] ∨ ∀ x, p = some x → x.block < w.heap.size := by
  rcases h.2 with e | ⟨b, o, e, hb, -⟩
  · exact .inl e
  · exact .inr fun x hx => by rw [e] at hx; cases hx; exact hb

/-- WHAT THE WALK IS TOLD OF A SLICE OF CROPS THAT CAME IN. -/
structure IsCrops (w : World) (p : Option Addr) (L : List Crp) (c : Nat) : Prop where
  recs : Crops w p L
  small : ∀ x ∈ L, x.nm.size ≤ 9223372036854775807

set_option maxRecDepth 100000 in
set_option maxHeartbeats 4000000 in
theorem long_awake (pr : Option Addr) (m0 cr : Nat) (name text : ByteArray) (n mark : Int) (a : Option Addr) (len cap : Nat) (w : World) (hE : Env w) (h : 50 < m0 ∨ 50 < name.size ∨ 1500 < text.size) :
    Calls Tryz.prog 7 #[.slice pr m0 cr, .string name, .string text, .int .i64 n, .int .i64 mark, .slice a len cap] w (YesC w) := by
  have AW := Lib.hid (awake12_any w hE)
  clear hE
  by_cases g1 : 50 < m0
  · have g1' : (50 : Int) < (m0 : Int) := by omega
    clear h
    go_enter Tryz.func7, Tryz.ntmps7
    go_wp2_with (first | (go_at_call 14; (with_reducible refine Calls.mono AW.out ?_); rintro e w9 ⟨rfl, hb9⟩) | fail)
    go_ret
    exact ⟨rfl, hb9⟩
  · have g1' : ¬ (50 : Int) < (m0 : Int) := by omega
    by_cases g2 : 50 < name.size
    · have g2' : (50 : Int) < (name.size : Int) := by omega
      clear h
      go_enter Tryz.func7, Tryz.ntmps7
      go_wp2_with (first | (go_at_call 14; (with_reducible refine Calls.mono AW.out ?_); rintro e w9 ⟨rfl, hb9⟩) | fail)
      go_ret
      exact ⟨rfl, hb9⟩
    · have g2' : ¬ (50 : Int) < (name.size : Int) := by omega
      have g3 : (1500 : Int) < (text.size : Int) := by omega
      clear h
      go_enter Tryz.func7, Tryz.ntmps7
      go_wp2_with (first | (go_at_call 14; (with_reducible refine Calls.mono AW.out ?_); rintro e w9 ⟨rfl, hb9⟩) | fail)
      go_ret
      exact ⟨rfl, hb9⟩

theorem nm_set {L : List Crp} {k : Nat} {x : Crp} (h : ∀ c ∈ L, c.nm.size ≤ 50) (hx : x.nm.size ≤ 50) : ∀ c ∈ L.set k x, c.nm.size ≤ 50 := fun y hy => (List.mem_or_eq_of_mem_set hy).elim (h y) (fun e => e ▸ hx)
theorem nm_app {L : List Crp} {x : Crp} (h : ∀ c ∈ L, c.nm.size ≤ 50) (hx : x.nm.size ≤ 50) : ∀ c ∈ L ++ [x], c.nm.size ≤ 50 := fun y hy => (List.mem_append.1 hy).elim (h y) (fun e => List.mem_singleton.1 e ▸ hx)

set_option maxRecDepth 100000 in
set_option maxHeartbeats 16000000 in
theorem cropAnswers_main (pr : Option Addr) (RAW : List Crp) (m0 cr : Nat) (name text : ByteArray) (n mark : Int) (a : Option Addr) (len cap : Nat) (z : List Int) (w : World) (hm0 : RAW.length = m0) (hRw : Crops w pr RAW) (hrz : ∀ c ∈ RAW, c.nm.size ≤ 9223372036854775807) (hrb : RAW = [] ∨ ∀ x, pr = some x → x.block < w.heap.size)
    (n0 : -9223372036854775808 ≤ n) (n1 : n ≤ 9223372036854775807) (k0 : -9223372036854775808 ≤ mark) (k1 : mark ≤ 9223372036854775807) (h : IsRow .i64 w a len cap z) (hE : Env w) (s1 : m0 ≤ 50) (s2 : name.size ≤ 50) (s3 : text.size ≤ 1500) :
    Calls Tryz.prog 7 #[.slice pr m0 cr, .string name, .string text, .int .i64 n, .int .i64 mark, .slice a len cap] w (YesC w) := by
  have HN := Lib.hid (new_any a len cap z w h)
  have HE := Lib.hid hE
  have HRW := Lib.hid hRw
  have HRZ := Lib.hid hrz
  have HRB := Lib.hid hrb
  have HM0 := Lib.hid hm0
  have g1 : ¬ (50 : Int) < (m0 : Int) := by omega
  have g2 : ¬ (50 : Int) < (name.size : Int) := by omega
  have g3 : ¬ (1500 : Int) < (text.size : Int) := by omega
  clear h hE hRw hrz hrb hm0
  obtain ⟨l, el⟩ : ∃ l, (z.take len).take 400 = l := ⟨_, rfl⟩
  rw [el] at HN
  clear el
  go_enter Tryz.func7, Tryz.ntmps7
  go_wp2_with (first
    | (go_at_call 8; refine Calls.mono HN.out ?_; rintro e w1 ⟨rfl, ht1, hb1⟩)
    | fail)
  (with_reducible refine Calls.mono (crops_any w.heap.size l 0 w1 ht1) ?_)
  rintro e w2 ⟨p, nn, c, L, q, rfl, hO, hN, hn3, hn8, hT2, hB2⟩
  have hb2 := hb1.trans (hB2.below (Nat.le_refl _) hb1.size)
  have hR := hN.right hn8
  have hLn := hN.len
  have hs12 := hB2.size
  have hs01 := hb1.size
  have ht0 := ht1.lt
  obtain ⟨p', c', e, hpn, hpx, hcl, hcm, hRec⟩ := hO.cut hLn
  cases e
  have HR := Lib.hid hR
  have HB2 := Lib.hid hb2
  have HNZ := Lib.hid (nice_small hN)
  have HLN := Lib.hid hLn
  have HT2 := Lib.hid hT2
  have HRC := Lib.hid hRec
  have HPB := Lib.hid (fun (x : Addr) (e : p = some x) => show x.block ≠ w.heap.size ∧ x.block < w2.heap.size from by have := hpx x e; omega)
  have HP0 := Lib.hid (fun (e : p = none) => (hpn e).1)
  have htw2 : w.heap.size < w2.heap.size := by omega
  have HRAW2 := Lib.hid (HRW.out.below (hb2))
  obtain ⟨gk, ek⟩ : ∃ g, gives l q nn = g := ⟨_, rfl⟩
  obtain ⟨k2, k3⟩ := gives_bd l q (n := nn) (by omega)
  rw [ek] at k2 k3
  obtain ⟨kk, rfl⟩ : ∃ m : Nat, gk = (m : Int) := Int.eq_ofNat_of_zero_le k2
  obtain ⟨q2, eq2⟩ : ∃ x, taken l q = x := ⟨_, rfl⟩
  obtain ⟨gs, es⟩ : ∃ g, gives l q2 6 = g := ⟨_, rfl⟩
  obtain ⟨t2, t3⟩ := gives_bd l q2 (n := 6) (by omega)
  rw [es] at t2 t3
  obtain ⟨ss, rfl⟩ : ∃ m : Nat, gs = (m : Int) := Int.eq_ofNat_of_zero_le t2
  obtain ⟨q3, eq3⟩ : ∃ x, taken l q2 = x := ⟨_, rfl⟩
  have T1 := Lib.hid (fun (W : World) (h : TapeAt W w.heap.size l q) => eq2 ▸ ek ▸ next_any w.heap.size l q nn W h (by omega))
  have T2 := Lib.hid (fun (W : World) (h : TapeAt W w.heap.size l q2) => eq3 ▸ es ▸ next_any w.heap.size l q2 6 W h (by omega))
  clear ht1 hb1 hO hN hB2 hR hpx hcm hRec HN hb2 hLn hT2 hpn eq2 eq3 ek es k2 t2 hs12 hs01 ht0
  go_wp2_with (first
    | (at_builtin; (refine OwnR.appendAll el_crp rfl (.tmp 62) (.tmp 63) rfl w2.heap.size _ [] L p c nn HLN.out (own_e1 w2) (HRC.out.below ((Below.refl _ _).alloc (Nat.le_refl _) _)) HP0.out rfl (by simp [Act.eval]) (le_a w2 _) (by show 0 + _ < _; omega) (by decide) ?_); intro v3 w3 hO3 hap3; obtain ⟨pv, cv, rfl, hvn, hvx, hvl, hvm, hRv⟩ := hO3.cut (n := nn) (by rw [List.nil_append]; exact HLN.out); have HT3 := Lib.hid ((HT2.out.below ((Below.refl _ _).alloc (Nat.le_refl _) (.cells #[] 31))).belowB hap3.below htw2))
    | fail)
  have H23 := Lib.hid (((Below.refl w2.heap.size w2).alloc (Nat.le_refl _) (.cells #[] 31)).trans hap3.below)
  (with_reducible refine Calls.mono (T1.out w3 HT3.out) ?_)
  rintro e w4 ⟨rfl, ht4, hb4⟩
  go_wp2_with fail
  (with_reducible refine Calls.mono (T2.out w4 ht4) ?_)
  rintro e w5 ⟨rfl, -, hb5⟩
  have HO5 := Lib.hid (show OwnR SC w5 31 w2.heap.size (.slice pv nn cv) L from (hO3.but hb4 htw2).but hb5 htw2)
  have HMI := Lib.hid (show Crops w5 p L from ((HRC.out.below H23.out).but hb4 (fun x e => (HPB.out x e).1)).but hb5 (fun x e => (HPB.out x e).1))
  have HRA := Lib.hid (show Crops w5 pr RAW from by
    rcases HRB.out with e | hq
    · rw [e]; exact Recs.nil _ _
    · exact ((HRAW2.out.below H23.out).but hb4 (fun x e => Nat.ne_of_lt (hq x e))).but hb5 (fun x e => Nat.ne_of_lt (hq x e)))
  have hs3 := H23.out.size
  have hs4 := hb4.size
  have hs5 := hb5.size
  have HB5 := Lib.hid (show Below w.heap.size w w5 from ((HB2.out.trans (H23.out.mono (by omega))).trans (hb4.below (Nat.le_refl _) (by omega))).trans (hb5.below (Nat.le_refl _) (by omega)))
  have hw25 : w2.heap.size ≤ w5.heap.size := by omega
  clear hO3 hap3 hb4 hb5 ht4 HT3 T1 T2 hvn hvx hRv HT2 HRC HRAW2 hs3 hs4 hs5 HP0
  have ODD := Lib.hid (fun (v' : Value) (m : Nat) (O : List Crp) (W : World) (hm : O.length = m) (hO : OwnR SC W 31 w2.heap.size v' O) (hz : ∀ c ∈ O, c.nm.size ≤ 50) (h9 : m ≤ 9) (hb : Below w2.heap.size w5 W) => show OddOk w pr p RAW L v' W from by
    obtain ⟨po, co, rfl, -, -, -, -, hr⟩ := hO.cut hm
    exact ⟨po, m, co, O, rfl, hm, hr, hz, h9, (by
      rcases HRB.out with e | hq
      · rw [e]; exact Recs.nil _ _
      · exact HRA.out.belowB hb (fun x e => by have := hq x e; omega)), HMI.out.belowB hb (fun x e => (HPB.out x e).2), HB5.out.trans (hb.mono (by omega))⟩)
  have hkn : kk < nn := by omega
  have hkL : kk < L.length := by rw [HLN.out]; exact hkn
  have HZ0 := Lib.hid (show ∀ c ∈ L, c.nm.size ≤ 50 from fun c hc => by have := HNZ.out c hc; omega)
  obtain ⟨g, rfl, -, hgB, hgl, hcs, hfz, hset⟩ := HO5.out.at hkL
  have c0 : w5.cell? ⟨g, kk * 3, none⟩ = some (.string L[kk].nm) := hcs 0 _ rfl
  have c1 : w5.cell? ⟨g, kk * 3 + 1, none⟩ = some (.int .i64 L[kk].fam) := hcs 1 _ rfl
  have c2 : w5.cell? ⟨g, kk * 3 + 2, none⟩ = some (.int .i64 L[kk].mrk) := hcs 2 _ rfl
  have f0 := hfz (kk * 3)
  have f1 := hfz (kk * 3 + 1)
  have f2 := hfz (kk * 3 + 2)
  have HMZ := Lib.hid (show L[kk].nm.size ≤ 50 from HZ0.out _ (List.getElem_mem hkL))
  have HS0 := Lib.hid (hset 0 (.string name) ⟨name, L[kk].fam, L[kk].mrk⟩ (by decide) rfl)
  have HS1 := Lib.hid (hset 1 (.int .i64 n) ⟨L[kk].nm, n, L[kk].mrk⟩ (by decide) rfl)
  have HS2 := Lib.hid (hset 2 (.int .i64 mark) ⟨L[kk].nm, L[kk].fam, mark⟩ (by decide) rfl)
  have hkk0 : (0 : Int) ≤ (kk : Int) := Int.natCast_nonneg _
  have hkk1 : (kk : Int) < (nn : Int) := by omega
  obtain ⟨x0, x1, x2, ex⟩ : ∃ a b c, L[kk] = ⟨a, b, c⟩ := ⟨_, _, _, rfl⟩
  rw [ex] at c0 c1 c2 HMZ HS0 HS1 HS2
  simp only at c0 c1 c2 HMZ HS0 HS1 HS2
  have hss : ss < 6 := by omega
  have HBW := Lib.hid ((Below.refl w2.heap.size w5))
  clear hcs hfz hset ex hvl hvm
  go_upto_block 0 with (fail)
  go_cut [15] (fun s15 wx => OddOk w pr p RAW L s15 wx)
  case first =>
    match ss, hss with
    | 0, _ =>
      rw [show ((0 : Nat) : Int) = 0 from rfl]
      go_wp2
      go_meet
      exact ODD.out _ nn _ _ (by rw [List.length_set]; exact HLN.out) HS0.out (nm_set HZ0.out s2) (by omega) (HBW.out.setCell hgB _)
    | 1, _ =>
      rw [show ((1 : Nat) : Int) = 1 from rfl]
      go_wp2
      go_meet
      exact ODD.out _ nn _ _ (by rw [List.length_set]; exact HLN.out) HS1.out (nm_set HZ0.out HMZ.out) (by omega) (HBW.out.setCell hgB _)
    | 2, _ =>
      rw [show ((2 : Nat) : Int) = 2 from rfl]
      go_wp2
      go_meet
      exact ODD.out _ nn _ _ (by rw [List.length_set]; exact HLN.out) HS2.out (nm_set HZ0.out HMZ.out) (by omega) (HBW.out.setCell hgB _)
    | 3, _ =>
      rw [show ((3 : Nat) : Int) = 3 from rfl]
      go_wp2_with (first | (at_builtin; (refine OwnR.append el_crp rfl (.tmp 94) (.tmp 99) rfl w2.heap.size _ L ⟨x0, x1, x2⟩ #[.string x0, .int .i64 x1, .int .i64 x2] rfl HO5.out rfl (by simp [Act.eval]) hw25 (by rw [HLN.out]; omega) (by decide) ?_); intro v6 w6 hO6 hap6) | fail)
      go_meet
      exact ODD.out _ (nn + 1) _ _ (by rw [List.length_append, HLN.out]; rfl) hO6 (nm_app HZ0.out HMZ.out) (by omega) hap6.below
    | 4, _ =>
      rw [show ((4 : Nat) : Int) = 4 from rfl]
      go_wp2
      go_meet
      exact ODD.out _ nn L _ HLN.out HO5.out HZ0.out (by omega) HBW.out
    | 5, _ =>
      rw [show ((5 : Nat) : Int) = 5 from rfl]
      go_wp2
      go_meet
      exact ODD.out _ nn L _ HLN.out HO5.out HZ0.out (by omega) HBW.out
  case rest =>
    obtain ⟨po, mo, co, O, rfl, hOl, hOr, hOz, hO9, ⟨hw1, hw2, hw3⟩⟩ := hcut
    obtain ⟨wx, ewx⟩ : ∃ wx : World, wc = wx := ⟨_, rfl⟩
    rw [ewx] at hOr hw1 hw2 hw3 ⊢
    clear ewx
    have HOL := Lib.hid hOl
    have HOR := Lib.hid hOr
    have HOZ := Lib.hid hOz
    have HX1 := Lib.hid hw1
    have HX2 := Lib.hid hw2
    have HX3 := Lib.hid hw3
    have hchk := (chk_right L).2 HR.out
    obtain ⟨S, eS⟩ : ∃ S : ByteArray, (⟨(prT L).toArray⟩ : ByteArray) = S := ⟨_, rfl⟩
    have hSp : S.data.toList = pText L := by rw [← eS]; unfold prT; rw [if_pos hchk]
    have hSz : S.size ≤ 480 := by
      rw [← size_len, hSp]
      have := pText_len L HR.out.each
      rw [HLN.out] at this
      omega
    have hS0 : 0 < S.size := by
      rw [← size_len, hSp]
      cases hLL : L with
      | nil => have := HLN.out; rw [hLL] at this; simp at this; omega
      | cons x r => rw [pText_lns]; simp; omega
    have PR := Lib.hid (refprint12_any p L c wx hw2 (fun x hx => by have := HNZ.out x hx; omega))
    unfold PrintGive at PR
    rw [eS, hchk, HLN.out] at PR
    have M1 := Lib.hid (fun (W : World) => mod_any n (S.size : Int) W n0 (by omega))
    have M2 := Lib.hid (fun (W : World) => mod_any mark 16 W k0 (by omega))
    obtain ⟨i1, ei1⟩ : ∃ i, mod n (S.size : Int) = i := ⟨_, rfl⟩
    obtain ⟨b1, b2⟩ := mod_bd n (n := (S.size : Int)) (by omega)
    rw [ei1] at b1 b2 M1
    obtain ⟨ix, rfl⟩ : ∃ m : Nat, i1 = (m : Int) := Int.eq_ofNat_of_zero_le b1
    obtain ⟨i2, ei2⟩ : ∃ i, mod mark 16 = i := ⟨_, rfl⟩
    obtain ⟨b3, b4⟩ := mod_bd mark (n := 16) (by omega)
    rw [ei2] at b3 b4 M2
    obtain ⟨iy, rfl⟩ : ∃ m : Nat, i2 = (m : Int) := Int.eq_ofNat_of_zero_le b3
    have hixS : ix < S.data.toList.length := by rw [size_len]; omega
    clear hOl hOr hOz hw1 hw2 hw3 hchk eS hSp ei1 ei2 hss
    go_wp2_with fail
    (with_reducible refine Calls.mono PR.out ?_)
    rintro e w6 ⟨rfl, hb6⟩
    obtain ⟨ca, wb, hconv, hBA, hbb⟩ := bytes_of w6 S
    have h66 := hb6.size
    have h6b := hbb.size
    have hiy : iy < 16 := by omega
    obtain ⟨CH, eCH⟩ : ∃ x : UInt8, (⟨#[99, 114, 111, 112, 32, 48, 49, 50, 51, 45, 112, 103, 102, 108, 10, 35]⟩ : ByteArray)[iy]'(by show iy < 16; exact hiy) = x := ⟨_, rfl⟩
    have H6 := Lib.hid (hb6.trans (hbb.mono hb6.size))
    have hBc := hBA.c ix hixS
    have hBf := hBA.f ix hixS
    have HBA := Lib.hid hBA
    clear hb6 hbb hBA PR
    go_wp2_with (first
      | (go_at_call 21; (with_reducible refine Calls.mono (M1.out _) ?_); rintro e wm ⟨rfl, rfl⟩)
      | (go_at_call 21; (with_reducible refine Calls.mono (M2.out _) ?_); rintro e wm ⟨rfl, rfl⟩)
      | fail)
    obtain ⟨wy, ewy⟩ : ∃ wy : World, (wb.setCell ⟨w6.heap.size, ix, none⟩ (.int .u8 (CH.toNat : Int))).alloc (.cells #[.slice pr m0 cr, .slice p nn c, .slice po mo co] 23) = wy := ⟨_, rfl⟩
    have hyb : Below wx.heap.size wx (wb.setCell ⟨w6.heap.size, ix, none⟩ (.int .u8 (CH.toNat : Int))) := H6.out.setCell (p := ⟨w6.heap.size, ix, none⟩) (by show wx.heap.size ≤ w6.heap.size; exact h66) _
    have HY := Lib.hid (show Below wx.heap.size wx wy from ewy ▸ hyb.alloc hyb.size _)
    have hsb : (wb.setCell ⟨w6.heap.size, ix, none⟩ (.int .u8 (CH.toNat : Int))).heap.size = wb.heap.size := setCell_size _ _ _ _
    have HC := Lib.hid (show ∀ k, wy.cell? ⟨wb.heap.size, k, none⟩ = (#[.slice pr m0 cr, .slice p nn c, .slice po mo co] : Array Value)[k]? from fun k => by rw [← ewy, ← hsb]; exact World.cell?_alloc_new _ _ _ _)
    have HBY := Lib.hid (show BytesAt wy w6.heap.size (S.data.toList.set ix CH) from ewy ▸ (HBA.out.set hixS CH).below ((Below.refl _ _).alloc (Nat.le_refl _) _))
    have hby : wb.heap.size < wy.heap.size := by rw [← ewy, World.size_alloc, hsb]; omega
    obtain ⟨gb, egb⟩ : ∃ x, w6.heap.size = x := ⟨_, rfl⟩
    obtain ⟨hb, ehb⟩ : ∃ x, wb.heap.size = x := ⟨_, rfl⟩
    rw [ewy]
    rw [egb] at HBY ⊢
    rw [ehb] at HC hby ⊢
    clear ewy hyb hsb egb ehb HBA hBc hBf hconv h66 h6b M1 eCH H6
    have HEY := Lib.hid (HE.out.below (HX3.out.trans (HY.out.mono HX3.out.size)))
    have HSY := Lib.hid (HX3.out.trans (HY.out.mono HX3.out.size))
    go_loopw [122] (fun i wr => ∃ k : Nat, k ≤ 3 ∧ i = .int .i64 k ∧ Below wy.heap.size wy wr) (fun i _ => 3 - (intOf i).toNat)
    case atStart => exact ⟨0, Nat.zero_le _, rfl, Below.refl _ _⟩
    case round =>
      obtain ⟨wi, rfl⟩ : ∃ wi : World, wi = wr := ⟨_, rfl⟩
      obtain ⟨k, hk, rfl, hbi⟩ := hrel
      have HBI := Lib.hid hbi
      have hq0 : (0 : Int) ≤ (k : Int) := Int.natCast_nonneg _
      by_cases hlt : k < 3
      · as_aux_lemma =>
        have hq1 : (k : Int) < 3 := by omega
        obtain ⟨px, mx, cx, X, hcx, hXl, hXc, hXz⟩ : ∃ (px : Option Addr) (mx cx : Nat) (X : List Crp), wi.cell? ⟨hb, k, none⟩ = some (.slice px mx cx) ∧ X.length = mx ∧ Crops wi px X ∧ (∀ c ∈ X, c.nm.size ≤ 9223372036854775807) := by
          have hcc := (hbi.cell (p := ⟨hb, k, none⟩) hby).trans (HC.out k)
          match k, hlt with
          | 0, _ => exact ⟨pr, m0, cr, RAW, hcc, HM0.out, (HX1.out.below HY.out).below hbi, HRZ.out⟩
          | 1, _ => exact ⟨p, nn, c, L, hcc, HLN.out, (HX2.out.below HY.out).below hbi, fun x hx => by have := HNZ.out x hx; omega⟩
          | 2, _ => exact ⟨po, mo, co, O, hcc, HOL.out, (HOR.out.below HY.out).below hbi, fun x hx => by have := HOZ.out x hx; omega⟩
        subst hXl
        have HXC := Lib.hid hXc
        obtain ⟨PS, ePS⟩ : ∃ x : ByteArray, (⟨(prT X).toArray⟩ : ByteArray) = x := ⟨_, rfl⟩
        obtain ⟨er, eer⟩ : ∃ x, chk X = x := ⟨_, rfl⟩
        obtain ⟨f1, ef1⟩ : ∃ x, find X name = x := ⟨_, rfl⟩
        obtain ⟨f2, ef2⟩ : ∃ x, find X ⟨#[109, 97, 105, 122, 101]⟩ = x := ⟨_, rfl⟩
        have PA := Lib.hid (fun (W : World) (h : Below wi.heap.size wi W) => show Calls Tryz.prog 15 #[.slice px X.length cx] W (fun e w' => e = .returned (.tuple #[.string PS, .int .i64 er]) ∧ Below W.heap.size W w') from by
          have := print12_any px X cx W (HXC.out.below h) hXz ((HEY.out.below hbi).below h)
          unfold PrintGive at this
          rw [ePS, eer] at this
          exact this)
        have PB := Lib.hid (fun (W : World) (h : Below wi.heap.size wi W) => show Calls Tryz.prog 20 #[.slice px X.length cx] W (fun e w' => e = .returned (.tuple #[.string PS, .int .i64 er]) ∧ Below W.heap.size W w') from by
          have := refprint12_any px X cx W (HXC.out.below h) hXz
          unfold PrintGive at this
          rw [ePS, eer] at this
          exact this)
        have CA := Lib.hid (fun (W : World) (h : Below wi.heap.size wi W) => show Calls Tryz.prog 22 #[.slice px X.length cx] W (fun e w' => e = .returned (.int .i64 er) ∧ Below W.heap.size W w') from by
          have := check12_any px X cx W (HXC.out.below h) hXz
          unfold ChkGive at this
          rw [eer] at this
          exact this)
        have CB := Lib.hid (fun (W : World) (h : Below wi.heap.size wi W) => show Calls Tryz.prog 23 #[.slice px X.length cx] W (fun e w' => e = .returned (.int .i64 er) ∧ Below W.heap.size W w') from by
          have := refcheck12_any px X cx W (HXC.out.below h) hXz
          unfold ChkGive at this
          rw [eer] at this
          exact this)
        have FA := Lib.hid (fun (W : World) (h : Below wi.heap.size wi W) => show Calls Tryz.prog 12 #[.slice px X.length cx, .string name] W (fun e w' => e = .returned (.int .i64 f1) ∧ Below W.heap.size W w') from ef1 ▸ find_any px X cx name W (HXC.out.below h))
        have FB := Lib.hid (fun (W : World) (h : Below wi.heap.size wi W) => show Calls Tryz.prog 24 #[.slice px X.length cx, .string name] W (fun e w' => e = .returned (.int .i64 f1) ∧ Below W.heap.size W w') from ef1 ▸ reffind_any px X cx name W (HXC.out.below h))
        have FC := Lib.hid (fun (W : World) (h : Below wi.heap.size wi W) => show Calls Tryz.prog 12 #[.slice px X.length cx, .string ⟨#[109, 97, 105, 122, 101]⟩] W (fun e w' => e = .returned (.int .i64 f2) ∧ Below W.heap.size W w') from ef2 ▸ find_any px X cx ⟨#[109, 97, 105, 122, 101]⟩ W (HXC.out.below h))
        have FD := Lib.hid (fun (W : World) (h : Below wi.heap.size wi W) => show Calls Tryz.prog 24 #[.slice px X.length cx, .string ⟨#[109, 97, 105, 122, 101]⟩] W (fun e w' => e = .returned (.int .i64 f2) ∧ Below W.heap.size W w') from ef2 ▸ reffind_any px X cx ⟨#[109, 97, 105, 122, 101]⟩ W (HXC.out.below h))
        have HXZ := Lib.hid hXz
        have hps : (PS.toList == PS.toList) = true := by simp
        clear hXc hXz ePS eer ef1 ef2 hbi
        go_wp2_with fail
        (with_reducible refine Calls.mono (PA.out _ (Below.refl wi.heap.size wi)) ?_)
        rintro e u0 ⟨rfl, hu0⟩
        have BU0 := Lib.hid (bstep (Nat.le_refl _) (Below.refl wi.heap.size wi) hu0)
        clear hu0
        go_wp2_with fail
        (with_reducible refine Calls.mono (PB.out _ BU0.out) ?_)
        rintro e u1 ⟨rfl, hu1⟩
        have BU1 := Lib.hid (bstep (Nat.le_refl _) BU0.out hu1)
        clear hu1
        go_wp2_with fail
        (with_reducible refine Calls.mono (CA.out _ BU1.out) ?_)
        rintro e u2 ⟨rfl, hu2⟩
        have BU2 := Lib.hid (bstep (Nat.le_refl _) BU1.out hu2)
        clear hu2
        go_wp2_with fail
        (with_reducible refine Calls.mono (CB.out _ BU2.out) ?_)
        rintro e u3 ⟨rfl, hu3⟩
        have BU3 := Lib.hid (bstep (Nat.le_refl _) BU2.out hu3)
        clear hu3
        go_wp2_with fail
        (with_reducible refine Calls.mono (FA.out _ BU3.out) ?_)
        rintro e u4 ⟨rfl, hu4⟩
        have BU4 := Lib.hid (bstep (Nat.le_refl _) BU3.out hu4)
        clear hu4
        go_wp2_with fail
        (with_reducible refine Calls.mono (FB.out _ BU4.out) ?_)
        rintro e u5 ⟨rfl, hu5⟩
        have BU5 := Lib.hid (bstep (Nat.le_refl _) BU4.out hu5)
        clear hu5
        go_wp2_with fail
        (with_reducible refine Calls.mono (FC.out _ BU5.out) ?_)
        rintro e u6 ⟨rfl, hu6⟩
        have BU6 := Lib.hid (bstep (Nat.le_refl _) BU5.out hu6)
        clear hu6
        go_wp2_with fail
        (with_reducible refine Calls.mono (FD.out _ BU6.out) ?_)
        rintro e u7 ⟨rfl, hu7⟩
        have BU7 := Lib.hid (bstep (Nat.le_refl _) BU6.out hu7)
        clear hu7
        have M9 := Lib.hid (fun (W : World) => mod_any n 9 W n0 (by omega))
        have M3 := Lib.hid (fun (W : World) => mod_any mark 32 W k0 (by omega))
        obtain ⟨v9, ev9⟩ : ∃ x, mod n 9 = x := ⟨_, rfl⟩
        obtain ⟨v3, ev3⟩ : ∃ x, mod mark 32 = x := ⟨_, rfl⟩
        rw [ev9] at M9
        rw [ev3] at M3
        clear ev9 ev3 PA PB CA CB FA FB FC FD hcx hps
        go_wp2_with (first
          | (go_at_call 21; (with_reducible refine Calls.mono (M9.out _) ?_); rintro e wm ⟨rfl, rfl⟩)
          | fail)
        obtain ⟨wv, ewv⟩ : ∃ wv : World, u7.alloc (.cells #[.int .i64 n, .int .i64 v9] 3) = wv := ⟨_, rfl⟩
        have HV := Lib.hid (show Below wi.heap.size wi wv from ewv ▸ balloc (Nat.le_refl _) BU7.out _)
        have HCV := Lib.hid (show ∀ j, wv.cell? ⟨u7.heap.size, j, none⟩ = (#[.int .i64 n, .int .i64 v9] : Array Value)[j]? from fun j => ewv ▸ World.cell?_alloc_new _ _ _ _)
        have huv : u7.heap.size < wv.heap.size := by rw [← ewv, World.size_alloc]; omega
        obtain ⟨ub, eub⟩ : ∃ x, u7.heap.size = x := ⟨_, rfl⟩
        rw [ewv]
        rw [eub] at HCV huv ⊢
        clear ewv eub
        go_loopw [172] (fun i wr => ∃ j : Nat, j ≤ 2 ∧ i = .int .i64 j ∧ Below wv.heap.size wv wr) (fun i _ => 2 - (intOf i).toNat)
        case atStart => exact ⟨0, Nat.zero_le _, rfl, Below.refl _ _⟩
        case round =>
          obtain ⟨wj, rfl⟩ : ∃ wj : World, wj = wr := ⟨_, rfl⟩
          obtain ⟨j, hj, rfl, hbj⟩ := hrel
          have HBJ := Lib.hid hbj
          have hj0 : (0 : Int) ≤ (j : Int) := Int.natCast_nonneg _
          by_cases hjl : j < 2
          · as_aux_lemma =>
            have hj1 : (j : Int) < 2 := by omega
            obtain ⟨iv, hiv⟩ : ∃ iv : Int, wj.cell? ⟨ub, j, none⟩ = some (.int .i64 iv) := by
              have hcc := (hbj.cell (p := ⟨ub, j, none⟩) huv).trans (HCV.out j)
              match j, hjl with
              | 0, _ => exact ⟨n, hcc⟩
              | 1, _ => exact ⟨v9, hcc⟩
            have HXJ := Lib.hid ((HXC.out.below HV.out).below hbj)
            obtain ⟨fv, efv⟩ : ∃ x, famV X iv = x := ⟨_, rfl⟩
            obtain ⟨fe, efe⟩ : ∃ x, famE X iv = x := ⟨_, rfl⟩
            obtain ⟨ke, eke⟩ : ∃ x, kinE X iv = x := ⟨_, rfl⟩
            obtain ⟨KL, eKL⟩ : ∃ x, kinL X iv = x := ⟨_, rfl⟩
            obtain ⟨h1, eh1⟩ : ∃ x, hasB X iv mark = x := ⟨_, rfl⟩
            obtain ⟨h2, eh2⟩ : ∃ x, hasB X iv v3 = x := ⟨_, rfl⟩
            have GA := Lib.hid (fun (W : World) (h : Below wj.heap.size wj W) => show Calls Tryz.prog 11 #[.slice px X.length cx, .int .i64 iv] W (fun e w' => e = .returned (.tuple #[.int .i64 fv, .int .i64 fe]) ∧ Below W.heap.size W w') from efv ▸ efe ▸ family_any px X cx iv W (HXJ.out.below h) HXZ.out)
            have GB := Lib.hid (fun (W : World) (h : Below wj.heap.size wj W) => show Calls Tryz.prog 25 #[.slice px X.length cx, .int .i64 iv] W (fun e w' => e = .returned (.tuple #[.int .i64 fv, .int .i64 fe]) ∧ Below W.heap.size W w') from efv ▸ efe ▸ reffamily_any px X cx iv W (HXJ.out.below h) HXZ.out)
            have KA := Lib.hid (fun (W : World) (h : Below wj.heap.size wj W) => show Calls Tryz.prog 10 #[.slice px X.length cx, .int .i64 iv] W (fun e w' => ∃ q c, e = .returned (.tuple #[.slice q KL.length c, .int .i64 ke]) ∧ Hid (Ints w' q KL) ∧ Below W.heap.size W w') from eke ▸ eKL ▸ (kin_any px X cx iv W (HXJ.out.below h) HXZ.out).mono fun e w' ⟨q, c, a1, a2, a3⟩ => ⟨q, c, a1, Lib.hid a2, a3⟩)
            have KB := Lib.hid (fun (W : World) (h : Below wj.heap.size wj W) => show Calls Tryz.prog 26 #[.slice px X.length cx, .int .i64 iv] W (fun e w' => ∃ q c, e = .returned (.tuple #[.slice q KL.length c, .int .i64 ke]) ∧ Hid (Ints w' q KL) ∧ Below W.heap.size W w') from eke ▸ eKL ▸ (refkin_any px X cx iv W (HXJ.out.below h) HXZ.out).mono fun e w' ⟨q, c, a1, a2, a3⟩ => ⟨q, c, a1, Lib.hid a2, a3⟩)
            have A1 := Lib.hid (fun (W : World) (h : Below wj.heap.size wj W) => show Calls Tryz.prog 13 #[.slice px X.length cx, .int .i64 iv, .int .i64 mark] W (fun e w' => e = .returned (.bool h1) ∧ W = w') from eh1 ▸ (has_both px X cx iv mark W (HXJ.out.below h)).1)
            have A2 := Lib.hid (fun (W : World) (h : Below wj.heap.size wj W) => show Calls Tryz.prog 27 #[.slice px X.length cx, .int .i64 iv, .int .i64 mark] W (fun e w' => e = .returned (.bool h1) ∧ W = w') from eh1 ▸ (has_both px X cx iv mark W (HXJ.out.below h)).2)
            have A3 := Lib.hid (fun (W : World) (h : Below wj.heap.size wj W) => show Calls Tryz.prog 13 #[.slice px X.length cx, .int .i64 iv, .int .i64 v3] W (fun e w' => e = .returned (.bool h2) ∧ W = w') from eh2 ▸ (has_both px X cx iv v3 W (HXJ.out.below h)).1)
            have A4 := Lib.hid (fun (W : World) (h : Below wj.heap.size wj W) => show Calls Tryz.prog 27 #[.slice px X.length cx, .int .i64 iv, .int .i64 v3] W (fun e w' => e = .returned (.bool h2) ∧ W = w') from eh2 ▸ (has_both px X cx iv v3 W (HXJ.out.below h)).2)
            clear efv efe eke eKL eh1 eh2 hbj
            go_wp2_with fail
            (with_reducible refine Calls.mono (GA.out _ (Below.refl _ _)) ?_)
            rintro e x1 ⟨rfl, hx1⟩
            have D1 := Lib.hid hx1
            clear hx1
            go_wp2_with fail
            (with_reducible refine Calls.mono (GB.out _ D1.out) ?_)
            rintro e x2 ⟨rfl, hx2⟩
            have D2 := Lib.hid (bstep (Nat.le_refl _) D1.out hx2)
            clear hx2
            go_wp2_with fail
            (with_reducible refine Calls.mono (KA.out _ D2.out) ?_)
            rintro e x3 ⟨qa, ca3, rfl, HIA, hx3⟩
            have D3 := Lib.hid (bstep (Nat.le_refl _) D2.out hx3)
            clear hx3
            go_wp2_with fail
            (with_reducible refine Calls.mono (KB.out _ D3.out) ?_)
            rintro e x4 ⟨qb, cb4, rfl, HIB, hx4⟩
            have D4 := Lib.hid (bstep (Nat.le_refl _) D3.out hx4)
            have HIA4 := Lib.hid (HIA.out.below hx4)
            clear hx4
            have RI := Lib.hid (refints_any qa qb KL KL ca3 cb4 x4 HIA4.out HIB.out)
            rw [show decide (KL = KL) = true by simp] at RI
            go_wp2_with fail
            (with_reducible refine Calls.mono (A1.out _ D4.out) ?_)
            rintro e y1 ⟨rfl, rfl⟩
            go_wp2_with fail
            (with_reducible refine Calls.mono (A2.out _ D4.out) ?_)
            rintro e y2 ⟨rfl, rfl⟩
            have hne1 : (h1 != h1) = false := by simp
            have hne2 : (h2 != h2) = false := by simp
            go_wp2_with fail
            (with_reducible refine Calls.mono (M3.out _) ?_)
            rintro e y3 ⟨rfl, rfl⟩
            go_wp2_with fail
            (with_reducible refine Calls.mono (A3.out _ D4.out) ?_)
            rintro e y4 ⟨rfl, rfl⟩
            go_wp2_with fail
            (with_reducible refine Calls.mono (M3.out _) ?_)
            rintro e y5 ⟨rfl, rfl⟩
            go_wp2_with fail
            (with_reducible refine Calls.mono (A4.out _ D4.out) ?_)
            rintro e y6 ⟨rfl, rfl⟩
            go_wp2_with fail
            (with_reducible refine Calls.mono (RI.out) ?_)
            rintro e y7 ⟨rfl, nd, rfl⟩
            go_wp2
            go_roundw
            case rel => exact ⟨j + 1, by omega, by go_num, bstep (Nat.le_refl _) (bstep (Nat.le_refl _) HBJ.out D4.out) (drewN_below _ nd)⟩
            case measure => simp [intOf]; omega
          · obtain rfl : j = 2 := by omega
            rw [show ((2 : Nat) : Int) = 2 from rfl]
            clear hbj
            go_wp2
            go_roundw
            case rel => exact ⟨k + 1, by omega, by go_num, bstep (Nat.le_refl _) HBI.out (bstep (Nat.le_refl _) HV.out HBJ.out)⟩
            case measure => simp [intOf]; omega
      · as_aux_lemma =>
        obtain rfl : k = 3 := by omega
        rw [show ((3 : Nat) : Int) = 3 from rfl]
        have hxl : (S.data.toList.set ix CH).length = S.size := by rw [List.length_set, size_len]
        have hback := bytes_back wi gb ca (S.data.toList.set ix CH) S.size hxl (HBY.out.below hbi)
        obtain ⟨BS, eBS⟩ : ∃ x : ByteArray, (⟨(S.data.toList.set ix CH).toArray⟩ : ByteArray) = x := ⟨_, rfl⟩
        have hBz : BS.size ≤ 480 := by rw [← eBS, ← size_len]; show (S.data.toList.set ix CH).length ≤ _; omega
        rw [eBS] at hback
        have z1 : S.size + text.size ≤ 9223372036854775807 := by omega
        have z2 : 5 + name.size ≤ 9223372036854775807 := by omega
        have z3 : 5 + name.size + 5 ≤ 9223372036854775807 := by omega
        clear eBS hxl hbi
        go_wp2
        clear hback
        obtain ⟨T4, eT4⟩ : ∃ x : ByteArray, S ++ text = x := ⟨_, rfl⟩
        obtain ⟨T5, eT5⟩ : ∃ x : ByteArray, (⟨#[99, 114, 111, 112, 32]⟩ : ByteArray) ++ name ++ ⟨#[32, 49, 32, 45, 10]⟩ = x := ⟨_, rfl⟩
        have hT4 : T4.size ≤ 2000 := by rw [← eT4, ByteArray.size_append]; omega
        have hT5 : T5.size ≤ 2000 := by rw [← eT5, ByteArray.size_append, ByteArray.size_append]; show 5 + name.size + 5 ≤ _; omega
        rw [eT4, eT5]
        obtain ⟨wp, ewp⟩ : ∃ wp : World, wi.alloc (.cells #[.string text, .string S, .string BS, .string T4, .string T5] 9) = wp := ⟨_, rfl⟩
        have HP := Lib.hid (show Below w.heap.size w wp from ewp ▸ balloc (Nat.le_refl _) (bstep (Nat.le_refl _) HSY.out HBI.out) _)
        have HCP := Lib.hid (show ∀ j, wp.cell? ⟨wi.heap.size, j, none⟩ = (#[.string text, .string S, .string BS, .string T4, .string T5] : Array Value)[j]? from fun j => ewp ▸ World.cell?_alloc_new _ _ _ _)
        have hwp : wi.heap.size < wp.heap.size := by rw [← ewp, World.size_alloc]; omega
        obtain ⟨pb, epb⟩ : ∃ x, wi.heap.size = x := ⟨_, rfl⟩
        rw [ewp]
        rw [epb] at HCP hwp ⊢
        clear ewp epb eT4 eT5 z1 z2 z3
        go_loopw [257] (fun i wr => ∃ k : Nat, k ≤ 5 ∧ i = .int .i64 k ∧ Below wp.heap.size wp wr) (fun i _ => 5 - (intOf i).toNat)
        case atStart => exact ⟨0, Nat.zero_le _, rfl, Below.refl _ _⟩
        case round =>
          obtain ⟨wj, rfl⟩ : ∃ wj : World, wj = wr := ⟨_, rfl⟩
          obtain ⟨k, hk, rfl, hbj⟩ := hrel
          have HBJ := Lib.hid hbj
          have HWJ := Lib.hid (bstep (Nat.le_refl _) HP.out hbj)
          have hj0 : (0 : Int) ≤ (k : Int) := Int.natCast_nonneg _
          by_cases hjl : k < 5
          · as_aux_lemma =>
            have hj1 : (k : Int) < 5 := by omega
            obtain ⟨xt, hxt, hxz⟩ : ∃ xt : ByteArray, wj.cell? ⟨pb, k, none⟩ = some (.string xt) ∧ xt.size ≤ 2000 := by
              have hcc := (hbj.cell (p := ⟨pb, k, none⟩) hwp).trans (HCP.out k)
              match k, hjl with
              | 0, _ => exact ⟨text, hcc, by omega⟩
              | 1, _ => exact ⟨S, hcc, by omega⟩
              | 2, _ => exact ⟨BS, hcc, by omega⟩
              | 3, _ => exact ⟨T4, hcc, hT4⟩
              | 4, _ => exact ⟨T5, hcc, hT5⟩
            obtain ⟨R, eR⟩ : ∃ R, parse xt = R := ⟨_, rfl⟩
            have QA := Lib.hid (fun (W : World) (h : Env W) => parse_to eR (by omega) W h)
            have QB := Lib.hid (fun (W : World) (h : Env W) => parseR_to eR (by omega) W h)
            unfold PaGive at QA QB
            obtain ⟨RL, ri, re⟩ := R
            simp only at QA QB
            clear eR hbj
            go_wp2_with fail
            (with_reducible refine Calls.mono (QA.out _ (HE.out.below HWJ.out)) ?_)
            rintro e x1 ⟨pa, ca1, rfl, HPA, hx1⟩
            have E1 := Lib.hid (bstep (Nat.le_refl _) HWJ.out hx1)
            have G1 := Lib.hid (bstep (Nat.le_refl _) HBJ.out hx1)
            clear hx1
            go_wp2_with fail
            (with_reducible refine Calls.mono (QB.out _ (HE.out.below E1.out)) ?_)
            rintro e x2 ⟨pb2, cb2, rfl, HPB2, hx2⟩
            have E2 := Lib.hid (bstep (Nat.le_refl _) E1.out hx2)
            have G2 := Lib.hid (bstep (Nat.le_refl _) G1.out hx2)
            have SM := Lib.hid (refsame12_any RL pa pb2 ca1 cb2 x2 (HPA.out.below hx2) HPB2.out)
            clear hx2
            go_wp2_with fail
            (with_reducible refine Calls.mono (SM.out) ?_)
            rintro e x3 ⟨rfl, hx3⟩
            go_wp2
            go_roundw
            case rel => exact ⟨k + 1, by omega, by go_num, bstep (Nat.le_refl _) G2.out hx3⟩
            case measure => simp [intOf]; omega
          · obtain rfl : k = 5 := by omega
            rw [show ((5 : Nat) : Int) = 5 from rfl]
            have AW := Lib.hid (awake12_any wj (HE.out.below HWJ.out))
            clear hbj
            go_wp2_with (first | (go_at_call 14; (with_reducible refine Calls.mono AW.out ?_); rintro e w9 ⟨rfl, hb9⟩) | fail)
            go_ret
            exact ⟨rfl, bstep (Nat.le_refl _) HWJ.out hb9⟩

theorem cropAnswers_walk (pr : Option Addr) (RAW : List Crp) (cr : Nat) (name text : ByteArray) (n mark : Int) (a : Option Addr) (len cap : Nat) (z : List Int) (w : World) (hRw : IsCrops w pr RAW cr) (_hs1 : name.size ≤ maxLen) (_hs2 : text.size ≤ maxLen) (wn : (Lit.int .i64 n).wf = true) (wm : (Lit.int .i64 mark).wf = true) (h : IsRow .i64 w a len cap z) (hE : Env w) :
    Calls Tryz.prog 7 #[.slice pr RAW.length cr, .string name, .string text, .int .i64 n, .int .i64 mark, .slice a len cap] w (YesC w) := by
  obtain ⟨n0, n1⟩ := bd_i64 wn
  obtain ⟨k0, k1⟩ := bd_i64 wm
  by_cases s1 : RAW.length ≤ 50
  · by_cases s2 : name.size ≤ 50
    · by_cases s3 : text.size ≤ 1500
      · exact cropAnswers_main pr RAW RAW.length cr name text n mark a len cap z w rfl hRw.recs hRw.small hRw.recs.old n0 n1 k0 k1 h hE s1 s2 s3
      · exact long_awake pr RAW.length cr name text n mark a len cap w hE (.inr (.inr (by omega)))
    · exact long_awake pr RAW.length cr name text n mark a len cap w hE (.inr (.inl (by omega)))
  · exact long_awake pr RAW.length cr name text n mark a len cap w hE (.inl (by omega))

end Go.Proofs.YtcghhagnibabeaaGreatDoor

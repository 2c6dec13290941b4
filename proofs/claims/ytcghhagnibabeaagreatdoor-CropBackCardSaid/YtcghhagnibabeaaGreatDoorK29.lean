/-
  THE WALK over law12.CropBack.
-/
import Derived.Test.YtcghhagnibabeaaGreatDoorK28
import Derived.Test.YtcghhagnibabeaaGreatDoorK23
import Derived.Test.YtcghhagnibabeaaGreatDoorMH
namespace Go.Proofs.YtcghhagnibabeaaGreatDoor
open Go.RowKit Cr

theorem parse_pt {L : List Crp} (h : Right L) {s : ByteArray} (hs : s.data.toList = pText L) : parse s = (L, 0, 0) := parse_back h hs

theorem lnT_len {c : Crp} (h : cErr c = 0) : (lnT c).length ≤ 59 := by
  have := pText_len [c] (fun x hx => by obtain rfl := List.mem_singleton.1 hx; exact h)
  rw [pText_lns] at this
  simp at this
  omega

theorem aft_get (TL : List (List UInt8)) {q : Nat} (h : q < TL.length) : (aftL TL)[q]? = some (bs (TL[q] ++ [10])) := by
  unfold aftL
  rw [List.getElem?_append_left (by simpa using h), List.getElem?_map, List.getElem?_eq_getElem h]
  rfl

theorem rot_len (L : List Crp) (r k : Nat) : (rot L r k).length = k := by unfold rot; simp

theorem bText_len : ∀ (C : List Crp), (∀ c ∈ C, cErr c = 0) → (bText C).length ≤ C.length * 63
  | [], _ => by simp [bText]
  | c :: r, h => by
    have ih := bText_len r fun x hx => h x (List.mem_cons_of_mem _ hx)
    have h1 := lnT_len (h c List.mem_cons_self)
    unfold bText at ih ⊢
    rw [List.flatMap_cons, List.length_append, List.length_cons]
    have : ([32, 32, 10] ++ (lnT c ++ [10])).length = (lnT c).length + 4 := by simp
    omega

theorem rot_right {L : List Crp} (h : Right L) (h0 : 0 < L.length) (r k : Nat) : ∀ c ∈ rot L r k, cErr c = 0 := by
  intro c hc
  unfold rot at hc
  obtain ⟨i, -, rfl⟩ := List.mem_map.1 hc
  have hm : (i + r) % L.length < L.length := Nat.mod_lt _ h0
  rw [List.getD_eq_getElem?_getD, List.getElem?_eq_getElem hm]
  exact h.each _ (List.getElem_mem hm)

set_option maxRecDepth 100000 in
set_option maxHeartbeats 8000000 in
theorem cropBack_walk (a : Option Addr) (len cap : Nat) (z : List Int) (b : Int) (w : World) (h : IsRow .i64 w a len cap z) (wb : (Lit.int .u8 b).wf = true) (hE : Env w) :
    Calls Tryz.prog 6 #[.slice a len cap, .int .u8 b] w (YesC w) := by
  have HN := Lib.hid (new_any a len cap z w h)
  have HE := Lib.hid hE
  obtain ⟨b0, b1⟩ := bd_u8 wb
  clear h hE wb
  obtain ⟨l, el⟩ : ∃ l, (z.take len).take 400 = l := ⟨_, rfl⟩
  rw [el] at HN
  clear el
  go_enter Tryz.func6, Tryz.ntmps6
  go_wp2_with (first
    | (go_at_call 8; refine Calls.mono HN.out ?_; rintro e w1 ⟨rfl, ht1, hb1⟩)
    | fail)
  (with_reducible refine Calls.mono (crops_any w.heap.size l 0 w1 ht1) ?_)
  rintro e w2 ⟨p, n, c, L, q, rfl, hO, hN, hn3, hn8, -, hB2⟩
  have hb2 := hb1.trans (hB2.below (Nat.le_refl _) hb1.size)
  have hR := hN.right hn8
  have hLn := hN.len
  obtain ⟨p', c', e, -, hpx, hcl, hcm, hRec⟩ := hO.cut hLn
  cases e
  have HR := Lib.hid hR
  have HC2 := Lib.hid hRec
  have HB2 := Lib.hid hb2
  have hnz := nice_small hN
  have hchk := (chk_right L).2 hR
  obtain ⟨S, eS⟩ : ∃ S : ByteArray, (⟨(prT L).toArray⟩ : ByteArray) = S := ⟨_, rfl⟩
  have hSp : S.data.toList = pText L := by rw [← eS]; unfold prT; rw [if_pos hchk]
  have hSz : S.size ≤ 480 := by
    rw [← size_len, hSp]
    have := pText_len L hR.each
    omega
  have PR := Lib.hid (print12_any p L c w2 hRec (fun x hx => by have := hnz x hx; omega) (HE.out.below hb2))
  unfold PrintGive at PR
  rw [eS, hchk, hLn] at PR
  have PA := Lib.hid (fun (W : World) (hW : Env W) => parse_to (parse_pt hR hSp) (by omega) W hW)
  unfold PaGive at PA
  rw [hLn] at PA
  have SA := Lib.hid (fun (W : World) (hW : Env W) => splitafter_any S (L.map lnT) W hW (fun l hl => by obtain ⟨c, hc, rfl⟩ := List.mem_map.1 hl; exact (lnT_ok (hR.each c hc)).1.1) (by rw [hSp, pText_lns]) (by omega))
  unfold AftGive at SA
  rw [List.length_map, hLn] at SA
  obtain ⟨r, hr⟩ : ∃ r : Nat, b % (n : Int) = (r : Int) := Int.eq_ofNat_of_zero_le (Int.emod_nonneg _ (by omega))
  have hrn : r < n := by have := Int.emod_lt_of_pos b (show (0 : Int) < n by omega); omega
  have HLN := Lib.hid hLn
  clear ht1 hb1 hO hN hB2 hR hpx hcm hRec hchk eS hSp HN hb2 hLn hnz hcl
  go_wp2_with (first
    | (go_at_call 15; (with_reducible refine Calls.mono PR.out ?_); rintro e w3 ⟨rfl, hb3⟩)
    | fail)
  have B3 := Lib.hid (bstep (Nat.le_refl _) HB2.out hb3)
  have C3 := Lib.hid (HC2.out.below hb3)
  clear hb3 PR
  (with_reducible refine Calls.mono (PA.out w3 (HE.out.below B3.out)) ?_)
  rintro e w4 ⟨p4, c4, rfl, hC4, hb4⟩
  have B4 := Lib.hid (bstep (Nat.le_refl _) B3.out hb4)
  have C4 := Lib.hid (C3.out.below hb4)
  clear hb4 PA
  go_wp2_with fail
  (with_reducible refine Calls.mono (SA.out w4 (HE.out.below B4.out)) ?_)
  rintro e w5 ⟨g, rfl, hG, hb5⟩
  have B5 := Lib.hid (bstep (Nat.le_refl _) B4.out hb5)
  have C5 := Lib.hid (C4.out.below hb5)
  have D5 := Lib.hid (hC4.out.below hb5)
  have HG := Lib.hid hG
  have hn1 : ((n : Int) != (n : Int)) = false := by simp
  clear hb5 SA hC4 hG
  have hr0 : (0 : Int) ≤ (r : Int) := Int.natCast_nonneg _
  go_wp2
  go_loop [12, 51] (fun t i => ∃ (k : Nat) (X : ByteArray), k ≤ n ∧ i = .int .i64 k ∧ t = .string X ∧ X.data.toList = bText (rot L r k)) (fun _ i => n - (intOf i).toNat)
  case atStart => exact ⟨0, ⟨#[]⟩, Nat.zero_le _, rfl, rfl, rfl⟩
  case round =>
    obtain ⟨k, X, hk, rfl, rfl, hX⟩ := hrel
    have hXz : X.size ≤ 504 := by
      have := bText_len (rot L r k) (rot_right HR.out (by rw [HLN.out]; omega) r k)
      rw [rot_len, ← hX, size_len] at this
      omega
    have HX := Lib.hid hX
    have hk0 : (0 : Int) ≤ (k : Int) := Int.natCast_nonneg _
    clear hX
    by_cases hlt : k < n
    · have hk1 : (k : Int) < (n : Int) := by omega
      obtain ⟨q, eq⟩ : ∃ q : Nat, (k + r) % n = q := ⟨_, rfl⟩
      have hqn : q < n := by rw [← eq]; exact Nat.mod_lt _ (by omega)
      have hq : ((k : Int) + (r : Int)) % (n : Int) = (q : Int) := by rw [← eq, ← Int.natCast_add]; rfl
      have hqL : q < L.length := by rw [HLN.out]; exact hqn
      have hql : q < (aftL (L.map lnT)).length := by unfold aftL; simp; omega
      obtain ⟨B, O, e, -, hcell⟩ := HG.out.word (j := q) hql
      cases e
      rw [Nat.zero_add] at hcell
      obtain ⟨ln, eln⟩ : ∃ x, (aftL (L.map lnT))[q] = x := ⟨_, rfl⟩
      rw [eln] at hcell
      have hln : ln.data.toList = lnT L[q] ++ [10] := by
        have h2 := aft_get (L.map lnT) (q := q) (by rw [List.length_map]; exact hqL)
        rw [List.getElem?_eq_getElem hql, eln] at h2
        injection h2 with h2
        rw [h2, List.getElem_map]
        rfl
      have hlz : ln.size ≤ 60 := by
        rw [← size_len, hln, List.length_append]
        have := lnT_len (HR.out.each _ (List.getElem_mem hqL))
        simp; omega
      have HNX := Lib.hid (show (X ++ ((⟨#[32, 32, 10]⟩ : ByteArray) ++ ln)).data.toList = bText (rot L r (k + 1)) by
        rw [rot_succ, bText_snoc, ByteArray.data_append, Array.toList_append, ByteArray.data_append, Array.toList_append, HX.out, hln, HLN.out, eq, List.getD_eq_getElem?_getD, List.getElem?_eq_getElem hqL]
        rfl)
      have hq0 : (0 : Int) ≤ (q : Int) := Int.natCast_nonneg _
      have hq1 : (q : Int) < (n : Int) := by omega
      clear eq eln hln hql
      go_wp2
      go_round
      case rel => exact ⟨k + 1, _, by omega, by go_num, rfl, HNX.out⟩
      case measure => simp [intOf]; omega
    · obtain rfl : k = n := by omega
      have PB := Lib.hid (parse_to (parse_blank HR.out (C := rot L r L.length) (rot_perm (by rw [HLN.out]; exact hrn)) (s := X) (by rw [HLN.out]; exact HX.out) (by omega)) (by omega) w5 (HE.out.below B5.out))
      unfold PaGive at PB
      rw [HLN.out] at PB
      go_wp2_with fail
      (with_reducible refine Calls.mono PB.out ?_)
      rintro e w6 ⟨p6, c6, rfl, hC6, hb6⟩
      have B6 := Lib.hid (bstep (Nat.le_refl _) B5.out hb6)
      have C6 := Lib.hid (C5.out.below hb6)
      have D6 := Lib.hid (D5.out.below hb6)
      have S1 := Lib.hid (show Calls Tryz.prog 17 #[.slice p4 k c4, .slice p k c] w6 (fun e w' => e = .returned (.bool true) ∧ Below w6.heap.size w6 w') from HLN.out ▸ refsame12_any L p4 p c4 c w6 D6.out C6.out)
      have S2 := Lib.hid (fun (W : World) (h : Below w6.heap.size w6 W) => show Calls Tryz.prog 17 #[.slice p6 k c6, .slice p k c] W (fun e w' => e = .returned (.bool true) ∧ Below W.heap.size W w') from HLN.out ▸ refsame12_any L p6 p c6 c W (hC6.out.below h) (C6.out.below h))
      have HC6 := Lib.hid hC6
      clear PB hC6 hb6
      go_wp2_with fail
      (with_reducible refine Calls.mono S1.out ?_)
      rintro e w7 ⟨rfl, hb7⟩
      go_wp2_with fail
      (with_reducible refine Calls.mono (S2.out w7 hb7) ?_)
      rintro e w8 ⟨rfl, hb8⟩
      have B8 := Lib.hid (bstep (Nat.le_refl _) (bstep (Nat.le_refl _) B6.out hb7) hb8)
      clear hb7 hb8
      go_wp2_with fail
      (with_reducible refine Calls.mono (awake12_any w8 (HE.out.below B8.out)) ?_)
      rintro e w9 ⟨rfl, hb9⟩
      go_wp2
      go_ret
      exact ⟨rfl, bstep (Nat.le_refl _) B8.out hb9⟩
end Go.Proofs.YtcghhagnibabeaaGreatDoor

/-
  THE WALK over law12.CropLines.
-/
import Derived.Test.YtcghhagnibabeaaGreatDoorK20
import Derived.Test.YtcghhagnibabeaaGreatDoorK21
import Derived.Test.YtcghhagnibabeaaGreatDoorK22
import Derived.Test.YtcghhagnibabeaaGreatDoorBd
namespace Go.Proofs.YtcghhagnibabeaaGreatDoor
open Go.RowKit Cr

def YesC (w : World) (e : Ending) (w' : World) : Prop := e = .returned (.bool true) ∧ Below w.heap.size w w'

theorem nice_small {L : List Crp} {k : Nat} (h : Nice L k) : ∀ c ∈ L, c.nm.size ≤ 6 := by
  intro c hc
  obtain ⟨i, hi, rfl⟩ := List.mem_iff_getElem.1 hc
  rw [h.nm i hi]
  have : ∀ i, (namesL.getD i ⟨#[]⟩).size ≤ 6 := by
    intro i
    match i with
    | 0 | 1 | 2 | 3 | 4 | 5 | 6 | 7 => decide
    | i + 8 => exact Nat.zero_le _
  exact this i

/-- What a catalogue's parsing gives, behind any world. -/
def PaGive (R : List Crp × Int × Int) (w : World) (e : Ending) (w' : World) : Prop :=
  ∃ p c, e = .returned (.tuple #[.slice p R.1.length c, .int .i64 R.2.1, .int .i64 R.2.2]) ∧ Hid (Crops w' p R.1) ∧ Below w.heap.size w w'

theorem parse_to {s : ByteArray} {R : List Crp × Int × Int} (h : parse s = R) (hs : s.size ≤ 9223372036854775807) (w : World) (hE : Env w) : Calls Tryz.prog 16 #[.string s] w (PaGive R w) := by
  subst h
  exact (parse12_any s w hE hs).mono fun e w' ⟨p, c, h1, h2, h3⟩ => ⟨p, c, h1, Lib.hid h2, h3⟩

set_option maxRecDepth 100000 in
set_option maxHeartbeats 8000000 in
theorem cropLines_walk (a : Option Addr) (len cap : Nat) (z : List Int) (b : Int) (w : World) (h : IsRow .i64 w a len cap z) (wb : (Lit.int .u8 b).wf = true) (hE : Env w) :
    Calls Tryz.prog 4 #[.slice a len cap, .int .u8 b] w (YesC w) := by
  have HN := Lib.hid (new_any a len cap z w h)
  have HE := Lib.hid hE
  obtain ⟨b0, b1⟩ := bd_u8 wb
  clear h hE wb
  obtain ⟨l, el⟩ : ∃ l, (z.take len).take 400 = l := ⟨_, rfl⟩
  rw [el] at HN
  clear el
  go_enter Tryz.func4, Tryz.ntmps4
  go_wp2_with (first
    | (go_at_call 8; refine Calls.mono HN.out ?_; rintro e w1 ⟨rfl, ht1, hb1⟩)
    | fail)
  (with_reducible refine Calls.mono (crops_any w.heap.size l 0 w1 ht1) ?_)
  rintro e w2 ⟨p, n, c, L, q, rfl, hO, hN, hn3, hn8, -, hB2⟩
  have hb2 := hb1.trans (hB2.below (Nat.le_refl _) hb1.size)
  have hR := hN.right hn8
  have hLn := hN.len
  obtain ⟨p', c', e, -, hpx, hcl, hcm, hRec⟩ := hO.cut hLn
  cases e
  have HR := Lib.hid hR
  have HC2 := Lib.hid hRec
  have HB2 := Lib.hid hb2
  have HNI := Lib.hid hN
  have hnz := nice_small hN
  have hchk := (chk_right L).2 hR
  obtain ⟨S, eS⟩ : ∃ S : ByteArray, (⟨(prT L).toArray⟩ : ByteArray) = S := ⟨_, rfl⟩
  have hSp : S.data.toList = pText L := by rw [← eS]; unfold prT; rw [if_pos hchk]
  have hSz : S.size ≤ 480 := by
    rw [← size_len, hSp]
    have := pText_len L hR.each
    omega
  have PR := Lib.hid (print12_any p L c w2 hRec (fun x hx => by have := hnz x hx; omega) (HE.out.below hb2))
  unfold PrintGive at PR
  rw [eS, hchk, hLn] at PR
  have HSP := Lib.hid hSp
  have P1 := Lib.hid (fun (W : World) (hW : Env W) => parse_to (form_tail hR (s := S ++ ⟨#[99, 114, 111, 112, 10]⟩) (by rw [ByteArray.data_append, Array.toList_append, hSp]) (by rw [ByteArray.size_append]; show S.size + 5 ≤ _; omega)) (by rw [ByteArray.size_append]; show S.size + 5 ≤ _; omega) W hW)
  rw [hLn] at P1
  obtain ⟨r, hr⟩ : ∃ r : Nat, b % (n : Int) = (r : Int) := Int.eq_ofNat_of_zero_le (Int.emod_nonneg _ (by omega))
  have hrn : r < n := by have := Int.emod_lt_of_pos b (show (0 : Int) < n by omega); omega
  have hr0 : (0 : Int) ≤ (r : Int) := Int.natCast_nonneg _
  have hr1 : (r : Int) < (n : Int) := by omega
  obtain ⟨bb, off, x, rfl, hbl, hX, hx⟩ := SC_at hRec (k := r) (by rw [hLn]; exact hrn)
  obtain ⟨x0, -, -⟩ := hX
  have hxz : x.nm.size ≤ 6 := hnz x (by rw [← hx.out]; exact List.getElem_mem _)
  have P2 := Lib.hid (fun (W : World) (hW : Env W) => parse_to (twice_tail hR (nm := x.nm) ⟨x, by rw [← hx.out]; exact List.getElem_mem _, rfl⟩ (s := S ++ ⟨#[35, 32, 97, 108, 108, 10, 99, 114, 111, 112, 32]⟩ ++ x.nm ++ ⟨#[32, 49, 32, 45, 10]⟩) (by simp only [ByteArray.data_append, Array.toList_append, hSp, List.append_assoc]) (by simp only [ByteArray.size_append]; show S.size + 11 + x.nm.size + 5 ≤ _; omega)) (by simp only [ByteArray.size_append]; show S.size + 11 + x.nm.size + 5 ≤ _; omega) W hW)
  rw [hLn] at P2
  have P3 := Lib.hid (fun (W : World) (hW : Env W) => parse_to form_alone (by show 13 ≤ _; omega) W hW)
  have hn0 : ((n : Int) == 0) = false := by simp; omega
  obtain ⟨nm, enm⟩ : ∃ y, x.nm = y := ⟨_, rfl⟩
  rw [enm] at x0 hxz P2
  have HX0 := Lib.hid x0
  have AW := Lib.hid (fun (W : World) (hW : Env W) => awake12_any W hW)
  unfold PaGive at P1 P2 P3
  clear ht1 hb1 hO hN hB2 hR hpx hcm hRec hchk eS hSp HN hb2 hx enm x0 hLn hcl HNI hnz
  go_wp2_with (first
    | (go_at_call 15; (with_reducible refine Calls.mono PR.out ?_); rintro e w3 ⟨rfl, hb3⟩)
    | fail)
  have B3 := Lib.hid (bstep (Nat.le_refl _) HB2.out hb3)
  (with_reducible refine Calls.mono (P1.out w3 (HE.out.below B3.out)) ?_)
  rintro e w4 ⟨p4, c4, rfl, -, hb4⟩
  have B4 := Lib.hid (bstep (Nat.le_refl _) B3.out hb4)
  have x4 := (hb4.cell (p := ⟨bb, off + r * 3, none⟩) (Nat.lt_of_lt_of_le hbl hb3.size)).trans ((hb3.cell (p := ⟨bb, off + r * 3, none⟩) hbl).trans HX0.out)
  clear hb3 hb4
  go_wp2_with fail
  (with_reducible refine Calls.mono (P2.out w4 (HE.out.below B4.out)) ?_)
  rintro e w5 ⟨p5, c5, rfl, -, hb5⟩
  have B5 := Lib.hid (bstep (Nat.le_refl _) B4.out hb5)
  clear hb5 x4
  go_wp2_with fail
  (with_reducible refine Calls.mono (P3.out w5 (HE.out.below B5.out)) ?_)
  rintro e w6 ⟨p6, c6, rfl, -, hb6⟩
  have B6 := Lib.hid (bstep (Nat.le_refl _) B5.out hb6)
  clear hb6
  go_wp2_with fail
  (with_reducible refine Calls.mono (AW.out w6 (HE.out.below B6.out)) ?_)
  rintro e w7 ⟨rfl, hb7⟩
  go_wp2
  go_ret
  exact ⟨rfl, bstep (Nat.le_refl _) B6.out hb7⟩
end Go.Proofs.YtcghhagnibabeaaGreatDoor

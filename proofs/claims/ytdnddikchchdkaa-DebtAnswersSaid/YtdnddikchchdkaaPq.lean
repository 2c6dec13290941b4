/-
  PLAIN: the debts that are due, in the order in which they are paid off.
-/
import Derived.Test.YtdnddikchchdkaaPb
import Derived.Shelf.SlSortCmp.NoneTotal
namespace Go.Proofs.Ytdnddikchchdkaa.De
open Go.Sort

def cf (L : List Dbt) (x y : Fin L.length) : Int :=
  if (g L x.val).due < (g L y.val).due then -1 else if (g L y.val).due < (g L x.val).due then 1 else if (g L x.val).num < (g L y.val).num then -1 else if (g L y.val).num < (g L x.val).num then 1 else 0

theorem lt_cf (L : List Dbt) (x y : Fin L.length) : ltOf (cf L) x y = true ↔ before (g L x.val) (g L y.val) := by
  unfold ltOf cf before
  rw [decide_eq_true_eq]
  split <;> (try split) <;> (try split) <;> (try split) <;> omega

theorem lt_cf_not (L : List Dbt) (x y : Fin L.length) : ltOf (cf L) x y = false ↔ ¬ before (g L x.val) (g L y.val) := by
  rw [← Bool.not_eq_true, lt_cf]

theorem swo (L : List Dbt) : SWO (ltOf (cf L)) where
  irrefl x := by rw [lt_cf_not]; unfold before; omega
  trans x y z h1 h2 := by rw [lt_cf] at *; unfold before at *; omega
  ntrans x y z h1 h2 := by rw [lt_cf_not] at *; unfold before at *; omega

theorem tot {L : List Dbt} (h : Asc L) (x y : Fin L.length) (h1 : ltOf (cf L) x y = false) (h2 : ltOf (cf L) y x = false) : x = y := by
  rw [lt_cf_not] at *
  apply Fin.ext
  refine h.place x.isLt y.isLt ?_
  unfold before at *
  omega

/-- The places of the debts that are due, ascending; and in the order in which they are paid off. -/
def dueL (L : List Dbt) (day : Int) : List (Fin L.length) := (List.finRange L.length).filter fun x => decide ((g L x.val).due ≤ day)
def ordF (L : List Dbt) (day : Int) : List (Fin L.length) := (dueL L day).mergeSort fun x y => !(ltOf (cf L) y x)
def ord (L : List Dbt) (day : Int) : List Nat := (ordF L day).map Fin.val

theorem ord_len (L : List Dbt) (day : Int) : (ord L day).length = (dueL L day).length := by
  unfold ord ordF; rw [List.length_map, List.length_mergeSort]

theorem ord_ok {L : List Dbt} (h : Asc L) (day : Int) : Ord L day (ord L day) := by
  have hp : (ordF L day).Perm (dueL L day) := List.mergeSort_perm _ _
  have hnd : (ordF L day).Nodup := hp.nodup_iff.2 ((List.nodup_finRange L.length).filter _)
  refine ⟨fun i => ?_, ?_⟩
  · unfold ord
    rw [List.mem_map]
    constructor
    · rintro ⟨x, hx, rfl⟩
      have := hp.mem_iff.1 hx
      unfold dueL at this
      rw [List.mem_filter] at this
      exact ⟨x.isLt, by simpa using this.2⟩
    · rintro ⟨hi, hd⟩
      refine ⟨⟨i, hi⟩, hp.mem_iff.2 ?_, rfl⟩
      unfold dueL
      rw [List.mem_filter]
      exact ⟨List.mem_finRange _, by simpa using hd⟩
  · unfold ord
    rw [List.pairwise_map]
    have hs : (ordF L day).Pairwise fun x y => (!(ltOf (cf L) y x)) = true := by
      refine List.pairwise_mergeSort ?_ ?_ (dueL L day)
      · intro a b c h1 h2
        simp only [Bool.not_eq_true', lt_cf_not] at *
        unfold before at *
        omega
      · intro a b
        simp only [Bool.or_eq_true, Bool.not_eq_true', lt_cf_not]
        unfold before
        omega
    refine (hs.and hnd).imp fun {x y} hxy => ?_
    obtain ⟨h1, h2⟩ := hxy
    simp only [Bool.not_eq_true', lt_cf_not] at h1
    by_cases hb : before (g L x.val) (g L y.val)
    · exact hb
    · exact absurd (tot h x y ((lt_cf_not L x y).2 hb) ((lt_cf_not L y x).2 h1)) h2

theorem dueTo_succ {L : List Dbt} {day : Int} {k : Nat} (hk : k < L.length) :
    ((List.finRange L.length).take (k + 1)).filter (fun x => decide ((g L x.val).due ≤ day)) = ((List.finRange L.length).take k).filter (fun x => decide ((g L x.val).due ≤ day)) ++ if (g L k).due ≤ day then [⟨k, hk⟩] else [] := by
  rw [List.take_succ_eq_append_getElem (by simpa using hk), List.filter_append]
  congr 1
  rw [List.getElem_finRange]
  by_cases h : (g L k).due ≤ day
  · rw [if_pos h, List.filter_cons, if_pos (by simpa using h)]; rfl
  · rw [if_neg h, List.filter_cons, if_neg (by simpa using h)]; rfl

end Go.Proofs.Ytdnddikchchdkaa.De

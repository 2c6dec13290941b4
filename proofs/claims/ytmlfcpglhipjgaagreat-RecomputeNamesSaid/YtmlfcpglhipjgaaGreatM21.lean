/-
  PACKED (pack8.py): what is needed of the texts Ak.
-/
import Derived.Test.YtmlfcpglhipjgaaGreatM0
namespace Go.Proofs.YtmlfcpglhipjgaaGreat
open Go
section
variable {P : Program} {ops : Array Oper} {Q : Exit → Act → World → Prop} {md : Region.Mode} {S : World → Prop} {k0 : Nat}
def waitsOn (md : Region.Mode) (ops : Array Oper) (j i : Nat) : Bool :=
 match ops[j]? with
 | some o => o.after.any fun e => Region.binds md e && e.on == i
 | none => false
theorem waitsOn_ready {i j : Nat} {listed : Array Bool} (h : waitsOn md ops j i = true) (hj : j ∈ Region.ready md ops listed) : listed.getD i false = true := by
 obtain ⟨_, o, ho, hall⟩ := mem_ready.1 hj; unfold waitsOn at h; rw [ho] at h; simp only [Array.any_eq_true', Bool.and_eq_true, beq_iff_eq] at h; obtain ⟨e, he, hb, rfl⟩ := h; exact hall e he hb
theorem unlisted {i : Nat} {listed : Array Bool} (h : listed.getD i true = false) : ¬ listed.getD i false = true := by
 intro h2
 rcases Nat.lt_or_ge i listed.size with h' | h'
 ·simp [h'] at h h2; rw [h] at h2; cases h2
 ·simp [Array.getElem?_eq_none h'] at h2
def wpAnyK (P : Program) (md : Region.Mode) (ops : Array Oper) (Q : Exit → Act → World → Prop) (S : World → Prop) (k0 : Nat) : Nat → Array Bool → Act → World → Prop
 | 0, listed, a, w => Region.ready md ops listed = [] ∧ Q .normal a w
 | fuel + 1, listed, a, w => (Region.ready md ops listed = [] → Q .normal a w) ∧ ∀ i ∈ Region.ready md ops listed,
   (i = k0 → wpOp P ops Q i (fun a' w' => wpAny P md ops Q fuel (listed.setIfInBounds i true) a' w') a w) ∧
   (i ≠ k0 → wpOp P ops Q i (fun a' w' => S w' ∧ wpAnyK P md ops Q S k0 fuel (listed.setIfInBounds i true) a' w') a w)
theorem wpAny_of_K : ∀ (fuel : Nat) (listed : Array Bool) (a : Act) (w : World), wpAnyK P md ops Q S k0 fuel listed a w → wpAny P md ops Q fuel listed a w
 | 0, _, _, _, h => h
 | fuel + 1, _, _, _, h => ⟨h.1, fun i hi => by
   by_cases e : i = k0
   ·exact (h.2 i hi).1 e
   ·exact wpOp_mono (fun a' w' h' => wpAny_of_K fuel _ a' w' h'.2) ((h.2 i hi).2 e)⟩
theorem wpAnyK_first {i m : Nat} {oi : Oper} {v : Value} (hi : ops[i]? = some oi) (hsel : ∀ (j : Nat) (o : Oper) cs b, ops[j]? = some o → o.op ≠ .select cs b)
  (hQ : ∀ c a w, Q (.panic c) (a.put oi.dst v) w → Q (.panic c) a w) (hk : i ≠ k0) (hm : waitsOn md ops k0 m = true) :
  ∀ (fuel : Nat) (listed : Array Bool) (a : Act) (w : World),
    (∀ j oj, ops[j]? = some oj → j ≠ i → listed.getD j true = false → (∀ e ∈ oj.after, Region.binds md e = true → e.on ≠ i) → oi.apart ops oj = true) →
    (m = i ∨ (listed.getD m true = false ∧ waitsOn md ops m i = true)) →
    i ∈ Region.ready md ops listed → YieldsIf P ops S oi v a → S w →
    wpAnyK P md ops Q S k0 fuel (listed.setIfInBounds i true) (a.put oi.dst v) w → wpAnyK P md ops Q S k0 (fuel + 1) listed a w := by
 intro fuel
 induction fuel with
 | zero =>
   intro listed a w _ _ hr hy hS H; refine ⟨fun h => (by rw [h] at hr; cases hr), fun j hj => ?_⟩
   by_cases hji : j = i
   ·subst hji; exact ⟨fun e => absurd e hk, fun _ => hy.wpOp hi hS ⟨hS, H⟩⟩
   ·have := ready_mono hj hji
    rw [H.1] at this
    cases this
 | succ fuel ih =>
   intro listed a w hfree hmi hr hy hS H; refine ⟨fun h => (by rw [h] at hr; cases hr), fun j hj => ?_⟩
   by_cases hji : j = i
   ·subst hji; exact ⟨fun e => absurd e hk, fun _ => hy.wpOp hi hS ⟨hS, H⟩⟩
   have hiun := unlisted (mem_ready.1 hr).1; have hjk : j ≠ k0 := by
    rintro rfl; have h1 := waitsOn_ready hm hj
    rcases hmi with rfl | ⟨h2, _⟩
    ·exact hiun h1
    ·exact unlisted h2 h1
   refine ⟨fun e => absurd e hjk, fun _ => ?_⟩
   have h1 := (H.2 j (ready_mono hj hji)).2 hjk; obtain ⟨hjun, oj, hoj, hall⟩ := mem_ready.1 hj; have hnot : ∀ e ∈ oj.after, Region.binds md e = true → e.on ≠ i := fun e he hb heq => hiun (heq ▸ hall e he hb)
   have h2 := wpOp_putIf hoj (hfree j oj hoj hji hjun hnot) (fun cs b => hsel i oi cs b hi) (fun cs b => hsel j oj cs b hoj) hQ hy h1; have hfree' : ∀ k ok, ops[k]? = some ok → k ≠ i → (listed.setIfInBounds j true).getD k true = false →
     (∀ e ∈ ok.after, Region.binds md e = true → e.on ≠ i) → oi.apart ops ok = true := fun k ok hk hki hun hno => by
    refine hfree k ok hk hki ?_ hno
    by_cases hjk : j = k
    ·subst hjk; exact hjun
    ·rw [getD_set_ne true hjk] at hun; exact hun
   have hmi' : m = i ∨ ((listed.setIfInBounds j true).getD m true = false ∧ waitsOn md ops m i = true) := by
    rcases hmi with h | ⟨h3, h4⟩
    ·exact .inl h
    ·refine .inr ⟨?_, h4⟩
     have hjm : j ≠ m := by rintro rfl; exact hiun (waitsOn_ready h4 hj)
     rw [getD_set_ne true hjm]; exact h3
   refine wpOp_mono (fun a' w' h3 => ⟨h3.2.1, ih (listed.setIfInBounds j true) a' w' hfree' hmi' (ready_mono hr (Ne.symm hji)) h3.1 h3.2.1 ?_⟩) h2
   rw [Array.setIfInBounds_comm _ _ hji]; exact h3.2.2
theorem wpAnyK_take {i : Nat} (m : Nat) {oi : Oper} {v : Value} {fuel : Nat} {listed : Array Bool} {a : Act} {w : World} (hi : ops[i]? = some oi)
  (hs : Region.noSelect ops = true) (hf : Region.free md ops listed i = true) (hr : (Region.ready md ops listed).contains i = true)
  (hk : (i != k0 && waitsOn md ops k0 m && (m == i || (!listed.getD m true && waitsOn md ops m i))) = true)
  (hQ : ∀ c a w, Q (.panic c) (a.put oi.dst v) w → Q (.panic c) a w) (hy : YieldsIf P ops S oi v a) (hS : S w)
  (h : wpAnyK P md ops Q S k0 fuel (listed.setIfInBounds i true) (a.put oi.dst v) w) : wpAnyK P md ops Q S k0 (fuel + 1) listed a w := by
 simp only [Bool.and_eq_true, bne_iff_ne, Bool.or_eq_true, beq_iff_eq, Bool.not_eq_true'] at hk; exact wpAnyK_first hi (Region.noSelect_spec hs) hQ hk.1.1 hk.1.2 fuel listed a w (Region.free_spec hi hf) hk.2 (by simpa using hr) hy hS h
theorem wpAnyK_one {i : Nat} {o : Oper} {fuel : Nat} {listed : Array Bool} {a : Act} {w : World} (hr : Region.ready md ops listed = [i]) (hk : (i == k0) = false) (ho : ops[i]? = some o)
  (h : ∀ K' : Act → World → Prop, Shut (∀ a w, S w → wpAnyK P md ops Q S k0 fuel (listed.setIfInBounds i true) a w → K' a w) → if Region.wanted o (yielded ops a.tmps) = true then Oper.wp P o a w K' Q else K' (a.put o.dst undef) w) :
  wpAnyK P md ops Q S k0 (fuel + 1) listed a w :=
 ⟨fun h0 => (by rw [hr] at h0; cases h0), fun j hj => by
  rw [hr] at hj; obtain rfl := List.mem_singleton.1 hj
  exact ⟨fun e => (by rw [e] at hk; simp at hk), fun _ => wpOp_step ho fun K' hK => h K' fun a w hS hW => hK a w ⟨hS, hW⟩⟩⟩
theorem wpAnyK_two {i j : Nat} {o p : Oper} {fuel : Nat} {listed : Array Bool} {a : Act} {w : World} (hr : Region.ready md ops listed = [i, j]) (hk : (i == k0 || j == k0) = false) (ho : ops[i]? = some o) (hp : ops[j]? = some p)
  (h : ∀ K' : Act → World → Prop, Shut (∀ a w, S w → wpAnyK P md ops Q S k0 fuel (listed.setIfInBounds i true) a w → K' a w) → if Region.wanted o (yielded ops a.tmps) = true then Oper.wp P o a w K' Q else K' (a.put o.dst undef) w)
  (h2 : ∀ K' : Act → World → Prop, Shut (∀ a w, S w → wpAnyK P md ops Q S k0 fuel (listed.setIfInBounds j true) a w → K' a w) → if Region.wanted p (yielded ops a.tmps) = true then Oper.wp P p a w K' Q else K' (a.put p.dst undef) w) :
  wpAnyK P md ops Q S k0 (fuel + 1) listed a w :=
 ⟨fun h0 => (by rw [hr] at h0; cases h0), fun n hn => by
  rw [hr] at hn; simp only [Bool.or_eq_false_iff, beq_eq_false_iff_ne] at hk
  rcases List.mem_cons.1 hn with rfl | hn
  ·exact ⟨fun e => absurd e hk.1, fun _ => wpOp_step ho fun K' hK => h K' fun a w hS hW => hK a w ⟨hS, hW⟩⟩
  ·obtain rfl := List.mem_singleton.1 hn
   exact ⟨fun e => absurd e hk.2, fun _ => wpOp_step hp fun K' hK => h2 K' fun a w hS hW => hK a w ⟨hS, hW⟩⟩⟩
theorem wpAnyK_last {o : Oper} {fuel : Nat} {listed : Array Bool} {a : Act} {w : World} (hr : Region.ready md ops listed = [k0]) (ho : ops[k0]? = some o)
  (h : ∀ K' : Act → World → Prop, Shut (∀ a w, wpAnyH P md ops Q (fun _ => True) fuel (listed.setIfInBounds k0 true) a w → K' a w) → if Region.wanted o (yielded ops a.tmps) = true then Oper.wp P o a w K' Q else K' (a.put o.dst undef) w) :
  wpAnyK P md ops Q S k0 (fuel + 1) listed a w :=
 ⟨fun h0 => (by rw [hr] at h0; cases h0), fun j hj => by
  rw [hr] at hj; obtain rfl := List.mem_singleton.1 hj
  exact ⟨fun _ => wpOp_step ho fun K' hK => h K' fun a w hW => hK a w (wpAny_of_held _ _ _ _ hW), fun e => absurd rfl e⟩⟩
theorem wp_region_K {id : Nat} {a : Act} {w : World} (S : World → Prop) (k0 : Nat) (hm : P.follows .mixedOrders = true) (hS : S w.drew)
  (h : S w.drew → wpAnyK P .any ops Q S k0 ops.size (Array.replicate ops.size false) a w.drew) : (Code.region id ops true).wp P Q a w :=
 wp_region_any hm (wpAny_of_K _ _ _ _ (h hS))
end
end Go.Proofs.YtmlfcpglhipjgaaGreat

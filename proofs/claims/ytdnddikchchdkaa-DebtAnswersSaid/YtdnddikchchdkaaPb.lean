/-
  PLAIN: what package debt computes, and its laws. No program in sight.
-/
import Derived.Handy
namespace Go.Proofs.Ytdnddikchchdkaa.De

structure Dbt where
  num : Int
  dec : Int
  due : Int
  amt : Int
  left : Int

instance : Inhabited Dbt := ⟨⟨0, 0, 0, 0, 0⟩⟩

def before (x y : Dbt) : Prop := x.due < y.due ∨ (x.due = y.due ∧ x.num < y.num)
def Asc (L : List Dbt) : Prop := L.Pairwise fun x y => x.num < y.num
def IsLeast (L : List Dbt) (day : Int) (d : Dbt) : Prop := d ∈ L ∧ d.due ≤ day ∧ ∀ e ∈ L, e.due ≤ day → e.num ≠ d.num → before d e
def put (n x : Int) (d : Dbt) : Dbt := if d.num = n then { d with left := x } else d
def upd (L : List Dbt) (n x : Int) : List Dbt := L.map (put n x)
def nz (L : List Dbt) : List Dbt := L.filter fun d => decide (d.left ≠ 0)

inductive Off (day : Int) : List Dbt → Int → List Dbt → Int → Prop
  | done {L : List Dbt} {a : Int} (h : a = 0 ∨ ∀ e ∈ L, day < e.due) : Off day L a L a
  | step {L : List Dbt} {a : Int} {d : Dbt} {L' : List Dbt} {r : Int} (h : IsLeast L day d) (ha : 0 < a) (k : Off day (nz (upd L d.num (d.left - min a d.left))) (a - min a d.left) L' r) : Off day L a L' r

/-- Numbers ascend, something is left of each. -/
structure Fine (L : List Dbt) : Prop where
  asc : Asc L
  pos : ∀ d ∈ L, 1 ≤ d.left

theorem put_num (n x : Int) (d : Dbt) : (put n x d).num = d.num := by unfold put; split <;> rfl
theorem put_due (n x : Int) (d : Dbt) : (put n x d).due = d.due := by unfold put; split <;> rfl
theorem put_amt (n x : Int) (d : Dbt) : (put n x d).amt = d.amt := by unfold put; split <;> rfl
theorem put_dec (n x : Int) (d : Dbt) : (put n x d).dec = d.dec := by unfold put; split <;> rfl
theorem put_ne {n x : Int} {d : Dbt} (h : d.num ≠ n) : put n x d = d := by unfold put; rw [if_neg h]
theorem put_eq {n x : Int} {d : Dbt} (h : d.num = n) : put n x d = { d with left := x } := by unfold put; rw [if_pos h]

theorem Asc.inj {L : List Dbt} (h : Asc L) {x y : Dbt} (hx : x ∈ L) (hy : y ∈ L) (e : x.num = y.num) : x = y := by
  induction L with
  | nil => cases hx
  | cons a L ih =>
    have h' := List.pairwise_cons.1 h
    rcases List.mem_cons.1 hx with ex | hx2
    · rcases List.mem_cons.1 hy with ey | hy2
      · rw [ex, ey]
      · have := h'.1 y hy2; rw [← ex] at this; omega
    · rcases List.mem_cons.1 hy with ey | hy2
      · have := h'.1 x hx2; rw [← ey] at this; omega
      · exact ih h'.2 hx2 hy2

theorem Asc.upd {L : List Dbt} (h : Asc L) (n x : Int) : Asc (upd L n x) := by
  unfold De.upd Asc
  rw [List.pairwise_map]
  exact h.imp fun h => by rw [put_num, put_num]; exact h
theorem Asc.nz {L : List Dbt} (h : Asc L) : Asc (nz L) := h.filter _

theorem mem_nz {L : List Dbt} {d : Dbt} : d ∈ nz L ↔ d ∈ L ∧ d.left ≠ 0 := by unfold nz; rw [List.mem_filter]; simp

theorem Fine.nz_self {L : List Dbt} (h : Fine L) : nz L = L := by
  unfold nz
  rw [List.filter_eq_self]
  intro d hd
  have := h.pos d hd
  simp; omega

theorem mem_upd {L : List Dbt} {n x : Int} {e : Dbt} : e ∈ upd L n x ↔ ∃ d ∈ L, put n x d = e := by unfold upd; exact List.mem_map

theorem Fine.step {L : List Dbt} (h : Fine L) {n x : Int} (hx : 0 ≤ x) : Fine (nz (upd L n x)) := by
  refine ⟨(h.asc.upd n x).nz, fun e he => ?_⟩
  obtain ⟨h1, h2⟩ := mem_nz.1 he
  obtain ⟨d, hd, rfl⟩ := mem_upd.1 h1
  have := h.pos d hd
  unfold put at h2 ⊢
  split
  · rename_i hc; rw [if_pos hc] at h2; simp only at h2 ⊢; omega
  · exact this

theorem before_asymm {x y : Dbt} (h : before x y) (k : before y x) : False := by unfold before at h k; omega

theorem IsLeast.uniq {L : List Dbt} {day : Int} {d e : Dbt} (h : IsLeast L day d) (k : IsLeast L day e) (ha : Asc L) : d = e := by
  by_cases hn : e.num = d.num
  · exact ha.inj h.1 k.1 hn.symm
  · exact (before_asymm (h.2.2 e k.1 k.2.1 hn) (k.2.2 d h.1 h.2.1 (fun e => hn e.symm))).elim

theorem Off.uniq {day : Int} {L : List Dbt} {a : Int} {L1 L2 : List Dbt} {r1 r2 : Int} (h1 : Off day L a L1 r1) : Fine L → Off day L a L2 r2 → L1 = L2 ∧ r1 = r2 := by
  induction h1 with
  | done h =>
    intro _ h2
    cases h2 with
    | done => exact ⟨rfl, rfl⟩
    | step hd ha _ =>
      rcases h with h | h
      · omega
      · have := h _ hd.1; have := hd.2.1; omega
  | step hd ha _ ih =>
    intro hf h2
    cases h2 with
    | done h =>
      rcases h with h | h
      · omega
      · have := h _ hd.1; have := hd.2.1; omega
    | step he _ k =>
      obtain rfl := hd.uniq he hf.asc
      exact ih (hf.step (by omega)) k

def sum (L : List Dbt) : Int := match L with
  | [] => 0
  | d :: L => d.left + sum L
def total (L : List Dbt) : Int := match L with
  | [] => 0
  | d :: L => d.amt + total L

theorem sum_nz (L : List Dbt) : sum (nz L) = sum L := by
  induction L with
  | nil => rfl
  | cons d L ih =>
    unfold nz at ih ⊢
    rw [List.filter_cons]
    split
    · simp only [sum, ih]
    · rename_i h
      simp only [ne_eq, decide_not, Bool.not_eq_eq_eq_not, Bool.not_true, decide_eq_false_iff_not, Decidable.not_not] at h
      simp only [sum, ih, h]; omega

theorem upd_none {L : List Dbt} {n x : Int} (h : ∀ d ∈ L, d.num ≠ n) : upd L n x = L := by
  unfold upd
  conv => rhs; rw [← List.map_id L]
  exact List.map_congr_left fun d hd => put_ne (h d hd)

theorem sum_upd {L : List Dbt} (h : Asc L) {d : Dbt} (hd : d ∈ L) (x : Int) : sum (upd L d.num x) = sum L - d.left + x := by
  induction L with
  | nil => cases hd
  | cons a L ih =>
    have h' := List.pairwise_cons.1 h
    show (put d.num x a).left + sum (upd L d.num x) = a.left + sum L - d.left + x
    by_cases e : a.num = d.num
    · obtain rfl := h.inj (List.mem_cons_self) hd e
      rw [put_eq rfl, upd_none fun e he => by have := h'.1 e he; omega]
      simp only
      omega
    · rw [put_ne e]
      rcases List.mem_cons.1 hd with rfl | hd
      · exact absurd rfl e
      · rw [ih h'.2 hd]; omega

def key (d : Dbt) : Int × Int × Int × Int := (d.num, d.dec, d.due, d.amt)

/-- L' are debts of L, of which less may be left. -/
structure Under (L' L : List Dbt) : Prop where
  keys : (L'.map key).Sublist (L.map key)
  from_ : ∀ x ∈ L', ∃ y ∈ L, key x = key y ∧ x.left ≤ y.left

theorem Under.refl (L : List Dbt) : Under L L := ⟨List.Sublist.refl _, fun x hx => ⟨x, hx, rfl, Int.le_refl _⟩⟩
theorem Under.trans {A B C : List Dbt} (h : Under A B) (k : Under B C) : Under A C :=
  ⟨h.keys.trans k.keys, fun x hx => by
    obtain ⟨y, hy, e1, l1⟩ := h.from_ x hx
    obtain ⟨z, hz, e2, l2⟩ := k.from_ y hy
    exact ⟨z, hz, e1.trans e2, by omega⟩⟩

theorem put_key (n x : Int) (d : Dbt) : key (put n x d) = key d := by unfold put; split <;> rfl

theorem upd_keys (L : List Dbt) (n x : Int) : (upd L n x).map key = L.map key := by
  unfold upd; rw [List.map_map]; exact List.map_congr_left fun d _ => put_key n x d

theorem Under.step {L : List Dbt} {n x : Int} (hx : ∀ d ∈ L, d.num = n → x ≤ d.left) : Under (nz (upd L n x)) L := by
  refine ⟨?_, fun e he => ?_⟩
  · have : ((nz (upd L n x)).map key).Sublist ((upd L n x).map key) := (List.filter_sublist).map _
    rw [upd_keys] at this
    exact this
  · obtain ⟨d, hd, rfl⟩ := mem_upd.1 (mem_nz.1 he).1
    refine ⟨d, hd, put_key n x d, ?_⟩
    unfold put
    split
    · rename_i hc; exact hx d hd hc
    · exact Int.le_refl _

theorem total_sub {A B : List Dbt} (h : (A.map key).Sublist (B.map key)) (hp : ∀ d ∈ B, 0 ≤ d.amt) : total A ≤ total B := by
  have e : ∀ L : List Dbt, total L = (L.map key).foldr (fun k s => k.2.2.2 + s) 0 := fun L => by
    induction L with
    | nil => rfl
    | cons d L ih => simp only [total, List.map_cons, List.foldr_cons, ih]; rfl
  rw [e, e]
  have hp' : ∀ k ∈ B.map key, 0 ≤ k.2.2.2 := fun k hk => by
    obtain ⟨d, hd, rfl⟩ := List.mem_map.1 hk
    exact hp d hd
  generalize A.map key = X at h
  generalize B.map key = Y at h hp'
  induction h with
  | slnil => exact Int.le_refl _
  | cons a _ ih =>
    have := ih fun k hk => hp' k (List.mem_cons_of_mem _ hk)
    have := hp' a List.mem_cons_self
    simp only [List.foldr_cons]; omega
  | cons_cons a _ ih =>
    have := ih fun k hk => hp' k (List.mem_cons_of_mem _ hk)
    simp only [List.foldr_cons]; omega

/-- The theorem of the layer. -/
theorem Off.keeps {day : Int} {L : List Dbt} {a : Int} {L' : List Dbt} {r : Int} (h : Off day L a L' r) : Fine L → 0 ≤ a → 0 ≤ r ∧ r ≤ a ∧ sum L - sum L' = a - r ∧ (0 < r → ∀ x ∈ L', day < x.due) ∧ Fine L' ∧ Under L' L := by
  induction h with
  | done h => exact fun hf h0 => ⟨h0, Int.le_refl _, by omega, fun hr => by rcases h with h | h; (· omega); exact h, hf, Under.refl _⟩
  | @step L a d L' r hd ha _ ih =>
    intro hf h0
    have hp := hf.pos d hd.1
    obtain ⟨i1, i2, i3, i4, i5, i6⟩ := ih (hf.step (by omega)) (by omega)
    rw [sum_nz, sum_upd hf.asc hd.1] at i3
    refine ⟨i1, by omega, by omega, i4, i5, i6.trans (Under.step fun e he hn => ?_)⟩
    obtain rfl := hf.asc.inj he hd.1 hn
    omega

theorem Off.zero {day : Int} {L L' : List Dbt} {r : Int} (h : Off day L 0 L' r) : L' = L ∧ r = 0 := by
  cases h with
  | done => exact ⟨rfl, rfl⟩
  | step _ ha => omega

theorem nz_upd_nz {L : List Dbt} {n x : Int} (h : ∀ d ∈ L, d.num = n → d.left ≠ 0) : nz (upd (nz L) n x) = nz (upd L n x) := by
  induction L with
  | nil => rfl
  | cons a L ih =>
    have ih' := ih fun d hd => h d (List.mem_cons_of_mem _ hd)
    unfold nz upd at ih' ⊢
    by_cases e : a.left ≠ 0
    · rw [List.filter_cons, if_pos (by simpa using e)]
      rw [List.map_cons, List.map_cons, List.filter_cons, List.filter_cons, ih']
    · rw [List.filter_cons, if_neg (by simpa using e), ih', List.map_cons, List.filter_cons]
      rw [put_ne (fun hn => e (h a List.mem_cons_self hn)), if_neg (by simpa using e)]

theorem upd_upd (L : List Dbt) (n x y : Int) : upd (upd L n x) n y = upd L n y := by
  unfold upd
  rw [List.map_map]
  refine List.map_congr_left fun d _ => ?_
  show put n y (put n x d) = put n y d
  by_cases h : d.num = n
  · rw [put_eq h, put_eq (show ({ d with left := x } : Dbt).num = n from h), put_eq h]
  · rw [put_ne h]

/-- What is left of debt d in the list in which x is left of it. -/
theorem mem_step {L : List Dbt} {d : Dbt} {x : Int} (hd : d ∈ L) (hx : x ≠ 0) : ({ d with left := x } : Dbt) ∈ nz (upd L d.num x) :=
  mem_nz.2 ⟨mem_upd.2 ⟨d, hd, put_eq rfl⟩, hx⟩

theorem mem_other {L : List Dbt} {e : Dbt} {n x : Int} (he : e ∈ L) (hn : e.num ≠ n) (h0 : e.left ≠ 0) : e ∈ nz (upd L n x) :=
  mem_nz.2 ⟨mem_upd.2 ⟨e, he, put_ne hn⟩, h0⟩

theorem IsLeast.again {L : List Dbt} {day : Int} {d : Dbt} {x : Int} (h : IsLeast L day d) (hx : x ≠ 0) : IsLeast (nz (upd L d.num x)) day { d with left := x } := by
  refine ⟨mem_step h.1 hx, h.2.1, fun e he h1 h2 => ?_⟩
  obtain ⟨y, hy, rfl⟩ := mem_upd.1 (mem_nz.1 he).1
  rw [put_num] at h2
  rw [put_due] at h1
  have := h.2.2 y hy h1 h2
  unfold before at this ⊢
  rw [put_due, put_num]
  exact this

/-- Two amounts on one day are the same as their sum. -/
theorem Off.parts {day : Int} {L : List Dbt} {n : Int} {L1 : List Dbt} {p : Int} (h : Off day L n L1 p) : Fine L → 0 ≤ n → ∀ {m : Int} {L2 : List Dbt} {q : Int}, 0 ≤ m → Off day L1 m L2 q → Off day L (n + m) L2 (p + q) := by
  induction h with
  | @done L n h =>
    intro hf hn m L2 q hm h2
    rcases h with h | h
    · subst h; rw [Int.zero_add, Int.zero_add]; exact h2
    · cases h2 with
      | done => exact .done (.inr h)
      | step hd _ _ => have := h _ hd.1; have := hd.2.1; omega
  | @step L n d L1 p hd hn k ih =>
    intro hf h0 m L2 q hm h2
    have hp := hf.pos d hd.1
    have IH := ih (hf.step (by omega)) (by omega) hm h2
    by_cases hc : d.left ≤ n
    · refine .step hd (by omega) ?_
      have e1 : min n d.left = d.left := by omega
      have e2 : min (n + m) d.left = d.left := by omega
      rw [e1] at IH
      rw [e2, show n + m - d.left = n - d.left + m by omega]
      exact IH
    · have e1 : min n d.left = n := by omega
      rw [e1] at k
      rw [Int.sub_self] at k
      obtain ⟨rfl, rfl⟩ := k.zero
      rw [Int.zero_add]
      by_cases hm0 : m = 0
      · subst hm0
        obtain ⟨rfl, rfl⟩ := h2.zero
        refine .step hd (by omega) ?_
        rw [Int.add_zero, e1, Int.sub_self]
        exact .done (.inl rfl)
      · have hl := hd.again (x := d.left - n) (by omega)
        cases h2 with
        | done h =>
          rcases h with h | h
          · omega
          · have := h _ hl.1; have := hl.2.1; simp only at *; omega
        | @step _ _ d' _ _ hd' _ k2 =>
          obtain rfl := hl.uniq hd' (hf.step (by omega)).asc
          refine .step hd (by omega) ?_
          simp only at k2
          rw [nz_upd_nz (fun e he hn2 => by
            obtain ⟨y, hy, rfl⟩ := mem_upd.1 he
            rw [put_num] at hn2
            rw [put_eq hn2]
            show d.left - n ≠ 0
            omega), upd_upd] at k2
          have e2 : d.left - n - min m (d.left - n) = d.left - min (n + m) d.left := by omega
          have e3 : m - min m (d.left - n) = n + m - min (n + m) d.left := by omega
          rw [e2, e3] at k2
          exact k2

/-- How much of a debt is left; 0 if it is not there. -/
def fnd (L : List Dbt) (n : Int) : Int := match L with
  | [] => 0
  | d :: L => if d.num = n then d.left else fnd L n

theorem fnd_mem {L : List Dbt} (h : Asc L) {d : Dbt} (hd : d ∈ L) : fnd L d.num = d.left := by
  induction L with
  | nil => cases hd
  | cons a L ih =>
    unfold fnd
    by_cases e : a.num = d.num
    · rw [if_pos e, h.inj List.mem_cons_self hd e]
    · rw [if_neg e]
      rcases List.mem_cons.1 hd with rfl | hd
      · exact absurd rfl e
      · exact ih (List.pairwise_cons.1 h).2 hd

theorem fnd_none {L : List Dbt} {n : Int} (h : ∀ d ∈ L, d.num ≠ n) : fnd L n = 0 := by
  induction L with
  | nil => rfl
  | cons a L ih =>
    unfold fnd
    rw [if_neg (h a List.mem_cons_self)]
    exact ih fun d hd => h d (List.mem_cons_of_mem _ hd)

theorem Under.num {A B : List Dbt} (h : Under A B) {n : Int} (hn : ∀ d ∈ B, d.num ≠ n) : ∀ d ∈ A, d.num ≠ n := fun d hd e => by
  obtain ⟨y, hy, hk, _⟩ := h.from_ d hd
  have : d.num = y.num := congrArg Prod.fst hk
  exact hn y hy (by omega)

theorem Off.first {day : Int} {L : List Dbt} {a : Int} {L' : List Dbt} {r : Int} (h : Off day L a L' r) : Fine L → 0 ≤ a → ∀ x ∈ L, fnd L' x.num < x.left → x.due ≤ day ∧ ∀ y ∈ L, before y x → fnd L' y.num = 0 := by
  induction h with
  | done h => exact fun hf _ x hx hlt => by rw [fnd_mem hf.asc hx] at hlt; omega
  | @step L a d L' r hd ha k ih =>
    intro hf h0 x hx hlt
    have hp := hf.pos d hd.1
    have hfn := hf.step (n := d.num) (x := d.left - min a d.left) (by omega)
    by_cases e : x.num = d.num
    · obtain rfl := hf.asc.inj hx hd.1 e
      refine ⟨hd.2.1, fun y hy hb => ?_⟩
      have hdue : y.due ≤ day := by have := hd.2.1; unfold before at hb; omega
      have hne : y.num ≠ x.num := fun e => by
        obtain rfl := hf.asc.inj hy hd.1 e
        exact before_asymm hb hb
      exact (before_asymm hb (hd.2.2 y hy hdue hne)).elim
    · have hx0 := hf.pos x hx
      obtain ⟨i1, i2⟩ := ih hfn (by omega) x (mem_other hx e (by omega)) hlt
      refine ⟨i1, fun y hy hb => ?_⟩
      by_cases ey : y.num = d.num
      · obtain rfl := hf.asc.inj hy hd.1 ey
        by_cases hc : y.left ≤ a
        · refine fnd_none ((k.keeps hfn (by omega)).2.2.2.2.2.num fun z hz hn => ?_)
          obtain ⟨w, hw, rfl⟩ := mem_upd.1 (mem_nz.1 hz).1
          have h2 := (mem_nz.1 hz).2
          rw [put_num] at hn
          rw [put_eq hn] at h2
          simp only at h2
          omega
        · have e1 : min a y.left = a := by omega
          rw [e1, Int.sub_self] at k
          obtain ⟨rfl, rfl⟩ := k.zero
          rw [e1] at hfn
          rw [fnd_mem hfn.asc (mem_other hx e (by omega))] at hlt
          omega
      · exact i2 y (mem_other hy ey (by have := hf.pos y hy; omega)) hb

/-! ### the debts in a list, by place -/
def g (L : List Dbt) (i : Nat) : Dbt := L.getD i default

theorem g_mem {L : List Dbt} {i : Nat} (h : i < L.length) : g L i ∈ L := by
  unfold g; rw [List.getD_eq_getElem?_getD, List.getElem?_eq_getElem h]; exact List.getElem_mem h
theorem g_eq {L : List Dbt} {i : Nat} (h : i < L.length) : g L i = L[i] := by
  unfold g; rw [List.getD_eq_getElem?_getD, List.getElem?_eq_getElem h]; rfl
theorem mem_g {L : List Dbt} {d : Dbt} (h : d ∈ L) : ∃ i, i < L.length ∧ g L i = d := by
  obtain ⟨i, hi, rfl⟩ := List.getElem_of_mem h
  exact ⟨i, hi, g_eq hi⟩
theorem g_set {L : List Dbt} {i j : Nat} (hi : i < L.length) (d : Dbt) : g (L.set i d) j = if i = j then d else g L j := by
  unfold g
  rw [List.getD_eq_getElem?_getD, List.getElem?_set, List.getD_eq_getElem?_getD]
  by_cases e : i = j
  · rw [if_pos e, if_pos e, if_pos (e ▸ hi)]; rfl
  · rw [if_neg e, if_neg e]

theorem Asc.lt {L : List Dbt} (h : Asc L) {i j : Nat} (hij : i < j) (hj : j < L.length) : (g L i).num < (g L j).num := by
  have := List.pairwise_iff_getElem.1 h i j (by omega) hj hij
  rw [g_eq (by omega), g_eq hj]
  exact this

theorem Asc.of_lt {L : List Dbt} (h : ∀ i j, i < j → j < L.length → (g L i).num < (g L j).num) : Asc L :=
  List.pairwise_iff_getElem.2 fun i j hi hj hij => by rw [← g_eq hi, ← g_eq hj]; exact h i j hij hj

theorem Asc.place {L : List Dbt} (h : Asc L) {i j : Nat} (hi : i < L.length) (hj : j < L.length) (e : (g L i).num = (g L j).num) : i = j := by
  rcases Nat.lt_trichotomy i j with hlt | rfl | hlt
  · have := h.lt hlt hj; omega
  · rfl
  · have := h.lt hlt hi; omega

theorem set_upd {L : List Dbt} (h : Asc L) {i : Nat} (hi : i < L.length) (x : Int) : L.set i { g L i with left := x } = upd L (g L i).num x := by
  apply List.ext_getElem
  · unfold upd; simp
  · intro j h1 h2
    have hj : j < L.length := by simpa using h1
    have e2 : (upd L (g L i).num x)[j] = put (g L i).num x (g L j) := by rw [g_eq hj]; simp [upd]
    rw [List.getElem_set, e2]
    by_cases e : i = j
    · subst e; rw [if_pos rfl, put_eq rfl]
    · rw [if_neg e, put_ne (fun hn => e (h.place hi hj hn.symm)), g_eq hj]

structure Ord (L0 : List Dbt) (day : Int) (σ : List Nat) : Prop where
  mem : ∀ i, i ∈ σ ↔ i < L0.length ∧ (g L0 i).due ≤ day
  sorted : σ.Pairwise fun i j => before (g L0 i) (g L0 j)

structure Inv (L0 : List Dbt) (day a0 : Int) (σ : List Nat) (M : List Dbt) (amt : Int) (m : Nat) : Prop where
  len : M.length = L0.length
  keys : ∀ i, i < L0.length → key (g M i) = key (g L0 i)
  same : ∀ i, i ∉ σ.take m → g M i = g L0 i
  pos : ∀ i, i < L0.length → 0 ≤ (g M i).left
  amt0 : 0 ≤ amt
  paid : amt = 0 ∨ ∀ i ∈ σ.take m, (g M i).left = 0
  off : ∀ L' r, Off day (nz M) amt L' r → Off day L0 a0 L' r

theorem key_num {x y : Dbt} (h : key x = key y) : x.num = y.num := congrArg Prod.fst h
theorem key_due {x y : Dbt} (h : key x = key y) : x.due = y.due := congrArg (fun k => k.2.2.1) h

theorem Inv.asc {L0 : List Dbt} {day a0 : Int} {σ : List Nat} {M : List Dbt} {amt : Int} {m : Nat} (h : Inv L0 day a0 σ M amt m) (ha : Asc L0) : Asc M :=
  Asc.of_lt fun i j hij hj => by
    rw [h.len] at hj
    rw [key_num (h.keys i (by omega)), key_num (h.keys j hj)]
    exact ha.lt hij hj

theorem Inv.start {L0 : List Dbt} (hf : Fine L0) (day a0 : Int) (σ : List Nat) (h0 : 0 ≤ a0) : Inv L0 day a0 σ L0 a0 0 :=
  ⟨rfl, fun _ _ => rfl, fun _ _ => rfl, fun i hi => by have := hf.pos _ (g_mem hi); omega, h0, .inr fun i hi => by simp at hi, fun L' r h => by rw [hf.nz_self] at h; exact h⟩

theorem Inv.step {L0 : List Dbt} {day a0 : Int} {σ : List Nat} {M : List Dbt} {amt : Int} {m : Nat} (h : Inv L0 day a0 σ M amt m) (hf : Fine L0) (ho : Ord L0 day σ) (hm : m < σ.length) :
    σ[m] < L0.length ∧ g M σ[m] = g L0 σ[m] ∧ Inv L0 day a0 σ (M.set σ[m] { g M σ[m] with left := (g M σ[m]).left - min amt (g M σ[m]).left }) (amt - min amt (g M σ[m]).left) (m + 1) := by
  obtain ⟨i, hi⟩ : ∃ i, σ[m] = i := ⟨_, rfl⟩
  rw [hi]
  have hiσ : i ∈ σ := hi ▸ List.getElem_mem hm
  obtain ⟨hiL, hdue⟩ := (ho.mem i).1 hiσ
  have hnd : σ.Pairwise (· ≠ ·) := ho.sorted.imp fun {x y} hb e => by subst e; exact before_asymm hb hb
  have hnot : i ∉ σ.take m := fun hmem => by
    obtain ⟨k, hk, e⟩ := List.getElem_of_mem hmem
    rw [List.length_take] at hk
    rw [List.getElem_take] at e
    exact List.pairwise_iff_getElem.1 hnd k m (by omega) hm (by omega) (e.trans hi.symm)
  have hsame := h.same i hnot
  have hiM : i < M.length := by rw [h.len]; exact hiL
  have hl := hf.pos _ (g_mem hiL)
  have htk : ∀ j, j ∈ σ.take (m + 1) ↔ j ∈ σ.take m ∨ j = i := fun j => by
    rw [List.take_succ_eq_append_getElem hm, List.mem_append, List.mem_singleton, hi]
  have hasc := h.asc hf.asc
  refine ⟨hiL, hsame, ?_⟩
  rw [← hsame] at hl
  generalize hd : g M i = d at *
  have hx0 : 0 ≤ d.left - min amt d.left := by omega
  refine ⟨by rw [List.length_set]; exact h.len, fun j hj => ?_, fun j hj => ?_, fun j hj => ?_, by have := h.amt0; omega, ?_, fun L' r hoff => ?_⟩
  · rw [g_set hiM]
    split
    · rename_i e; subst e
      have := h.keys i hj
      rw [hd] at this
      exact this
    · exact h.keys j hj
  · rw [htk] at hj
    rw [g_set hiM, if_neg (fun e => hj (.inr e.symm))]
    exact h.same j (fun hh => hj (.inl hh))
  · rw [g_set hiM]
    split
    · exact hx0
    · exact h.pos j hj
  · rcases h.paid with h0 | hp
    · left; omega
    · by_cases hc : amt ≤ d.left
      · left; omega
      · right
        intro j hj
        rw [htk] at hj
        rw [g_set hiM]
        split
        · show d.left - min amt d.left = 0; omega
        · rename_i e
          rcases hj with hj | hj
          · exact hp j hj
          · exact absurd hj.symm e
  · apply h.off
    have hset : M.set i { d with left := d.left - min amt d.left } = upd M d.num (d.left - min amt d.left) := by rw [← hd]; exact set_upd hasc hiM _
    rw [hset] at hoff
    have hleft : ∀ e ∈ M, e.num = d.num → e.left ≠ 0 := fun e he hn => by
      obtain rfl := hasc.inj he (hd ▸ g_mem hiM) hn
      omega
    by_cases h0 : amt = 0
    · subst h0
      have e0 : min 0 d.left = 0 := by omega
      rw [e0, Int.sub_zero, Int.sub_zero] at hoff
      have : upd M d.num d.left = M := by
        have := set_upd hasc hiM d.left
        rw [hd] at this
        rw [← this]
        show M.set i d = M
        rw [← hd, g_eq hiM]
        exact List.set_getElem_self hiM
      rw [this] at hoff
      exact hoff
    · have ha : 0 < amt := by have := h.amt0; omega
      refine .step (d := d) ⟨mem_nz.2 ⟨hd ▸ g_mem hiM, by omega⟩, by rw [hsame]; exact hdue, fun e he h1 h2 => ?_⟩ ha ?_
      · obtain ⟨he1, he2⟩ := mem_nz.1 he
        obtain ⟨j, hj, rfl⟩ := mem_g he1
        rw [h.len] at hj
        have hk := h.keys j hj
        have hjσ : j ∈ σ := (ho.mem j).2 ⟨hj, by rw [← key_due hk]; exact h1⟩
        have hjn : j ∉ σ.take m := fun hh => by
          rcases h.paid with h0' | hp
          · exact h0 h0'
          · exact he2 (hp j hh)
        obtain ⟨k, hk2, ek⟩ := List.getElem_of_mem hjσ
        have hmk : m < k := by
          rcases Nat.lt_trichotomy k m with hlt | heq | hlt
          · exact absurd (by
              rw [← ek]
              exact List.mem_take_iff_getElem.2 ⟨k, by omega, rfl⟩) hjn
          · exfalso
            subst heq
            have : i = j := hi.symm.trans ek
            rw [← this, hd] at h2
            exact h2 rfl
          · exact hlt
        have hb := List.pairwise_iff_getElem.1 ho.sorted m k hm hk2 hmk
        rw [hi, ek] at hb
        rw [h.same j hjn, hsame]
        exact hb
      · rw [nz_upd_nz hleft]
        exact hoff

theorem Inv.fin {L0 : List Dbt} {day a0 : Int} {σ : List Nat} {M : List Dbt} {amt : Int} (h : Inv L0 day a0 σ M amt σ.length) (ho : Ord L0 day σ) : Off day L0 a0 (nz M) amt := by
  apply h.off
  refine .done ?_
  rcases h.paid with h0 | hp
  · exact .inl h0
  · refine .inr fun e he => ?_
    obtain ⟨he1, he2⟩ := mem_nz.1 he
    obtain ⟨j, hj, rfl⟩ := mem_g he1
    rw [h.len] at hj
    rw [List.take_length] at hp
    by_cases hc : (g L0 j).due ≤ day
    · exact absurd (hp j ((ho.mem j).2 ⟨hj, hc⟩)) he2
    · rw [key_due (h.keys j hj)]; omega

/-! ### which accounts are right -/
def good (d : Dbt) : Prop := (1 ≤ d.dec ∧ d.dec ≤ 1125899906842624) ∧ (0 ≤ d.due ∧ d.due ≤ 36864) ∧ (1 ≤ d.amt ∧ d.amt ≤ 68719476736) ∧ 1 ≤ d.left ∧ d.left ≤ d.amt

structure Right (farm : Int) (L : List Dbt) (next : Int) : Prop where
  fm : 1 ≤ farm ∧ farm ≤ 60
  len : L.length ≤ 40
  nx : 1 ≤ next ∧ next ≤ 1125899906842624
  asc : Asc L
  each : ∀ d ∈ L, 1 ≤ d.num ∧ d.num < next ∧ good d
  tot : total L ≤ 68719476736

open Classical in
noncomputable def chk (farm : Int) (L : List Dbt) (next : Int) : Int := if Right farm L next then 0 else 22

theorem chk_ok {farm : Int} {L : List Dbt} {next : Int} (h : Right farm L next) : chk farm L next = 0 := by unfold chk; rw [if_pos h]
theorem chk_bad {farm : Int} {L : List Dbt} {next : Int} (h : ¬ Right farm L next) : chk farm L next = 22 := by unfold chk; rw [if_neg h]

theorem Right.fine {farm : Int} {L : List Dbt} {next : Int} (h : Right farm L next) : Fine L := ⟨h.asc, fun d hd => (h.each d hd).2.2.2.2.2.1⟩

/-- The number ahead of place k. -/
def prv (L : List Dbt) (k : Nat) : Int := if k = 0 then 0 else (g L (k - 1)).num
def okAt (L : List Dbt) (next : Int) (k : Nat) : Prop := prv L k < (g L k).num ∧ (g L k).num < next ∧ good (g L k)

theorem asc_of_ok {L : List Dbt} {next : Int} (h : ∀ i, i < L.length → okAt L next i) : Asc L ∧ ∀ d ∈ L, 1 ≤ d.num ∧ d.num < next ∧ good d := by
  have hs : ∀ i, i + 1 < L.length → (g L i).num < (g L (i + 1)).num := fun i hi => by
    have := (h (i + 1) hi).1
    unfold prv at this
    rw [if_neg (by omega)] at this
    exact this
  have hm : ∀ i n, i + n + 1 < L.length → (g L i).num < (g L (i + n + 1)).num := fun i n => by
    induction n with
    | zero => exact hs i
    | succ n ih => intro hl; have := ih (by omega); have := hs (i + n + 1) (by omega); show _ < (g L (i + n + 1 + 1)).num; omega
  have ha : Asc L := Asc.of_lt fun i j hij hj => by
    obtain ⟨n, rfl⟩ : ∃ n, j = i + n + 1 := ⟨j - i - 1, by omega⟩
    exact hm i n hj
  refine ⟨ha, fun d hd => ?_⟩
  obtain ⟨i, hi, rfl⟩ := mem_g hd
  refine ⟨?_, (h i hi).2⟩
  have h0 := (h 0 (by omega)).1
  unfold prv at h0
  rw [if_pos rfl] at h0
  by_cases e : i = 0
  · subst e; omega
  · have := ha.lt (show 0 < i by omega) hi; omega

theorem Right.ok {farm : Int} {L : List Dbt} {next : Int} (h : Right farm L next) : ∀ i, i < L.length → okAt L next i := fun i hi => by
  obtain ⟨h1, h2⟩ := h.each _ (g_mem hi)
  refine ⟨?_, h2⟩
  unfold prv
  split
  · omega
  · exact h.asc.lt (by omega) hi

theorem Right.under {farm : Int} {L L' : List Dbt} {next : Int} (h : Right farm L next) (hu : Under L' L) (hf : Fine L') : Right farm L' next := by
  refine ⟨h.fm, ?_, h.nx, hf.asc, fun d hd => ?_, ?_⟩
  · have := hu.keys.length_le
    simp only [List.length_map] at this
    have := h.len
    omega
  · obtain ⟨y, hy, hk, hl⟩ := hu.from_ d hd
    obtain ⟨h1, h2, h3⟩ := h.each y hy
    have h4 := hf.pos d hd
    have e1 : d.num = y.num := congrArg Prod.fst hk
    have e2 : d.dec = y.dec := congrArg (fun k => k.2.1) hk
    have e3 : d.due = y.due := congrArg (fun k => k.2.2.1) hk
    have e4 : d.amt = y.amt := congrArg (fun k => k.2.2.2) hk
    unfold good at h3 ⊢
    omega
  · have := total_sub hu.keys fun d hd => by have := (h.each d hd).2.2; unfold good at this; omega
    have := h.tot
    omega

theorem total_append (A B : List Dbt) : De.total (A ++ B) = De.total A + De.total B := by
  induction A with
  | nil => simp [De.total]
  | cons a A ih => simp only [List.cons_append, De.total, ih]; omega
theorem sum_append (A B : List Dbt) : sum (A ++ B) = sum A + sum B := by
  induction A with
  | nil => simp [sum]
  | cons a A ih => simp only [List.cons_append, sum, ih]; omega

theorem total_nonneg {L : List Dbt} (h : ∀ d ∈ L, 0 ≤ d.amt) : 0 ≤ De.total L := by
  induction L with
  | nil => exact Int.le_refl _
  | cons a L ih => have := h a List.mem_cons_self; have := ih fun d hd => h d (List.mem_cons_of_mem _ hd); simp only [De.total]; omega
theorem sum_bd {L : List Dbt} (h : ∀ d ∈ L, 1 ≤ d.left ∧ d.left ≤ d.amt) : 0 ≤ sum L ∧ sum L ≤ De.total L := by
  induction L with
  | nil => exact ⟨Int.le_refl _, Int.le_refl _⟩
  | cons a L ih => have := h a List.mem_cons_self; have := ih fun d hd => h d (List.mem_cons_of_mem _ hd); simp only [De.total, sum]; omega

/-- A debt more. -/
theorem Right.charge {farm : Int} {L : List Dbt} {next of due amount : Int} (h : Right farm L next) (h1 : 1 ≤ of ∧ of ≤ 1125899906842624) (h2 : 0 ≤ due ∧ due ≤ 36864) (h3 : 1 ≤ amount ∧ De.total L + amount ≤ 68719476736) (h4 : L.length ≠ 40) (h5 : next ≠ 1125899906842624) :
    Right farm (L ++ [⟨next, of, due, amount, amount⟩]) (next + 1) := by
  have h0 := total_nonneg fun d hd => by have := (h.each d hd).2.2; unfold good at this; omega
  have hl := h.len
  have hn := h.nx
  refine ⟨h.fm, by rw [List.length_append]; simp; omega, by omega, ?_, fun d hd => ?_, ?_⟩
  · unfold Asc
    rw [List.pairwise_append]
    refine ⟨h.asc, by simp, fun x hx y hy => ?_⟩
    obtain rfl := List.mem_singleton.1 hy
    exact (h.each x hx).2.1
  · rcases List.mem_append.1 hd with hd | hd
    · have := h.each d hd; exact ⟨this.1, by omega, this.2.2⟩
    · obtain rfl := List.mem_singleton.1 hd
      unfold good
      simp only
      omega
  · rw [total_append]; simp only [De.total]; omega

end Go.Proofs.Ytdnddikchchdkaa.De

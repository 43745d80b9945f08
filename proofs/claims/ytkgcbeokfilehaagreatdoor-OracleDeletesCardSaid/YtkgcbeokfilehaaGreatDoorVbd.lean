/-
  Texts and labels as lists: their order, which may be, their order by name, their bytes.
-/
import Derived.Sort.Walk0
import Derived.Test.YtkgcbeokfilehaaGreatDoorRgnd
namespace Go.Proofs.YtkgcbeokfilehaaGreatDoor
abbrev Str := List UInt8
abbrev Lb := Str × Str
abbrev Lbs := List Lb
theorem str_irrefl (a : Str) : ¬ a < a := List.lt_irrefl a
theorem str_trans {a b c : Str} (h1 : a < b) (h2 : b < c) : a < c := List.lt_trans h1 h2
theorem str_tri {a b : Str} (h1 : ¬ a < b) (h2 : ¬ b < a) : a = b := List.le_antisymm (List.not_lt.1 h2) (List.not_lt.1 h1)
theorem str_asymm {a b : Str} (h1 : a < b) : ¬ b < a := fun h2 => str_irrefl a (str_trans h1 h2)
/-- -1, 0 or 1. -/
def cmpT (a b : Str) : Int := if a < b then -1 else if b < a then 1 else 0
theorem cmpT_self (a : Str) : cmpT a a = 0 := by unfold cmpT; rw [if_neg (str_irrefl a), if_neg (str_irrefl a)]
theorem cmpT_eq {a b : Str} : cmpT a b = 0 ↔ a = b := by
  constructor
  · intro h
    unfold cmpT at h
    by_cases h1 : a < b
    · rw [if_pos h1] at h; omega
    · rw [if_neg h1] at h
      by_cases h2 : b < a
      · rw [if_pos h2] at h; omega
      · exact str_tri h1 h2
  · rintro rfl; exact cmpT_self a
theorem cmpT_lt {a b : Str} : cmpT a b < 0 ↔ a < b := by
  unfold cmpT
  by_cases h1 : a < b
  · simp [h1]
  · by_cases h2 : b < a <;> simp [h1, h2]
theorem cmpT_swap (a b : Str) : cmpT b a = - cmpT a b := by
  unfold cmpT
  by_cases h1 : a < b
  · rw [if_neg (str_asymm h1), if_pos h1, if_pos h1]; rfl
  · rw [if_neg h1, if_neg h1]
    by_cases h2 : b < a
    · rw [if_pos h2, if_pos h2]
    · rw [if_neg h2, if_neg h2]; rfl
/-- By name, then by what it is. -/
def cmpLb (x y : Lb) : Int := if cmpT x.1 y.1 ≠ 0 then cmpT x.1 y.1 else cmpT x.2 y.2
theorem cmpLb_eq {x y : Lb} : cmpLb x y = 0 ↔ x = y := by
  unfold cmpLb
  by_cases h : cmpT x.1 y.1 = 0
  · rw [if_neg (by simpa using h), cmpT_eq]
    constructor
    · intro h2; exact Prod.ext (cmpT_eq.1 h) h2
    · rintro rfl; rfl
  · rw [if_pos h]
    constructor
    · intro h2; exact absurd h2 h
    · rintro rfl; exact absurd (cmpT_self _) h
theorem cmpLb_swap (x y : Lb) : cmpLb y x = - cmpLb x y := by
  unfold cmpLb
  rw [cmpT_swap x.1 y.1, cmpT_swap x.2 y.2]
  by_cases h : cmpT x.1 y.1 = 0
  · rw [if_neg (by omega), if_neg (by omega)]
  · rw [if_pos (by omega), if_pos h]
theorem cmpLb_trans {x y z : Lb} (h1 : cmpLb x y < 0) (h2 : cmpLb y z < 0) : cmpLb x z < 0 := by
  unfold cmpLb at *
  by_cases e1 : cmpT x.1 y.1 = 0
  · rw [if_neg (by omega)] at h1
    rw [cmpT_eq.1 e1]
    by_cases e2 : cmpT y.1 z.1 = 0
    · rw [if_neg (by omega)] at h2
      rw [if_neg (by omega)]
      exact cmpT_lt.2 (str_trans (cmpT_lt.1 h1) (cmpT_lt.1 h2))
    · rw [if_pos e2] at h2 ⊢
      exact h2
  · rw [if_pos e1] at h1
    by_cases e2 : cmpT y.1 z.1 = 0
    · rw [← cmpT_eq.1 e2, if_pos e1]; exact h1
    · rw [if_pos e2] at h2
      have h3 := cmpT_lt.2 (str_trans (cmpT_lt.1 h1) (cmpT_lt.1 h2))
      rw [if_pos (by omega)]; exact h3
/-- Two rows of labels: by the first that aren't the same; else the shorter one first. -/
def cmpRow : Lbs → Lbs → Int
  | [], [] => 0
  | [], _ :: _ => -1
  | _ :: _, [] => 1
  | x :: a, y :: b => if cmpLb x y ≠ 0 then cmpLb x y else cmpRow a b
theorem cmpRow_eq : ∀ {a b : Lbs}, cmpRow a b = 0 ↔ a = b
  | [], [] => by simp [cmpRow]
  | [], _ :: _ => by simp [cmpRow]
  | _ :: _, [] => by simp [cmpRow]
  | x :: a, y :: b => by
    unfold cmpRow
    by_cases h : cmpLb x y = 0
    · rw [if_neg (by omega), cmpRow_eq (a := a) (b := b), cmpLb_eq.1 h]
      simp
    · rw [if_pos h]
      constructor
      · intro h2; exact absurd h2 h
      · intro e; injection e with e1 e2; exact absurd (cmpLb_eq.2 e1) h
theorem cmpRow_self (a : Lbs) : cmpRow a a = 0 := cmpRow_eq.2 rfl
theorem cmpRow_swap : ∀ (a b : Lbs), cmpRow b a = - cmpRow a b
  | [], [] => rfl
  | [], _ :: _ => rfl
  | _ :: _, [] => rfl
  | x :: a, y :: b => by
    unfold cmpRow
    rw [cmpLb_swap x y, cmpRow_swap a b]
    by_cases h : cmpLb x y = 0
    · rw [if_neg (by omega), if_neg (by omega)]
    · rw [if_pos (by omega), if_pos h]
theorem cmpRow_trans : ∀ {a b c : Lbs}, cmpRow a b < 0 → cmpRow b c < 0 → cmpRow a c < 0
  | [], [], _, h1, _ => by simp [cmpRow] at h1
  | [], _ :: _, [], _, h2 => by simp [cmpRow] at h2
  | [], _ :: _, _ :: _, _, _ => by simp [cmpRow]
  | _ :: _, [], _, h1, _ => by simp [cmpRow] at h1
  | _ :: _, _ :: _, [], _, h2 => by simp [cmpRow] at h2
  | x :: a, y :: b, z :: c, h1, h2 => by
    unfold cmpRow at *
    by_cases e1 : cmpLb x y = 0
    · rw [if_neg (by omega)] at h1
      rw [cmpLb_eq.1 e1]
      by_cases e2 : cmpLb y z = 0
      · rw [if_neg (by omega)] at h2 ⊢
        exact cmpRow_trans h1 h2
      · rw [if_pos e2] at h2 ⊢; exact h2
    · rw [if_pos e1] at h1
      by_cases e2 : cmpLb y z = 0
      · rw [← cmpLb_eq.1 e2, if_pos e1]; exact h1
      · rw [if_pos e2] at h2
        have h3 := cmpLb_trans h1 h2
        rw [if_pos (by omega)]; exact h3
/-- May a byte of a name be? -/
def nameB (c : UInt8) : Bool := c == 95 || (decide (97 ≤ c) && decide (c ≤ 122)) || (decide (48 ≤ c) && decide (c ≤ 57))
def nameOk (s : Str) : Bool := decide (1 ≤ s.length) && decide (s.length ≤ 12) && s.all nameB
def valueOk (s : Str) : Bool := decide (1 ≤ s.length) && decide (s.length ≤ 16)
/-- Have all labels other names? -/
def namesApart : Lbs → Bool
  | [] => true
  | x :: l => l.all (fun y => decide (x.1 ≠ y.1)) && namesApart l
/-- May labels be? -/
def mayL (l : Lbs) : Bool := decide (1 ≤ l.length) && decide (l.length ≤ 6) && l.all (fun x => nameOk x.1 && valueOk x.2) && namesApart l
theorem namesApart_iff : ∀ {l : Lbs}, namesApart l = true ↔ l.Pairwise (fun x y => x.1 ≠ y.1)
  | [] => by simp [namesApart]
  | x :: l => by
    unfold namesApart
    rw [Bool.and_eq_true, List.all_eq_true, List.pairwise_cons, namesApart_iff (l := l)]
    simp
theorem namesApart_perm {a b : Lbs} (h : a.Perm b) : namesApart a = namesApart b := by
  rw [Bool.eq_iff_iff, namesApart_iff, namesApart_iff]
  exact h.pairwise_iff fun h => Ne.symm h
/-- In their order: by name. -/
def insN (x : Lb) : Lbs → Lbs
  | [] => [x]
  | y :: l => if x.1 < y.1 then x :: y :: l else y :: insN x l
def canonL (l : Lbs) : Lbs := l.foldr insN []
theorem insN_perm (x : Lb) : ∀ l, (insN x l).Perm (x :: l)
  | [] => .refl _
  | y :: l => by
    unfold insN
    split
    · exact .refl _
    · exact ((insN_perm x l).cons y).trans (.swap x y l)
theorem canonL_perm : ∀ l, (canonL l).Perm l
  | [] => .refl _
  | x :: l => (insN_perm x _).trans ((canonL_perm l).cons x)
/-- Not falling by name. -/
def UpN (l : Lbs) : Prop := l.Pairwise (fun x y => ¬ y.1 < x.1)
theorem insN_up (x : Lb) : ∀ {l}, UpN l → UpN (insN x l)
  | [], _ => List.pairwise_singleton _ _
  | y :: l, h => by
    have h2 := List.pairwise_cons.1 h
    unfold insN
    split
    case isTrue hx =>
      refine List.pairwise_cons.2 ⟨fun z hz => ?_, h⟩
      rcases List.mem_cons.1 hz with rfl | hz
      · exact str_asymm hx
      · intro h3
        exact h2.1 z hz (str_trans h3 hx)
    case isFalse hx =>
      refine List.pairwise_cons.2 ⟨fun z hz => ?_, insN_up x h2.2⟩
      rcases List.mem_cons.1 ((insN_perm x l).mem_iff.1 hz) with rfl | hz
      · exact hx
      · exact h2.1 z hz
theorem canonL_up : ∀ l, UpN (canonL l)
  | [] => List.Pairwise.nil
  | x :: l => insN_up x (canonL_up l)
/-- Rows that are the same but for the order, and don't fall, whose names are apart, are the same. -/
theorem upN_uniq {a b : Lbs} (hp : a.Perm b) (ha : UpN a) (hb : UpN b) (hn : namesApart a = true) : a = b := by
  have hna := namesApart_iff.1 hn
  have hnb := namesApart_iff.1 ((namesApart_perm hp).symm.trans hn)
  have sa : a.Pairwise (fun x y => x.1 < y.1) := (List.pairwise_and_iff.2 ⟨ha, hna⟩).imp fun ⟨h1, h2⟩ => Classical.byContradiction fun h3 => h2 (str_tri h3 h1)
  have sb : b.Pairwise (fun x y => x.1 < y.1) := (List.pairwise_and_iff.2 ⟨hb, hnb⟩).imp fun ⟨h1, h2⟩ => Classical.byContradiction fun h3 => h2 (str_tri h3 h1)
  exact hp.eq_of_pairwise (fun x y _ _ h1 h2 => absurd (str_trans h1 h2) (str_irrefl _)) sa sb
theorem canon_of {a l : Lbs} (hp : a.Perm l) (ha : UpN a) (hn : namesApart l = true) : a = canonL l :=
  upN_uniq (hp.trans (canonL_perm l).symm) ha (canonL_up l) ((namesApart_perm hp).trans hn)
/-- A row that doesn't fall has two of one name just where two neighbours have. -/
theorem apart_near : ∀ {l : Lbs}, UpN l → (namesApart l = true ↔ ∀ i (h : i + 1 < l.length), l[i].1 ≠ l[i + 1].1)
  | [], _ => by simp [namesApart]
  | [x], _ => by simp [namesApart]
  | x :: y :: l, h => by
    have h2 := List.pairwise_cons.1 h
    have h3 := List.pairwise_cons.1 h2.2
    have ih := apart_near h2.2
    unfold namesApart
    rw [Bool.and_eq_true, ih]
    constructor
    · rintro ⟨h4, h5⟩ i hi
      rcases i with _ | i
      · have := List.all_eq_true.1 h4 y List.mem_cons_self
        simpa using this
      · exact h5 i (by simpa using hi)
    · intro h4
      refine ⟨List.all_eq_true.2 fun z hz => ?_, fun i hi => h4 (i + 1) (by simpa using hi)⟩
      have hxy : x.1 ≠ y.1 := h4 0 (by simp)
      have hlt : x.1 < y.1 := Classical.byContradiction fun h5 => hxy (str_tri h5 (h2.1 y List.mem_cons_self))
      have : x.1 < z.1 := by
        rcases List.mem_cons.1 hz with rfl | hz
        · exact hlt
        · by_cases e : y.1 < z.1
          · exact str_trans hlt e
          · rw [← str_tri e (h3.1 z hz)]; exact hlt
      exact decide_eq_true fun e => str_irrefl _ (e ▸ this)
/-- A text that ends where it ends. -/
def escC (c : UInt8) : Str := if c < 3 then [2, c + 3] else [c]
def escT (s : Str) : Str := s.flatMap escC ++ [1]
def marL (c : Lbs) : Str := c.flatMap (fun x => escT x.1 ++ escT x.2)
theorem escC_ne (c : UInt8) : ∃ a r, escC c = a :: r ∧ a ≠ 1 := by
  unfold escC
  split
  · exact ⟨2, _, rfl, by decide⟩
  · rename_i h
    exact ⟨c, [], rfl, fun e => h (by rw [e]; decide)⟩
theorem escC_inj {c d : UInt8} {a b : Str} (h : escC c ++ a = escC d ++ b) : c = d ∧ a = b := by
  unfold escC at h
  by_cases h1 : c < 3 <;> by_cases h2 : d < 3
  · rw [if_pos h1, if_pos h2] at h
    simp only [List.cons_append, List.nil_append, List.cons.injEq, true_and] at h
    refine ⟨?_, h.2⟩
    have := h.1
    have h3 := congrArg (fun x => x - 3) this
    simpa using h3
  · rw [if_pos h1, if_neg h2] at h
    simp only [List.cons_append, List.nil_append, List.cons.injEq] at h
    exact absurd (by rw [← h.1]; decide) h2
  · rw [if_neg h1, if_pos h2] at h
    simp only [List.cons_append, List.nil_append, List.cons.injEq] at h
    exact absurd (by rw [h.1]; decide) h1
  · rw [if_neg h1, if_neg h2] at h
    simp only [List.cons_append, List.nil_append, List.cons.injEq] at h
    exact h
theorem escT_inj : ∀ {s t a b : Str}, escT s ++ a = escT t ++ b → s = t ∧ a = b
  | [], [], a, b, h => by simpa [escT] using h
  | [], d :: t, a, b, h => by
    obtain ⟨x, r, e, hx⟩ := escC_ne d
    unfold escT at h
    rw [List.flatMap_cons, e] at h
    simp only [List.flatMap_nil, List.nil_append, List.cons_append, List.cons.injEq] at h
    exact absurd h.1.symm hx
  | c :: s, [], a, b, h => by
    obtain ⟨x, r, e, hx⟩ := escC_ne c
    unfold escT at h
    rw [List.flatMap_cons, e] at h
    simp only [List.flatMap_nil, List.nil_append, List.cons_append, List.cons.injEq] at h
    exact absurd h.1 hx
  | c :: s, d :: t, a, b, h => by
    have h1 : escC c ++ (escT s ++ a) = escC d ++ (escT t ++ b) := by
      unfold escT at h ⊢
      simpa [List.flatMap_cons, List.append_assoc] using h
    obtain ⟨rfl, h2⟩ := escC_inj h1
    obtain ⟨rfl, rfl⟩ := escT_inj h2
    exact ⟨rfl, rfl⟩
theorem escT_pos (s : Str) : escT s ≠ [] := by unfold escT; simp
theorem marL_inj : ∀ {a b : Lbs}, marL a = marL b → a = b
  | [], [], _ => rfl
  | [], y :: b, h => by
    unfold marL at h
    rw [List.flatMap_cons, List.flatMap_nil] at h
    have := congrArg List.length h
    have h2 := List.length_pos_iff.2 (escT_pos y.1)
    simp only [List.length_nil, List.length_append] at this
    omega
  | x :: a, [], h => by
    unfold marL at h
    rw [List.flatMap_cons, List.flatMap_nil] at h
    have := congrArg List.length h
    have h2 := List.length_pos_iff.2 (escT_pos x.1)
    simp only [List.length_nil, List.length_append] at this
    omega
  | x :: a, y :: b, h => by
    have h1 : escT x.1 ++ (escT x.2 ++ marL a) = escT y.1 ++ (escT y.2 ++ marL b) := by
      unfold marL at h ⊢
      simpa [List.flatMap_cons, List.append_assoc] using h
    obtain ⟨e1, h2⟩ := escT_inj h1
    obtain ⟨e2, h3⟩ := escT_inj h2
    rw [Prod.ext e1 e2, marL_inj h3]
end Go.Proofs.YtkgcbeokfilehaaGreatDoor

/-
  What is told, as a row of samples with their labels, as they were put in; series in order; filters.
-/
namespace Go.Proofs.YtkgcbeokfilehaaGreatDoor
abbrev Told := List (Lbs × Smp)
def smpOf (R : Told) (c : Lbs) : List Smp := (R.filter (fun r => decide (r.1 = c))).map (·.2)
def hasR (R : Told) (c : Lbs) : Bool := R.any (fun r => decide (r.1 = c))
theorem mem_smpOf {R : Told} {c : Lbs} {s : Smp} : s ∈ smpOf R c ↔ (c, s) ∈ R := by
  unfold smpOf
  rw [List.mem_map]
  constructor
  · rintro ⟨r, hr, rfl⟩
    obtain ⟨h1, h2⟩ := List.mem_filter.1 hr
    have := of_decide_eq_true h2
    subst this
    exact h1
  · intro h
    exact ⟨(c, s), List.mem_filter.2 ⟨h, by simp⟩, rfl⟩
theorem hasR_iff {R : Told} {c : Lbs} : hasR R c = true ↔ ∃ r ∈ R, r.1 = c := by
  unfold hasR
  rw [List.any_eq_true]
  simp
theorem smpOf_snoc (R : Told) (c k : Lbs) (s : Smp) : smpOf (R ++ [(c, s)]) k = if k = c then smpOf R c ++ [s] else smpOf R k := by
  unfold smpOf
  rw [List.filter_append, List.map_append]
  by_cases h : k = c
  · subst h; simp
  · rw [if_neg h]; simp [Ne.symm h]
theorem hasR_snoc (R : Told) (c k : Lbs) (s : Smp) : hasR (R ++ [(c, s)]) k = (decide (k = c) || hasR R k) := by
  unfold hasR
  rw [List.any_append]
  by_cases h : k = c
  · subst h; simp
  · simp [h, Ne.symm h]
theorem smpOf_none {R : Told} {c : Lbs} (h : hasR R c = false) : smpOf R c = [] := by
  apply Classical.byContradiction
  intro hn
  obtain ⟨s, hs⟩ := List.exists_mem_of_ne_nil _ hn
  have := hasR_iff.2 ⟨_, mem_smpOf.1 hs, rfl⟩
  rw [h] at this; cases this
theorem smpOf_length (R : Told) (c : Lbs) : (smpOf R c).length ≤ R.length := by
  unfold smpOf
  rw [List.length_map]; exact List.length_filter_le _ _
/-- Rising by labels. -/
def UpR (l : List Lbs) : Prop := l.Pairwise (fun a b => cmpRow a b < 0)
theorem cmpRow_irr (a : Lbs) : ¬ cmpRow a a < 0 := by rw [cmpRow_self]; decide
theorem upR_nodup {a : List Lbs} (h : UpR a) : a.Nodup := by
  refine List.Pairwise.imp (fun {x y} h e => ?_) h
  subst e
  exact cmpRow_irr _ h
theorem upR_uniq {a b : List Lbs} (ha : UpR a) (hb : UpR b) (h : ∀ c, c ∈ a ↔ c ∈ b) : a = b := by
  have na := upR_nodup ha
  have nb := upR_nodup hb
  exact ((List.perm_ext_iff_of_nodup na nb).2 h).eq_of_pairwise (fun x y _ _ h1 h2 => absurd (cmpRow_trans h1 h2) (cmpRow_irr _)) ha hb
def insR (c : Lbs) : List Lbs → List Lbs
  | [] => [c]
  | y :: l => if cmpRow c y < 0 then c :: y :: l else if c = y then y :: l else y :: insR c l
theorem mem_insR {c x : Lbs} : ∀ {l}, x ∈ insR c l ↔ x = c ∨ x ∈ l
  | [] => by simp [insR]
  | y :: l => by
    unfold insR
    split
    · simp
    · split
      case isTrue h => subst h; simp
      case isFalse h => rw [List.mem_cons, mem_insR, List.mem_cons]; constructor <;> rintro (h | h | h) <;> simp [h]
theorem insR_up {c : Lbs} : ∀ {l}, UpR l → UpR (insR c l)
  | [], _ => List.pairwise_singleton _ _
  | y :: l, h => by
    have h2 := List.pairwise_cons.1 h
    unfold insR
    split
    case isTrue hx =>
      refine List.pairwise_cons.2 ⟨fun z hz => ?_, h⟩
      rcases List.mem_cons.1 hz with rfl | hz
      · exact hx
      · exact cmpRow_trans hx (h2.1 z hz)
    case isFalse hx =>
      split
      case isTrue => exact h
      case isFalse hy =>
        refine List.pairwise_cons.2 ⟨fun z hz => ?_, insR_up h2.2⟩
        rcases mem_insR.1 hz with rfl | hz
        · have h3 := cmpRow_swap z y
          have h4 : cmpRow z y ≠ 0 := fun e => hy (cmpRow_eq.1 e)
          omega
        · exact h2.1 z hz
/-- The series that are there, rising. -/
def labsOf (R : Told) : List Lbs := R.foldl (fun l r => insR r.1 l) []
theorem labs_fold (R : Told) : ∀ l : List Lbs, UpR l → UpR (R.foldl (fun l r => insR r.1 l) l) ∧ ∀ c, c ∈ R.foldl (fun l r => insR r.1 l) l ↔ c ∈ l ∨ ∃ r ∈ R, r.1 = c := by
  induction R with
  | nil => intro l h; exact ⟨h, fun c => by simp⟩
  | cons r R ih =>
    intro l h
    obtain ⟨h1, h2⟩ := ih (insR r.1 l) (insR_up h)
    refine ⟨h1, fun c => ?_⟩
    rw [List.foldl_cons, h2, mem_insR]
    constructor
    · rintro ((rfl | h) | ⟨r2, h3, rfl⟩)
      · exact .inr ⟨r, List.mem_cons_self, rfl⟩
      · exact .inl h
      · exact .inr ⟨r2, List.mem_cons_of_mem _ h3, rfl⟩
    · rintro (h | ⟨r2, h3, rfl⟩)
      · exact .inl (.inr h)
      · rcases List.mem_cons.1 h3 with rfl | h3
        · exact .inl (.inl rfl)
        · exact .inr ⟨r2, h3, rfl⟩
theorem labs_up (R : Told) : UpR (labsOf R) := (labs_fold R [] List.Pairwise.nil).1
theorem mem_labs {R : Told} {c : Lbs} : c ∈ labsOf R ↔ hasR R c = true := by
  unfold labsOf
  rw [(labs_fold R [] List.Pairwise.nil).2, hasR_iff]; simp
theorem insR_length (c : Lbs) : ∀ l : List Lbs, (insR c l).length ≤ l.length + 1
  | [] => by simp [insR]
  | y :: l => by
    unfold insR
    split
    · simp
    · split
      · simp
      · have := insR_length c l; simp; omega
theorem labs_length (R : Told) : (labsOf R).length ≤ R.length := by
  have : ∀ l : List Lbs, (R.foldl (fun l r => insR r.1 l) l).length ≤ l.length + R.length := by
    induction R with
    | nil => intro l; simp
    | cons r R ih => intro l; have := ih (insR r.1 l); have := insR_length r.1 l; simp; omega
  have := this []
  simpa [labsOf] using this
/-- What is asked of a label. -/
structure Fil where
  name : Str
  value : Str
  pre : Bool
  neg : Bool
def getL (l : Lbs) (n : Str) : Str := ((l.find? (fun x => decide (x.1 = n))).map (·.2)).getD []
def oneF (f : Fil) (l : Lbs) : Bool := (if f.pre then f.value.isPrefixOf (getL l f.name) else decide (getL l f.name = f.value)) != f.neg
def allF (fs : List Fil) (l : Lbs) : Bool := fs.all (fun f => oneF f l)
def checkF (fs : List Fil) : Int := if 4 < fs.length then 2 else if fs.all (fun f => nameOk f.name && decide (f.value.length ≤ 16)) then 0 else 80
/-- What is told of a series. -/
def tellC (d f t : Int) (R : Told) (c : Lbs) : List Smp := delS f t (dedupS d (smpOf R c))
/-- What is told: the series that are as all filters ask, and what is told of them. -/
def tellS (d f t : Int) (fs : List Fil) (R : Told) : List (Lbs × List Smp) := ((labsOf R).filter (fun c => allF fs c && decide (tellC d f t R c ≠ []))).map (fun c => (c, tellC d f t R c))
/-- A rising row of texts with one more, once. -/
def insT (s : Str) : List Str → List Str
  | [] => [s]
  | y :: l => if s < y then s :: y :: l else if s = y then y :: l else y :: insT s l
def UpT (l : List Str) : Prop := l.Pairwise (· < ·)
theorem mem_insT {s x : Str} : ∀ {l}, x ∈ insT s l ↔ x = s ∨ x ∈ l
  | [] => by simp [insT]
  | y :: l => by
    unfold insT
    split
    · simp
    · split
      case isTrue h => subst h; simp
      case isFalse h => rw [List.mem_cons, mem_insT, List.mem_cons]; constructor <;> rintro (h | h | h) <;> simp [h]
theorem insT_up {s : Str} : ∀ {l}, UpT l → UpT (insT s l)
  | [], _ => List.pairwise_singleton _ _
  | y :: l, h => by
    have h2 := List.pairwise_cons.1 h
    unfold insT
    split
    case isTrue hx =>
      refine List.pairwise_cons.2 ⟨fun z hz => ?_, h⟩
      rcases List.mem_cons.1 hz with rfl | hz
      · exact hx
      · exact str_trans hx (h2.1 z hz)
    case isFalse hx =>
      split
      case isTrue => exact h
      case isFalse hy =>
        refine List.pairwise_cons.2 ⟨fun z hz => ?_, insT_up h2.2⟩
        rcases mem_insT.1 hz with rfl | hz
        · exact Classical.byContradiction fun h3 => hy (str_tri hx h3)
        · exact h2.1 z hz
theorem upT_nodup {a : List Str} (h : UpT a) : a.Nodup := by
  refine List.Pairwise.imp (fun {x y} h e => ?_) h
  subst e
  exact str_irrefl _ h
theorem upT_uniq {a b : List Str} (ha : UpT a) (hb : UpT b) (h : ∀ c, c ∈ a ↔ c ∈ b) : a = b := by
  have na := upT_nodup ha
  have nb := upT_nodup hb
  exact ((List.perm_ext_iff_of_nodup na nb).2 h).eq_of_pairwise (fun x y _ _ h1 h2 => absurd (str_trans h1 h2) (str_irrefl _)) ha hb
/-- Texts, rising, each once. -/
def textsS (l : List Str) : List Str := l.foldl (fun r s => insT s r) []
theorem texts_fold (l : List Str) : ∀ r : List Str, UpT r → UpT (l.foldl (fun r s => insT s r) r) ∧ ∀ x, x ∈ l.foldl (fun r s => insT s r) r ↔ x ∈ r ∨ x ∈ l := by
  induction l with
  | nil => intro r h; exact ⟨h, fun x => by simp⟩
  | cons s l ih =>
    intro r h
    obtain ⟨h1, h2⟩ := ih (insT s r) (insT_up h)
    refine ⟨h1, fun x => ?_⟩
    rw [List.foldl_cons, h2, mem_insT, List.mem_cons]
    constructor
    · rintro ((h | h) | h) <;> simp [h]
    · rintro (h | h | h) <;> simp [h]
theorem texts_up (l : List Str) : UpT (textsS l) := (texts_fold l [] List.Pairwise.nil).1
theorem mem_texts {l : List Str} {x : Str} : x ∈ textsS l ↔ x ∈ l := by
  unfold textsS
  rw [(texts_fold l [] List.Pairwise.nil).2]; simp
theorem texts_of {a l : List Str} (ha : UpT a) (h : ∀ x, x ∈ a ↔ x ∈ l) : a = textsS l := upT_uniq ha (texts_up l) fun x => by rw [h, mem_texts]
/-- The names of all labels; what a label is. -/
def namesS (R : Told) : List Str := textsS ((labsOf R).flatMap (fun c => c.map (·.1)))
def valuesS (R : Told) (n : Str) : List Str := textsS ((labsOf R).flatMap (fun c => (c.filter (fun x => decide (x.1 = n))).map (·.2)))
/-- Is a row taken? -/
def takesR (keep now : Int) (r : Lbs × Smp) : Bool := mayL r.1 && rightS r.2 && decide (r.2.1 ≤ now + 100) && decide (now - keep < r.2.1)
def addR (keep now : Int) (R : Told) (l : List (Lbs × Smp)) : Told := R ++ (l.filter (takesR keep now)).map (fun r => (canonL r.1, r.2))
def refusedR (keep now : Int) (l : List (Lbs × Smp)) : Nat := (l.filter (fun r => !takesR keep now r)).length
theorem addR_nil (keep now : Int) (R : Told) : addR keep now R [] = R := by simp [addR]
theorem addR_snoc (keep now : Int) (R : Told) (l : List (Lbs × Smp)) (r : Lbs × Smp) : addR keep now R (l ++ [r]) = if takesR keep now r then addR keep now R l ++ [(canonL r.1, r.2)] else addR keep now R l := by
  unfold addR
  rw [List.filter_append]
  cases h : takesR keep now r <;> simp [h]
theorem refusedR_snoc (keep now : Int) (l : List (Lbs × Smp)) (r : Lbs × Smp) : refusedR keep now (l ++ [r]) = if takesR keep now r then refusedR keep now l else refusedR keep now l + 1 := by
  unfold refusedR
  rw [List.filter_append]
  cases h : takesR keep now r <;> simp [h]
theorem mem_addR {keep now : Int} {R : Told} {l : List (Lbs × Smp)} {x : Lbs × Smp} : x ∈ addR keep now R l ↔ x ∈ R ∨ ∃ r ∈ l, takesR keep now r = true ∧ (canonL r.1, r.2) = x := by
  unfold addR
  rw [List.mem_append, List.mem_map]
  simp only [List.mem_filter, and_assoc]
theorem addR_length (keep now : Int) (R : Told) (l : List (Lbs × Smp)) : (addR keep now R l).length ≤ R.length + l.length := by
  unfold addR
  rw [List.length_append, List.length_map]
  have := List.length_filter_le (takesR keep now) l
  omega
/-- What is left when series are deleted. -/
def delR (fs : List Fil) (R : Told) : Told := R.filter (fun r => !allF fs r.1)
theorem hasR_del (fs : List Fil) (R : Told) (c : Lbs) : hasR (delR fs R) c = (hasR R c && !allF fs c) := by
  rw [Bool.eq_iff_iff, Bool.and_eq_true, hasR_iff, hasR_iff]
  unfold delR
  constructor
  · rintro ⟨r, hr, rfl⟩
    obtain ⟨h1, h2⟩ := List.mem_filter.1 hr
    exact ⟨⟨r, h1, rfl⟩, h2⟩
  · rintro ⟨⟨r, hr, rfl⟩, h⟩
    exact ⟨r, List.mem_filter.2 ⟨hr, h⟩, rfl⟩
theorem smpOf_del (fs : List Fil) (R : Told) (c : Lbs) (h : allF fs c = false) : smpOf (delR fs R) c = smpOf R c := by
  unfold smpOf delR
  rw [List.filter_filter]
  congr 1
  refine List.filter_congr fun r _ => ?_
  by_cases e : r.1 = c
  · rw [e, h]; simp
  · simp [e]
theorem labs_del (fs : List Fil) (R : Told) : labsOf (delR fs R) = (labsOf R).filter (fun c => !allF fs c) := by
  refine upR_uniq (labs_up _) (List.Pairwise.filter _ (labs_up _)) fun c => ?_
  rw [mem_labs, hasR_del, List.mem_filter, mem_labs, Bool.and_eq_true]
theorem delR_length (fs : List Fil) (R : Told) : (delR fs R).length ≤ R.length := List.length_filter_le _ _
end Go.Proofs.YtkgcbeokfilehaaGreatDoor

/-
  Sets of channels as lists of ranges: plain definitions and laws, no program in sight.
-/
import Derived.Test.YtndkpdiacabjgaaGreatDoorBas
namespace Go.Proofs.YtndkpdiacabjgaaGreatDoor

/-- A range of channels. -/
def rightG (r : Int × Int) : Bool := decide (1 ≤ r.1) && (decide (r.1 ≤ r.2) && decide (r.2 ≤ 999))
theorem rightG_iff {r : Int × Int} : rightG r = true ↔ 1 ≤ r.1 ∧ r.1 ≤ r.2 ∧ r.2 ≤ 999 := by simp [rightG]
/-- The error's number of a list, behind an end. -/
def chkG : Option Int → List (Int × Int) → Int
  | _, [] => 0
  | none, r :: l => if rightG r = false then 2 else chkG (some r.2) l
  | some q, r :: l => if rightG r = false then 2 else if r.1 < q + 2 then 9 else chkG (some r.2) l
/-- A right list. -/
def Canon (l : List (Int × Int)) : Prop := (∀ r ∈ l, rightG r = true) ∧ l.Pairwise fun r s => r.2 + 2 ≤ s.1
def hasG (r : Int × Int) (c : Nat) : Bool := decide (r.1 ≤ (c : Int)) && decide ((c : Int) ≤ r.2)
def memG (l : List (Int × Int)) (c : Nat) : Bool := l.any fun r => hasG r c
theorem hasG_iff {r : Int × Int} {c : Nat} : hasG r c = true ↔ r.1 ≤ (c : Int) ∧ (c : Int) ≤ r.2 := by simp [hasG]
theorem memG_iff {l : List (Int × Int)} {c : Nat} : memG l c = true ↔ ∃ r ∈ l, r.1 ≤ (c : Int) ∧ (c : Int) ≤ r.2 := by
  simp only [memG, List.any_eq_true, hasG_iff]

theorem canon_nil : Canon [] := ⟨by simp, List.Pairwise.nil⟩
theorem canon_cons {r : Int × Int} {l : List (Int × Int)} : Canon (r :: l) ↔ rightG r = true ∧ (∀ s ∈ l, r.2 + 2 ≤ s.1) ∧ Canon l := by
  simp only [Canon, List.mem_cons, forall_eq_or_imp, List.pairwise_cons]
  constructor
  · rintro ⟨⟨a, b⟩, c, d⟩; exact ⟨a, c, b, d⟩
  · rintro ⟨a, c, b, d⟩; exact ⟨⟨a, b⟩, c, d⟩

theorem chkG_some : ∀ (l : List (Int × Int)) (q : Int), chkG (some q) l = 0 ↔ (Canon l ∧ ∀ s ∈ l, q + 2 ≤ s.1)
  | [], q => by simp [chkG, canon_nil]
  | r :: l, q => by
    rw [chkG, canon_cons]
    by_cases h : rightG r = false
    · simp [h]
    · have h' : rightG r = true := by simpa using h
      have hr := rightG_iff.1 h'
      rw [if_neg h]
      by_cases h2 : r.1 < q + 2
      · rw [if_pos h2]
        simp only [List.mem_cons, forall_eq_or_imp]
        constructor
        · intro x; exact absurd x (by decide)
        · rintro ⟨_, h3, _⟩; omega
      · rw [if_neg h2, chkG_some l r.2]
        simp only [List.mem_cons, forall_eq_or_imp]
        constructor
        · rintro ⟨a, b⟩
          exact ⟨⟨h', b, a⟩, by omega, fun s hs => by have := b s hs; omega⟩
        · rintro ⟨⟨_, b, a⟩, _, _⟩
          exact ⟨a, b⟩
theorem chkG_none (l : List (Int × Int)) : chkG none l = 0 ↔ Canon l := by
  cases l with
  | nil => simp [chkG, canon_nil]
  | cons r l =>
    rw [chkG, canon_cons]
    by_cases h : rightG r = false
    · simp [h]
    · rw [if_neg h, chkG_some l r.2]
      have h' : rightG r = true := by simpa using h
      constructor
      · rintro ⟨a, b⟩; exact ⟨h', b, a⟩
      · rintro ⟨_, b, a⟩; exact ⟨a, b⟩

/-- The end of the range before the `i`-th one. -/
def prevG (l : List (Int × Int)) (i : Nat) : Option Int := if i = 0 then none else (l[i - 1]?).map (·.2)
theorem chkG_end (p : Option Int) : chkG p [] = 0 := by cases p <;> rfl
theorem chkG_step (l : List (Int × Int)) (i : Nat) (hi : i < l.length) (hr : rightG l[i] = true) (ho : i = 0 ∨ ∃ h : i - 1 < l.length, ¬ l[i].1 < l[i - 1].2 + 2) :
    chkG (prevG l i) (l.drop i) = chkG (prevG l (i + 1)) (l.drop (i + 1)) := by
  have hp : prevG l (i + 1) = some l[i].2 := by simp [prevG, hi]
  rw [List.drop_eq_getElem_cons hi, hp]
  rcases ho with rfl | ⟨h1, ho⟩
  · simp [prevG, chkG, hr]
  · by_cases h0 : i = 0
    · subst h0; simp [prevG, chkG, hr]
    · have : prevG l i = some l[i - 1].2 := by simp [prevG, h0, h1]
      rw [this, chkG, if_neg (by simp [hr]), if_neg ho]
theorem chkG_bad (l : List (Int × Int)) (i : Nat) (hi : i < l.length) (hr : rightG l[i] = false) : chkG (prevG l i) (l.drop i) = 2 := by
  rw [List.drop_eq_getElem_cons hi]
  cases prevG l i <;> simp [chkG, hr]
theorem chkG_ord (l : List (Int × Int)) (i : Nat) (hi : i < l.length) (h0 : i ≠ 0) (hr : rightG l[i] = true) (h1 : i - 1 < l.length) (ho : l[i].1 < l[i - 1].2 + 2) : chkG (prevG l i) (l.drop i) = 9 := by
  have : prevG l i = some l[i - 1].2 := by simp [prevG, h0, h1]
  rw [List.drop_eq_getElem_cons hi, this, chkG, if_neg (by simp [hr]), if_pos ho]

/-- What is in a right list is a channel. -/
theorem canon_mem {l : List (Int × Int)} (h : Canon l) {c : Nat} (hc : memG l c = true) : 1 ≤ c ∧ c ≤ 999 := by
  obtain ⟨r, hr, h1, h2⟩ := memG_iff.1 hc
  have := rightG_iff.1 (h.1 r hr)
  omega
theorem canon_snoc {l : List (Int × Int)} {r : Int × Int} : Canon (l ++ [r]) ↔ Canon l ∧ rightG r = true ∧ ∀ s ∈ l, s.2 + 2 ≤ r.1 := by
  simp only [Canon, List.mem_append, List.mem_singleton, List.pairwise_append, List.pairwise_cons]
  constructor
  · rintro ⟨a, b, _, d⟩
    exact ⟨⟨fun r hr => a r (.inl hr), b⟩, a r (.inr rfl), fun s hs => d s hs r rfl⟩
  · rintro ⟨⟨a, b⟩, c, d⟩
    refine ⟨fun s hs => ?_, b, ⟨by simp, List.Pairwise.nil⟩, fun s hs t ht => by subst ht; exact d s hs⟩
    rcases hs with hs | rfl
    · exact a s hs
    · exact c

/-- The list of the members up to `n`. -/
structure UpTo (M : Nat → Bool) (n : Nat) (l : List (Int × Int)) : Prop where
  canon : Canon l
  mem : ∀ c, memG l c = (decide (1 ≤ c) && (decide (c ≤ n) && M c))
theorem upto_zero (M : Nat → Bool) : UpTo M 0 [] := ⟨canon_nil, fun c => by
  by_cases h : 1 ≤ c
  · have : ¬ c ≤ 0 := by omega
    simp [memG, this]
  · simp [memG, h]⟩
theorem upto_skip {M : Nat → Bool} {n : Nat} {l : List (Int × Int)} (h : UpTo M n l) (hm : M (n + 1) = false) : UpTo M (n + 1) l := ⟨h.canon, fun c => by
  rw [h.mem]
  by_cases hc : c = n + 1
  · subst hc; simp [hm]
  · have : (c ≤ n) ↔ (c ≤ n + 1) := by omega
    simp [this]⟩
theorem memG_snoc (l : List (Int × Int)) (r : Int × Int) (c : Nat) : memG (l ++ [r]) c = (memG l c || hasG r c) := by simp [memG]
theorem upto_new {M : Nat → Bool} {n : Nat} {l : List (Int × Int)} (h : UpTo M n l) (hn : n + 1 ≤ 999) (hm : M (n + 1) = true) (hp : M n = false) : UpTo M (n + 1) (l ++ [(((n + 1 : Nat) : Int), ((n + 1 : Nat) : Int))]) := by
  refine ⟨canon_snoc.2 ⟨h.canon, rightG_iff.2 (by dsimp only; omega), fun s hs => ?_⟩, fun c => ?_⟩
  · have hr := rightG_iff.1 (h.canon.1 s hs)
    have hb : memG l s.2.toNat = true := memG_iff.2 ⟨s, hs, by omega, by omega⟩
    rw [h.mem] at hb
    simp only [Bool.and_eq_true, decide_eq_true_eq] at hb
    have : s.2.toNat ≠ n := fun e => by rw [e, hp] at hb; simp at hb
    dsimp only
    omega
  · rw [memG_snoc, h.mem]
    by_cases hc : c = n + 1
    · subst hc; simp [hm, hasG]
    · have h2 : hasG (((n + 1 : Nat) : Int), ((n + 1 : Nat) : Int)) c = false := by
        rw [Bool.eq_false_iff]; intro x
        have := hasG_iff.1 x
        dsimp only at this
        omega
      have h1 : (c ≤ n) ↔ (c ≤ n + 1) := by omega
      rw [h2, Bool.or_false]; simp only [h1]
theorem upto_more {M : Nat → Bool} {n : Nat} {l : List (Int × Int)} (h : UpTo M n l) (hn : n + 1 ≤ 999) (h1 : 1 ≤ n) (hm : M (n + 1) = true) (hp : M n = true) :
    ∃ l0 a, l = l0 ++ [(a, (n : Int))] ∧ UpTo M (n + 1) (l0 ++ [(a, ((n + 1 : Nat) : Int))]) := by
  have hin : memG l n = true := by rw [h.mem]; simp [h1, hp]
  have hle : ∀ s ∈ l, s.2 ≤ n := fun s hs => by
    have hr := rightG_iff.1 (h.canon.1 s hs)
    have hb : memG l s.2.toNat = true := memG_iff.2 ⟨s, hs, by omega, by omega⟩
    rw [h.mem] at hb
    simp only [Bool.and_eq_true, decide_eq_true_eq] at hb
    omega
  obtain ⟨r, hr, r1, r2⟩ := memG_iff.1 hin
  have r3 : r.2 = n := by have := hle r hr; omega
  obtain ⟨l0, l2, rfl⟩ := List.append_of_mem hr
  have hl2 : l2 = [] := by
    cases l2 with
    | nil => rfl
    | cons t l2 =>
      have hp := h.canon.2
      rw [List.pairwise_append] at hp
      have := (List.pairwise_cons.1 hp.2.1).1 t (by simp)
      have h4 := hle t (by simp)
      have h5 := rightG_iff.1 (h.canon.1 t (by simp))
      omega
  subst hl2
  have hrr := rightG_iff.1 (h.canon.1 r hr)
  refine ⟨l0, r.1, by rw [← r3], ?_, fun c => ?_⟩
  · have h6 := canon_snoc.1 h.canon
    exact canon_snoc.2 ⟨h6.1, rightG_iff.2 (by dsimp only; omega), h6.2.2⟩
  · have h7 := h.mem c
    rw [memG_snoc] at h7 ⊢
    by_cases hc : c = n + 1
    · subst hc
      have : hasG (r.1, ((n + 1 : Nat) : Int)) (n + 1) = true := hasG_iff.2 (by dsimp only; omega)
      rw [this, hm]; simp
    · have e1 : (c ≤ n + 1) ↔ (c ≤ n) := by omega
      have e2 : hasG (r.1, ((n + 1 : Nat) : Int)) c = hasG r c := by
        unfold hasG
        rw [r3]
        congr 1
        have : ((c : Int) ≤ ((n + 1 : Nat) : Int)) ↔ ((c : Int) ≤ (n : Int)) := by omega
        simp only [this]
      rw [e2, h7]
      simp [e1]

/-- The list of a set. -/
def SetOf (M : Nat → Bool) (l : List (Int × Int)) : Prop := Canon l ∧ ∀ c, memG l c = (decide (1 ≤ c) && (decide (c ≤ 999) && M c))
theorem upto_set {M : Nat → Bool} {l : List (Int × Int)} (h : UpTo M 999 l) : SetOf M l := ⟨h.canon, h.mem⟩

theorem canon_first {r : Int × Int} {l : List (Int × Int)} (h : Canon (r :: l)) {c : Nat} (hc : memG (r :: l) c = true) : r.1 ≤ c := by
  obtain ⟨hr, ha, hl⟩ := canon_cons.1 h
  have := rightG_iff.1 hr
  obtain ⟨s, hs, h1, h2⟩ := memG_iff.1 hc
  rcases List.mem_cons.1 hs with rfl | hs
  · omega
  · have := ha s hs
    omega
theorem canon_rest {r : Int × Int} {l : List (Int × Int)} (h : Canon (r :: l)) {c : Nat} (hc : memG l c = true) : r.2 + 2 ≤ c := by
  obtain ⟨hr, ha, hl⟩ := canon_cons.1 h
  obtain ⟨s, hs, h1, h2⟩ := memG_iff.1 hc
  have := ha s hs
  omega
theorem memG_cons (r : Int × Int) (l : List (Int × Int)) (c : Nat) : memG (r :: l) c = (hasG r c || memG l c) := by simp [memG]
theorem canon_tail {r : Int × Int} {l : List (Int × Int)} (h : Canon (r :: l)) (c : Nat) : memG l c = (memG (r :: l) c && !hasG r c) := by
  rw [memG_cons]
  by_cases hh : hasG r c = true
  · have : memG l c = false := by
      rw [Bool.eq_false_iff]; intro x
      have := canon_rest h x
      have := hasG_iff.1 hh
      omega
    simp [hh, this]
  · have : hasG r c = false := by simpa using hh
    simp [this]
/-- Right lists with the same members are the same. -/
theorem canon_ext : ∀ (l l' : List (Int × Int)), Canon l → Canon l' → (∀ c, memG l c = memG l' c) → l = l'
  | [], [], _, _, _ => rfl
  | [], r :: l', _, h', he => by
    have hr := rightG_iff.1 (canon_cons.1 h').1
    have := he r.1.toNat
    rw [show memG ([] : List (Int × Int)) r.1.toNat = false from rfl] at this
    rw [memG_iff.2 ⟨r, by simp, by omega, by omega⟩] at this
    exact absurd this (by simp)
  | r :: l, [], h, _, he => by
    have hr := rightG_iff.1 (canon_cons.1 h).1
    have := he r.1.toNat
    rw [show memG ([] : List (Int × Int)) r.1.toNat = false from rfl] at this
    rw [memG_iff.2 ⟨r, by simp, by omega, by omega⟩] at this
    exact absurd this (by simp)
  | r :: l, s :: l', h, h', he => by
    have hr := rightG_iff.1 (canon_cons.1 h).1
    have hs := rightG_iff.1 (canon_cons.1 h').1
    have a1 : s.1 ≤ r.1 := by
      have : memG (s :: l') r.1.toNat = true := by rw [← he]; exact memG_iff.2 ⟨r, by simp, by omega, by omega⟩
      have := canon_first h' this
      omega
    have a2 : r.1 ≤ s.1 := by
      have : memG (r :: l) s.1.toNat = true := by rw [he]; exact memG_iff.2 ⟨s, by simp, by omega, by omega⟩
      have := canon_first h this
      omega
    have b1 : r.2 ≤ s.2 := by
      apply Int.not_lt.1
      intro hlt
      have : memG (s :: l') (s.2 + 1).toNat = true := by rw [← he]; exact memG_iff.2 ⟨r, by simp, by omega, by omega⟩
      rw [memG_cons] at this
      rcases (Bool.or_eq_true _ _).mp this with x | x
      · have := hasG_iff.1 x; omega
      · have := canon_rest h' x; omega
    have b2 : s.2 ≤ r.2 := by
      apply Int.not_lt.1
      intro hlt
      have : memG (r :: l) (r.2 + 1).toNat = true := by rw [he]; exact memG_iff.2 ⟨s, by simp, by omega, by omega⟩
      rw [memG_cons] at this
      rcases (Bool.or_eq_true _ _).mp this with x | x
      · have := hasG_iff.1 x; omega
      · have := canon_rest h x; omega
    have hrs : r = s := by
      have e1 : r.1 = s.1 := by omega
      have e2 : r.2 = s.2 := by omega
      cases r; cases s; simp_all
    subst hrs
    rw [canon_ext l l' (canon_cons.1 h).2.2 (canon_cons.1 h').2.2 (fun c => by rw [canon_tail h, canon_tail h', he])]

/-- Equal sets have equal lists. -/
theorem set_eq {M M' : Nat → Bool} {l l' : List (Int × Int)} (h : SetOf M l) (h' : SetOf M' l') (he : ∀ c, 1 ≤ c → c ≤ 999 → M c = M' c) : l = l' := by
  refine canon_ext l l' h.1 h'.1 fun c => ?_
  rw [h.2, h'.2]
  by_cases h1 : 1 ≤ c
  · by_cases h2 : c ≤ 999
    · rw [he c h1 h2]
    · simp [h2]
  · simp [h1]
theorem set_self {l : List (Int × Int)} (h : Canon l) : SetOf (memG l) l := ⟨h, fun c => by
  by_cases hc : memG l c = true
  · have := canon_mem h hc
    simp [this]
  · have : memG l c = false := by simpa using hc
    simp [this]⟩
/-- The members of a set's list. -/
theorem set_mem {M : Nat → Bool} {l : List (Int × Int)} (h : SetOf M l) {c : Nat} (h1 : 1 ≤ c) (h2 : c ≤ 999) : memG l c = M c := by
  rw [h.2]; simp [h1, h2]

/-! How many channels there are. -/
def cntG (l : List (Int × Int)) : Int := (l.map fun r => r.2 - r.1 + 1).sum
def sumM (M : Nat → Bool) : Nat → Int
  | 0 => 0
  | n + 1 => sumM M n + if M n then 1 else 0
theorem sumM_congr {M M' : Nat → Bool} : ∀ n, (∀ c, c < n → M c = M' c) → sumM M n = sumM M' n
  | 0, _ => rfl
  | n + 1, h => by rw [sumM, sumM, sumM_congr n (fun c hc => h c (by omega)), h n (by omega)]
theorem sumM_or (M M' : Nat → Bool) : ∀ n, (∀ c, ¬ (M c = true ∧ M' c = true)) → sumM (fun c => M c || M' c) n = sumM M n + sumM M' n
  | 0, _ => rfl
  | n + 1, h => by
    rw [sumM, sumM, sumM, sumM_or M M' n h]
    have := h n
    cases h1 : M n <;> cases h2 : M' n <;> simp_all <;> omega
theorem sumM_add (M M' : Nat → Bool) : ∀ n, sumM (fun c => M c || M' c) n + sumM (fun c => M c && M' c) n = sumM M n + sumM M' n
  | 0 => rfl
  | n + 1 => by
    have := sumM_add M M' n
    rw [sumM, sumM, sumM, sumM]
    by_cases h1 : M n = true <;> by_cases h2 : M' n = true <;> simp [h1, h2] <;> omega
theorem sumM_has (r : Int × Int) (h0 : 0 ≤ r.1) (h1 : r.1 ≤ r.2) : ∀ n : Nat, sumM (hasG r) n = if (n : Int) ≤ r.1 then 0 else if (n : Int) ≤ r.2 then (n : Int) - r.1 else r.2 - r.1 + 1
  | 0 => by simp [sumM, h0]
  | n + 1 => by
    rw [sumM, sumM_has r h0 h1 n]
    have : (hasG r n = true) ↔ (r.1 ≤ (n : Int) ∧ (n : Int) ≤ r.2) := hasG_iff
    simp only [this]
    push_cast
    repeat' split
    all_goals omega
theorem cnt_sum : ∀ (l : List (Int × Int)), Canon l → cntG l = sumM (memG l) 1000
  | [], _ => by
    have : ∀ n, sumM (memG []) n = 0 := fun n => by
      induction n with
      | zero => rfl
      | succ n ih => rw [sumM, ih]; rfl
    rw [this]; rfl
  | r :: l, h => by
    obtain ⟨hr, ha, hl⟩ := canon_cons.1 h
    have h1 := rightG_iff.1 hr
    have e : memG (r :: l) = fun c => hasG r c || memG l c := funext fun c => memG_cons r l c
    rw [e, sumM_or _ _ _ (fun c ⟨x, y⟩ => by have := canon_rest h y; have := hasG_iff.1 x; omega), ← cnt_sum l hl, sumM_has r (by omega) (by omega), cntG, List.map_cons, List.sum_cons]
    rw [if_neg (by omega), if_neg (by omega)]
    rfl
/-- Numbers of channels add up. -/
theorem cnt_add {a b u i : List (Int × Int)} (ha : Canon a) (hb : Canon b) (hu : SetOf (fun c => memG a c || memG b c) u) (hi : SetOf (fun c => memG a c && memG b c) i) : cntG a + cntG b = cntG u + cntG i := by
  rw [cnt_sum a ha, cnt_sum b hb, cnt_sum u hu.1, cnt_sum i hi.1]
  have z : ∀ c, c < 1000 → memG u c = (memG a c || memG b c) := fun c hc => by
    rw [hu.2]
    by_cases h0 : 1 ≤ c
    · have : c ≤ 999 := by omega
      simp [h0, this]
    · obtain rfl : c = 0 := by omega
      have a0 : memG a 0 = false := by rw [Bool.eq_false_iff]; intro x; have := canon_mem ha x; omega
      have b0 : memG b 0 = false := by rw [Bool.eq_false_iff]; intro x; have := canon_mem hb x; omega
      simp [a0, b0]
  have z2 : ∀ c, c < 1000 → memG i c = (memG a c && memG b c) := fun c hc => by
    rw [hi.2]
    by_cases h0 : 1 ≤ c
    · have : c ≤ 999 := by omega
      simp [h0, this]
    · obtain rfl : c = 0 := by omega
      have a0 : memG a 0 = false := by rw [Bool.eq_false_iff]; intro x; have := canon_mem ha x; omega
      simp [a0]
  rw [sumM_congr 1000 z, sumM_congr 1000 z2, sumM_add]

/-! Channels put in, or removed. -/
def putG (b : Bool) (M : Nat → Bool) (r : Int × Int) : Nat → Bool := fun c => if hasG r c then b else M c
def putsG (b : Bool) (l : List (Int × Int)) (M : Nat → Bool) : Nat → Bool := l.foldl (putG b) M
theorem putsG_true : ∀ (l : List (Int × Int)) (M : Nat → Bool) (c : Nat), putsG true l M c = (M c || memG l c)
  | [], M, c => by simp [putsG, memG]
  | r :: l, M, c => by
    rw [putsG, List.foldl_cons, ← putsG, putsG_true l, memG_cons]
    unfold putG
    cases hasG r c <;> simp
theorem putsG_false : ∀ (l : List (Int × Int)) (M : Nat → Bool) (c : Nat), putsG false l M c = (M c && !memG l c)
  | [], M, c => by simp [putsG, memG]
  | r :: l, M, c => by
    rw [putsG, List.foldl_cons, ← putsG, putsG_false l, memG_cons]
    unfold putG
    cases hasG r c <;> simp
end Go.Proofs.YtndkpdiacabjgaaGreatDoor

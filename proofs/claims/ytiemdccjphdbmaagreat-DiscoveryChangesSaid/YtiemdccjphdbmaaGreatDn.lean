/-
  What a search of a range leaves: plain laws for right devices.
  What finding all devices leaves: plain laws.
-/
import Derived.Test.YtiemdccjphdbmaaGreatSf
import Derived.Test.YtiemdccjphdbmaaGreatAk
namespace Go.Proofs.YtiemdccjphdbmaaGreat
open Go.RowKit

/-- Right devices, and few. -/
def rightD (l : List Dev) : Bool := decide (l.length ≤ 8) && (decide (l.length ≤ 128) && l.all fun d => decide (d.lb.size ≤ 100)) && decide (devsE l = 0)
theorem rightD_spec {l : List Dev} (h : rightD l = true) : l.length ≤ 8 ∧ (∀ d ∈ l, d.lb.size ≤ 9223372036854775807) ∧ devsE l = 0 := by
  simp only [rightD, Bool.and_eq_true, decide_eq_true_eq, List.all_eq_true] at h
  exact ⟨h.1.1, fun d hd => by have := h.1.2.2 d hd; omega, h.2⟩

theorem right_ids {l : List Dev} (h : devsE l = 0) : (∀ d ∈ l, isId d.id = true) ∧ (l.map (·.id)).Nodup := by
  have := devs_few h
  refine ⟨fun d hd => isId_of_chk d (devs_chk h d hd), ?_⟩
  rw [devsE, if_neg (by omega)] at h
  exact (devs_nodup h).1
theorem fit_start {l : List Dev} {seq : Int} (h : devsE l = 0) (q0 : 0 ≤ seq) (q1 : seq ≤ 255) : Fit (startS l seq) := by
  obtain ⟨a, b⟩ := right_ids h
  exact ⟨a, b, fun d _ _ e => (by cases e), q0, q1⟩

/-- How many devices are among some identities. -/
theorem count_one {x : Int} : ∀ {ids : List Int}, ids.Nodup → x ∈ ids → (ids.filter fun y => decide (y = x)).length = 1
  | [], _, h => (by cases h)
  | a :: l, hn, h => by
    rw [List.nodup_cons] at hn
    rw [List.filter_cons]
    by_cases e : a = x
    · subst e
      have : (l.filter fun y => decide (y = a)) = [] := by
        rw [List.filter_eq_nil_iff]
        intro y hy
        simp only [decide_eq_true_eq]
        rintro rfl
        exact hn.1 hy
      rw [this]
      simp
    · have h2 : x ∈ l := by
        rcases List.mem_cons.1 h with h | h
        · exact absurd h.symm e
        · exact h
      rw [if_neg (by simpa using e)]
      exact count_one hn.2 h2
theorem count_in {ids : List Int} (hn : ids.Nodup) : ∀ {xs : List Int}, xs.Nodup → (∀ x ∈ xs, x ∈ ids) → (ids.filter fun y => decide (y ∈ xs)).length = xs.length
  | [], _, _ => by simp
  | x :: xs, h, hs => by
    rw [List.nodup_cons] at h
    have ih := count_in hn h.2 fun y hy => hs y (List.mem_cons_of_mem _ hy)
    have h1 := count_one hn (hs x (List.mem_cons_self ..))
    have key : ∀ l : List Int, (l.filter fun y => (decide (y = x) || decide (y ∈ xs))).length = (l.filter fun y => decide (y = x)).length + (l.filter fun y => decide (y ∈ xs)).length := by
      intro l
      induction l with
      | nil => rfl
      | cons a l ihl =>
        simp only [List.filter_cons]
        by_cases e : a = x
        · subst e
          simp [h.1, ihl]
          omega
        · by_cases e2 : a ∈ xs
          · simp [e, e2, ihl]
            omega
          · simp [e, e2, ihl]
    have hf : (fun y => decide (y ∈ x :: xs)) = fun y => (decide (y = x) || decide (y ∈ xs)) := by
      funext y
      simp
    rw [hf, key, ih, h1, List.length_cons]
    omega
theorem count_devs {l : List Dev} (xs : List Int) : (l.filter fun d => decide (d.id ∈ xs)).length = ((l.map (·.id)).filter fun y => decide (y ∈ xs)).length := by
  rw [List.filter_map, List.length_map]
  rfl

/-- What the search of a range leaves. -/
structure Within (l : List Dev) (low high : Int) (u : SSt) (xs : List Int) : Prop where
  devs : u.devs = mutL xs l
  found : u.found = xs
  here : ∀ x ∈ xs, low ≤ x ∧ x ≤ high ∧ ∃ d ∈ l, d.id = x
  one : xs.Nodup
  quiet : loud low high (mutL xs l) = []
  few : xs.length ≤ l.length
theorem within_all {l : List Dev} {src seq low high : Int} (hd : devsE l = 0) (hs : isId src = true) (q0 : 0 ≤ seq) (q1 : seq ≤ 255) (h1 : isId low = true) (h2 : isId high = true) (hle : low ≤ high) :
    searchE l src seq low high = 0 ∧ ∃ xs, Within l low high (searchU l src seq low high) xs := by
  have hB : beginE l src seq = 0 := by rw [beginE, if_neg (not_not_intro hd), if_neg (by rw [hs]; simp; omega)]
  have hE : searchE l src seq low high = 0 := by rw [searchE, if_neg (not_not_intro hB), if_neg (by rw [h1, h2]; simp), if_neg (by omega)]
  refine ⟨hE, ?_⟩
  have a1 := isId_nat h1
  have a2 := isId_nat h2
  have hp : (2 : Int) ^ 48 = 281474976710656 := by decide
  obtain ⟨xs, r1, r2, -⟩ := search_out hs 48 low high (startS l seq) h1 h2 hle (by omega) (fit_start hd q0 q1)
  rw [searchU, if_pos hE]
  have e1 : (searchS src 48 low high (startS l seq)).devs = mutL xs l := r1.devs
  have e2 : (searchS src 48 low high (startS l seq)).found = xs := r1.found
  refine ⟨xs, e1, e2, r1.here, r1.one, by rw [← e1]; exact r2, ?_⟩
  have hc := count_in (right_ids hd).2 r1.one fun x hx => by
    obtain ⟨-, -, d, hm, he⟩ := r1.here x hx
    exact List.mem_map.2 ⟨d, hm, he⟩
  rw [← hc]
  refine Nat.le_trans (List.length_filter_le _ _) ?_
  simp

/-- One device of those behind. -/
def behind (xs : List Int) (d : Dev) : Dev := if d.id ∈ xs then { d with mu := true } else d
theorem mutL_at {xs : List Int} {l : List Dev} {k : Nat} {d : Dev} (h : l[k]? = some d) : (mutL xs l)[k]? = some (behind xs d) := by
  unfold mutL
  rw [List.getElem?_map, h]
  rfl
theorem mutL_length (xs : List Int) (l : List Dev) : (mutL xs l).length = l.length := List.length_map _
/-- The ways of one device. -/
theorem within_one {l : List Dev} {low high : Int} {u : SSt} {xs : List Int} (hw : Within l low high u xs) {d : Dev} (hd : d ∈ l) :
    (low ≤ d.id ∧ d.id ≤ high ∧ d.id ∈ xs ∧ (behind xs d).mu = true) ∨ (low ≤ d.id ∧ d.id ≤ high ∧ d.id ∉ xs ∧ d.mu = true ∧ behind xs d = d) ∨ (¬ (low ≤ d.id ∧ d.id ≤ high) ∧ d.id ∉ xs ∧ behind xs d = d) := by
  by_cases hx : d.id ∈ xs
  · obtain ⟨a, b, -⟩ := hw.here _ hx
    exact .inl ⟨a, b, hx, by rw [behind, if_pos hx]⟩
  · have hb : behind xs d = d := by rw [behind, if_neg hx]
    by_cases hi : low ≤ d.id ∧ d.id ≤ high
    · refine .inr (.inl ⟨hi.1, hi.2, hx, ?_, hb⟩)
      have hm : behind xs d ∈ mutL xs l := List.mem_map.2 ⟨d, hd, rfl⟩
      have := (hushed_cases low high _).1 (loud_none.1 hw.quiet _ hm)
      rw [hb] at this
      rcases this with a | a
      · exact a
      · omega
    · exact .inr (.inr ⟨hi, hx, hb⟩)
theorem within_count {l : List Dev} {low high : Int} {u : SSt} {xs : List Int} (hw : Within l low high u xs) (hd : devsE l = 0) : (l.filter fun d => decide (d.id ∈ xs)).length = xs.length := by
  rw [count_devs]
  exact count_in (right_ids hd).2 hw.one fun x hx => by
    obtain ⟨-, -, d, hm, he⟩ := hw.here x hx
    exact List.mem_map.2 ⟨d, hm, he⟩
theorem count_snoc (p : Dev → Bool) (l : List Dev) (d : Dev) : ((l ++ [d]).filter p).length = (l.filter p).length + (if p d then 1 else 0) := by
  rw [List.filter_append, List.length_append, List.filter_cons]
  split <;> simp_all
end Go.Proofs.YtiemdccjphdbmaaGreat

namespace Go.Proofs.YtiemdccjphdbmaaGreat
open Go.RowKit

/-- All devices are unmuted by one order. -/
theorem unm_one {src seq : Int} (d : Dev) : (recvD d (ordM src seq 3 281474976710655)).1 = { d with mu := false } := by
  have hdf : deafD d (ordM src seq 3 281474976710655) = false := by
    unfold deafD ordM
    simp
  rw [recvD, hdf]
  simp [ordM, doneD]
theorem unm_devs (src : Int) (l : List Dev) : (unmS src l).devs = l.map fun d => { d with mu := false } := by
  show sentD l _ = _
  unfold sentD
  exact List.map_congr_left fun d _ => unm_one d
theorem unm_ids (src : Int) (l : List Dev) : (unmS src l).devs.map (·.id) = l.map (·.id) := by
  rw [unm_devs, List.map_map]
  rfl
/-- What a search of everything leaves, from a state in which no device is muted. -/
theorem loud_le (low high : Int) (l : List Dev) : (loud low high l).length ≤ l.length := List.length_filter_le _ _
structure Found (l : List Dev) (u : SSt) : Prop where
  devs : u.devs = l.map fun d => { d with mu := true }
  found : u.found.Perm (l.map (·.id))
  msgs : u.msgs ≤ 3 + 200 * l.length
theorem find_all {l : List Dev} {src : Int} (hd : devsE l = 0) (hs : isId src = true) : findE l src = 0 ∧ Found l (findU l src) := by
  have hB : beginE l src 0 = 0 := by rw [beginE, if_neg (not_not_intro hd), if_neg (by rw [hs]; simp)]
  have hE : findE l src = 0 := hB
  refine ⟨hE, ?_⟩
  obtain ⟨a, b⟩ := right_ids hd
  have hp : (2 : Int) ^ 48 = 281474976710656 := by decide
  have hq := seq_mod 0
  have hf : Fit (unmS src l) := by
    refine ⟨fun d hm => ?_, by rw [unm_ids]; exact b, fun d _ _ e => (by cases e), hq.1, hq.2⟩
    rw [unm_devs] at hm
    obtain ⟨e, he, rfl⟩ := List.mem_map.1 hm
    exact a e he
  have hF : Full (unmS src l) := by
    intro d hm hmu
    rw [unm_devs] at hm
    obtain ⟨e, he, rfl⟩ := List.mem_map.1 hm
    cases hmu
  obtain ⟨xs, r1, r2, r3⟩ := search_out hs 48 1 281474976710654 (unmS src l) all_in.1 all_in.2.1 all_in.2.2.1 all_in.2.2.2 hf
  obtain ⟨-, r4⟩ := r3 hF
  rw [findU, if_pos hE]
  have e1 : (searchS src 48 1 281474976710654 (unmS src l)).devs = mutL xs (unmS src l).devs := r1.devs
  have e2 : (searchS src 48 1 281474976710654 (unmS src l)).found = xs := r1.found
  have hin : ∀ d ∈ l, d.id ∈ xs := by
    intro d hm
    refine Decidable.byContradiction fun hx => ?_
    have h1 : behind xs { d with mu := false } ∈ (searchS src 48 1 281474976710654 (unmS src l)).devs := by
      rw [e1, unm_devs]
      exact List.mem_map.2 ⟨_, List.mem_map.2 ⟨d, hm, rfl⟩, rfl⟩
    have h2 := (hushed_cases _ _ _).1 (loud_none.1 r2 _ h1)
    have h3 : behind xs { d with mu := false } = { d with mu := false } := by rw [behind, if_neg hx]
    rw [h3] at h2
    have h4 := isId_nat (a d hm)
    rcases h2 with h2 | h2
    · cases h2
    · have h5 : ({ d with mu := false } : Dev).id = d.id := rfl
      rw [h5] at h2
      omega
  refine ⟨?_, ?_, ?_⟩
  · rw [e1, unm_devs]
    unfold mutL
    rw [List.map_map]
    refine List.map_congr_left fun d hm => ?_
    show (if d.id ∈ xs then _ else _) = _
    rw [if_pos (hin d hm)]
  · rw [e2]
    refine (List.perm_ext_iff_of_nodup r1.one b).2 fun x => ⟨fun hx => ?_, fun hx => ?_⟩
    · obtain ⟨-, -, d, hm, rfl⟩ := r1.here x hx
      rw [unm_devs] at hm
      obtain ⟨e, he, rfl⟩ := List.mem_map.1 hm
      exact List.mem_map.2 ⟨e, he, rfl⟩
    · obtain ⟨d, hm, rfl⟩ := List.mem_map.1 hx
      exact hin d hm
  · have h1 := loud_le 1 281474976710654 (unmS src l).devs
    have h2 : (unmS src l).devs.length = l.length := by rw [unm_devs, List.length_map]
    have h3 : (unmS src l).msgs = 1 := rfl
    rw [h3] at r4
    rw [h2] at h1
    refine Nat.le_trans r4 ?_
    generalize (loud 1 281474976710654 (unmS src l).devs).length = z at h1
    omega
end Go.Proofs.YtiemdccjphdbmaaGreat

/-
  What refreshing leaves, and that the order of devices does not matter: plain laws.
  The library's slices.Reverse on devices, in a row that the call owns.
  The walk of the law DiscoveryChanges.
-/
import Derived.Test.YtiemdccjphdbmaaGreatDn
import Derived.Test.YtiemdccjphdbmaaGreatKn
import Derived.Test.YtiemdccjphdbmaaGreatSf
import Derived.Test.YtiemdccjphdbmaaGreatIx
import Derived.Test.YtiemdccjphdbmaaGreatRg
import Derived.Test.YtiemdccjphdbmaaGreatRp
import Derived.Test.YtiemdccjphdbmaaGreatRk
import Derived.Test.YtiemdccjphdbmaaGreatLf
namespace Go.Proofs.YtiemdccjphdbmaaGreat
open Go.RowKit

theorem derr_zero : ∀ {l : List Dev} {seen : List Int}, (∀ d ∈ l, chkD d = 0) → (l.map (·.id)).Nodup → (∀ d ∈ l, d.id ∉ seen) → dErr seen l = 0
  | [], _, _, _, _ => rfl
  | d :: l, seen, h1, h2, h3 => by
    rw [List.map_cons, List.nodup_cons] at h2
    rw [dErr, if_neg (not_not_intro (h1 d (List.mem_cons_self ..))), if_neg (h3 d (List.mem_cons_self ..))]
    refine derr_zero (fun e he => h1 e (List.mem_cons_of_mem _ he)) h2.2 fun e he hs => ?_
    rcases List.mem_append.1 hs with hs | hs
    · exact h3 e (List.mem_cons_of_mem _ he) hs
    · rw [List.mem_singleton] at hs
      exact h2.1 (List.mem_map.2 ⟨e, he, hs⟩)
theorem devs_rev {l : List Dev} (h : devsE l = 0) : devsE l.reverse = 0 := by
  have hf := devs_few h
  rw [devsE, List.length_reverse, if_neg (by omega)]
  refine derr_zero (fun d hd => devs_chk h d (List.mem_reverse.1 hd)) ?_ fun d _ e => (by cases e)
  rw [List.map_reverse]
  exact (List.reverse_perm _).nodup_iff.2 (right_ids h).2

theorem unm_rev (src : Int) (l : List Dev) : unmS src l.reverse = revS (unmS src l) := orderS_rev src (startS l 0) 3 281474976710655
theorem mute_rev (src : Int) (s : SSt) (x : Int) : muteS src (revS s) x = revS (muteS src s x) := by
  unfold muteS
  rw [orderS_rev, orderB_rev]
  rfl
theorem refr_rev (src : Int) : ∀ (k : List Int) (s : SSt) (lost : List Int), refrS src k (revS s) lost = (revS (refrS src k s lost).1, (refrS src k s lost).2)
  | [], _, _ => rfl
  | x :: k, s, lost => by
    rw [refrS, refrS, mute_rev, orderB_rev]
    exact refr_rev src k _ _

/-- The known ones are muted, those that are not there are lost. -/
theorem refr_spec {src : Int} (hs : isId src = true) : ∀ (k : List Int) (s : SSt) (lost : List Int), 0 ≤ s.seq → s.seq ≤ 255 → (∀ x ∈ k, isId x = true) →
    (refrS src k s lost).2 = lost ++ k.filter (fun x => decide (x ∉ s.devs.map (·.id))) ∧ (refrS src k s lost).1.devs = mutL k s.devs ∧ (refrS src k s lost).1.known = s.known ++ k.filter (fun x => decide (x ∈ s.devs.map (·.id))) ∧
    (refrS src k s lost).1.found = s.found ∧ 0 ≤ (refrS src k s lost).1.seq ∧ (refrS src k s lost).1.seq ≤ 255
  | [], s, lost, q0, q1, _ => ⟨by simp [refrS], (mutL_nil _).symm, by simp [refrS], rfl, q0, q1⟩
  | x :: k, s, lost, q0, q1, hk => by
    have hx := hk x (List.mem_cons_self ..)
    have hq := seq_mod s.seq
    have hn := isId_nat hx
    have hb := mute_is hs q0 q1 hx
    have hdv : (muteS src s x).devs = mutL [x] s.devs := by
      show sentD s.devs (ordM src s.seq 2 x) = _
      rw [mute_devs (by omega), muted_one]
    have hid : (muteS src s x).devs.map (·.id) = s.devs.map (·.id) := by rw [hdv, mutL_ids]
    have hmem : (∃ d ∈ s.devs, d.id = x) ↔ x ∈ s.devs.map (·.id) := by rw [List.mem_map]
    have hkn : (muteS src s x).known = if orderB src s 2 x then s.known ++ [x] else s.known := rfl
    obtain ⟨a1, a2, a3, a4, a5, a6⟩ := refr_spec hs k (muteS src s x) (if orderB src s 2 x then lost else lost ++ [x]) hq.1 hq.2 fun y hy => hk y (List.mem_cons_of_mem _ hy)
    rw [hid] at a1 a3
    refine ⟨?_, ?_, ?_, a4, a5, a6⟩
    · rw [refrS, a1, List.filter_cons]
      by_cases h : x ∈ s.devs.map (·.id)
      · rw [if_pos (hb.2 (hmem.2 h)), if_neg (by simpa using h)]
      · rw [if_neg (fun e => h (hmem.1 (hb.1 e))), if_pos (by simpa using h), List.append_assoc]
        rfl
    · rw [refrS, a2, hdv, mutL_mutL]
      rfl
    · rw [refrS, a3, hkn, List.filter_cons]
      by_cases h : x ∈ s.devs.map (·.id)
      · rw [if_pos (hb.2 (hmem.2 h)), if_pos (by simpa using h), List.append_assoc]
        rfl
      · rw [if_neg (fun e => h (hmem.1 (hb.1 e))), if_neg (by simpa using h)]

/-- What refreshing leaves. -/
structure Changed (l : List Dev) (k : List Int) (u : SSt) (lost : List Int) : Prop where
  devs : u.devs = l.map fun d => { d with mu := true }
  found : ∀ d ∈ l, (d.id ∈ u.found ↔ d.id ∉ k)
  gone : lost = k.filter fun x => decide (x ∉ l.map (·.id))
theorem refr_changes {l : List Dev} {src : Int} {k : List Int} (hd : devsE l = 0) (hs : isId src = true) (hk : knownE k = 0) :
    refrE l src k = 0 ∧ refrE l.reverse src k = 0 ∧ Changed l k (refrU l src k) (refrL l src k) ∧ refrU l.reverse src k = revS (refrU l src k) := by
  have hB : ∀ m : List Dev, devsE m = 0 → refrE m src k = 0 := fun m hm => by
    have : beginE m src 0 = 0 := by rw [beginE, if_neg (not_not_intro hm), if_neg (by rw [hs]; simp)]
    rw [refrE, if_neg (not_not_intro this), hk]
  have hE := hB l hd
  have hE2 := hB _ (devs_rev hd)
  obtain ⟨hkl, hk0⟩ := known_few hk
  obtain ⟨hki, hkn⟩ := kn_right k [] hk0
  have hp : refrP l.reverse src k = (revS (refrP l src k).1, (refrP l src k).2) := by rw [refrP, unm_rev, refr_rev]; rfl
  refine ⟨hE, hE2, ?_, ?_⟩
  · obtain ⟨a, b⟩ := right_ids hd
    have hq := seq_mod 0
    obtain ⟨s1, s2, s3, s4, s5, s6⟩ := refr_spec hs k (unmS src l) [] hq.1 hq.2 fun x hx => (hki x hx).1
    rw [unm_ids] at s1 s3
    have hP : refrS src k (unmS src l) [] = refrP l src k := rfl
    rw [hP] at s1 s2 s3 s4 s5 s6
    rw [refrU, if_pos hE, refrL, if_pos hE]
    have hkz : (unmS src l).known = [] := rfl
    have hfz : (unmS src l).found = [] := rfl
    rw [hkz, List.nil_append] at s3
    rw [hfz] at s4
    rw [List.nil_append] at s1
    generalize refrP l src k = P at s1 s2 s3 s4 s5 s6 ⊢
    have hids : P.1.devs.map (·.id) = l.map (·.id) := by rw [s2, mutL_ids, unm_ids]
    have hf : Fit P.1 := by
      refine ⟨fun d hm => ?_, by rw [hids]; exact b, fun d hm hmu e => ?_, s5, s6⟩
      · have : d.id ∈ P.1.devs.map (·.id) := List.mem_map.2 ⟨d, hm, rfl⟩
        rw [hids, List.mem_map] at this
        obtain ⟨e, he, h⟩ := this
        rw [← h]
        exact a e he
      · rw [s4, s3, List.append_nil, List.mem_filter] at e
        rw [s2] at hm
        obtain ⟨f, hf, rfl⟩ := List.mem_map.1 hm
        have hid : (if f.id ∈ k then ({ f with mu := true } : Dev) else f).id = f.id := by split <;> rfl
        rw [hid] at e
        rw [if_pos e.1] at hmu
        cases hmu
    obtain ⟨xs, r1, r2, -⟩ := search_out hs 48 1 281474976710654 P.1 all_in.1 all_in.2.1 all_in.2.2.1 all_in.2.2.2 hf
    have e1 : (searchS src 48 1 281474976710654 P.1).devs = mutL xs (mutL k (unmS src l).devs) := by rw [r1.devs, s2]
    have e2 : (searchS src 48 1 281474976710654 P.1).found = xs := by rw [r1.found, s4, List.nil_append]
    rw [mutL_mutL] at e1
    have hin : ∀ d ∈ l, d.id ∈ k ++ xs := by
      intro d hm
      refine Decidable.byContradiction fun hx => ?_
      have h1 : behind (k ++ xs) { d with mu := false } ∈ (searchS src 48 1 281474976710654 P.1).devs := by
        rw [e1, unm_devs]
        exact List.mem_map.2 ⟨_, List.mem_map.2 ⟨d, hm, rfl⟩, rfl⟩
      have h2 := (hushed_cases _ _ _).1 (loud_none.1 r2 _ h1)
      have h3 : behind (k ++ xs) { d with mu := false } = { d with mu := false } := by rw [behind, if_neg hx]
      rw [h3] at h2
      have h4 := isId_nat (a d hm)
      rcases h2 with h2 | h2
      · cases h2
      · have h5 : ({ d with mu := false } : Dev).id = d.id := rfl
        rw [h5] at h2
        omega
    refine ⟨?_, fun d hm => ⟨fun hx hkd => ?_, fun hkd => ?_⟩, s1⟩
    · rw [e1, unm_devs]
      unfold mutL
      rw [List.map_map]
      refine List.map_congr_left fun d hm => ?_
      show (if d.id ∈ k ++ xs then _ else _) = _
      rw [if_pos (hin d hm)]
    · rw [e2] at hx
      refine r1.new _ hx ?_
      rw [s4, List.append_nil, s3, List.mem_filter]
      exact ⟨hkd, by simp only [decide_eq_true_eq]; exact List.mem_map.2 ⟨d, hm, rfl⟩⟩
    · rw [e2]
      exact (List.mem_append.1 (hin d hm)).resolve_left hkd
  · rw [refrU, if_pos hE2, refrU, if_pos hE, hp]
    exact search_rev src 48 1 281474976710654 _
end Go.Proofs.YtiemdccjphdbmaaGreat

namespace Go.Proofs.YtiemdccjphdbmaaGreat
open Go.RowKit

/-- A row in memory whose first cells are the devices of a list. -/
def DevRow (w : World) (b T c : Nat) (l : List Dev) : Prop := ∃ cur, RowAt w b T cur ∧ cur.toList.take (l.length * 7) = devsL l ∧ l.length ≤ c ∧ cur.size = c * 7
theorem devrow_lt {w : World} {b T c : Nat} {l : List Dev} (h : DevRow w b T c l) : b < w.heap.size := by
  obtain ⟨cur, hr, -⟩ := h
  exact lt_of_block hr
theorem devrow_cell {w : World} {b T c : Nat} {l : List Dev} (h : DevRow w b T c l) {k : Nat} {d : Dev} (hd : l[k]? = some d) :
    (w.cell? ⟨b, k * 7, none⟩ = some (.int .u64 d.id) ∧ w.cell? ⟨b, k * 7 + 1, none⟩ = some (.int .i64 d.ft) ∧ w.cell? ⟨b, k * 7 + 2, none⟩ = some (.int .i64 d.ad) ∧ w.cell? ⟨b, k * 7 + 3, none⟩ = some (.string d.lb) ∧ w.cell? ⟨b, k * 7 + 4, none⟩ = some (.int .i64 d.hr) ∧ w.cell? ⟨b, k * 7 + 5, none⟩ = some (.bool d.mu) ∧ w.cell? ⟨b, k * 7 + 6, none⟩ = some (.bool d.idf)) ∧ ∀ o, w.frozen? ⟨b, o, none⟩ = false := by
  obtain ⟨cur, hr, ht, hs, hc⟩ := h
  have hk : k < l.length := (List.getElem?_eq_some_iff.1 hd).1
  have hdk : l[k] = d := (List.getElem?_eq_some_iff.1 hd).2
  have key : ∀ i, i < 7 → w.cell? ⟨b, k * 7 + i, none⟩ = (devA d)[i]? := by
    intro i hi
    rw [(row_facts hr).1]
    have h1 : (cur.toList.take (l.length * 7))[k * 7 + i]? = cur.toList[k * 7 + i]? := List.getElem?_take_of_lt (by omega)
    rw [ht, devsL_get, devsC_at l k hk i hi, hdk] at h1
    simp only [Array.getElem?_toList] at h1
    exact h1.symm
  exact ⟨⟨key 0 (by decide), key 1 (by decide), key 2 (by decide), key 3 (by decide), key 4 (by decide), key 5 (by decide), key 6 (by decide)⟩, (row_facts hr).2.1⟩
theorem devsL_set (l : List Dev) (k : Nat) (d : Dev) (hk : k < l.length) : devsL (l.set k d) = ((((((((devsL l).set (k * 7) (.int .u64 d.id)).set (k * 7 + 1) (.int .i64 d.ft)).set (k * 7 + 2) (.int .i64 d.ad)).set (k * 7 + 3) (.string d.lb)).set (k * 7 + 4) (.int .i64 d.hr)).set (k * 7 + 5) (.bool d.mu)).set (k * 7 + 6) (.bool d.idf)) := by
  refine List.ext_getElem? fun j => ?_
  rw [devsL_get]
  by_cases hj : j < l.length * 7
  · have hlen := devsL_length l
    have hq : j = (j / 7) * 7 + j % 7 := by omega
    have hjl : j / 7 < l.length := by omega
    by_cases hk2 : j / 7 = k
    · have e1 : devsC (l.set k d) j = (devA d)[j % 7]? := by
        rw [hq, hk2, devsC_at _ k (by rw [List.length_set]; exact hk) _ (by omega)]
        simp [List.getElem_set_self]
      rw [e1]
      have h7 : j % 7 < 7 := by omega
      have hjk : j = k * 7 + j % 7 := by omega
      generalize j % 7 = r at h7 hjk ⊢
      subst hjk
      match r, h7 with
      | 0, _ | 1, _ | 2, _ | 3, _ | 4, _ | 5, _ | 6, _ =>
        simp [List.getElem?_set, hlen, devA]
        try omega
    · have e1 : devsC (l.set k d) j = devsC l j := by
        rw [hq, devsC_at _ _ (by rw [List.length_set]; exact hjl) _ (by omega), devsC_at _ _ hjl _ (by omega)]
        rw [List.getElem_set_ne (fun e => hk2 e.symm)]
      rw [e1, ← devsL_get]
      rw [List.getElem?_set_ne (by omega), List.getElem?_set_ne (by omega), List.getElem?_set_ne (by omega), List.getElem?_set_ne (by omega), List.getElem?_set_ne (by omega), List.getElem?_set_ne (by omega), List.getElem?_set_ne (by omega)]
  · rw [← devsL_get, List.getElem?_eq_none (by rw [devsL_length, List.length_set]; omega), List.getElem?_eq_none (by simp [devsL_length]; omega)]
theorem devrow_set {w : World} {b T c : Nat} {l : List Dev} (h : DevRow w b T c l) (k : Nat) (d : Dev) (hk : k < l.length) : DevRow (((((((w.setCell ⟨b, k * 7, none⟩ (.int .u64 d.id)).setCell ⟨b, k * 7 + 1, none⟩ (.int .i64 d.ft)).setCell ⟨b, k * 7 + 2, none⟩ (.int .i64 d.ad)).setCell ⟨b, k * 7 + 3, none⟩ (.string d.lb)).setCell ⟨b, k * 7 + 4, none⟩ (.int .i64 d.hr)).setCell ⟨b, k * 7 + 5, none⟩ (.bool d.mu)).setCell ⟨b, k * 7 + 6, none⟩ (.bool d.idf)) b T c (l.set k d) := by
  obtain ⟨cur, hr, ht, hs, hc⟩ := h
  refine ⟨_, RowAt.set (RowAt.set (RowAt.set (RowAt.set (RowAt.set (RowAt.set (RowAt.set hr rfl) rfl) rfl) rfl) rfl) rfl) rfl, ?_, by rw [List.length_set]; exact hs, by simpa using hc⟩
  rw [devsL_set l k d hk, List.length_set]
  simp only [Array.toList_setIfInBounds, List.take_set, ht]
theorem devrow_drew {w : World} {b T c : Nat} {l : List Dev} (h : DevRow w b T c l) : DevRow w.drew b T c l := h
theorem devrow_upd {b : Nat} {a w : World} (h : Upd b a w) (k : Nat) (d : Dev) : Upd b a (((((((w.setCell ⟨b, k * 7, none⟩ (.int .u64 d.id)).setCell ⟨b, k * 7 + 1, none⟩ (.int .i64 d.ft)).setCell ⟨b, k * 7 + 2, none⟩ (.int .i64 d.ad)).setCell ⟨b, k * 7 + 3, none⟩ (.string d.lb)).setCell ⟨b, k * 7 + 4, none⟩ (.int .i64 d.hr)).setCell ⟨b, k * 7 + 5, none⟩ (.bool d.mu)).setCell ⟨b, k * 7 + 6, none⟩ (.bool d.idf)) := upd_set (upd_set (upd_set (upd_set (upd_set (upd_set (upd_set h _ _) _ _) _ _) _ _) _ _) _ _) _ _

theorem int_eq {k : IntKind} {a b : Int} (h : a = b) : Value.int k a = .int k b := by rw [h]
/-- The first and the last ones are exchanged. -/
def RevTo (l m : List Dev) (i : Nat) : Prop := m.length = l.length ∧ ∀ p, p < l.length → m[p]? = if p < i ∨ l.length - 1 - i < p then l[l.length - 1 - p]? else l[p]?
theorem rev_start (l : List Dev) : RevTo l l 0 := ⟨rfl, fun p hp => by rw [if_neg (by omega)]⟩
theorem rev_end {l m : List Dev} {i : Nat} (h : RevTo l m i) (hi : l.length ≤ i + i + 1) : m = l.reverse := by
  refine List.ext_getElem? fun p => ?_
  by_cases hp : p < l.length
  · rw [h.2 p hp, List.getElem?_reverse hp]
    by_cases hc : p < i ∨ l.length - 1 - i < p
    · rw [if_pos hc]
    · rw [if_neg hc, show l.length - 1 - p = p from by omega]
  · rw [List.getElem?_eq_none (by rw [h.1]; omega), List.getElem?_eq_none (by rw [List.length_reverse]; omega)]
theorem rev_step {l m : List Dev} {i j : Nat} {d e : Dev} (h : RevTo l m i) (hij : i + j + 1 = l.length) (hlt : i < j) (hd : m[i]? = some d) (he : m[j]? = some e) : RevTo l ((m.set i e).set j d) (i + 1) := by
  have hi := h.2 i (by omega)
  have hj := h.2 j (by omega)
  rw [if_neg (by omega)] at hi hj
  refine ⟨by simp [h.1], fun p hp => ?_⟩
  have hm := h.1
  by_cases h1 : p = j
  · subst h1
    rw [List.getElem?_set_self (by simp; omega), if_pos (by omega), show l.length - 1 - p = i from by omega, ← hi, hd]
  · rw [List.getElem?_set_ne (fun e => h1 e.symm)]
    by_cases h2 : p = i
    · subst h2
      rw [List.getElem?_set_self (by omega), if_pos (by omega), show l.length - 1 - p = j from by omega, ← hj, he]
    · rw [List.getElem?_set_ne (fun e => h2 e.symm), h.2 p hp]
      by_cases h3 : p < i ∨ l.length - 1 - i < p
      · rw [if_pos h3, if_pos (by omega)]
      · rw [if_neg h3, if_neg (by omega)]

def RevPost (b T c : Nat) (l : List Dev) (w : World) (e : Ending) (w' : World) : Prop := e = .returned (.tuple #[]) ∧ Upd b w w' ∧ DevRow w' b T c l.reverse

set_option maxHeartbeats 4000000 in
set_option maxRecDepth 100000 in
theorem reverse_some (b T c cap : Nat) (l : List Dev) (w : World) (h : DevRow w b T c l) (hl : l.length ≤ 1000) :
    Calls Tryz.prog 33 #[.slice (some ⟨b, 0, none⟩) l.length cap] w (RevPost b T c l w) := by
  have H := Lib.hid h
  have hlc : (l.length : Int) ≤ 1000 := by omega
  have hl0 : (0 : Int) ≤ (l.length : Int) := by omega
  clear h
  go_enter Tryz.func33, Tryz.ntmps33
  go_wp2_with fail
  go_loopw [2, 3] (fun i j wr => ∃ (k : Nat) (m : List Dev), i = .int .i64 k ∧ j = .int .i64 ((l.length : Int) - 1 - k) ∧ k ≤ l.length ∧ RevTo l m k ∧ DevRow wr b T c m ∧ Upd b w wr) (fun i _ _ => l.length - (intOf i).toNat)
  case atStart => exact ⟨0, l, rfl, by simp, Nat.zero_le _, rev_start l, H.out, upd_refl _ _⟩
  case round =>
    obtain ⟨i, m, rfl, rfl, hi, hrv, hrow, hu⟩ := hrel
    have HRV := Lib.hid hrv
    have HROW := Lib.hid hrow
    have HU := Lib.hid hu
    by_cases hlt : i + i + 1 < l.length
    · obtain ⟨j, hj⟩ : ∃ j, i + j + 1 = l.length := ⟨l.length - 1 - i, by omega⟩
      have ej : (l.length : Int) - 1 - (i : Int) = (j : Int) := by omega
      have HEJ := Lib.hid ej
      rw [ej]
      have hij : i < j := by omega
      have hijI : (i : Int) < (j : Int) := by omega
      have hi0 : (0 : Int) ≤ (i : Int) := by omega
      have hj0 : (0 : Int) ≤ (j : Int) := by omega
      have hiI : (i : Int) < (l.length : Int) := by omega
      have hjI : (j : Int) < (l.length : Int) := by omega
      have hw1 : (0 : Int) ≤ (j : Int) - 1 := by omega
      have hml := hrv.1
      obtain ⟨d, hd⟩ : ∃ d, m[i]? = some d := ⟨_, List.getElem?_eq_getElem (by omega)⟩
      obtain ⟨e, he⟩ : ∃ e, m[j]? = some e := ⟨_, List.getElem?_eq_getElem (by omega)⟩
      obtain ⟨⟨a0, a1, a2, a3, a4, a5, a6⟩, fz⟩ := devrow_cell hrow hd
      obtain ⟨⟨b0, b1, b2, b3, b4, b5, b6⟩, -⟩ := devrow_cell hrow he
      have HDE := Lib.hid (And.intro hd he)
      have HML := Lib.hid hml
      have HIJ := Lib.hid hj
      clear hrv hrow hu hd he ej hml
      go_upto_region 3 with fail
      refine wp_region_noPanic ?_
      refine wp_region_held_drew (S := (fun _ => True)) (by kernel_rfl) trivial (fun hHeld => ?_)
      refine wpAnyH_take (i := 0) (oi := _) (v := ?_) rfl (by kernel_rfl) (by kernel_rfl) (by kernel_rfl) (fun _ _ _ h => h) (Or.inl ⟨by rfl, ?_⟩) (by assumption) ?_
      rotate_left
      · intro w' hSw
        (try dsimp only at hSw)
        go_simp
        (try with_reducible rfl)
      (try simp only [Act.put, List.setIfInBounds_toArray, List.set_cons_zero, List.set_cons_succ, List.getElem_toArray, List.getElem_cons_zero])
      refine wpAnyH_take (i := 1) (oi := _) (v := ?_) rfl (by kernel_rfl) (by kernel_rfl) (by kernel_rfl) (fun _ _ _ h => h) (Or.inl ⟨by rfl, ?_⟩) (by assumption) ?_
      rotate_left
      · intro w' hSw
        (try dsimp only at hSw)
        go_simp
        (try with_reducible rfl)
      (try simp only [Act.put, List.setIfInBounds_toArray, List.set_cons_zero, List.set_cons_succ, List.getElem_toArray, List.getElem_cons_succ, List.getElem_cons_zero])
      refine wpAnyH_take (i := 2) (oi := _) (v := ?_) rfl (by kernel_rfl) (by kernel_rfl) (by kernel_rfl) (fun _ _ _ h => h) (Or.inl ⟨by rfl, ?_⟩) (by assumption) ?_
      rotate_left
      · intro w' hSw
        (try dsimp only at hSw)
        go_simp
        (try with_reducible rfl)
      (try simp only [Act.put, List.setIfInBounds_toArray, List.set_cons_zero, List.set_cons_succ, List.getElem_toArray, List.getElem_cons_succ, List.getElem_cons_zero])
      refine wpAnyH_take (i := 3) (oi := _) (v := ?_) rfl (by kernel_rfl) (by kernel_rfl) (by kernel_rfl) (fun _ _ _ h => h) (Or.inl ⟨by rfl, ?_⟩) (by assumption) ?_
      rotate_left
      · intro w' hSw
        (try dsimp only at hSw)
        go_simp
        (try with_reducible rfl)
      (try simp only [Act.put, List.setIfInBounds_toArray, List.set_cons_zero, List.set_cons_succ, List.getElem_toArray, List.getElem_cons_succ, List.getElem_cons_zero])
      refine wpAnyH_take (i := 4) (oi := _) (v := ?_) rfl (by kernel_rfl) (by kernel_rfl) (by kernel_rfl) (fun _ _ _ h => h) (Or.inl ⟨by rfl, ?_⟩) (by assumption) ?_
      rotate_left
      · intro w' hSw
        (try dsimp only at hSw)
        go_simp
        (try with_reducible rfl)
      (try simp only [Act.put, List.setIfInBounds_toArray, List.set_cons_zero, List.set_cons_succ, List.getElem_toArray, List.getElem_cons_succ, List.getElem_cons_zero])
      refine wpAnyH_take (i := 5) (oi := _) (v := ?_) rfl (by kernel_rfl) (by kernel_rfl) (by kernel_rfl) (fun _ _ _ h => h) (Or.inl ⟨by rfl, ?_⟩) (by assumption) ?_
      rotate_left
      · intro w' hSw
        (try dsimp only at hSw)
        go_simp
        (try with_reducible rfl)
      (try simp only [Act.put, List.setIfInBounds_toArray, List.set_cons_zero, List.set_cons_succ, List.getElem_toArray, List.getElem_cons_succ, List.getElem_cons_zero])
      refine wpAnyH_take (i := 6) (oi := _) (v := ?_) rfl (by kernel_rfl) (by kernel_rfl) (by kernel_rfl) (fun _ _ _ h => h) (Or.inl ⟨by rfl, ?_⟩) (by assumption) ?_
      rotate_left
      · intro w' hSw
        (try dsimp only at hSw)
        go_simp
        (try with_reducible rfl)
      (try simp only [Act.put, List.setIfInBounds_toArray, List.set_cons_zero, List.set_cons_succ, List.getElem_toArray, List.getElem_cons_succ, List.getElem_cons_zero])
      refine wpAnyH_take (i := 8) (oi := _) (v := ?_) rfl (by kernel_rfl) (by kernel_rfl) (by kernel_rfl) (fun _ _ _ h => h) (Or.inl ⟨by rfl, ?_⟩) (by assumption) ?_
      rotate_left
      · intro w' hSw
        (try dsimp only at hSw)
        go_simp
        (try with_reducible rfl)
      (try simp only [Act.put, List.setIfInBounds_toArray, List.set_cons_zero, List.set_cons_succ, List.getElem_toArray, List.getElem_cons_succ, List.getElem_cons_zero])
      refine wpAnyH_take (i := 9) (oi := _) (v := ?_) rfl (by kernel_rfl) (by kernel_rfl) (by kernel_rfl) (fun _ _ _ h => h) (Or.inl ⟨by rfl, ?_⟩) (by assumption) ?_
      rotate_left
      · intro w' hSw
        (try dsimp only at hSw)
        go_simp
        (try with_reducible rfl)
      (try simp only [Act.put, List.setIfInBounds_toArray, List.set_cons_zero, List.set_cons_succ, List.getElem_toArray, List.getElem_cons_succ, List.getElem_cons_zero])
      refine wpAnyH_take (i := 10) (oi := _) (v := ?_) rfl (by kernel_rfl) (by kernel_rfl) (by kernel_rfl) (fun _ _ _ h => h) (Or.inl ⟨by rfl, ?_⟩) (by assumption) ?_
      rotate_left
      · intro w' hSw
        (try dsimp only at hSw)
        go_simp
        (try with_reducible rfl)
      (try simp only [Act.put, List.setIfInBounds_toArray, List.set_cons_zero, List.set_cons_succ, List.getElem_toArray, List.getElem_cons_succ, List.getElem_cons_zero])
      refine wpAnyH_ready (rs := [7, 11]) (by kernel_rfl) (by simp) ?_
      refine AllReadyH.cons (o := _) rfl (fun K hK => ?_) (AllReadyH.cons (o := _) rfl (fun K hK => ?_) (AllReadyH.nil))
      · go_simp
        refine hK.out _ _ ?_ (fun hHeld => ?_)
        · trivial
        (try simp only [Act.put, List.setIfInBounds_toArray, List.set_cons_zero, List.set_cons_succ, List.getElem_toArray, List.getElem_cons_succ, List.getElem_cons_zero])
        refine wpAnyH_ready (rs := [11]) (by kernel_rfl) (by simp) ?_
        refine AllReadyH.cons (o := _) rfl (fun K hK => ?_) (AllReadyH.nil)
        go_simp
        refine hK.out _ _ ?_ (fun hHeld => ?_)
        · trivial
        (try simp only [Act.put, List.setIfInBounds_toArray, List.set_cons_zero, List.set_cons_succ, List.getElem_toArray, List.getElem_cons_succ, List.getElem_cons_zero])
        refine wpAnyH_take (i := 12) (oi := _) (v := ?_) rfl (by kernel_rfl) (by kernel_rfl) (by kernel_rfl) (fun _ _ _ h => h) (Or.inl ⟨by rfl, ?_⟩) (by assumption) ?_
        rotate_left
        · intro w' hSw
          (try dsimp only at hSw)
          go_simp
          (try with_reducible rfl)
        (try simp only [Act.put, List.setIfInBounds_toArray, List.set_cons_zero, List.set_cons_succ, List.getElem_toArray, List.getElem_cons_succ, List.getElem_cons_zero])
        refine wpAnyH_ready (rs := [13]) (by kernel_rfl) (by simp) ?_
        refine AllReadyH.cons (o := _) rfl (fun K hK => ?_) (AllReadyH.nil)
        go_simp
        have D13 : DevRow ((((((((wr.setCell ⟨b, i * 7, none⟩ (.int .u64 e.id)).setCell ⟨b, i * 7 + 1, none⟩ (.int .i64 e.ft)).setCell ⟨b, i * 7 + 2, none⟩ (.int .i64 e.ad)).setCell ⟨b, i * 7 + 3, none⟩ (.string e.lb)).setCell ⟨b, i * 7 + 4, none⟩ (.int .i64 e.hr)).setCell ⟨b, i * 7 + 5, none⟩ (.bool e.mu)).setCell ⟨b, i * 7 + 6, none⟩ (.bool e.idf)).drew) b T c (m.set i e) := devrow_drew (devrow_set HROW.out i e (by have := HML.out; omega))
        have U13 : Upd b w ((((((((wr.setCell ⟨b, i * 7, none⟩ (.int .u64 e.id)).setCell ⟨b, i * 7 + 1, none⟩ (.int .i64 e.ft)).setCell ⟨b, i * 7 + 2, none⟩ (.int .i64 e.ad)).setCell ⟨b, i * 7 + 3, none⟩ (.string e.lb)).setCell ⟨b, i * 7 + 4, none⟩ (.int .i64 e.hr)).setCell ⟨b, i * 7 + 5, none⟩ (.bool e.mu)).setCell ⟨b, i * 7 + 6, none⟩ (.bool e.idf)).drew) := upd_drew (devrow_upd HU.out i e)
        generalize (((((((wr.setCell ⟨b, i * 7, none⟩ (.int .u64 e.id)).setCell ⟨b, i * 7 + 1, none⟩ (.int .i64 e.ft)).setCell ⟨b, i * 7 + 2, none⟩ (.int .i64 e.ad)).setCell ⟨b, i * 7 + 3, none⟩ (.string e.lb)).setCell ⟨b, i * 7 + 4, none⟩ (.int .i64 e.hr)).setCell ⟨b, i * 7 + 5, none⟩ (.bool e.mu)).setCell ⟨b, i * 7 + 6, none⟩ (.bool e.idf)).drew = w13 at D13 U13 ⊢
        have he13 : (m.set i e)[j]? = some e := (by rw [List.getElem?_set_ne (by omega)]; exact HDE.out.2)
        obtain ⟨⟨c0, c1, c2, c3, c4, c5, c6⟩, fz3⟩ := devrow_cell D13 he13
        refine hK.out _ _ ?_ (fun hHeld => ?_)
        · trivial
        (try simp only [Act.put, List.setIfInBounds_toArray, List.set_cons_zero, List.set_cons_succ, List.getElem_toArray, List.getElem_cons_succ, List.getElem_cons_zero])
        refine wpAnyH_take (i := 14) (oi := _) (v := ?_) rfl (by kernel_rfl) (by kernel_rfl) (by kernel_rfl) (fun _ _ _ h => h) (Or.inl ⟨by rfl, ?_⟩) (by assumption) ?_
        rotate_left
        · intro w' hSw
          (try dsimp only at hSw)
          go_simp
          (try with_reducible rfl)
        (try simp only [Act.put, List.setIfInBounds_toArray, List.set_cons_zero, List.set_cons_succ, List.getElem_toArray, List.getElem_cons_succ, List.getElem_cons_zero])
        refine wpAnyH_ready (rs := [15]) (by kernel_rfl) (by simp) ?_
        refine AllReadyH.cons (o := _) rfl (fun K hK => ?_) (AllReadyH.nil)
        go_simp
        have D15 : DevRow (((((((w13.setCell ⟨b, j * 7, none⟩ (.int .u64 d.id)).setCell ⟨b, j * 7 + 1, none⟩ (.int .i64 d.ft)).setCell ⟨b, j * 7 + 2, none⟩ (.int .i64 d.ad)).setCell ⟨b, j * 7 + 3, none⟩ (.string d.lb)).setCell ⟨b, j * 7 + 4, none⟩ (.int .i64 d.hr)).setCell ⟨b, j * 7 + 5, none⟩ (.bool d.mu)).setCell ⟨b, j * 7 + 6, none⟩ (.bool d.idf)) b T c ((m.set i e).set j d) := devrow_set D13 j d (by have := HML.out; rw [List.length_set]; omega)
        have U15 : Upd b w (((((((w13.setCell ⟨b, j * 7, none⟩ (.int .u64 d.id)).setCell ⟨b, j * 7 + 1, none⟩ (.int .i64 d.ft)).setCell ⟨b, j * 7 + 2, none⟩ (.int .i64 d.ad)).setCell ⟨b, j * 7 + 3, none⟩ (.string d.lb)).setCell ⟨b, j * 7 + 4, none⟩ (.int .i64 d.hr)).setCell ⟨b, j * 7 + 5, none⟩ (.bool d.mu)).setCell ⟨b, j * 7 + 6, none⟩ (.bool d.idf)) := devrow_upd U13 j d
        generalize ((((((w13.setCell ⟨b, j * 7, none⟩ (.int .u64 d.id)).setCell ⟨b, j * 7 + 1, none⟩ (.int .i64 d.ft)).setCell ⟨b, j * 7 + 2, none⟩ (.int .i64 d.ad)).setCell ⟨b, j * 7 + 3, none⟩ (.string d.lb)).setCell ⟨b, j * 7 + 4, none⟩ (.int .i64 d.hr)).setCell ⟨b, j * 7 + 5, none⟩ (.bool d.mu)).setCell ⟨b, j * 7 + 6, none⟩ (.bool d.idf) = w15 at D15 U15 ⊢
        refine hK.out _ _ ?_ (fun hHeld => ?_)
        · trivial
        (try simp only [Act.put, List.setIfInBounds_toArray, List.set_cons_zero, List.set_cons_succ, List.getElem_toArray, List.getElem_cons_succ, List.getElem_cons_zero])
        refine wpAnyH_done (by kernel_rfl) ?_ _
        refine NoPanic.normal ?_
        (try go_simp)
        have HD15 := Lib.hid D15
        have HU15 := Lib.hid U15
        clear D13 U13 D15 U15 c0 c1 c2 c3 c4 c5 c6 fz3 he13
        go_wp2_with fail
        go_roundw
        case rel => exact ⟨i + 1, (m.set i e).set j d, by go_num, int_eq (by have := HEJ.out; omega), by omega, rev_step HRV.out HIJ.out hij HDE.out.1 HDE.out.2, HD15.out, HU15.out⟩
        case measure => simp [intOf]; omega
      · go_simp
        refine hK.out _ _ ?_ (fun hHeld => ?_)
        · trivial
        (try simp only [Act.put, List.setIfInBounds_toArray, List.set_cons_zero, List.set_cons_succ, List.getElem_toArray, List.getElem_cons_succ, List.getElem_cons_zero])
        refine wpAnyH_ready (rs := [7]) (by kernel_rfl) (by simp) ?_
        refine AllReadyH.cons (o := _) rfl (fun K hK => ?_) (AllReadyH.nil)
        go_simp
        refine hK.out _ _ ?_ (fun hHeld => ?_)
        · trivial
        (try simp only [Act.put, List.setIfInBounds_toArray, List.set_cons_zero, List.set_cons_succ, List.getElem_toArray, List.getElem_cons_succ, List.getElem_cons_zero])
        refine wpAnyH_take (i := 12) (oi := _) (v := ?_) rfl (by kernel_rfl) (by kernel_rfl) (by kernel_rfl) (fun _ _ _ h => h) (Or.inl ⟨by rfl, ?_⟩) (by assumption) ?_
        rotate_left
        · intro w' hSw
          (try dsimp only at hSw)
          go_simp
          (try with_reducible rfl)
        (try simp only [Act.put, List.setIfInBounds_toArray, List.set_cons_zero, List.set_cons_succ, List.getElem_toArray, List.getElem_cons_succ, List.getElem_cons_zero])
        refine wpAnyH_ready (rs := [13]) (by kernel_rfl) (by simp) ?_
        refine AllReadyH.cons (o := _) rfl (fun K hK => ?_) (AllReadyH.nil)
        go_simp
        have D13 : DevRow ((((((((wr.setCell ⟨b, i * 7, none⟩ (.int .u64 e.id)).setCell ⟨b, i * 7 + 1, none⟩ (.int .i64 e.ft)).setCell ⟨b, i * 7 + 2, none⟩ (.int .i64 e.ad)).setCell ⟨b, i * 7 + 3, none⟩ (.string e.lb)).setCell ⟨b, i * 7 + 4, none⟩ (.int .i64 e.hr)).setCell ⟨b, i * 7 + 5, none⟩ (.bool e.mu)).setCell ⟨b, i * 7 + 6, none⟩ (.bool e.idf)).drew) b T c (m.set i e) := devrow_drew (devrow_set HROW.out i e (by have := HML.out; omega))
        have U13 : Upd b w ((((((((wr.setCell ⟨b, i * 7, none⟩ (.int .u64 e.id)).setCell ⟨b, i * 7 + 1, none⟩ (.int .i64 e.ft)).setCell ⟨b, i * 7 + 2, none⟩ (.int .i64 e.ad)).setCell ⟨b, i * 7 + 3, none⟩ (.string e.lb)).setCell ⟨b, i * 7 + 4, none⟩ (.int .i64 e.hr)).setCell ⟨b, i * 7 + 5, none⟩ (.bool e.mu)).setCell ⟨b, i * 7 + 6, none⟩ (.bool e.idf)).drew) := upd_drew (devrow_upd HU.out i e)
        generalize (((((((wr.setCell ⟨b, i * 7, none⟩ (.int .u64 e.id)).setCell ⟨b, i * 7 + 1, none⟩ (.int .i64 e.ft)).setCell ⟨b, i * 7 + 2, none⟩ (.int .i64 e.ad)).setCell ⟨b, i * 7 + 3, none⟩ (.string e.lb)).setCell ⟨b, i * 7 + 4, none⟩ (.int .i64 e.hr)).setCell ⟨b, i * 7 + 5, none⟩ (.bool e.mu)).setCell ⟨b, i * 7 + 6, none⟩ (.bool e.idf)).drew = w13 at D13 U13 ⊢
        have he13 : (m.set i e)[j]? = some e := (by rw [List.getElem?_set_ne (by omega)]; exact HDE.out.2)
        obtain ⟨⟨c0, c1, c2, c3, c4, c5, c6⟩, fz3⟩ := devrow_cell D13 he13
        refine hK.out _ _ ?_ (fun hHeld => ?_)
        · trivial
        (try simp only [Act.put, List.setIfInBounds_toArray, List.set_cons_zero, List.set_cons_succ, List.getElem_toArray, List.getElem_cons_succ, List.getElem_cons_zero])
        refine wpAnyH_take (i := 14) (oi := _) (v := ?_) rfl (by kernel_rfl) (by kernel_rfl) (by kernel_rfl) (fun _ _ _ h => h) (Or.inl ⟨by rfl, ?_⟩) (by assumption) ?_
        rotate_left
        · intro w' hSw
          (try dsimp only at hSw)
          go_simp
          (try with_reducible rfl)
        (try simp only [Act.put, List.setIfInBounds_toArray, List.set_cons_zero, List.set_cons_succ, List.getElem_toArray, List.getElem_cons_succ, List.getElem_cons_zero])
        refine wpAnyH_ready (rs := [15]) (by kernel_rfl) (by simp) ?_
        refine AllReadyH.cons (o := _) rfl (fun K hK => ?_) (AllReadyH.nil)
        go_simp
        have D15 : DevRow (((((((w13.setCell ⟨b, j * 7, none⟩ (.int .u64 d.id)).setCell ⟨b, j * 7 + 1, none⟩ (.int .i64 d.ft)).setCell ⟨b, j * 7 + 2, none⟩ (.int .i64 d.ad)).setCell ⟨b, j * 7 + 3, none⟩ (.string d.lb)).setCell ⟨b, j * 7 + 4, none⟩ (.int .i64 d.hr)).setCell ⟨b, j * 7 + 5, none⟩ (.bool d.mu)).setCell ⟨b, j * 7 + 6, none⟩ (.bool d.idf)) b T c ((m.set i e).set j d) := devrow_set D13 j d (by have := HML.out; rw [List.length_set]; omega)
        have U15 : Upd b w (((((((w13.setCell ⟨b, j * 7, none⟩ (.int .u64 d.id)).setCell ⟨b, j * 7 + 1, none⟩ (.int .i64 d.ft)).setCell ⟨b, j * 7 + 2, none⟩ (.int .i64 d.ad)).setCell ⟨b, j * 7 + 3, none⟩ (.string d.lb)).setCell ⟨b, j * 7 + 4, none⟩ (.int .i64 d.hr)).setCell ⟨b, j * 7 + 5, none⟩ (.bool d.mu)).setCell ⟨b, j * 7 + 6, none⟩ (.bool d.idf)) := devrow_upd U13 j d
        generalize ((((((w13.setCell ⟨b, j * 7, none⟩ (.int .u64 d.id)).setCell ⟨b, j * 7 + 1, none⟩ (.int .i64 d.ft)).setCell ⟨b, j * 7 + 2, none⟩ (.int .i64 d.ad)).setCell ⟨b, j * 7 + 3, none⟩ (.string d.lb)).setCell ⟨b, j * 7 + 4, none⟩ (.int .i64 d.hr)).setCell ⟨b, j * 7 + 5, none⟩ (.bool d.mu)).setCell ⟨b, j * 7 + 6, none⟩ (.bool d.idf) = w15 at D15 U15 ⊢
        refine hK.out _ _ ?_ (fun hHeld => ?_)
        · trivial
        (try simp only [Act.put, List.setIfInBounds_toArray, List.set_cons_zero, List.set_cons_succ, List.getElem_toArray, List.getElem_cons_succ, List.getElem_cons_zero])
        refine wpAnyH_done (by kernel_rfl) ?_ _
        refine NoPanic.normal ?_
        (try go_simp)
        have HD15 := Lib.hid D15
        have HU15 := Lib.hid U15
        clear D13 U13 D15 U15 c0 c1 c2 c3 c4 c5 c6 fz3 he13
        go_wp2_with fail
        go_roundw
        case rel => exact ⟨i + 1, (m.set i e).set j d, by go_num, int_eq (by have := HEJ.out; omega), by omega, rev_step HRV.out HIJ.out hij HDE.out.1 HDE.out.2, HD15.out, HU15.out⟩
        case measure => simp [intOf]; omega
    · have hn : ¬ (i : Int) < (l.length : Int) - 1 - i := by omega
      have hi0 : (0 : Int) ≤ (i : Int) := by omega
      clear hrv hrow hu
      go_wp2
      exact bodyPost_ret (v := .tuple #[]) (by simp [results, Tryz.results33, go_sem]) rfl ⟨rfl, HU.out, by rw [← rev_end HRV.out (by omega)]; exact HROW.out⟩
end Go.Proofs.YtiemdccjphdbmaaGreat

namespace Go.Proofs.YtiemdccjphdbmaaGreat
open Go.RowKit

theorem known_is (n : Int) (v : Value) (k : List Int) (w : World) (hv : IdsAt w v k) (hcap : CapOk v) (h : knownE k = n) :
    Calls Tryz.prog 31 #[v] w fun e w' => e = .returned (.int .i64 n) ∧ Below w.heap.size w w' := by
  have := rknown_any v k w hv hcap
  rw [h] at this
  exact this
theorem contains_is (p : Bool) (v : Value) (l : List Int) (x : Int) (w : World) (hv : IdsAt w v l) (h : decide (x ∈ l) = p) :
    Calls Tryz.prog 34 #[v, .int .u64 x] w fun e w' => e = .returned (.bool p) ∧ Below w.heap.size w w' := by
  have := contains_ids v l x w hv
  rw [h] at this
  exact this
/-- Devices that a call owns, as a row. -/
theorem own_devrow {w : World} {B T n cap : Nat} {a : Addr} {l : List Dev} (h : w.ownsRow B T 7 (.slice (some a) n cap) l.length (devsL l)) : n = l.length ∧ a = ⟨a.block, 0, none⟩ ∧ B ≤ a.block ∧ DevRow w a.block T cap l ∧ n ≤ cap ∧ cap ≤ maxLen := by
  rcases h.2 with ⟨hv, _⟩ | ⟨g, cap', cur, hv, hb, hg, hnc, hcm, hcs, ht⟩
  · cases hv
  · cases hv
    exact ⟨rfl, rfl, hb, ⟨cur, hg, ht, hnc, by omega⟩, hnc, hcm⟩
theorem devrow_devs {w : World} {T g cap n : Nat} {l : List Dev} (h : DevRow w g T cap l) (hn : n = l.length) (hl : l.length ≤ 1000) : DevsAt w (.slice (some ⟨g, 0, none⟩) n cap) l := by
  subst hn
  by_cases h0 : l.length = 0
  · exact .inl ⟨h0, _, _, by rw [h0]⟩
  · refine .inr ⟨by omega, by omega, g, 0, cap, rfl, devrow_lt h, fun j hj => ?_⟩
    obtain ⟨cur, hr, ht, hs, hc⟩ := h
    rw [Nat.zero_add, (row_facts hr).1, ← devsL_get, ← ht, List.getElem?_take_of_lt hj, Array.getElem?_toList]
theorem nought_devs (w : World) : Calls Tryz.prog 33 #[.slice none 0 0] w (Nought w) := by
  go_enter Tryz.func33, Tryz.ntmps33
  go_wp2_with fail
  refine wp_loop_rounds 1 ?_
  rw [rounds_succ]
  go_wp2
  exact bodyPost_ret (v := .tuple #[]) (by simp [results, Tryz.results33, go_sem]) rfl ⟨rfl, rfl⟩
/-- A copy is turned round. -/
theorem reverse_own (B n : Nat) (v : Value) (l : List Dev) (w : World) (h : w.ownsRow B 66 7 v n (devsL l)) (hn : n = l.length) (hl : l.length ≤ 1000) :
    Calls Tryz.prog 33 #[v] w fun e w' => e = .returned (.tuple #[]) ∧ Below B w w' ∧ DevsAt w' v l.reverse := by
  subst hn
  rcases h.2 with ⟨rfl, hn⟩ | ⟨g, cap, cur, rfl, _⟩
  · have hl0 : l = [] := List.eq_nil_of_length_eq_zero hn
    subst hl0
    exact (nought_devs w).mono fun e w' ⟨he, hw⟩ => by subst hw; exact ⟨he, Below.refl _ _, .inl ⟨rfl, _, _, rfl⟩⟩
  · obtain ⟨-, -, hb, hr, hc, hm⟩ := own_devrow h
    refine (reverse_some g 66 cap cap l w hr hl).mono fun e w' ⟨he, hu, h1⟩ => ⟨he, ⟨hu.os, hu.tape, hu.output, hu.size, fun k hk => hu.block k (Nat.lt_of_lt_of_le (Nat.lt_of_lt_of_le hk hb) (Nat.le_of_lt (devrow_lt hr))) (by simp; omega)⟩, devrow_devs h1 (by simp) (by simpa using hl)⟩

set_option maxHeartbeats 8000000 in
set_option maxRecDepth 100000 in
theorem law_changes (v vk : Value) (l : List Dev) (k : List Int) (src : Int) (w : World) (hv : DevsAt w v l) (hk : IdsAt w vk k) (hr : l.length * 56 ≤ 140737488351232) (hcap : CapOk vk) :
    Calls Tryz.prog 7 #[v, .int .u64 src, vk] w fun e w' => e = .returned (.bool true) ∧ Below w.heap.size w w' := by
  obtain ⟨q1, h1⟩ : ∃ q, rightD l = q := ⟨_, rfl⟩
  have hln : ∀ a m c, vk = .slice a m c → m = k.length := by
    rintro a m c rfl
    rcases hk with ⟨h0, _, _, e⟩ | ⟨_, _, _, _, _, e, _⟩ <;> cases e <;> omega
  have hlv : ∀ a m c, v = .slice a m c → m = l.length := by
    rintro a m c rfl
    rcases hv with ⟨h0, _, _, e⟩ | ⟨_, _, _, _, _, e, _⟩ <;> cases e <;> omega
  obtain ⟨ka, kk, kc, rfl⟩ := slice_of hk
  obtain rfl := hln _ _ _ rfl
  obtain ⟨sa, sk, sc, rfl⟩ := slice_of hv
  obtain rfl := hlv _ _ _ rfl
  have H1 := Lib.hid h1
  have HV := Lib.hid hv
  have HK := Lib.hid hk
  have HCAP := Lib.hid hcap
  clear hv hk h1 hln hlv hcap
  go_enter Tryz.func7, Tryz.ntmps7
  go_wp2_with fail
  refine (lright_any q1 _ l _ HV.out hr H1.out).mono ?_
  rintro e w2 ⟨rfl, hb2⟩
  have HB2 := Lib.hid hb2
  clear hb2
  cases q1 with
  | false =>
    go_wp2_with fail
    refine (awake48_any _).mono ?_
    rintro e w9 ⟨rfl, hb9⟩
    go_wp2
    go_ret
    exact ⟨rfl, below_run HB2.out hb9⟩
  | true =>
  obtain ⟨q2, h2⟩ : ∃ q, isId src = q := ⟨_, rfl⟩
  have C2 := Lib.hid (Is_is q2 src h2)
  have H2 := Lib.hid h2
  clear h2
  go_wp2_with fail
  refine (C2.out _).mono ?_
  rintro e w3 ⟨rfl, rfl⟩
  cases q2 with
  | false =>
    go_wp2_with fail
    refine (awake48_any _).mono ?_
    rintro e w9 ⟨rfl, hb9⟩
    go_wp2
    go_ret
    exact ⟨rfl, below_run HB2.out hb9⟩
  | true =>
  by_cases g8 : 8 < k.length
  · have g8' : (8 : Int) < (k.length : Int) := by omega
    clear g8
    go_wp2_with fail
    refine (awake48_any _).mono ?_
    rintro e w9 ⟨rfl, hb9⟩
    go_wp2
    go_ret
    exact ⟨rfl, below_run HB2.out hb9⟩
  have g8' : ¬ (8 : Int) < (k.length : Int) := by omega
  obtain ⟨n, hn⟩ : ∃ n, knownE k = n := ⟨_, rfl⟩
  have CK := Lib.hid (known_is n _ k w2 (HK.out.run HB2.out) HCAP.out hn)
  have HN := Lib.hid hn
  clear hn g8
  go_wp2_with fail
  refine CK.out.mono ?_
  rintro e w3 ⟨rfl, hb3⟩
  have HB3 := Lib.hid (below_run HB2.out hb3)
  clear hb3 HB2 CK C2
  by_cases hn0 : n = 0
  case neg =>
    have e9 : (n != 0) = true := by simpa using hn0
    have HB2 := HB3
    clear hn0
    go_wp2_with fail
    refine (awake48_any _).mono ?_
    rintro e w9 ⟨rfl, hb9⟩
    go_wp2
    go_ret
    exact ⟨rfl, below_run HB2.out hb9⟩
  subst hn0
  obtain ⟨r1, r2, r3⟩ := rightD_spec H1.out
  obtain ⟨hE, hE2, hC, hR⟩ := refr_changes (k := k) r3 H2.out HN.out
  have CP0 := fun W (h : DevsAt W (.slice sa l.length sc) l) (hk : IdsAt W (.slice ka k.length kc) k) => refresh_any (.slice sa l.length sc) _ l k src W h hk HCAP.out
  have CQ0 := fun V W (h : DevsAt W V l.reverse) (hk : IdsAt W (.slice ka k.length kc) k) => refresh_any V _ l.reverse k src W h hk HCAP.out
  obtain ⟨u, hu⟩ : ∃ u, refrU l src k = u := ⟨_, rfl⟩
  obtain ⟨ls, hls⟩ : ∃ u, refrL l src k = u := ⟨_, rfl⟩
  obtain ⟨ls2, hls2⟩ : ∃ u, refrL l.reverse src k = u := ⟨_, rfl⟩
  obtain ⟨N, hN⟩ : ∃ N, IntKind.i64.wrap (u.msgs : Int) = N := ⟨_, rfl⟩
  have hrf : (revS u).found = u.found := rfl
  have hrm : (revS u).msgs = u.msgs := rfl
  unfold RefrPost at CP0 CQ0
  rw [hu] at hR hC
  rw [hE, hu, hls, hN] at CP0
  rw [hE2, hR, hls2, hrf, hrm, hN] at CQ0
  rw [hls] at hC
  rw [hC.devs] at CP0
  have hl8 : (l.length : Int) ≤ 8 := by omega
  have hl0 : (0 : Int) ≤ (l.length : Int) := by omega
  have hk0 : (0 : Int) ≤ (k.length : Int) := by omega
  have hk8 : (k.length : Int) ≤ 8 := by omega
  have CP := Lib.hid CP0
  have CQ := Lib.hid CQ0
  have HC := Lib.hid hC
  clear CP0 CQ0 hE hE2 hC hR hu hls hls2 hN hrf hrm r2 r3
  go_wp2_with fail
  refine (CP.out _ (HV.out.run HB3.out) (HK.out.run HB3.out)).mono ?_
  rintro e w4 ⟨v4, vf4, vl4, rfl, hd4, hi4, hlo4, hb4⟩
  obtain ⟨fa, fn, fc, rfl⟩ := slice_of hi4
  have hln4 : ∀ a m c, v4 = .slice a m c → m = l.length := by
    rintro a m c rfl
    have : (l.map fun d => ({ d with mu := true } : Dev)).length = l.length := List.length_map _
    rcases hd4 with ⟨h0, _, _, e⟩ | ⟨_, _, _, _, _, e, _⟩ <;> cases e <;> omega
  have hlnl : ∀ a m c, vl4 = .slice a m c → m = ls.length := by
    rintro a m c rfl
    rcases hlo4 with ⟨h0, _, _, e⟩ | ⟨_, _, _, _, _, e, _⟩ <;> cases e <;> omega
  obtain ⟨ya, yn, yc, rfl⟩ := slice_of hd4
  obtain rfl := hln4 _ _ _ rfl
  obtain ⟨la, ln, lc, rfl⟩ := slice_of hlo4
  obtain rfl := hlnl _ _ _ rfl
  have hbw := below_run HB3.out hb4
  go_upto_region 4 with fail
  have hbb : Below w4.heap.size w4 (w4.alloc (.cells #[.slice fa fn fc, .int .i64 N] 32)) := (Below.refl _ _).alloc (Nat.le_refl _) _
  have rF : RowAt (w4.alloc (.cells #[.slice fa fn fc, .int .i64 N] 32)) w4.heap.size 32 #[.slice fa fn fc, .int .i64 N] := RowAt.new _ _ _
  have kD := hd4.run hbb
  have kI := hi4.run hbb
  have kL := hlo4.run hbb
  have kB := below_run hbw hbb
  have hk1 := hbw.size
  generalize (w4.alloc (.cells #[.slice fa fn fc, .int .i64 N] 32)) = x at rF kD kI kL kB ⊢
  generalize w4.heap.size = k1 at rF hk1 ⊢
  have RF := Lib.hid rF
  have KD := Lib.hid kD
  have KI := Lib.hid kI
  have KL := Lib.hid kL
  have KB := Lib.hid kB
  clear hbb rF kD kI kL kB hd4 hi4 hlo4 hb4 hbw HB3 hln4 hlnl
  go_wp2_with fail
  refine (clone_devs _ l _ (HV.out.run KB.out) (by omega)).mono ?_
  rintro e w5 ⟨v5, rfl, ho5, hb5⟩
  have CR := Lib.hid (reverse_own _ _ v5 l w5 ho5 rfl (by omega))
  obtain ⟨xa, xn, xc, rfl⟩ := own_slice ho5
  have HB5 := Lib.hid hb5
  clear ho5 hb5
  go_wp2_with fail
  refine CR.out.mono ?_
  rintro e w6 ⟨rfl, hb6, hd6⟩
  have hx6 := HB5.out.trans hb6
  have HX6 := Lib.hid hx6
  have HD6 := Lib.hid hd6
  have HB6 := Lib.hid (below_run KB.out hx6)
  clear hb6 hd6 hx6 CR HB5
  go_wp2_with fail
  refine (CQ.out _ _ HD6.out (HK.out.run HB6.out)).mono ?_
  rintro e w7 ⟨v7, vf7, vl7, rfl, -, hi7, -, hb7⟩
  obtain ⟨ga, gn, gc, rfl⟩ := slice_of hi7
  have hx7 := below_run HX6.out hb7
  go_upto_region 7 with fail
  have R7 : RowAt (w7.alloc (.cells #[.slice ga gn gc, .int .i64 N] 32)) w7.heap.size 32 #[.slice ga gn gc, .int .i64 N] ∧ Below x.heap.size x (w7.alloc (.cells #[.slice ga gn gc, .int .i64 N] 32)) ∧ IdsAt (w7.alloc (.cells #[.slice ga gn gc, .int .i64 N] 32)) (.slice ga gn gc) u.found :=
    ⟨RowAt.new _ _ _, hx7.alloc hx7.size _, hi7.run ((Below.refl _ _).alloc (Nat.le_refl _) _)⟩
  generalize (w7.alloc (.cells #[.slice ga gn gc, .int .i64 N] 32)) = x7 at R7 ⊢
  generalize w7.heap.size = k2 at R7 ⊢
  obtain ⟨r7, b7, i7⟩ := R7
  have rF := RF.out.run b7
  obtain ⟨x1, x2, x3, x4, x5, x6⟩ := row_facts rF
  obtain ⟨y1, y2, y3, y4, y5, y6⟩ := row_facts r7
  have HB7 := Lib.hid b7
  have HI7 := Lib.hid i7
  have R7 := Lib.hid r7
  have z3 : (N != N) = false := by simp
  clear r7 b7 i7 rF hi7 hb7 hx7 HX6 HD6 HB6
  go_wp2_with fail
  refine (equal_same _ _ u.found _ (KI.out.run HB7.out) HI7.out).mono ?_
  rintro e w8 ⟨rfl, hb8⟩
  have hx8 := below_run HB7.out hb8
  have rF := RF.out.run hx8
  have rG := R7.out.run hb8
  obtain ⟨c1, c2, c3, c4, c5, c6⟩ := row_facts rF
  obtain ⟨d1, d2, d3, d4, d5, d6⟩ := row_facts rG
  have HB8 := Lib.hid hx8
  clear x1 x2 x3 x4 x5 x6 y1 y2 y3 y4 y5 y6 rF rG hb8 hx8 HB7 HI7 R7
  go_wp2_with fail
  go_loopw [16, 17, 90] (fun _ _ i wr => ∃ j : Nat, j ≤ l.length ∧ i = .int .i64 j ∧ Below x.heap.size x wr) (fun _ _ i _ => l.length - (intOf i).toNat)
  case atStart => exact ⟨0, Nat.zero_le _, rfl, HB8.out⟩
  case round =>
    obtain ⟨j, hj, rfl, hbr⟩ := hrel
    clear c1 c2 c3 c4 c5 c6 d1 d2 d3 d4 d5 d6
    have hbwr := below_run KB.out hbr
    by_cases hlt2 : j < l.length
    · have hlt3 : (j : Int) < (l.length : Int) := by omega
      have hj0 : (0 : Int) ≤ (j : Int) := by omega
      rcases HV.out.run hbwr with ⟨h0, _⟩ | ⟨h0, h1, b, off, cap, hvv, hlt, hcel⟩
      · omega
      cases hvv
      obtain ⟨d, hd, e0, e1, e2, e3, e4, e5, e6⟩ := dev_cells hcel j hlt2
      have hms : (l.map fun d => ({ d with mu := true } : Dev)).length = l.length := List.length_map _
      rcases KD.out.run hbr with ⟨h0', _⟩ | ⟨h0', h1', b2, off2, cap2, hvv2, hltb, hcel2⟩
      · omega
      obtain ⟨rfl, -, rfl⟩ : ya = some ⟨b2, off2, none⟩ ∧ l.length = (l.map fun d => ({ d with mu := true } : Dev)).length ∧ yc = cap2 := by injection hvv2 with e1 e2 e3; exact ⟨e1, e2, e3⟩
      clear hvv2
      obtain ⟨dd, hd2, f0, f1, f2, f3, f4, f5, f6⟩ := dev_cells hcel2 j (by omega)
      rw [List.getElem?_map, hd] at hd2
      obtain rfl : dd = { d with mu := true } := (Option.some.inj hd2).symm
      have hmem := List.mem_of_getElem? hd
      have hfk := HC.out.found d hmem
      have hgone : d.id ∉ ls := by
        rw [HC.out.gone, List.mem_filter]
        rintro ⟨-, e⟩
        simp only [decide_eq_true_eq] at e
        exact e (List.mem_map.2 ⟨d, hmem, rfl⟩)
      obtain ⟨p, hp⟩ : ∃ p, decide (d.id ∈ k) = p := ⟨_, rfl⟩
      have hp1 : decide (d.id ∈ u.found) = !p := by
        rw [← hp]
        by_cases h : d.id ∈ k
        · rw [decide_eq_true h, decide_eq_false (fun e => hfk.1 e h)]; rfl
        · rw [decide_eq_false h, decide_eq_true (hfk.2 h)]; rfl
      have HBR := Lib.hid hbr
      have HP := Lib.hid (And.intro hp (And.intro hp1 hgone))
      have HF5 := Lib.hid f5
      clear hcel hcel2 hms hd2 hd hmem hfk hgone hp hp1 f0 f1 f2 f3 f4 f5 f6 hbr hbwr
      go_upto_region 12 with fail
      have R10 : RowAt (wr.alloc (.cells #[.int .u64 d.id, .int .i64 d.ft, .int .i64 d.ad, .string d.lb, .int .i64 d.hr, .bool d.mu, .bool d.idf] 66)) wr.heap.size 66 #[.int .u64 d.id, .int .i64 d.ft, .int .i64 d.ad, .string d.lb, .int .i64 d.hr, .bool d.mu, .bool d.idf] ∧ Below x.heap.size x (wr.alloc (.cells #[.int .u64 d.id, .int .i64 d.ft, .int .i64 d.ad, .string d.lb, .int .i64 d.hr, .bool d.mu, .bool d.idf] 66)) := ⟨RowAt.new _ _ _, HBR.out.alloc HBR.out.size _⟩
      have f5' : (wr.alloc (.cells #[.int .u64 d.id, .int .i64 d.ft, .int .i64 d.ad, .string d.lb, .int .i64 d.hr, .bool d.mu, .bool d.idf] 66)).cell? ⟨b2, off2 + j * 7 + 5, none⟩ = some (.bool true) := (((Below.refl wr.heap.size wr).alloc (Nat.le_refl _) _).cell (p := ⟨b2, _, none⟩) hltb).trans HF5.out
      have hltb' : b2 < (wr.alloc (.cells #[.int .u64 d.id, .int .i64 d.ft, .int .i64 d.ad, .string d.lb, .int .i64 d.hr, .bool d.mu, .bool d.idf] 66)).heap.size := by simp; omega
      generalize (wr.alloc (.cells #[.int .u64 d.id, .int .i64 d.ft, .int .i64 d.ad, .string d.lb, .int .i64 d.hr, .bool d.mu, .bool d.idf] 66)) = w10 at R10 f5' hltb' ⊢
      generalize wr.heap.size = g10 at R10 ⊢
      have HB10 := Lib.hid R10.2
      have HKR := Lib.hid (HK.out.run (below_run KB.out R10.2))
      have C1 := Lib.hid (fun W (h : Below w10.heap.size w10 W) => contains_is (!p) (.slice fa fn fc) u.found d.id W ((KI.out.run HB10.out).run h) HP.out.2.1)
      have C2 := Lib.hid (fun W (h : Below w10.heap.size w10 W) => contains_is p (.slice ka k.length kc) k d.id W (HKR.out.run h) HP.out.1)
      have C3 := Lib.hid (fun W (h : Below w10.heap.size w10 W) => contains_is false (.slice la ls.length lc) ls d.id W ((KL.out.run HB10.out).run h) (decide_eq_false HP.out.2.2))
      have hcells : ∀ W, Below w10.heap.size w10 W → W.cell? ⟨g10, 0, none⟩ = some (.int .u64 d.id) ∧ W.cell? ⟨k1, 0, none⟩ = some (.slice fa fn fc) ∧ W.cell? ⟨b2, off2 + j * 7 + 5, none⟩ = some (.bool true) :=
        fun W h => ⟨cell_fact (R10.1.run h) 0, cell_fact ((RF.out.run HB10.out).run h) 0, (h.cell (p := ⟨b2, _, none⟩) hltb').trans f5'⟩
      have HCL := HC
      have HC := Lib.hid hcells
      have hpx : ((!p) == p) = false := by cases p <;> rfl
      clear R10 f5' hltb' hcells e0 e1 e2 e3 e4 e5 e6
      refine wp_region_noPanic ?_
      refine wp_region_held_drew (S := (fun w' => Below w10.heap.size w10 w')) (by kernel_rfl) ((Below.refl _ _).drew) (fun hHeld => ?_)
      refine wpAnyH_take (i := 0) (oi := _) (v := ?_) rfl (by kernel_rfl) (by kernel_rfl) (by kernel_rfl) (fun _ _ _ h => h) (Or.inl ⟨by rfl, ?_⟩) (by assumption) ?_
      rotate_left
      · intro w' hSw
        (try dsimp only at hSw)
        obtain ⟨c0, c1, c2⟩ := HC.out w' hSw
        go_simp
        (try with_reducible rfl)
      (try simp only [Act.put, List.setIfInBounds_toArray, List.set_cons_zero, List.set_cons_succ, List.getElem_toArray, List.getElem_cons_zero])
      refine wpAnyH_take (i := 1) (oi := _) (v := ?_) rfl (by kernel_rfl) (by kernel_rfl) (by kernel_rfl) (fun _ _ _ h => h) (Or.inl ⟨by rfl, ?_⟩) (by assumption) ?_
      rotate_left
      · intro w' hSw
        (try dsimp only at hSw)
        obtain ⟨c0, c1, c2⟩ := HC.out w' hSw
        go_simp
        (try with_reducible rfl)
      (try simp only [Act.put, List.setIfInBounds_toArray, List.set_cons_zero, List.set_cons_succ, List.getElem_toArray, List.getElem_cons_succ, List.getElem_cons_zero])
      refine wpAnyH_take (i := 2) (oi := _) (v := ?_) rfl (by kernel_rfl) (by kernel_rfl) (by kernel_rfl) (fun _ _ _ h => h) (Or.inl ⟨by rfl, ?_⟩) (by assumption) ?_
      rotate_left
      · intro w' hSw
        (try dsimp only at hSw)
        obtain ⟨c0, c1, c2⟩ := HC.out w' hSw
        go_simp
        (try with_reducible rfl)
      (try simp only [Act.put, List.setIfInBounds_toArray, List.set_cons_zero, List.set_cons_succ, List.getElem_toArray, List.getElem_cons_succ, List.getElem_cons_zero])
      refine wpAnyH_take (i := 3) (oi := _) (v := ?_) rfl (by kernel_rfl) (by kernel_rfl) (by kernel_rfl) (fun _ _ _ h => h) (Or.inl ⟨by rfl, ?_⟩) (by assumption) ?_
      rotate_left
      · intro w' hSw
        (try dsimp only at hSw)
        obtain ⟨c0, c1, c2⟩ := HC.out w' hSw
        go_simp
        (try with_reducible rfl)
      (try simp only [Act.put, List.setIfInBounds_toArray, List.set_cons_zero, List.set_cons_succ, List.getElem_toArray, List.getElem_cons_succ, List.getElem_cons_zero])
      refine wpAnyH_take (i := 4) (oi := _) (v := ?_) rfl (by kernel_rfl) (by kernel_rfl) (by kernel_rfl) (fun _ _ _ h => h) (Or.inl ⟨by rfl, ?_⟩) (by assumption) ?_
      rotate_left
      · intro w' hSw
        (try dsimp only at hSw)
        obtain ⟨c0, c1, c2⟩ := HC.out w' hSw
        go_simp
        (try with_reducible rfl)
      (try simp only [Act.put, List.setIfInBounds_toArray, List.set_cons_zero, List.set_cons_succ, List.getElem_toArray, List.getElem_cons_succ, List.getElem_cons_zero])
      refine wpAnyH_take (i := 5) (oi := _) (v := ?_) rfl (by kernel_rfl) (by kernel_rfl) (by kernel_rfl) (fun _ _ _ h => h) (Or.inl ⟨by rfl, ?_⟩) (by assumption) ?_
      rotate_left
      · intro w' hSw
        (try dsimp only at hSw)
        obtain ⟨c0, c1, c2⟩ := HC.out w' hSw
        go_simp
        (try with_reducible rfl)
      (try simp only [Act.put, List.setIfInBounds_toArray, List.set_cons_zero, List.set_cons_succ, List.getElem_toArray, List.getElem_cons_succ, List.getElem_cons_zero])
      refine wpAnyH_take (i := 6) (oi := _) (v := ?_) rfl (by kernel_rfl) (by kernel_rfl) (by kernel_rfl) (fun _ _ _ h => h) (Or.inl ⟨by rfl, ?_⟩) (by assumption) ?_
      rotate_left
      · intro w' hSw
        (try dsimp only at hSw)
        obtain ⟨c0, c1, c2⟩ := HC.out w' hSw
        go_simp
        (try with_reducible rfl)
      (try simp only [Act.put, List.setIfInBounds_toArray, List.set_cons_zero, List.set_cons_succ, List.getElem_toArray, List.getElem_cons_succ, List.getElem_cons_zero])
      refine wpAnyH_take (i := 7) (oi := _) (v := ?_) rfl (by kernel_rfl) (by kernel_rfl) (by kernel_rfl) (fun _ _ _ h => h) (Or.inl ⟨by rfl, ?_⟩) (by assumption) ?_
      rotate_left
      · intro w' hSw
        (try dsimp only at hSw)
        obtain ⟨c0, c1, c2⟩ := HC.out w' hSw
        go_simp
        (try with_reducible rfl)
      (try simp only [Act.put, List.setIfInBounds_toArray, List.set_cons_zero, List.set_cons_succ, List.getElem_toArray, List.getElem_cons_succ, List.getElem_cons_zero])
      refine wpAnyH_take (i := 8) (oi := _) (v := ?_) rfl (by kernel_rfl) (by kernel_rfl) (by kernel_rfl) (fun _ _ _ h => h) (Or.inl ⟨by rfl, ?_⟩) (by assumption) ?_
      rotate_left
      · intro w' hSw
        (try dsimp only at hSw)
        obtain ⟨c0, c1, c2⟩ := HC.out w' hSw
        go_simp
        (try with_reducible rfl)
      (try simp only [Act.put, List.setIfInBounds_toArray, List.set_cons_zero, List.set_cons_succ, List.getElem_toArray, List.getElem_cons_succ, List.getElem_cons_zero])
      refine wpAnyH_take (i := 9) (oi := _) (v := ?_) rfl (by kernel_rfl) (by kernel_rfl) (by kernel_rfl) (fun _ _ _ h => h) (Or.inl ⟨by rfl, ?_⟩) (by assumption) ?_
      rotate_left
      · intro w' hSw
        (try dsimp only at hSw)
        obtain ⟨c0, c1, c2⟩ := HC.out w' hSw
        go_simp
        (try with_reducible rfl)
      (try simp only [Act.put, List.setIfInBounds_toArray, List.set_cons_zero, List.set_cons_succ, List.getElem_toArray, List.getElem_cons_succ, List.getElem_cons_zero])
      refine wpAnyH_take (i := 10) (oi := _) (v := ?_) rfl (by kernel_rfl) (by kernel_rfl) (by kernel_rfl) (fun _ _ _ h => h) (Or.inl ⟨by rfl, ?_⟩) (by assumption) ?_
      rotate_left
      · intro w' hSw
        (try dsimp only at hSw)
        obtain ⟨c0, c1, c2⟩ := HC.out w' hSw
        go_simp
        (try with_reducible rfl)
      (try simp only [Act.put, List.setIfInBounds_toArray, List.set_cons_zero, List.set_cons_succ, List.getElem_toArray, List.getElem_cons_succ, List.getElem_cons_zero])
      refine wpAnyH_take (i := 12) (oi := _) (v := ?_) rfl (by kernel_rfl) (by kernel_rfl) (by kernel_rfl) (fun _ _ _ h => h) (Or.inl ⟨by rfl, ?_⟩) (by assumption) ?_
      rotate_left
      · intro w' hSw
        (try dsimp only at hSw)
        obtain ⟨c0, c1, c2⟩ := HC.out w' hSw
        go_simp
        (try with_reducible rfl)
      (try simp only [Act.put, List.setIfInBounds_toArray, List.set_cons_zero, List.set_cons_succ, List.getElem_toArray, List.getElem_cons_succ, List.getElem_cons_zero])
      refine wpAnyH_take (i := 13) (oi := _) (v := ?_) rfl (by kernel_rfl) (by kernel_rfl) (by kernel_rfl) (fun _ _ _ h => h) (Or.inl ⟨by rfl, ?_⟩) (by assumption) ?_
      rotate_left
      · intro w' hSw
        (try dsimp only at hSw)
        obtain ⟨c0, c1, c2⟩ := HC.out w' hSw
        go_simp
        (try with_reducible rfl)
      (try simp only [Act.put, List.setIfInBounds_toArray, List.set_cons_zero, List.set_cons_succ, List.getElem_toArray, List.getElem_cons_succ, List.getElem_cons_zero])
      refine wpAnyH_take (i := 14) (oi := _) (v := ?_) rfl (by kernel_rfl) (by kernel_rfl) (by kernel_rfl) (fun _ _ _ h => h) (Or.inl ⟨by rfl, ?_⟩) (by assumption) ?_
      rotate_left
      · intro w' hSw
        (try dsimp only at hSw)
        obtain ⟨c0, c1, c2⟩ := HC.out w' hSw
        go_simp
        (try with_reducible rfl)
      (try simp only [Act.put, List.setIfInBounds_toArray, List.set_cons_zero, List.set_cons_succ, List.getElem_toArray, List.getElem_cons_succ, List.getElem_cons_zero])
      refine wpAnyH_ready (rs := [11]) (by kernel_rfl) (by simp) ?_
      refine AllReadyH.cons (o := _) rfl (fun K hK => ?_) (AllReadyH.nil)
      go_simp
      (go_at_call 34; with_reducible refine (C1.out _ hHeld).mono ?_; rintro e w12 ⟨rfl, hb12⟩)
      refine hK.out _ _ (hHeld.trans (hb12.mono hHeld.size)) (fun hHeld => ?_)
      (try simp only [Act.put, List.setIfInBounds_toArray, List.set_cons_zero, List.set_cons_succ, List.getElem_toArray, List.getElem_cons_succ, List.getElem_cons_zero])
      refine wpAnyH_ready (rs := [15]) (by kernel_rfl) (by simp) ?_
      refine AllReadyH.cons (o := _) rfl (fun K hK => ?_) (AllReadyH.nil)
      go_simp
      (go_at_call 34; with_reducible refine (C2.out _ hHeld).mono ?_; rintro e w13 ⟨rfl, hb13⟩)
      refine hK.out _ _ (hHeld.trans (hb13.mono hHeld.size)) (fun hHeld => ?_)
      (try simp only [Act.put, List.setIfInBounds_toArray, List.set_cons_zero, List.set_cons_succ, List.getElem_toArray, List.getElem_cons_succ, List.getElem_cons_zero])
      refine wpAnyH_take (i := 16) (oi := _) (v := ?_) rfl (by kernel_rfl) (by kernel_rfl) (by kernel_rfl) (fun _ _ _ h => h) (Or.inl ⟨by rfl, ?_⟩) (by assumption) ?_
      rotate_left
      · intro w' hSw
        (try dsimp only at hSw)
        obtain ⟨c0, c1, c2⟩ := HC.out w' hSw
        go_simp
        (try with_reducible rfl)
      (try simp only [Act.put, List.setIfInBounds_toArray, List.set_cons_zero, List.set_cons_succ, List.getElem_toArray, List.getElem_cons_succ, List.getElem_cons_zero])
      refine wpAnyH_take (i := 17) (oi := _) (v := ?_) rfl (by kernel_rfl) (by kernel_rfl) (by kernel_rfl) (fun _ _ _ h => h) (Or.inl ⟨by rfl, ?_⟩) (by assumption) ?_
      rotate_left
      · intro w' hSw
        (try dsimp only at hSw)
        obtain ⟨c0, c1, c2⟩ := HC.out w' hSw
        go_simp
        (try with_reducible rfl)
      (try simp only [Act.put, List.setIfInBounds_toArray, List.set_cons_zero, List.set_cons_succ, List.getElem_toArray, List.getElem_cons_succ, List.getElem_cons_zero])
      refine wpAnyH_take (i := 18) (oi := _) (v := ?_) rfl (by kernel_rfl) (by kernel_rfl) (by kernel_rfl) (fun _ _ _ h => h) (Or.inl ⟨by rfl, ?_⟩) (by assumption) ?_
      rotate_left
      · intro w' hSw
        (try dsimp only at hSw)
        obtain ⟨c0, c1, c2⟩ := HC.out w' hSw
        go_simp
        (try with_reducible rfl)
      (try simp only [Act.put, List.setIfInBounds_toArray, List.set_cons_zero, List.set_cons_succ, List.getElem_toArray, List.getElem_cons_succ, List.getElem_cons_zero])
      refine wpAnyH_take (i := 19) (oi := _) (v := ?_) rfl (by kernel_rfl) (by kernel_rfl) (by kernel_rfl) (fun _ _ _ h => h) (Or.inl ⟨by rfl, ?_⟩) (by assumption) ?_
      rotate_left
      · intro w' hSw
        (try dsimp only at hSw)
        obtain ⟨c0, c1, c2⟩ := HC.out w' hSw
        go_simp
        (try with_reducible rfl)
      (try simp only [Act.put, List.setIfInBounds_toArray, List.set_cons_zero, List.set_cons_succ, List.getElem_toArray, List.getElem_cons_succ, List.getElem_cons_zero])
      refine wpAnyH_take (i := 20) (oi := _) (v := ?_) rfl (by kernel_rfl) (by kernel_rfl) (by kernel_rfl) (fun _ _ _ h => h) (Or.inl ⟨by rfl, ?_⟩) (by assumption) ?_
      rotate_left
      · intro w' hSw
        (try dsimp only at hSw)
        obtain ⟨c0, c1, c2⟩ := HC.out w' hSw
        go_simp
        (try with_reducible rfl)
      (try simp only [Act.put, List.setIfInBounds_toArray, List.set_cons_zero, List.set_cons_succ, List.getElem_toArray, List.getElem_cons_succ, List.getElem_cons_zero])
      refine wpAnyH_take (i := 21) (oi := _) (v := ?_) rfl (by kernel_rfl) (by kernel_rfl) (by kernel_rfl) (fun _ _ _ h => h) (Or.inl ⟨by rfl, ?_⟩) (by assumption) ?_
      rotate_left
      · intro w' hSw
        (try dsimp only at hSw)
        obtain ⟨c0, c1, c2⟩ := HC.out w' hSw
        go_simp
        (try with_reducible rfl)
      (try simp only [Act.put, List.setIfInBounds_toArray, List.set_cons_zero, List.set_cons_succ, List.getElem_toArray, List.getElem_cons_succ, List.getElem_cons_zero])
      refine wpAnyH_ready (rs := [22]) (by kernel_rfl) (by simp) ?_
      refine AllReadyH.cons (o := _) rfl (fun K hK => ?_) (AllReadyH.nil)
      go_simp
      (go_at_call 34; with_reducible refine (C3.out _ hHeld).mono ?_; rintro e w14 ⟨rfl, hb14⟩)
      refine hK.out _ _ (hHeld.trans (hb14.mono hHeld.size)) (fun hHeld => ?_)
      (try simp only [Act.put, List.setIfInBounds_toArray, List.set_cons_zero, List.set_cons_succ, List.getElem_toArray, List.getElem_cons_succ, List.getElem_cons_zero])
      refine wpAnyH_take (i := 23) (oi := _) (v := ?_) rfl (by kernel_rfl) (by kernel_rfl) (by kernel_rfl) (fun _ _ _ h => h) (Or.inl ⟨by rfl, ?_⟩) (by assumption) ?_
      rotate_left
      · intro w' hSw
        (try dsimp only at hSw)
        obtain ⟨c0, c1, c2⟩ := HC.out w' hSw
        go_simp
        (try with_reducible rfl)
      (try simp only [Act.put, List.setIfInBounds_toArray, List.set_cons_zero, List.set_cons_succ, List.getElem_toArray, List.getElem_cons_succ, List.getElem_cons_zero])
      refine wpAnyH_done (by kernel_rfl) ?_ _
      refine NoPanic.normal ?_
      have HB14 := Lib.hid (HB10.out.trans (hHeld.mono HB10.out.size))
      clear hb12 hb13 hb14 hHeld
      (try go_simp)
      go_wp2_with fail
      go_roundw
      case rel => exact ⟨j + 1, by omega, by go_num, HB14.out⟩
      case measure => simp [intOf]; omega
    · obtain rfl : j = l.length := by omega
      have HB9 := Lib.hid hbr
      clear hbr hbwr
      rename World => wh
      go_wp2_with fail
      go_loopw [18, 20, 122] (fun cnt _ i wr => ∃ j : Nat, j ≤ k.length ∧ i = .int .i64 j ∧ cnt = .int .i64 ((k.take j).filter fun x => decide (x ∉ l.map (·.id))).length ∧ Below x.heap.size x wr) (fun _ _ i _ => k.length - (intOf i).toNat)
      case atStart => exact ⟨0, Nat.zero_le _, rfl, rfl, HB9.out⟩
      case round =>
        obtain ⟨j, hj, rfl, rfl, hbr⟩ := hrel
        have hbwr := below_run KB.out hbr
        by_cases hlt2 : j < k.length
        · have hlt3 : (j : Int) < (k.length : Int) := by omega
          have hj0 : (0 : Int) ≤ (j : Int) := by omega
          rcases HK.out.run hbwr with ⟨h0, _⟩ | ⟨h0, h1, b, off, cap, hvv, hlt, hcel⟩
          · omega
          cases hvv
          obtain ⟨y, hy, e0⟩ := id_cell hcel j hlt2
          have HT := Lib.hid (take_succ_some hy)
          have hcl : ((k.take j).filter fun x => decide (x ∉ l.map (·.id))).length ≤ 8 := Nat.le_trans (List.length_filter_le _ _) (by simp; omega)
          have hcc : ((k.take (j + 1)).filter fun x => decide (x ∉ l.map (·.id))).length = ((k.take j).filter fun x => decide (x ∉ l.map (·.id))).length + (if y ∉ l.map (·.id) then 1 else 0) := by
            rw [HT.out, List.filter_append, List.length_append, List.filter_cons]
            split <;> simp_all
          obtain ⟨c, hc⟩ : ∃ c, ((k.take j).filter fun x => decide (x ∉ l.map (·.id))).length = c := ⟨_, rfl⟩
          rw [hc] at hcc hcl ⊢
          have HCC := Lib.hid hcc
          have hc0 : (0 : Int) ≤ (c : Int) := by omega
          have hc8 : (c : Int) ≤ 8 := by omega
          have HBR := Lib.hid hbr
          have HVR := Lib.hid (HV.out.run hbwr)
          clear hcel hy hcc hc hbr hbwr hcl
          go_wp2_with fail
          refine (lids_any _ l _ HVR.out (by omega)).mono ?_
          rintro e w11 ⟨v11, m11, rfl, hm11, hi11, hb11⟩
          obtain ⟨p, hp⟩ : ∃ p, decide (y ∈ m11) = p := ⟨_, rfl⟩
          have hpl : decide (y ∈ l.map (·.id)) = p := by
            rw [← hp]
            exact decide_eq_decide.2 hm11.1.mem_iff.symm
          have HPL := Lib.hid hpl
          have CC := Lib.hid (contains_is p _ m11 y w11 hi11 hp)
          have HB11 := Lib.hid (below_run HBR.out hb11)
          clear hm11 hi11 hb11 hp hpl e0
          go_wp2_with fail
          refine CC.out.mono ?_
          rintro e w12 ⟨rfl, hb12⟩
          have HB12 := Lib.hid (below_run HB11.out hb12)
          clear hb12
          cases p with
          | true =>
            have hcE : ((k.take (j + 1)).filter fun x => decide (x ∉ l.map (·.id))).length = c := by rw [HCC.out, if_neg (not_not_intro (of_decide_eq_true HPL.out))]; rfl
            go_wp2_with fail
            go_roundw
            case rel => exact ⟨j + 1, by omega, by go_num, by first | (rw [hcE]; done) | (rw [hcE]; go_num), HB12.out⟩
            case measure => simp [intOf]; omega
          | false =>
            have hcE : ((k.take (j + 1)).filter fun x => decide (x ∉ l.map (·.id))).length = c + 1 := by rw [HCC.out, if_pos (of_decide_eq_false HPL.out)]
            go_wp2_with fail
            go_roundw
            case rel => exact ⟨j + 1, by omega, by go_num, by first | (rw [hcE]; done) | (rw [hcE]; go_num), HB12.out⟩
            case measure => simp [intOf]; omega
        · obtain rfl : j = k.length := by omega
          rw [List.take_length, ← HC.out.gone]
          have z5 : ((ls.length : Int) == (ls.length : Int)) = true := by simp
          have HBE := Lib.hid (below_run KB.out hbr)
          clear hbr hbwr
          go_wp2_with fail
          refine (awake48_any _).mono ?_
          rintro e w9 ⟨rfl, hb9⟩
          go_wp2
          go_ret
          exact ⟨rfl, below_run HBE.out hb9⟩
end Go.Proofs.YtiemdccjphdbmaaGreat

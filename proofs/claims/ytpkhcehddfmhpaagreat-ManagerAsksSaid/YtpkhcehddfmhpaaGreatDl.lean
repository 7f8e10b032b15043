/-
  Discovery as plain functions: what is heard, and how a range is searched. No program in sight.
  What a search finds: plain laws on devices, messages and answers.
  What a search finds: one message that seeks, and what follows. Plain laws.
  What a whole search finds, and how many messages it sends. Plain laws.
-/
import Derived.Test.YtpkhcehddfmhpaaGreatSent
import Derived.Test.YtpkhcehddfmhpaaGreatPl46
import Derived.Test.YtpkhcehddfmhpaaGreatRreqM
namespace Go.Proofs.YtpkhcehddfmhpaaGreat

/-- What is heard behind a message that seeks devices: nothing (0), one identity (1), several (2). -/
def heardX (m x : Msg) : Int × Int :=
  if matchesM m x = false ∨ x.kind ≠ 6 ∨ x.dat.size ≠ 6 then (2, 0)
  else if (numOf x.dat.data.toList : Int) ≠ x.src ∨ x.src < lowM m ∨ highM m < x.src then (2, 0) else (1, x.src)
def hearM (m : Msg) (l : List Msg) : Int × Int :=
  if l = [] then (0, 0)
  else if (decM (overL (l.map madeL))).2 ≠ 0 then (2, 0)
  else heardX m (decM (overL (l.map madeL))).1

/-- A search that goes on. -/
structure SSt where
  devs : List Dev
  seq : Int
  found : List Int
  known : List Int
  msgs : Nat

/-- The state behind a message. -/
def sendS (s : SSt) (m : Msg) : SSt := { s with devs := sentD s.devs m, seq := (s.seq + 1) % 256, msgs := s.msgs + 1 }
/-- The order of a kind to a device. -/
def ordM (src seq kind id : Int) : Msg := ⟨id, src, seq, kind, 0, ⟨#[]⟩⟩
/-- An order is sent: is there an answer that matches it? -/
def orderB (src : Int) (s : SSt) (kind id : Int) : Bool := (sentA s.devs (ordM src s.seq kind id)).any (matchesM (ordM src s.seq kind id))
def orderS (src : Int) (s : SSt) (kind id : Int) : SSt := sendS s (ordM src s.seq kind id)
/-- One message that seeks; then whether it goes on, and whether nothing is there. -/
def againS (src low high : Int) (s : SSt) : SSt × Bool × Bool :=
  let m := discM src s.seq low high
  let h := hearM m (sentA s.devs m)
  let s1 := sendS s m
  if h.1 = 0 then (s1, false, true)
  else if h.1 ≠ 1 ∨ h.2 ∈ s1.known ++ s1.found then (s1, false, false)
  else if orderB src s1 2 h.2 then ({ orderS src s1 2 h.2 with found := s1.found ++ [h.2] }, true, false)
  else (orderS src s1 2 h.2, false, false)
/-- Messages until nothing more is found. -/
def roundS (src low high : Int) : Nat → SSt → SSt × Bool
  | 0, s => (s, true)
  | f + 1, s => if (againS src low high s).2.1 then roundS src low high f (againS src low high s).1 else ((againS src low high s).1, (againS src low high s).2.2)
/-- How many identities of devices are not known yet. -/
def freeS (s : SSt) : Nat := (s.devs.filter fun d => decide (d.id ∉ s.known ++ s.found)).length
def middle (low high : Int) : Int := low + (high - low) / 2
/-- A range is searched. -/
def searchS (src : Int) : Nat → Int → Int → SSt → SSt
  | 0, low, high, s => (roundS src low high (freeS s + 1) s).1
  | d + 1, low, high, s =>
    if (roundS src low high (freeS s + 1) s).2 = true ∨ low = high then (roundS src low high (freeS s + 1) s).1
    else searchS src d (middle low high + 1) high (searchS src d low (middle low high) (roundS src low high (freeS s + 1) s).1)

/-! ### Who answers -/
theorem recv_id (d : Dev) (m : Msg) : (recvD d m).1.id = d.id := by
  unfold recvD doneD
  repeat' split
  all_goals first | rfl | simp [put_id]
theorem sent_ids (l : List Dev) (m : Msg) : (sentD l m).map (·.id) = l.map (·.id) := by
  simp only [sentD, List.map_map]
  exact List.map_congr_left fun d _ => recv_id d m
theorem send_free (s : SSt) (m : Msg) : freeS (sendS s m) = freeS s := by
  unfold freeS sendS sentD
  rw [List.filter_map, List.length_map]
  congr 2
  funext d
  simp [recv_id]

/-- The answer to an order comes from the device that it is for. -/
theorem order_some {src : Int} {s : SSt} {kind id : Int} (h : orderB src s kind id = true) (hk : kind ≠ 1) : ∃ d ∈ s.devs, d.id = id := by
  unfold orderB at h
  rw [List.any_eq_true] at h
  obtain ⟨a, ha, -⟩ := h
  unfold sentA at ha
  rw [List.mem_filterMap] at ha
  obtain ⟨d, hd, hq⟩ := ha
  refine ⟨d, hd, ?_⟩
  split at hq
  · rename_i hr
    refine Decidable.byContradiction fun hne => ?_
    have hne2 : ¬ id = d.id := fun e => hne e.symm
    by_cases hi : id = 281474976710655
    · simp only [recvD, ordM, hk, if_false, hi, if_true] at hr
      split at hr <;> cases hr
    · have hdf : deafD d (ordM src s.seq kind id) = true := by
        exact decide_eq_true (.inl ⟨hne2, hi⟩)
      rw [recvD, if_pos hdf] at hr
      cases hr
  · cases hq

theorem free_le (l : List Dev) (k : List Int) (x : Int) : (l.filter fun d => decide (d.id ∉ k ++ [x])).length ≤ (l.filter fun d => decide (d.id ∉ k)).length := by
  induction l with
  | nil => exact Nat.le_refl _
  | cons b l ih =>
    rw [List.filter_cons, List.filter_cons]
    by_cases h1 : b.id ∈ k
    · rw [if_neg (by simp [h1]), if_neg (by simp [h1])]
      exact ih
    · by_cases h2 : b.id = x
      · rw [if_neg (by simp [h2]), if_pos (by simp [h1]), List.length_cons]
        omega
      · rw [if_pos (by simp [h1, h2]), if_pos (by simp [h1]), List.length_cons, List.length_cons]
        omega
theorem free_less {l : List Dev} {k : List Int} {x : Int} (h : ∃ d ∈ l, d.id = x) (hx : x ∉ k) :
    (l.filter fun d => decide (d.id ∉ k ++ [x])).length < (l.filter fun d => decide (d.id ∉ k)).length := by
  induction l with
  | nil => obtain ⟨d, hd, -⟩ := h; cases hd
  | cons a l ih =>
    have hle := free_le l k x
    rw [List.filter_cons, List.filter_cons]
    by_cases ha : a.id = x
    · have h1 : a.id ∉ k := by rw [ha]; exact hx
      rw [if_neg (by simp [ha]), if_pos (by simp [h1]), List.length_cons]
      omega
    · have h2 : ∃ d ∈ l, d.id = x := by
        obtain ⟨d, hd, e⟩ := h
        rcases List.mem_cons.1 hd with rfl | hd
        · exact absurd e ha
        · exact ⟨d, hd, e⟩
      have := ih h2
      by_cases h1 : a.id ∈ k
      · rw [if_neg (by simp [h1]), if_neg (by simp [h1])]
        exact this
      · rw [if_pos (by simp [h1, ha]), if_pos (by simp [h1]), List.length_cons, List.length_cons]
        omega

theorem free_found {s : SSt} {x : Int} (h : ∃ d ∈ s.devs, d.id = x) (hx : x ∉ s.known ++ s.found) : freeS { s with found := s.found ++ [x] } < freeS s := by
  have := free_less h hx
  unfold freeS
  simp only [← List.append_assoc]
  exact this

/-- Each time that it goes on one more identity is known. -/
theorem again_less {src low high : Int} {s : SSt} (h : (againS src low high s).2.1 = true) : freeS (againS src low high s).1 < freeS s := by
  obtain ⟨hr, hhr⟩ : ∃ hr, hearM (discM src s.seq low high) (sentA s.devs (discM src s.seq low high)) = hr := ⟨_, rfl⟩
  obtain ⟨s1, hs1⟩ : ∃ s1, sendS s (discM src s.seq low high) = s1 := ⟨_, rfl⟩
  have hf : freeS s1 = freeS s := by rw [← hs1, send_free]
  unfold againS at h ⊢
  simp only [hhr, hs1] at h ⊢
  by_cases h0 : hr.1 = 0
  · simp [h0] at h
  · by_cases h1 : hr.1 ≠ 1 ∨ hr.2 ∈ s1.known ++ s1.found
    · rw [if_neg h0, if_pos h1] at h
      cases h
    · by_cases h2 : orderB src s1 2 hr.2 = true
      · rw [if_neg h0, if_neg h1, if_pos h2]
        have hx : hr.2 ∉ s1.known ++ s1.found := fun e => h1 (.inr e)
        rw [← hf, ← send_free s1 (ordM src s1.seq 2 hr.2)]
        refine free_found (s := orderS src s1 2 hr.2) ?_ hx
        obtain ⟨d, hd, e⟩ := order_some h2 (by decide)
        have hm : hr.2 ∈ (sentD s1.devs (ordM src s1.seq 2 hr.2)).map (·.id) := by
          rw [sent_ids, List.mem_map]
          exact ⟨d, hd, e⟩
        rw [List.mem_map] at hm
        exact hm
      · rw [if_neg h0, if_neg h1, if_neg h2] at h
        cases h

/-- More rounds than are needed change nothing. -/
theorem round_more {src low high : Int} : ∀ (f g : Nat) (s : SSt), freeS s < f → freeS s < g → roundS src low high f s = roundS src low high g s
  | 0, _, _, h, _ => absurd h (Nat.not_lt_zero _)
  | _, 0, _, _, h => absurd h (Nat.not_lt_zero _)
  | f + 1, g + 1, s, hf, hg => by
    rw [roundS, roundS]
    split
    · rename_i h
      have := again_less h
      exact round_more f g _ (by omega) (by omega)
    · rfl
end Go.Proofs.YtpkhcehddfmhpaaGreat

namespace Go.Proofs.YtpkhcehddfmhpaaGreat

theorem isId_nat {n : Int} (h : isId n = true) : 0 < n ∧ n < 281474976710655 := by simpa [isId] using h

theorem disc_dat {src seq low high : Int} (h1 : isId low = true) (h2 : isId high = true) : discM src seq low high = ⟨281474976710655, src, seq, 1, 0, bytesB low 6 ++ bytesB high 6⟩ := by
  rw [discM, h1, h2]
  rfl
theorem disc_low {src seq low high : Int} (h1 : isId low = true) (h2 : isId high = true) : lowM (discM src seq low high) = low := by
  have := isId_nat h1
  rw [disc_dat h1 h2, lowM, take_part, numOf_bytes (by omega) (by omega)]
theorem disc_high {src seq low high : Int} (h1 : isId low = true) (h2 : isId high = true) : highM (discM src seq low high) = high := by
  have := isId_nat h2
  rw [disc_dat h1 h2, highM, drop_part, numOf_bytes (by omega) (by omega)]
theorem disc_size {src seq low high : Int} (h1 : isId low = true) (h2 : isId high = true) : (discM src seq low high).dat.size = 12 := by
  rw [disc_dat h1 h2]
  simp [bytesB_size]
theorem disc_chk {src seq low high : Int} (hs : isId src = true) (q0 : 0 ≤ seq) (q1 : seq ≤ 255) (h1 : isId low = true) (h2 : isId high = true) (hle : low ≤ high) : chk (discM src seq low high) = 0 := by
  have a := disc_low (src := src) (seq := seq) h1 h2
  have b := disc_high (src := src) (seq := seq) h1 h2
  have c := disc_size (src := src) (seq := seq) h1 h2
  have d := disc_dat (src := src) (seq := seq) h1 h2
  unfold lowM at a
  unfold highM at b
  have e1 : (discM src seq low high).dst = 281474976710655 := by rw [d]
  have e2 : (discM src seq low high).src = src := by rw [d]
  have e3 : (discM src seq low high).seq = seq := by rw [d]
  have e4 : (discM src seq low high).kind = 1 := by rw [d]
  have e5 : (discM src seq low high).par = 0 := by rw [d]
  unfold chk
  rw [e1, e2, e3, e4, e5, a, b, c, hs, h1, h2]
  simp [lenOf]
  omega

/-- A device that is sought answers, unless it is muted or out of the range. -/
def hushed (low high : Int) (d : Dev) : Bool := d.mu || decide (d.id < low ∨ high < d.id)
theorem seek_one {src seq low high : Int} (h1 : isId low = true) (h2 : isId high = true) (d : Dev) :
    recvD d (discM src seq low high) = if hushed low high d then (d, zeroM, false) else (d, replied (discM src seq low high) d.id 6 (bytesB d.id 6), true) := by
  have a := disc_low (src := src) (seq := seq) h1 h2
  have b := disc_high (src := src) (seq := seq) h1 h2
  have d2 := disc_dat (src := src) (seq := seq) h1 h2
  have e1 : (discM src seq low high).dst = 281474976710655 := by rw [d2]
  have e4 : (discM src seq low high).kind = 1 := by rw [d2]
  have hdf : deafD d (discM src seq low high) = false := by
    unfold deafD
    rw [e1, e4]
    simp
  rw [recvD, hdf, e4, hushD, a, b]
  rfl
theorem seek_devs {src seq low high : Int} (h1 : isId low = true) (h2 : isId high = true) (l : List Dev) : sentD l (discM src seq low high) = l := by
  unfold sentD
  conv => rhs; rw [← List.map_id l]
  refine List.map_congr_left fun d _ => ?_
  rw [seek_one h1 h2]
  split <;> rfl
theorem seek_answers {src seq low high : Int} (h1 : isId low = true) (h2 : isId high = true) (l : List Dev) :
    sentA l (discM src seq low high) = (l.filter fun d => !hushed low high d).map fun d => replied (discM src seq low high) d.id 6 (bytesB d.id 6) := by
  induction l with
  | nil => rfl
  | cons d l ih =>
    have hc : sentA (d :: l) (discM src seq low high) = (if (recvD d (discM src seq low high)).2.2 then [(recvD d (discM src seq low high)).2.1] else []) ++ sentA l (discM src seq low high) := by
      unfold sentA
      rw [List.filterMap_cons]
      split <;> simp_all
    rw [hc, ih, seek_one h1 h2, List.filter_cons]
    cases hushed low high d <;> simp

/-- A device that is muted by its identity answers, and no other one. -/
theorem mute_one {src seq x : Int} (hx : x ≠ 281474976710655) (d : Dev) :
    recvD d (ordM src seq 2 x) = if d.id = x then ({ d with mu := true }, replied (ordM src seq 2 x) d.id 6 ⟨#[]⟩, true) else (d, zeroM, false) := by
  by_cases h : d.id = x
  · have hdf : deafD d (ordM src seq 2 x) = false := by
      unfold deafD ordM
      simp [h]
    rw [recvD, hdf, if_pos h]
    simp [ordM, hx, doneD, answered]
  · have hdf : deafD d (ordM src seq 2 x) = true := by
      unfold deafD ordM
      exact decide_eq_true (.inl ⟨fun e => h e.symm, hx⟩)
    rw [recvD, hdf, if_neg h]
    rfl
/-- The devices of which one is muted. -/
def muted (x : Int) (l : List Dev) : List Dev := l.map fun d => if d.id = x then { d with mu := true } else d
theorem mute_devs {src seq x : Int} (hx : x ≠ 281474976710655) (l : List Dev) : sentD l (ordM src seq 2 x) = muted x l := by
  unfold sentD muted
  refine List.map_congr_left fun d _ => ?_
  rw [mute_one hx]
  split <;> rfl
end Go.Proofs.YtpkhcehddfmhpaaGreat

namespace Go.Proofs.YtpkhcehddfmhpaaGreat

theorem ord_chk {src seq k id : Int} (hs : isId src = true) (q0 : 0 ≤ seq) (q1 : seq ≤ 255) (hk : k = 2 ∨ k = 3) (hi : isId id = true ∨ id = 281474976710655) : chk (ordM src seq k id) = 0 := by
  have h1 : (isId id || decide (id = 281474976710655)) = true := by rcases hi with h | h <;> simp [h]
  have h2 : ByteArray.size ⟨#[]⟩ = 0 := rfl
  unfold chk ordM
  simp only [h1, hs, h2]
  rcases hk with rfl | rfl
  all_goals rw [if_neg (by simp; omega), if_neg (by omega), if_neg (by omega), if_neg (by omega), if_neg (by simp [lenOf]), if_neg (by omega)]

theorem hear_nil {m : Msg} {l : List Msg} : (hearM m l).1 = 0 ↔ l = [] := by
  constructor
  · intro h
    refine Decidable.byContradiction fun hne => ?_
    rw [hearM, if_neg hne] at h
    unfold heardX at h
    repeat' split at h
    all_goals simp at h
  · intro h
    subst h
    rfl
theorem hear_some {m : Msg} {l : List Msg} (h : (hearM m l).1 = 1) : lowM m ≤ (hearM m l).2 ∧ (hearM m l).2 ≤ highM m := by
  have h0 : l ≠ [] := fun e => by rw [hear_nil.2 e] at h; exact absurd h (by decide)
  rw [hearM, if_neg h0] at h ⊢
  by_cases h1 : (decM (overL (l.map madeL))).2 ≠ 0
  · rw [if_pos h1] at h
    simp at h
  · rw [if_neg h1] at h ⊢
    generalize (decM (overL (l.map madeL))).1 = x at h ⊢
    unfold heardX at h ⊢
    by_cases h2 : matchesM m x = false ∨ x.kind ≠ 6 ∨ x.dat.size ≠ 6
    · rw [if_pos h2] at h
      simp at h
    · rw [if_neg h2] at h ⊢
      by_cases h3 : (numOf x.dat.data.toList : Int) ≠ x.src ∨ x.src < lowM m ∨ highM m < x.src
      · rw [if_pos h3] at h
        simp at h
      · rw [if_neg h3]
        simp only
        omega
theorem bytesB_six (n : Int) (h : isId n = true) : (numOf (bytesB n 6).data.toList : Int) = n := by
  have := isId_nat h
  rw [show (bytesB n 6).data.toList = bytesOf n.toNat 6 from by simp [bytesB, str], numOf_bytes (by omega) (by omega)]
/-- One device that answers is heard. -/
theorem hear_one {src seq low high id : Int} (hs : isId src = true) (q0 : 0 ≤ seq) (q1 : seq ≤ 255) (h1 : isId low = true) (h2 : isId high = true) (hle : low ≤ high) (hi : isId id = true) (ha : low ≤ id) (hb : id ≤ high) :
    hearM (discM src seq low high) [replied (discM src seq low high) id 6 (bytesB id 6)] = (1, id) := by
  have hc := disc_chk hs q0 q1 h1 h2 hle
  have hr := chk_replied _ id (bytesB id 6) hc hi (by rw [bytesB_size]; decide)
  have hz : (bytesB id 6).size = 6 := by rw [bytesB_size]; rfl
  rw [hearM, if_neg (by simp), List.map_cons, List.map_nil, overL_cons, overL_nil, orL_nil, dec_made _ hr, if_neg (by simp)]
  have hm : matchesM (discM src seq low high) (replied (discM src seq low high) id 6 (bytesB id 6)) = true := by
    have d2 := disc_dat (src := src) (seq := seq) h1 h2
    refine decide_eq_true ⟨hc, hr, ?_, rfl, rfl, rfl, rfl, .inl ?_⟩
    · rw [d2]; rfl
    · rw [d2]
  unfold heardX
  rw [hm, disc_low h1 h2, disc_high h1 h2]
  simp only [replied, hz, bytesB_six id hi]
  rw [if_neg (by simp), if_neg (by omega)]

/-- Who answers a search of a range. -/
def loud (low high : Int) (l : List Dev) : List Dev := l.filter fun d => !hushed low high d
theorem hushed_not {low high : Int} {d : Dev} : (!hushed low high d) = true ↔ d.mu = false ∧ low ≤ d.id ∧ d.id ≤ high := by
  unfold hushed
  cases d.mu <;> simp <;> omega

/-- An order to mute is answered exactly if there is such a device. -/
theorem mute_is {src x : Int} {s : SSt} (hs : isId src = true) (q0 : 0 ≤ s.seq) (q1 : s.seq ≤ 255) (hx : isId x = true) : orderB src s 2 x = true ↔ ∃ d ∈ s.devs, d.id = x := by
  have hn := isId_nat hx
  constructor
  · exact fun h => order_some h (by decide)
  · rintro ⟨d, hd, rfl⟩
    unfold orderB
    rw [List.any_eq_true]
    have hr := mute_one (src := src) (seq := s.seq) (x := d.id) (by omega) d
    rw [if_pos rfl] at hr
    refine ⟨replied (ordM src s.seq 2 d.id) d.id 6 ⟨#[]⟩, ?_, ?_⟩
    · unfold sentA
      rw [List.mem_filterMap]
      exact ⟨d, hd, by rw [hr]; rfl⟩
    · have hc := ord_chk hs q0 q1 (.inl rfl) (.inl hx) (k := 2)
      exact decide_eq_true ⟨hc, chk_replied _ _ _ hc hx (by decide), rfl, rfl, rfl, rfl, rfl, .inr rfl⟩

theorem muted_none {x : Int} {l : List Dev} (h : ¬ ∃ d ∈ l, d.id = x) : muted x l = l := by
  unfold muted
  conv => rhs; rw [← List.map_id l]
  refine List.map_congr_left fun d hd => ?_
  rw [if_neg fun e => h ⟨d, hd, e⟩]
  rfl

/-- A search of right devices: no device that is not muted is known. -/
structure Fit (s : SSt) : Prop where
  ids : ∀ d ∈ s.devs, isId d.id = true
  one : (s.devs.map (·.id)).Nodup
  new : ∀ d ∈ s.devs, d.mu = false → d.id ∉ s.known ++ s.found
  q0 : 0 ≤ s.seq
  q1 : s.seq ≤ 255

/-- What one message that seeks leaves. -/
inductive Out (low high : Int) (s : SSt) : SSt × Bool × Bool → Prop where
  | none (t : SSt) (h1 : t.devs = s.devs) (h2 : t.found = s.found) (h3 : t.known = s.known) (h4 : t.msgs = s.msgs + 1) (h5 : 0 ≤ t.seq) (h6 : t.seq ≤ 255) (h7 : loud low high s.devs = []) : Out low high s (t, false, true)
  | some (t : SSt) (x : Int) (h1 : t.devs = muted x s.devs) (h2 : t.found = s.found ++ [x]) (h3 : t.known = s.known) (h4 : t.msgs = s.msgs + 2) (h5 : 0 ≤ t.seq) (h6 : t.seq ≤ 255) (h7 : low ≤ x) (h8 : x ≤ high)
      (h9 : x ∉ s.known ++ s.found) (h10 : ∃ d ∈ s.devs, d.id = x) : Out low high s (t, true, false)
  | many (t : SSt) (h1 : t.devs = s.devs) (h2 : t.found = s.found) (h3 : t.known = s.known) (h4 : t.msgs ≤ s.msgs + 2) (h5 : 0 ≤ t.seq) (h6 : t.seq ≤ 255) (h7 : 2 ≤ (loud low high s.devs).length) : Out low high s (t, false, false)

theorem seq_mod (n : Int) : 0 ≤ (n + 1) % 256 ∧ (n + 1) % 256 ≤ 255 := by omega

theorem again_out {src low high : Int} {s : SSt} (hs : isId src = true) (h1 : isId low = true) (h2 : isId high = true) (hle : low ≤ high) (hf : Fit s) : Out low high s (againS src low high s) := by
  have hq := seq_mod s.seq
  have hans := seek_answers (src := src) (seq := s.seq) h1 h2 s.devs
  have hdev := seek_devs (src := src) (seq := s.seq) h1 h2 s.devs
  obtain ⟨h, hh⟩ : ∃ h, hearM (discM src s.seq low high) (sentA s.devs (discM src s.seq low high)) = h := ⟨_, rfl⟩
  obtain ⟨s1, hs1⟩ : ∃ s1, sendS s (discM src s.seq low high) = s1 := ⟨_, rfl⟩
  have e1 : s1.devs = s.devs := by rw [← hs1]; exact hdev
  have e2 : s1.found = s.found := by rw [← hs1]; rfl
  have e3 : s1.known = s.known := by rw [← hs1]; rfl
  have e4 : s1.msgs = s.msgs + 1 := by rw [← hs1]; rfl
  have e5 : s1.seq = (s.seq + 1) % 256 := by rw [← hs1]; rfl
  unfold againS
  simp only [hh, hs1]
  by_cases c0 : h.1 = 0
  · rw [if_pos c0]
    have : sentA s.devs (discM src s.seq low high) = [] := hear_nil.1 (by rw [hh]; exact c0)
    rw [hans, List.map_eq_nil_iff] at this
    exact .none _ e1 e2 e3 e4 (by omega) (by omega) this
  · have hne : loud low high s.devs ≠ [] := fun e => c0 (by rw [← hh, hear_nil, hans]; exact List.map_eq_nil_iff.2 e)
    have hone : ∀ d, loud low high s.devs = [d] → h = (1, d.id) ∧ d.id ∉ s.known ++ s.found ∧ d ∈ s.devs := by
      intro d hd
      have hm : d ∈ loud low high s.devs := by rw [hd]; exact List.mem_singleton.2 rfl
      obtain ⟨m1, m2⟩ := List.mem_filter.1 hm
      obtain ⟨n1, n2, n3⟩ := hushed_not.1 m2
      refine ⟨?_, hf.new d m1 n1, m1⟩
      rw [← hh, hans]
      have : (s.devs.filter fun d => !hushed low high d) = [d] := hd
      rw [this]
      exact hear_one hs hf.q0 hf.q1 h1 h2 hle (hf.ids d m1) n2 n3
    have htwo : (∀ d, loud low high s.devs ≠ [d]) → 2 ≤ (loud low high s.devs).length := by
      intro hd
      match hl : loud low high s.devs with
      | [] => exact absurd hl hne
      | [d] => exact absurd hl (hd d)
      | _ :: _ :: _ => simp
    rw [if_neg c0]
    by_cases c1 : h.1 ≠ 1 ∨ h.2 ∈ s1.known ++ s1.found
    · rw [if_pos c1]
      refine .many _ e1 e2 e3 (by omega) (by omega) (by omega) (htwo fun d hd => ?_)
      obtain ⟨k1, k2, k3⟩ := hone d hd
      rw [k1, e2, e3] at c1
      rcases c1 with c1 | c1
      · exact c1 rfl
      · exact k2 c1
    · rw [if_neg c1]
      have c2 : h.1 = 1 := Decidable.not_not.1 fun e => c1 (.inl e)
      have c3 : h.2 ∉ s.known ++ s.found := fun e => c1 (.inr (by rw [e2, e3]; exact e))
      have c4 := hear_some (m := discM src s.seq low high) (l := sentA s.devs (discM src s.seq low high)) (by rw [hh]; exact c2)
      rw [hh, disc_low h1 h2, disc_high h1 h2] at c4
      have hx : isId h.2 = true := by
        have a := isId_nat h1
        have b := isId_nat h2
        exact decide_eq_true (by omega)
      have hb := mute_is (src := src) (x := h.2) (s := s1) hs (by omega) (by omega) hx
      have hq2 := seq_mod s1.seq
      have hdv : (orderS src s1 2 h.2).devs = muted h.2 s.devs := by
        show sentD s1.devs (ordM src s1.seq 2 h.2) = _
        rw [mute_devs (by have := isId_nat hx; omega), e1]
      by_cases c5 : orderB src s1 2 h.2 = true
      · rw [if_pos c5]
        refine .some _ h.2 hdv ?_ e3 ?_ hq2.1 hq2.2 c4.1 c4.2 c3 ?_
        · show s1.found ++ [h.2] = _
          rw [e2]
        · show s1.msgs + 1 = _
          omega
        · rw [← e1]
          exact hb.1 c5
      · rw [if_neg c5]
        have c6 : ¬ ∃ d ∈ s.devs, d.id = h.2 := fun e => c5 (hb.2 (by rw [e1]; exact e))
        refine .many _ (by rw [hdv, muted_none c6]) e2 e3 ?_ hq2.1 hq2.2 (htwo fun d hd => ?_)
        · show s1.msgs + 1 ≤ _
          omega
        · obtain ⟨k1, k2, k3⟩ := hone d hd
          exact c6 ⟨d, k3, by rw [k1]⟩

/-- Some devices are muted. -/
def mutL (xs : List Int) (l : List Dev) : List Dev := l.map fun d => if d.id ∈ xs then { d with mu := true } else d
theorem muted_one (x : Int) (l : List Dev) : muted x l = mutL [x] l := by
  unfold muted mutL
  refine List.map_congr_left fun d _ => ?_
  simp
theorem mutL_nil (l : List Dev) : mutL [] l = l := by
  unfold mutL
  conv => rhs; rw [← List.map_id l]
  refine List.map_congr_left fun d _ => ?_
  simp
theorem mutL_mutL (xs ys : List Int) (l : List Dev) : mutL ys (mutL xs l) = mutL (xs ++ ys) l := by
  unfold mutL
  rw [List.map_map]
  refine List.map_congr_left fun d _ => ?_
  by_cases h1 : d.id ∈ xs <;> by_cases h2 : d.id ∈ ys <;> simp [h1, h2]
theorem mutL_ids (xs : List Int) (l : List Dev) : (mutL xs l).map (·.id) = l.map (·.id) := by
  unfold mutL
  rw [List.map_map]
  refine List.map_congr_left fun d _ => ?_
  simp only [Function.comp]
  split <;> rfl
theorem mutL_has {xs : List Int} {l : List Dev} {x : Int} : (∃ d ∈ mutL xs l, d.id = x) ↔ ∃ d ∈ l, d.id = x := by
  have h : ∀ m : List Dev, (∃ d ∈ m, d.id = x) ↔ x ∈ m.map (·.id) := fun m => by rw [List.mem_map]
  rw [h, h, mutL_ids]

/-- How a search goes on: some more are found in a range, and muted. -/
structure Run (low high : Int) (s t : SSt) (xs : List Int) : Prop where
  devs : t.devs = mutL xs s.devs
  found : t.found = s.found ++ xs
  known : t.known = s.known
  here : ∀ x ∈ xs, low ≤ x ∧ x ≤ high ∧ ∃ d ∈ s.devs, d.id = x
  one : xs.Nodup
  new : ∀ x ∈ xs, x ∉ s.known ++ s.found
  q0 : 0 ≤ t.seq
  q1 : t.seq ≤ 255

theorem Run.stay {low high : Int} {s t : SSt} (h1 : t.devs = s.devs) (h2 : t.found = s.found) (h3 : t.known = s.known) (h5 : 0 ≤ t.seq) (h6 : t.seq ≤ 255) : Run low high s t [] :=
  ⟨by rw [mutL_nil, h1], by rw [h2, List.append_nil], h3, fun x hx => (by cases hx), List.nodup_nil, fun x hx => (by cases hx), h5, h6⟩
theorem Run.wide {low high lo hi : Int} {s t : SSt} {xs : List Int} (h : Run low high s t xs) (h1 : lo ≤ low) (h2 : high ≤ hi) : Run lo hi s t xs :=
  ⟨h.devs, h.found, h.known, fun x hx => ⟨Int.le_trans h1 (h.here x hx).1, Int.le_trans (h.here x hx).2.1 h2, (h.here x hx).2.2⟩, h.one, h.new, h.q0, h.q1⟩
theorem Run.trans {low high : Int} {s t u : SSt} {xs ys : List Int} (h : Run low high s t xs) (g : Run low high t u ys) : Run low high s u (xs ++ ys) := by
  refine ⟨by rw [g.devs, h.devs, mutL_mutL], by rw [g.found, h.found, List.append_assoc], by rw [g.known, h.known], ?_, ?_, ?_, g.q0, g.q1⟩
  · intro x hx
    rcases List.mem_append.1 hx with hx | hx
    · exact h.here x hx
    · obtain ⟨a, b, c⟩ := g.here x hx
      rw [h.devs] at c
      exact ⟨a, b, mutL_has.1 c⟩
  · refine List.nodup_append.2 ⟨h.one, g.one, fun a ha b hb e => ?_⟩
    subst e
    have := g.new a hb
    rw [h.found] at this
    exact this (by simp [ha])
  · intro x hx
    rcases List.mem_append.1 hx with hx | hx
    · exact h.new x hx
    · have := g.new x hx
      rw [h.known, h.found] at this
      intro e
      apply this
      simp only [List.mem_append] at e ⊢
      rcases e with e | e
      · exact .inl e
      · exact .inr (.inl e)
theorem Run.fit {low high : Int} {s t : SSt} {xs : List Int} (h : Run low high s t xs) (hf : Fit s) : Fit t := by
  have hm : t.devs.map (·.id) = s.devs.map (·.id) := by rw [h.devs, mutL_ids]
  refine ⟨?_, by rw [hm]; exact hf.one, ?_, h.q0, h.q1⟩
  · intro d hd
    have : d.id ∈ s.devs.map (·.id) := by rw [← hm]; exact List.mem_map.2 ⟨d, hd, rfl⟩
    obtain ⟨e, he, hx⟩ := List.mem_map.1 this
    rw [← hx]
    exact hf.ids e he
  · intro d hd hmu
    rw [h.devs] at hd
    unfold mutL at hd
    obtain ⟨e, he, rfl⟩ := List.mem_map.1 hd
    by_cases hx : e.id ∈ xs
    · rw [if_pos hx] at hmu
      cases hmu
    · rw [if_neg hx] at hmu ⊢
      have := hf.new e he hmu
      rw [h.known, h.found]
      simp only [List.mem_append] at this ⊢
      rintro (a | a | a)
      · exact this (.inl a)
      · exact this (.inr a)
      · exact hx a
end Go.Proofs.YtpkhcehddfmhpaaGreat

namespace Go.Proofs.YtpkhcehddfmhpaaGreat

theorem loud_none {low high : Int} {l : List Dev} : loud low high l = [] ↔ ∀ d ∈ l, hushed low high d = true := by
  unfold loud
  rw [List.filter_eq_nil_iff]
  exact ⟨fun h d hd => by simpa using h d hd, fun h d hd => by simpa using h d hd⟩
theorem loud_cons (low high : Int) (d : Dev) (l : List Dev) : (loud low high (d :: l)).length = (if hushed low high d then 0 else 1) + (loud low high l).length := by
  unfold loud
  rw [List.filter_cons]
  cases hushed low high d
  · simp; omega
  · simp
theorem mutL_cons (xs : List Int) (d : Dev) (l : List Dev) : mutL xs (d :: l) = (if d.id ∈ xs then { d with mu := true } else d) :: mutL xs l := rfl
theorem muted_cons (x : Int) (d : Dev) (l : List Dev) : muted x (d :: l) = (if d.id = x then { d with mu := true } else d) :: muted x l := rfl
theorem hushed_mutL {low high : Int} {d : Dev} (xs : List Int) (h : hushed low high d = true) : hushed low high (if d.id ∈ xs then { d with mu := true } else d) = true := by
  split
  · rfl
  · exact h
theorem loud_mutL {low high : Int} {l : List Dev} (xs : List Int) (h : loud low high l = []) : loud low high (mutL xs l) = [] := by
  rw [loud_none] at h ⊢
  intro d hd
  unfold mutL at hd
  obtain ⟨e, he, rfl⟩ := List.mem_map.1 hd
  exact hushed_mutL xs (h e he)
theorem loud_far {low high : Int} {xs : List Int} (h : ∀ x ∈ xs, x < low ∨ high < x) (l : List Dev) : (loud low high (mutL xs l)).length = (loud low high l).length := by
  induction l with
  | nil => rfl
  | cons d l ih =>
    rw [mutL_cons, loud_cons, loud_cons, ih]
    congr 2
    by_cases hx : d.id ∈ xs
    · rw [if_pos hx]
      have := h _ hx
      have h1 : hushed low high d = true := by unfold hushed; rw [show decide (d.id < low ∨ high < d.id) = true from decide_eq_true this]; simp
      rw [h1]
      rfl
    · rw [if_neg hx]
theorem hushed_cases (low high : Int) (d : Dev) : hushed low high d = true ↔ d.mu = true ∨ d.id < low ∨ high < d.id := by
  unfold hushed
  simp
theorem loud_split {low mid high : Int} (h1 : low ≤ mid) (h2 : mid ≤ high) (l : List Dev) : (loud low high l).length = (loud low mid l).length + (loud (mid + 1) high l).length := by
  induction l with
  | nil => rfl
  | cons d l ih =>
    rw [loud_cons, loud_cons, loud_cons, ih]
    have a := hushed_cases low high d
    have b := hushed_cases low mid d
    have c := hushed_cases (mid + 1) high d
    by_cases p : d.mu = true
    · rw [if_pos (a.2 (.inl p)), if_pos (b.2 (.inl p)), if_pos (c.2 (.inl p))]
      omega
    · by_cases p1 : d.id < low
      · rw [if_pos (a.2 (.inr (.inl p1))), if_pos (b.2 (.inr (.inl p1))), if_pos (c.2 (.inr (.inl (by omega))))]
        omega
      · by_cases p2 : high < d.id
        · rw [if_pos (a.2 (.inr (.inr p2))), if_pos (b.2 (.inr (.inr (by omega)))), if_pos (c.2 (.inr (.inr p2)))]
          omega
        · rw [if_neg fun e => (a.1 e).elim p (by omega)]
          by_cases p3 : d.id ≤ mid
          · rw [if_neg fun e => (b.1 e).elim p (by omega), if_pos (c.2 (.inr (.inl (by omega))))]
            omega
          · rw [if_pos (b.2 (.inr (.inr (by omega)))), if_neg fun e => (c.1 e).elim p (by omega)]
            omega
theorem loud_less {low high x : Int} {l : List Dev} (hn : (l.map (·.id)).Nodup) (h : ∃ d ∈ l, d.id = x ∧ hushed low high d = false) : (loud low high (muted x l)).length + 1 = (loud low high l).length := by
  induction l with
  | nil => obtain ⟨d, hd, _⟩ := h; cases hd
  | cons d l ih =>
    rw [List.map_cons, List.nodup_cons] at hn
    rw [muted_cons, loud_cons, loud_cons]
    by_cases hx : d.id = x
    · have hno : ¬ ∃ e ∈ l, e.id = x := fun ⟨e, he, h2⟩ => hn.1 (List.mem_map.2 ⟨e, he, by rw [h2, hx]⟩)
      have hd : hushed low high d = false := by
        obtain ⟨e, he, h2, h3⟩ := h
        rcases List.mem_cons.1 he with rfl | he
        · exact h3
        · exact absurd ⟨e, he, h2⟩ hno
      rw [if_pos hx, muted_none hno, hd, show hushed low high { d with mu := true } = true from rfl]
      simp
      omega
    · rw [if_neg hx]
      have := ih hn.2 (by
        obtain ⟨e, he, h2, h3⟩ := h
        rcases List.mem_cons.1 he with rfl | he
        · exact absurd h2 hx
        · exact ⟨e, he, h2, h3⟩)
      omega
theorem loud_single {low : Int} {l : List Dev} (hn : (l.map (·.id)).Nodup) : (loud low low l).length ≤ 1 := by
  induction l with
  | nil => exact Nat.zero_le _
  | cons d l ih =>
    rw [List.map_cons, List.nodup_cons] at hn
    rw [loud_cons]
    cases hd : hushed low low d
    · have hid : d.id = low := by
        have := mt (hushed_cases low low d).2 (by rw [hd]; decide)
        omega
      have : loud low low l = [] := by
        rw [loud_none]
        intro e he
        rw [hushed_cases]
        have : e.id ≠ low := fun h2 => hn.1 (List.mem_map.2 ⟨e, he, by rw [h2, hid]⟩)
        omega
      rw [this]
      decide
    · have := ih hn.2
      simp
      exact this

/-- Only what is known is muted. -/
def Full (s : SSt) : Prop := ∀ d ∈ s.devs, d.mu = true → d.id ∈ s.known ++ s.found

theorem round_out {src low high : Int} (hs : isId src = true) (h1 : isId low = true) (h2 : isId high = true) (hle : low ≤ high) : ∀ (f : Nat) (s : SSt), Fit s → freeS s < f →
    ∃ t xs b, roundS src low high f s = (t, b) ∧ Run low high s t xs ∧ (b = true → loud low high t.devs = []) ∧ (b = false → 2 ≤ (loud low high t.devs).length) ∧
      (Full s → Full t ∧ (loud low high t.devs).length + xs.length = (loud low high s.devs).length ∧ t.msgs ≤ s.msgs + 2 * xs.length + (if b then 1 else 2))
  | 0, _, _, h => absurd h (Nat.not_lt_zero _)
  | f + 1, s, hf, hlt => by
    have ho := again_out hs h1 h2 hle hf
    have hl := @again_less src low high s
    rw [roundS]
    generalize againS src low high s = r at ho hl ⊢
    cases ho with
    | none t g1 g2 g3 g4 g5 g6 g7 =>
      refine ⟨t, [], true, if_neg (by simp), Run.stay g1 g2 g3 g5 g6, fun _ => (by rw [g1]; exact g7), fun e => (by cases e), fun hF => ⟨?_, (by rw [g1]; rfl), (by rw [g4]; simp)⟩⟩
      unfold Full at hF ⊢
      rw [g1, g2, g3]
      exact hF
    | many t g1 g2 g3 g4 g5 g6 g7 =>
      refine ⟨t, [], false, if_neg (by simp), Run.stay g1 g2 g3 g5 g6, fun e => (by cases e), fun _ => (by rw [g1]; exact g7), fun hF => ⟨?_, (by rw [g1]; rfl), (by simpa using g4)⟩⟩
      unfold Full at hF ⊢
      rw [g1, g2, g3]
      exact hF
    | some t x g1 g2 g3 g4 g5 g6 g7 g8 g9 g10 =>
      have hr : Run low high s t [x] := by
        refine ⟨by rw [g1, muted_one], g2, g3, ?_, List.nodup_cons.2 ⟨by simp, List.nodup_nil⟩, ?_, g5, g6⟩
        · intro y hy
          rw [List.mem_singleton] at hy
          subst hy
          exact ⟨g7, g8, g10⟩
        · intro y hy
          rw [List.mem_singleton] at hy
          subst hy
          exact g9
      have hl2 : freeS t < freeS s := hl rfl
      obtain ⟨u, ys, b, e1, e2, e3, e4, e5⟩ := round_out hs h1 h2 hle f t (hr.fit hf) (by omega)
      refine ⟨u, [x] ++ ys, b, by rw [← e1]; exact if_pos rfl, hr.trans e2, e3, e4, fun hF => ?_⟩
      have hFt : Full t := by
        intro d hd hmu
        rw [g1] at hd
        unfold muted at hd
        obtain ⟨e, he, rfl⟩ := List.mem_map.1 hd
        rw [g2, g3]
        by_cases hx : e.id = x
        · rw [if_pos hx]
          show e.id ∈ _
          rw [hx]
          simp
        · rw [if_neg hx] at hmu ⊢
          have := hF e he hmu
          simp only [List.mem_append] at this ⊢
          rcases this with a | a
          · exact .inl a
          · exact .inr (.inl a)
      obtain ⟨k1, k2, k3⟩ := e5 hFt
      have hll := loud_less (low := low) (high := high) (x := x) hf.one (by
        obtain ⟨d, hd, hx⟩ := g10
        refine ⟨d, hd, hx, ?_⟩
        cases hh : hushed low high d
        · rfl
        · rcases (hushed_cases low high d).1 hh with a | a
          · exact absurd (by rw [← hx]; exact hF d hd a) g9
          · omega)
      rw [← g1] at hll
      refine ⟨k1, ?_, ?_⟩
      · simp only [List.length_append, List.length_cons, List.length_nil]
        omega
      · simp only [List.length_append, List.length_cons, List.length_nil]
        omega

theorem cost_split (n a b d : Nat) (h : 2 ≤ a + b) : 2 * n + 2 + (1 + a * (4 * d + 3)) + (1 + b * (4 * d + 3)) ≤ 1 + (n + (a + b)) * (4 * (d + 1) + 3) := by
  rw [show 4 * (d + 1) + 3 = (4 * d + 3) + 4 from by omega]
  generalize 4 * d + 3 = K
  have e : (n + (a + b)) * (K + 4) = n * K + n * 4 + (a * K + a * 4 + (b * K + b * 4)) := by
    simp only [Nat.add_mul, Nat.mul_add]
    omega
  rw [e]
  have := Nat.zero_le (n * K)
  omega
theorem cost_done (n u K : Nat) (h : 3 ≤ K) (hn : n ≤ u) : 2 * n + 1 ≤ 1 + u * K := by
  have : u * 3 ≤ u * K := Nat.mul_le_mul_left u h
  omega

theorem search_out {src : Int} (hs : isId src = true) : ∀ (d : Nat) (low high : Int) (s : SSt), isId low = true → isId high = true → low ≤ high → high - low < 2 ^ d → Fit s →
    ∃ xs, Run low high s (searchS src d low high s) xs ∧ loud low high (searchS src d low high s).devs = [] ∧
      (Full s → Full (searchS src d low high s) ∧ (searchS src d low high s).msgs ≤ s.msgs + (1 + (loud low high s.devs).length * (4 * d + 3)))
  | 0, low, high, s, h1, h2, hle, hd, hf => by
    obtain ⟨t, xs, b, e1, e2, e3, e4, e5⟩ := round_out hs h1 h2 hle (freeS s + 1) s hf (by omega)
    rw [searchS, e1]
    have hlh : low = high := by
      have : (2 : Int) ^ 0 = 1 := rfl
      omega
    cases b with
    | false =>
      have a := e4 rfl
      have c := loud_single (low := low) (e2.fit hf).one
      rw [← hlh] at a
      omega
    | true =>
      refine ⟨xs, e2, e3 rfl, fun hF => ?_⟩
      obtain ⟨k1, k2, k3⟩ := e5 hF
      refine ⟨k1, ?_⟩
      have := cost_done xs.length (loud low high s.devs).length (4 * 0 + 3) (by omega) (by omega)
      simp only [if_true] at k3
      show t.msgs ≤ _
      omega
  | d + 1, low, high, s, h1, h2, hle, hd, hf => by
    obtain ⟨t, xs, b, e1, e2, e3, e4, e5⟩ := round_out hs h1 h2 hle (freeS s + 1) s hf (by omega)
    rw [searchS, e1]
    by_cases hc : b = true ∨ low = high
    · have hb : b = true := by
        cases b with
        | true => rfl
        | false =>
          rcases hc with hc | hc
          · exact hc
          · have a := e4 rfl
            have c := loud_single (low := low) (e2.fit hf).one
            rw [← hc] at a
            omega
      subst hb
      rw [if_pos hc]
      refine ⟨xs, e2, e3 rfl, fun hF => ?_⟩
      obtain ⟨k1, k2, k3⟩ := e5 hF
      refine ⟨k1, ?_⟩
      have := cost_done xs.length (loud low high s.devs).length (4 * (d + 1) + 3) (by omega) (by omega)
      simp only [if_true] at k3
      show t.msgs ≤ _
      omega
    · rw [if_neg hc]
      have hb : b = false := by cases b <;> simp_all
      subst hb
      have hne : low ≠ high := fun e => hc (.inr e)
      have a1 := isId_nat h1
      have a2 := isId_nat h2
      have hm : middle low high = low + (high - low) / 2 := rfl
      have hp : (2 : Int) ^ (d + 1) = 2 ^ d * 2 := Int.pow_succ _ _
      have m1 : low ≤ middle low high := by omega
      have m2 : middle low high + 1 ≤ high := by omega
      obtain ⟨ys, r1, r2, r3⟩ := search_out hs d low (middle low high) t h1 (decide_eq_true (by omega)) m1 (by omega) (e2.fit hf)
      show ∃ xs, Run low high s (searchS src d (middle low high + 1) high (searchS src d low (middle low high) t)) xs ∧ loud low high (searchS src d (middle low high + 1) high (searchS src d low (middle low high) t)).devs = [] ∧ (Full s → Full (searchS src d (middle low high + 1) high (searchS src d low (middle low high) t)) ∧ (searchS src d (middle low high + 1) high (searchS src d low (middle low high) t)).msgs ≤ _)
      generalize searchS src d low (middle low high) t = t1 at r1 r2 r3 ⊢
      obtain ⟨zs, q1, q2, q3⟩ := search_out hs d (middle low high + 1) high t1 (decide_eq_true (by omega)) h2 m2 (by omega) (r1.fit (e2.fit hf))
      generalize searchS src d (middle low high + 1) high t1 = t2 at q1 q2 q3 ⊢
      refine ⟨xs ++ ys ++ zs, (e2.trans (r1.wide (Int.le_refl _) (by omega))).trans (q1.wide (by omega) (Int.le_refl _)), ?_, fun hF => ?_⟩
      · have b1 : loud low (middle low high) t2.devs = [] := by rw [q1.devs]; exact loud_mutL zs r2
        have b2 := loud_split m1 (by omega : middle low high ≤ high) t2.devs
        rw [b1, q2] at b2
        exact List.eq_nil_of_length_eq_zero b2
      · obtain ⟨k1, k2, k3⟩ := e5 hF
        obtain ⟨k4, k5⟩ := r3 k1
        obtain ⟨k6, k7⟩ := q3 k4
        refine ⟨k6, ?_⟩
        have b2 := loud_split m1 (by omega : middle low high ≤ high) t.devs
        have b3 : (loud (middle low high + 1) high t1.devs).length = (loud (middle low high + 1) high t.devs).length := by
          rw [r1.devs]
          exact loud_far (fun x hx => .inl (by have := (r1.here x hx).2.1; omega)) _
        rw [b3] at k7
        have b4 := e4 rfl
        have := cost_split xs.length (loud low (middle low high) t.devs).length (loud (middle low high + 1) high t.devs).length d (by omega)
        simp only [Bool.false_eq_true, if_false] at k3
        rw [show (loud low high s.devs).length = xs.length + ((loud low (middle low high) t.devs).length + (loud (middle low high + 1) high t.devs).length) from by omega]
        omega

/-! ### The order of the devices -/
def revS (s : SSt) : SSt := { s with devs := s.devs.reverse }
theorem sentD_rev (l : List Dev) (m : Msg) : sentD l.reverse m = (sentD l m).reverse := by
  unfold sentD
  rw [List.map_reverse]
theorem sentA_rev (l : List Dev) (m : Msg) : sentA l.reverse m = (sentA l m).reverse := by
  unfold sentA
  rw [List.filterMap_reverse]
theorem hearM_rev (m : Msg) (l : List Msg) : hearM m l.reverse = hearM m l := by
  unfold hearM
  rw [List.map_reverse, overL_reverse]
  by_cases h : l = []
  · subst h
    rfl
  · rw [if_neg h, if_neg (by simpa using h)]
theorem sendS_rev (s : SSt) (m : Msg) : sendS (revS s) m = revS (sendS s m) := by
  unfold sendS revS
  simp only [sentD_rev]
theorem orderB_rev (src : Int) (s : SSt) (k x : Int) : orderB src (revS s) k x = orderB src s k x := by
  unfold orderB revS
  rw [sentA_rev, List.any_reverse]
theorem orderS_rev (src : Int) (s : SSt) (k x : Int) : orderS src (revS s) k x = revS (orderS src s k x) := sendS_rev s _
theorem freeS_rev (s : SSt) : freeS (revS s) = freeS s := by
  unfold freeS revS
  rw [List.filter_reverse, List.length_reverse]
theorem again_rev (src low high : Int) (s : SSt) : againS src low high (revS s) = (revS (againS src low high s).1, (againS src low high s).2) := by
  have e1 : sentA (revS s).devs (discM src (revS s).seq low high) = (sentA s.devs (discM src s.seq low high)).reverse := sentA_rev _ _
  have e2 : sendS (revS s) (discM src (revS s).seq low high) = revS (sendS s (discM src s.seq low high)) := sendS_rev _ _
  have e3 : discM src (revS s).seq low high = discM src s.seq low high := rfl
  unfold againS
  simp only [e1, e2]
  rw [e3, hearM_rev]
  generalize hearM (discM src s.seq low high) (sentA s.devs (discM src s.seq low high)) = h
  generalize sendS s (discM src s.seq low high) = t
  rw [orderB_rev, orderS_rev]
  show (if h.1 = 0 then _ else if h.1 ≠ 1 ∨ h.2 ∈ t.known ++ t.found then _ else _) = _
  repeat' split
  all_goals first | rfl | (exfalso; simp_all; done)
theorem round_rev (src low high : Int) : ∀ (f : Nat) (s : SSt), roundS src low high f (revS s) = (revS (roundS src low high f s).1, (roundS src low high f s).2)
  | 0, s => rfl
  | f + 1, s => by
    rw [roundS, roundS, again_rev]
    simp only
    by_cases h : (againS src low high s).2.1 = true
    · rw [if_pos h, if_pos h, round_rev]
    · rw [if_neg h, if_neg h]
theorem search_rev (src : Int) : ∀ (d : Nat) (low high : Int) (s : SSt), searchS src d low high (revS s) = revS (searchS src d low high s)
  | 0, low, high, s => by rw [searchS, searchS, freeS_rev, round_rev]
  | d + 1, low, high, s => by
    rw [searchS, searchS, freeS_rev, round_rev]
    simp only
    by_cases h : (roundS src low high (freeS s + 1) s).2 = true ∨ low = high
    · rw [if_pos h, if_pos h]
    · rw [if_neg h, if_neg h, search_rev, search_rev]
end Go.Proofs.YtpkhcehddfmhpaaGreat

/-
  What is heard on a wire with faults: plain laws.
  What becomes of a request on a wire with faults: plain laws.
-/
import Derived.Test.YtpkhcehddfmhpaaGreatMa
import Derived.Test.YtpkhcehddfmhpaaGreatPlain
import Derived.Test.YtpkhcehddfmhpaaGreatSk
namespace Go.Proofs.YtpkhcehddfmhpaaGreat

theorem txt_list (m : Msg) : (txtM m).data.toList = madeL m := by simp [txtM, str]
theorem heard_nil : heardM [] = [] := rfl
theorem heard_append (l k : List ByteArray) : heardM (l ++ k) = heardM l ++ heardM k := List.filterMap_append
theorem heard_own : ∀ (l : List Msg), (∀ a ∈ l, chk a = 0) → heardM (l.map txtM) = l
  | [], _ => rfl
  | a :: l, h => by
    have h1 := dec_made a (h a (List.mem_cons_self ..))
    have ih := heard_own l fun b hb => h b (List.mem_cons_of_mem _ hb)
    unfold heardM at ih ⊢
    rw [List.map_cons, List.filterMap_cons, txt_list, h1]
    simp only [if_true]
    rw [ih]
theorem add_one_ne (x : UInt8) : x + 1 ≠ x := by
  intro e
  have := congrArg UInt8.toNat e
  simp at this
  have := x.toNat_lt
  omega
theorem spoil_list (m : Msg) : (spoil (txtM m)).data.toList = (madeL m).set ((madeL m).length - 1) ((madeL m).getD ((madeL m).length - 1) 0 + 1) := by
  have hz : (txtM m).size = (madeL m).length := by simp [txtM, str_size]
  unfold spoil
  rw [txt_list, hz]
  simp [str]
theorem spoil_bad (m : Msg) (h : chk m = 0) : (decM (spoil (txtM m)).data.toList).2 ≠ 0 := by
  have hl := madeL_length m
  rw [spoil_list]
  refine dec_spoilt m h _ (by omega) _ ?_
  have hg : (madeL m).getD ((madeL m).length - 1) 0 = (madeL m)[(madeL m).length - 1]'(by omega) := by
    rw [List.getD_eq_getElem?_getD, List.getElem?_eq_getElem (by omega)]
    rfl
  rw [hg]
  exact add_one_ne _
theorem heard_spoilt : ∀ (l : List Msg), (∀ a ∈ l, chk a = 0) → heardM ((l.map txtM).map spoil) = []
  | [], _ => rfl
  | a :: l, h => by
    have h1 := spoil_bad a (h a (List.mem_cons_self ..))
    have ih := heard_spoilt l fun b hb => h b (List.mem_cons_of_mem _ hb)
    unfold heardM at ih ⊢
    rw [List.map_cons, List.map_cons, List.filterMap_cons, if_neg h1]
    exact ih

/-- The answers of right devices to a right message. -/
theorem sent_answers {l : List Dev} {m : Msg} (hd : ∀ d ∈ l, chkD d = 0) (hm : chk m = 0) : ∀ a ∈ sentA l m, chk a = 0 ∧ a.seq = m.seq := by
  intro a ha
  unfold sentA at ha
  rw [List.mem_filterMap] at ha
  obtain ⟨d, hmem, hq⟩ := ha
  split at hq
  · rename_i hr
    cases hq
    obtain ⟨-, -, h1, -, h2⟩ := recv_some d m (hd d hmem) hm hr
    refine ⟨h1, ?_⟩
    exact (of_decide_eq_true h2).2.2.2.2.2.1
  · cases hq
theorem match_seq {m a : Msg} (h : matchesM m a = true) : a.seq = m.seq := (of_decide_eq_true h).2.2.2.2.2.1

/-- Late texts are answers to an earlier message. -/
def Stale (seq : Int) (l : List ByteArray) : Prop := ∀ a ∈ heardM l, a.seq ≠ seq
theorem stale_find {m : Msg} {l : List ByteArray} (h : Stale m.seq l) (k : List Msg) : (heardM l ++ k).find? (matchesM m) = k.find? (matchesM m) := by
  rw [List.find?_append]
  have : (heardM l).find? (matchesM m) = none := by
    rw [List.find?_eq_none]
    exact fun a ha hm => h a ha (match_seq hm)
  rw [this]
  rfl
/-- What is heard of the answers to a message, by the fault. -/
theorem now_heard {l : List Msg} (h : ∀ a ∈ l, chk a = 0) (f : Int) : heardM (nowW f (l.map txtM)) = if f = 0 then l else [] := by
  unfold nowW
  by_cases h0 : f = 0
  · rw [if_pos h0, if_pos h0]
    exact heard_own l h
  · rw [if_neg h0, if_neg h0]
    split
    · exact heard_spoilt l h
    · rfl
theorem late_stale {l : List Msg} {m : Msg} {s : Int} (h : ∀ a ∈ l, chk a = 0 ∧ a.seq = m.seq) (hs : m.seq ≠ s) (f : Int) : Stale s (lateW f (l.map txtM)) := by
  unfold lateW
  split
  · intro a ha
    rw [heard_own l fun b hb => (h b hb).1] at ha
    rw [(h a ha).2]
    exact hs
  · intro a ha
    cases ha
end Go.Proofs.YtpkhcehddfmhpaaGreat

namespace Go.Proofs.YtpkhcehddfmhpaaGreat

/-- A right wire. -/
theorem wire_parts {y : Wre} (h : wireE y = 0) : devsE y.devs = 0 ∧ y.faults.length ≤ 4096 ∧ y.faults.any badFault = false ∧ y.late.length ≤ 64 ∧ y.late.any longText = false := by
  unfold wireE at h
  split at h
  · rename_i h1; exact absurd h h1
  · rename_i h1
    split at h
    · cases h
    · split at h
      · cases h
      · rename_i h3
        split at h
        · cases h
        · split at h
          · cases h
          · rename_i h5
            exact ⟨Decidable.not_not.1 h1, by omega, by simpa using h3, by omega, by simpa using h5⟩
theorem wire_of {y : Wre} (h1 : devsE y.devs = 0) (h2 : y.faults.length ≤ 4096) (h3 : y.faults.any badFault = false) (h4 : y.late.length ≤ 64) (h5 : y.late.any longText = false) : wireE y = 0 := by
  rw [wireE, if_neg (not_not_intro h1), if_neg (by omega), if_neg (by rw [h3]; decide), if_neg (by omega), if_neg (by rw [h5]; decide)]
theorem long_all {l : List ByteArray} (h : l.any longText = false) : ∀ t ∈ l, t.size ≤ 4096 := by
  intro t ht
  have := List.any_eq_false.1 h t ht
  unfold longText at this
  simpa using this
theorem long_none {l : List ByteArray} (h : ∀ t ∈ l, t.size ≤ 4096) : l.any longText = false := by
  rw [List.any_eq_false]
  intro t ht
  have := h t ht
  unfold longText
  simpa using this
theorem txt_small {m : Msg} (h : chk m = 0) : (txtM m).size ≤ 276 := by
  have h1 := (small_of_chk h).2.2.2.2.2.2.2.2.2.2
  have h2 : (txtM m).size = (madeL m).length := by simp [txtM, str_size]
  rw [h2, madeL_length]
  omega
theorem texts_length (x : Mgr) (r : Rqs) (y : Wre) : (textsW x r y).length ≤ y.devs.length := by
  unfold textsW
  split
  · exact Nat.zero_le _
  · rw [List.length_map]
    exact sentA_length _ _
theorem late_mem {f : Int} {l : List ByteArray} {t : ByteArray} (h : t ∈ lateW f l) : t ∈ l := by
  unfold lateW at h
  split at h
  · exact h
  · cases h
theorem texts_mem {x : Mgr} {r : Rqs} {y : Wre} (hd : devsE y.devs = 0) (hm : chk (ofM x r) = 0) {t : ByteArray} (h : t ∈ textsW x r y) : t.size ≤ 276 := by
  unfold textsW at h
  split at h
  · cases h
  · obtain ⟨a, ha, rfl⟩ := List.mem_map.1 h
    exact txt_small (sent_answers (devs_chk hd) hm a ha).1
theorem tail_any {l : List Int} {p : Int → Bool} (h : l.any p = false) : l.tail.any p = false := by
  cases l with
  | nil => rfl
  | cons a l =>
    rw [List.any_cons, Bool.or_eq_false_iff] at h
    exact h.2
/-- A right wire stays right. -/
theorem send_right {x : Mgr} {r : Rqs} {y : Wre} (h : wireE y = 0) (hm : chk (ofM x r) = 0) : wireE (sendW x r y) = 0 := by
  obtain ⟨h1, h2, h3, h4, h5⟩ := wire_parts h
  refine wire_of ?_ ?_ (tail_any h3) ?_ (long_none fun t ht => ?_)
  · show devsE (if faultW y = 1 then y.devs else sentD y.devs (ofM x r)) = 0
    split
    · exact h1
    · exact sent_right h1 fun d hd => recv_chk d _ hd
  · show y.faults.tail.length ≤ 4096
    rw [List.length_tail]
    omega
  · show (lateW (faultW y) (textsW x r y)).length ≤ 64
    have := texts_length x r y
    have := devs_few h1
    unfold lateW
    split
    · omega
    · exact Nat.zero_le _
  · have := texts_mem h1 hm (late_mem ht)
    omega
theorem next_seq (x : Mgr) : 0 ≤ (nextM x).seq ∧ (nextM x).seq ≤ 255 := by
  show 0 ≤ (x.seq + 1) % 256 ∧ (x.seq + 1) % 256 ≤ 255
  omega
theorem chk_seq {m : Msg} {s : Int} (h : chk m = 0) (h2 : 0 ≤ s) (h3 : s ≤ 255) : chk { m with seq := s } = 0 := by
  unfold chk at h ⊢
  split at h
  · cases h
  · rename_i hh
    rw [if_neg]
    · exact h
    · rintro (e | e | e | e)
      · exact hh (.inl e)
      · exact hh (.inr (.inl e))
      · exact absurd e (by show ¬ s < 0; omega)
      · exact absurd e (by show ¬ 255 < s; omega)
theorem of_next {x : Mgr} {r : Rqs} (h : chk (ofM x r) = 0) : chk (ofM (nextM x) r) = 0 := chk_seq (m := ofM x r) h (next_seq x).1 (next_seq x).2
theorem find_head {α : Type} {p : α → Bool} : ∀ {l : List α}, (∀ a ∈ l, p a = true) → l.find? p = l.head?
  | [], _ => rfl
  | a :: l, h => by rw [List.find?_cons, h a (List.mem_cons_self ..)]; rfl

/-- What is heard behind a right message: the late answers, and those that come now. -/
theorem hear_is {x : Mgr} {r : Rqs} {y : Wre} (hd : devsE y.devs = 0) (hm : chk (ofM x r) = 0) : hearW x r y = heardM y.late ++ if faultW y = 0 then sentA y.devs (ofM x r) else [] := by
  unfold hearW
  rw [heard_append]
  congr 1
  unfold textsW
  by_cases h1 : faultW y = 1
  · rw [if_pos h1, h1]
    rfl
  · rw [if_neg h1]
    exact now_heard (fun a ha => (sent_answers (devs_chk hd) hm a ha).1) _
/-- What is taken for the answer: the first that comes now. -/
theorem pick_is {x : Mgr} {r : Rqs} {y : Wre} (t : Int) (hd : devsE y.devs = 0) (hm : chk (ofM x r) = 0) (hs : Stale x.seq y.late) :
    pickR (ofM x r) t (hearW x r y) = if faultW y = 0 then (sentA y.devs (ofM x r)).head?.map (resM t) else none := by
  rw [hear_is hd hm, pickR, stale_find hs]
  split
  · rw [find_head fun a ha => ?_]
    unfold sentA at ha
    obtain ⟨d, hmem, hq⟩ := List.mem_filterMap.1 ha
    split at hq
    · rename_i hr
      cases hq
      exact (recv_some d _ (devs_chk hd d hmem) hm hr).2.2.2.2
    · cases hq
  · rfl
theorem next_ne (x : Mgr) (_ : 0 ≤ x.seq) (_ : x.seq ≤ 255) : x.seq ≠ (nextM x).seq := by
  show x.seq ≠ (x.seq + 1) % 256
  omega
/-- What is late then answers an earlier message. -/
theorem send_stale {x : Mgr} {r : Rqs} {y : Wre} (hd : devsE y.devs = 0) (hm : chk (ofM x r) = 0) : Stale (nextM x).seq (sendW x r y).late := by
  have h5 := small_of_chk hm
  show Stale (nextM x).seq (lateW (faultW y) (textsW x r y))
  unfold textsW
  split
  · intro a ha
    unfold lateW at ha
    split at ha <;> cases ha
  · exact late_stale (m := ofM x r) (fun a ha => sent_answers (devs_chk hd) hm a ha) (next_ne x h5.2.2.2.2.1 h5.2.2.2.2.2.1) _

/-! ### One device -/
/-- The device behind a request to it, its data and the reason. -/
def effD (r : Rqs) (d : Dev) : Dev × ByteArray × Int := doneD d (ofM ⟨0, 0, 0⟩ r)
def setL (r : Rqs) (l : List Dev) : List Dev := l.map fun d => if d.id = r.dst then (effD r d).1 else d
def resD (r : Rqs) (t : Int) (d : Dev) : Rsl := if 0 ≤ (effD r d).2.2 then ⟨1, ⟨#[]⟩, b0 (bytesB (effD r d).2.2 1), t⟩ else ⟨0, (effD r d).2.1, 0, t⟩
theorem recv_one {x : Mgr} {r : Rqs} (hk : r.kind = 4 ∨ r.kind = 5) (ht : r.dst ≠ 281474976710655) (d : Dev) :
    recvD d (ofM x r) = if d.id = r.dst then ((effD r d).1, answered (ofM x r) d.id (effD r d).2.1 (effD r d).2.2, true) else (d, zeroM, false) := by
  have he : doneD d (ofM x r) = effD r d := rfl
  have hdf : deafD d (ofM x r) = decide (d.id ≠ r.dst) := by
    show decide ((r.dst ≠ d.id ∧ r.dst ≠ 281474976710655) ∨ r.kind = 6 ∨ r.kind = 7) = _
    apply decide_eq_decide.2
    constructor
    · intro h e
      omega
    · intro h
      exact .inl ⟨fun e => h e.symm, ht⟩
  rw [recvD, hdf]
  by_cases h : d.id = r.dst
  · rw [if_neg (by simp [h]), if_neg (by show ¬ r.kind = 1; omega), if_neg (by show ¬ r.dst = _; exact ht), if_pos h, he]
  · rw [if_pos (by simp [h]), if_neg h]
theorem sent_set {x : Mgr} {r : Rqs} (hk : r.kind = 4 ∨ r.kind = 5) (ht : r.dst ≠ 281474976710655) (l : List Dev) : sentD l (ofM x r) = setL r l := by
  unfold sentD setL
  refine List.map_congr_left fun d _ => ?_
  rw [recv_one hk ht]
  split <;> rfl
theorem ids_inj {l : List Dev} (h : (l.map (·.id)).Nodup) {d e : Dev} (hd : d ∈ l) (he : e ∈ l) (hx : d.id = e.id) : d = e := by
  induction l with
  | nil => cases hd
  | cons a l ih =>
    rw [List.map_cons, List.nodup_cons] at h
    rcases List.mem_cons.1 hd with h1 | h1
    · rcases List.mem_cons.1 he with h2 | h2
      · rw [h1, h2]
      · rw [← h1] at h
        exact (h.1 (List.mem_map.2 ⟨e, h2, hx.symm⟩)).elim
    · rcases List.mem_cons.1 he with h2 | h2
      · rw [← h2] at h
        exact (h.1 (List.mem_map.2 ⟨d, h1, hx⟩)).elim
      · exact ih h.2 h1 h2
theorem devs_ids {l : List Dev} (h : devsE l = 0) : (l.map (·.id)).Nodup := by
  have := devs_few h
  rw [devsE, if_neg (by omega)] at h
  exact (devs_nodup h).1
/-- The first answer is that of the device that is asked. -/
theorem head_some {x : Mgr} {r : Rqs} (hk : r.kind = 4 ∨ r.kind = 5) (ht : r.dst ≠ 281474976710655) : ∀ {l : List Dev}, (l.map (·.id)).Nodup → ∀ {d : Dev}, d ∈ l → d.id = r.dst →
    (sentA l (ofM x r)).head? = some (answered (ofM x r) d.id (effD r d).2.1 (effD r d).2.2)
  | a :: l, hn, d, hd, hx => by
    unfold sentA
    rw [List.filterMap_cons, recv_one hk ht]
    by_cases h : a.id = r.dst
    · obtain rfl := ids_inj hn hd (List.mem_cons_self ..) (hx.trans h.symm)
      rw [if_pos h]
      rfl
    · rw [if_neg h]
      rcases List.mem_cons.1 hd with rfl | hd
      · exact absurd hx h
      · rw [List.map_cons, List.nodup_cons] at hn
        exact head_some hk ht hn.2 hd hx
theorem head_none {x : Mgr} {r : Rqs} (hk : r.kind = 4 ∨ r.kind = 5) (ht : r.dst ≠ 281474976710655) : ∀ {l : List Dev}, (∀ d ∈ l, d.id ≠ r.dst) → sentA l (ofM x r) = []
  | [], _ => rfl
  | a :: l, h => by
    unfold sentA
    rw [List.filterMap_cons, recv_one hk ht, if_neg (h a (List.mem_cons_self ..))]
    exact head_none hk ht fun d hd => h d (List.mem_cons_of_mem _ hd)
theorem res_answered (m : Msg) (id : Int) (s : ByteArray) (n t : Int) : resM t (answered m id s n) = if 0 ≤ n then ⟨1, ⟨#[]⟩, b0 (bytesB n 1), t⟩ else ⟨0, s, 0, t⟩ := by
  unfold answered
  split <;> rfl
theorem set_none {r : Rqs} : ∀ {l : List Dev}, (∀ d ∈ l, d.id ≠ r.dst) → setL r l = l
  | [], _ => rfl
  | a :: l, h => by
    unfold setL
    rw [List.map_cons, if_neg (h a (List.mem_cons_self ..))]
    congr 1
    exact set_none fun d hd => h d (List.mem_cons_of_mem _ hd)
theorem eff_id (r : Rqs) (d : Dev) (hk : r.kind = 4 ∨ r.kind = 5) : (effD r d).1.id = d.id := by
  unfold effD doneD
  rcases hk with h | h
  · simp only [ofM, h]
    rfl
  · simp only [ofM, h]
    exact put_id d _ _
/-- What is set twice is as what is set once. -/
theorem put_again (d : Dev) (p : Int) (s : ByteArray) (hp : p ≠ 4097) : putD (putD d p s).1 p s = putD d p s := by
  unfold putD
  by_cases h1 : p = 130
  · rw [if_pos h1, if_pos h1]
    split
    · rfl
    · split <;> rfl
  rw [if_neg h1, if_neg h1]
  by_cases h2 : p = 240
  · rw [if_pos h2, if_pos h2]
    by_cases z : s.size ≠ 2
    · rw [if_pos z, if_pos z]
    · rw [if_neg z, if_neg z]
      by_cases f : fitsB (numOf s.data.toList) d.ft = false
      · rw [if_pos f, if_pos f]
      · rw [if_neg f, if_neg f]
  rw [if_neg h2, if_neg h2]
  by_cases h3 : p = 4096
  · rw [if_pos h3, if_pos h3]
    split
    · rfl
    · split <;> rfl
  rw [if_neg h3, if_neg h3, if_neg hp, if_neg hp]
  split <;> rfl
theorem eff_four {r : Rqs} (h : r.kind = 4) (d : Dev) : effD r d = (d, shownD d r.par) := by
  unfold effD doneD
  simp only [ofM, h]
  rfl
theorem eff_five {r : Rqs} (h : r.kind = 5) (d : Dev) : effD r d = ((putD d r.par r.dat).1, ⟨#[]⟩, (putD d r.par r.dat).2) := by
  unfold effD doneD
  simp only [ofM, h]
  rfl
theorem eff_again (r : Rqs) (d : Dev) (hk : r.kind = 4 ∨ r.kind = 5 ∧ r.par ≠ 4097) : effD r (effD r d).1 = effD r d := by
  rcases hk with h | ⟨h, hp⟩
  · rw [eff_four h, eff_four h]
  · rw [eff_five h, eff_five h, put_again d _ _ hp]
theorem set_again {r : Rqs} (hk : r.kind = 4 ∨ r.kind = 5 ∧ r.par ≠ 4097) (l : List Dev) : setL r (setL r l) = setL r l := by
  unfold setL
  rw [List.map_map]
  refine List.map_congr_left fun d _ => ?_
  have hk' : r.kind = 4 ∨ r.kind = 5 := hk.imp id (·.1)
  simp only [Function.comp]
  by_cases h : d.id = r.dst
  · rw [if_pos h, eff_id r d hk', if_pos h, eff_again r d hk]
  · rw [if_neg h, if_neg h]
theorem set_ids {r : Rqs} (hk : r.kind = 4 ∨ r.kind = 5) (l : List Dev) : (setL r l).map (·.id) = l.map (·.id) := by
  unfold setL
  rw [List.map_map]
  refine List.map_congr_left fun d _ => ?_
  simp only [Function.comp]
  split
  · exact eff_id r d hk
  · rfl
/-- The device that is asked, its first answer, and the same behind it was set. -/
theorem res_again {r : Rqs} (hk : r.kind = 4 ∨ r.kind = 5 ∧ r.par ≠ 4097) (t : Int) (d : Dev) : resD r t (effD r d).1 = resD r t d := by
  unfold resD
  rw [eff_again r d hk]
theorem mem_set {r : Rqs} {l : List Dev} {d : Dev} (hd : d ∈ l) (hx : d.id = r.dst) : (effD r d).1 ∈ setL r l := List.mem_map.2 ⟨d, hd, by rw [if_pos hx]⟩

/-- What becomes of a request to one device, whatever the faults are. -/
theorem ask_out {r : Rqs} (hk : r.kind = 4 ∨ r.kind = 5 ∧ r.par ≠ 4097) (ht : r.dst ≠ 281474976710655) (l : List Dev) (hl : devsE l = 0) :
    ∀ (n : Nat) (t : Int) (x : Mgr) (y : Wre), wireE y = 0 → chk (ofM x r) = 0 → Stale x.seq y.late → (y.devs = l ∨ y.devs = setL r l) →
      ((askF r n t x y).2.1.devs = l ∨ (askF r n t x y).2.1.devs = setL r l) ∧
      (((askF r n t x y).2.2 = silent x ∧ ((∀ d ∈ l, d.id ≠ r.dst) ∨ n ≤ y.faults.length)) ∨
        ∃ d ∈ l, d.id = r.dst ∧ ∃ k : Nat, k < n ∧ k ≤ y.faults.length ∧ (askF r n t x y).2.2 = resD r (t + k) d ∧ (askF r n t x y).2.1.devs = setL r l)
  | 0, t, x, y, _, _, _, hd => ⟨hd, .inl ⟨rfl, .inr (Nat.zero_le _)⟩⟩
  | n + 1, t, x, y, hy, hm, hs, hd => by
    have hk' : r.kind = 4 ∨ r.kind = 5 := hk.imp id (·.1)
    obtain ⟨h1, h2, h3, h4, h5⟩ := wire_parts hy
    have hp := pick_is t h1 hm hs
    have hnx : (sendW x r y).devs = l ∨ (sendW x r y).devs = setL r l := by
      show (if faultW y = 1 then y.devs else sentD y.devs (ofM x r)) = l ∨ (if faultW y = 1 then y.devs else sentD y.devs (ofM x r)) = setL r l
      by_cases f : faultW y = 1
      · rw [if_pos f]
        exact hd
      · rw [if_neg f, sent_set hk' ht]
        rcases hd with e | e
        · exact .inr (by rw [e])
        · exact .inr (by rw [e, set_again hk])
    by_cases he : ∃ d ∈ l, d.id = r.dst
    · obtain ⟨d, hdl, hx⟩ := he
      obtain ⟨d', hd', hx', hr'⟩ : ∃ d' ∈ y.devs, d'.id = r.dst ∧ ∀ t, resD r t d' = resD r t d := by
        rcases hd with e | e
        · exact ⟨d, e ▸ hdl, hx, fun _ => rfl⟩
        · exact ⟨(effD r d).1, e ▸ mem_set hdl hx, (eff_id r d hk').trans hx, fun t => res_again hk t d⟩
      by_cases f : faultW y = 0
      · rw [if_pos f, head_some hk' ht (devs_ids h1) hd' hx', Option.map_some, res_answered] at hp
        have e : askF r (n + 1) t x y = (nextM x, sendW x r y, resD r t d') := by
          rw [askF, hp]
          rfl
        rw [e]
        have hset : (sendW x r y).devs = setL r l := by
          show (if faultW y = 1 then y.devs else sentD y.devs (ofM x r)) = setL r l
          rw [if_neg (by rw [f]; decide), sent_set hk' ht]
          rcases hd with e | e
          · rw [e]
          · rw [e, set_again hk]
        refine ⟨hnx, .inr ⟨d, hdl, hx, 0, Nat.succ_pos _, Nat.zero_le _, ?_, hset⟩⟩
        rw [hr']
        simp
      · rw [if_neg f] at hp
        have e : askF r (n + 1) t x y = askF r n (t + 1) (nextM x) (sendW x r y) := by rw [askF, hp]
        have hfl : y.faults.length = (sendW x r y).faults.length + 1 := by
          show y.faults.length = y.faults.tail.length + 1
          unfold faultW at f
          cases hy2 : y.faults with
          | nil => rw [hy2] at f; exact absurd rfl f
          | cons a b => rfl
        obtain ⟨a1, a2⟩ := ask_out hk ht l hl n (t + 1) (nextM x) (sendW x r y) (send_right hy hm) (of_next hm) (send_stale h1 hm) hnx
        rw [e]
        refine ⟨a1, ?_⟩
        rcases a2 with ⟨b1, b2⟩ | ⟨d2, hd2, hx2, k, k1, k2, k3, k4⟩
        · refine .inl ⟨b1, b2.imp id fun b => by omega⟩
        · refine .inr ⟨d2, hd2, hx2, k + 1, by omega, by omega, ?_, k4⟩
          rw [k3]
          congr 1
          push_cast
          omega
    · have he' : ∀ d ∈ l, d.id ≠ r.dst := fun d hd hx => he ⟨d, hd, hx⟩
      have hyd : ∀ d ∈ y.devs, d.id ≠ r.dst := by
        rcases hd with e | e
        · rw [e]; exact he'
        · rw [e, set_none he']; exact he'
      rw [head_none hk' ht hyd] at hp
      have hp' : pickR (ofM x r) t (hearW x r y) = none := by
        rw [hp]
        split <;> rfl
      have e : askF r (n + 1) t x y = askF r n (t + 1) (nextM x) (sendW x r y) := by rw [askF, hp']
      obtain ⟨a1, a2⟩ := ask_out hk ht l hl n (t + 1) (nextM x) (sendW x r y) (send_right hy hm) (of_next hm) (send_stale h1 hm) hnx
      rw [e]
      refine ⟨a1, .inl ?_⟩
      rcases a2 with ⟨b1, b2⟩ | ⟨d2, hd2, hx2, _⟩
      · exact ⟨b1, .inl he'⟩
      · exact absurd hx2 (he' d2 hd2)
end Go.Proofs.YtpkhcehddfmhpaaGreat

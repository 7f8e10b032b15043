/-
  The chapter's independent laws, plain: insisting, setting labels, reading, waiting.
  Whether two wires are equal, where they are; whether a world is small and right.
  Ask, behind all that leaves old memory alone.
-/
import Derived.Test.YtpkhcehddfmhpaaGreatQd
import Derived.Test.YtpkhcehddfmhpaaGreatQj
namespace Go.Proofs.YtpkhcehddfmhpaaGreat

theorem ask_ok {x : Mgr} {y : Wre} {r : Rqs} (h1 : mgrE x = 0) (h2 : wireE y = 0) (h3 : chk (ofM x r) = 0) (h4 : r.dst ≠ 281474976710655) (h5 : r.kind ≠ 6) (h6 : r.kind ≠ 7) : askE x y r = 0 := by
  have hg : givenE x y r = 0 := by
    rw [givenE, if_neg (not_not_intro h1), if_neg (not_not_intro h2), if_neg (not_not_intro h3), if_neg (by omega)]
  rw [askE, if_neg (not_not_intro hg), if_neg h4]
theorem calm_right {l : List Dev} {f : List Int} {t : List ByteArray} (h : wireE ⟨l, f, t⟩ = 0) : wireE ⟨l, [], t⟩ = 0 := by
  obtain ⟨h1, _, _, h4, h5⟩ := wire_parts h
  exact wire_of h1 (Nat.zero_le _) rfl h4 h5
theorem still_right {l : List Dev} {f : List Int} {t : List ByteArray} (h : wireE ⟨l, f, t⟩ = 0) : wireE ⟨l, f, []⟩ = 0 := by
  obtain ⟨h1, h2, h3, _, _⟩ := wire_parts h
  exact wire_of h1 h2 h3 (Nat.zero_le _) rfl
theorem stale_none (s : Int) : Stale s [] := fun a ha => by cases ha
theorem set_get {r : Rqs} {l : List Dev} {i : Nat} {d : Dev} (h : l[i]? = some d) : (setL r l)[i]? = some (if d.id = r.dst then (effD r d).1 else d) := by
  unfold setL
  rw [List.getElem?_map, h]
  rfl
theorem set_length (r : Rqs) (l : List Dev) : (setL r l).length = l.length := by
  unfold setL
  rw [List.length_map]
theorem res_kind (r : Rqs) (t : Int) (d : Dev) : (resD r t d).kind ≠ 2 := by
  unfold resD
  split
  · show (1 : Int) ≠ 2
    decide
  · show (0 : Int) ≠ 2
    decide
theorem res_tries (r : Rqs) (t : Int) (d : Dev) : (resD r t d).tries = t ∧ (resD r t d).kind = (resD r 1 d).kind ∧ (resD r t d).dat = (resD r 1 d).dat ∧ (resD r t d).reason = (resD r 1 d).reason := by
  unfold resD
  split <;> exact ⟨rfl, rfl, rfl, rfl⟩

theorem chk_plain {dst src seq kind par : Int} {dat : ByteArray} (hd : isId dst = true) (hs : isId src = true) (q0 : 0 ≤ seq) (q1 : seq ≤ 255) (hk : kind = 4 ∨ kind = 5) (p0 : 0 ≤ par) (p1 : par ≤ 65535) (hz : dat.size ≤ 255) : chk ⟨dst, src, seq, kind, par, dat⟩ = 0 := by
  unfold chk
  simp only [hd, hs, Bool.true_or, Bool.true_eq_false, false_or]
  rw [if_neg (by omega), if_neg (by omega), if_neg (by omega), if_neg (by omega)]
  rcases hk with rfl | rfl
  · rw [if_neg (by simp [lenOf]), if_neg (by omega)]
  · rw [if_neg (by simp [lenOf]), if_neg (by omega)]
/-- With fewer faults than tries. -/
theorem insist_law {x : Mgr} {r : Rqs} {l : List Dev} {f : List Int} (hx : mgrE x = 0) (hy : wireE ⟨l, f, []⟩ = 0) (hf : (f.length : Int) < x.tries) (hk : r.kind = 4 ∨ r.kind = 5 ∧ r.par ≠ 4097) (hc : chk (ofM x r) = 0) (ht : r.dst ≠ 281474976710655) :
    askE x ⟨l, f, []⟩ r = 0 ∧ askE x ⟨l, [], []⟩ r = 0 ∧ (askM x ⟨l, f, []⟩ r).2.1.devs = (askM x ⟨l, [], []⟩ r).2.1.devs ∧ (askM x ⟨l, f, []⟩ r).2.1.devs.length = l.length ∧
      (∀ (i : Nat) (d : Dev), l[i]? = some d → d.id ≠ r.dst → (askM x ⟨l, f, []⟩ r).2.1.devs[i]? = some d) ∧
      (((askM x ⟨l, [], []⟩ r).2.2.kind = 2 ∧ (askM x ⟨l, f, []⟩ r).2.2 = (askM x ⟨l, [], []⟩ r).2.2) ∨
        ((askM x ⟨l, [], []⟩ r).2.2.kind ≠ 2 ∧ (askM x ⟨l, f, []⟩ r).2.2.kind = (askM x ⟨l, [], []⟩ r).2.2.kind ∧ (askM x ⟨l, f, []⟩ r).2.2.dat = (askM x ⟨l, [], []⟩ r).2.2.dat ∧ (askM x ⟨l, f, []⟩ r).2.2.reason = (askM x ⟨l, [], []⟩ r).2.2.reason ∧
          (askM x ⟨l, f, []⟩ r).2.2.tries ≤ f.length + 1 ∧ 1 ≤ (askM x ⟨l, f, []⟩ r).2.2.tries)) := by
  have hk' : r.kind = 4 ∨ r.kind = 5 := hk.imp id (·.1)
  have hz := calm_right hy
  have hl := (wire_parts hy).1
  have h6 : r.kind ≠ 6 := by omega
  have h7 : r.kind ≠ 7 := by omega
  have hm := mgr_parts hx
  refine ⟨ask_ok hx hy hc ht h6 h7, ask_ok hx hz hc ht h6 h7, ?_⟩
  obtain ⟨a1, a2⟩ := ask_out hk ht l hl x.tries.toNat 1 x ⟨l, f, []⟩ hy hc (stale_none _) (.inl rfl)
  obtain ⟨b1, b2⟩ := ask_out hk ht l hl x.tries.toNat 1 x ⟨l, [], []⟩ hz hc (stale_none _) (.inl rfl)
  have ha : askM x ⟨l, f, []⟩ r = askF r x.tries.toNat 1 x ⟨l, f, []⟩ := rfl
  have hb : askM x ⟨l, [], []⟩ r = askF r x.tries.toNat 1 x ⟨l, [], []⟩ := rfl
  rw [← ha] at a1 a2
  rw [← hb] at b1 b2
  have hlen : (askM x ⟨l, f, []⟩ r).2.1.devs.length = l.length := by
    rcases a1 with e | e
    · rw [e]
    · rw [e, set_length]
  have hget : ∀ (i : Nat) (d : Dev), l[i]? = some d → d.id ≠ r.dst → (askM x ⟨l, f, []⟩ r).2.1.devs[i]? = some d := by
    intro i d h h2
    rcases a1 with e | e
    · rw [e, h]
    · rw [e, set_get h, if_neg h2]
  by_cases he : ∃ d ∈ l, d.id = r.dst
  · obtain ⟨d, hd, hx'⟩ := he
    rcases a2 with ⟨_, h | h⟩ | ⟨d1, hd1, hx1, k, k1, k2, k3, k4⟩
    · exact absurd hx' (h d hd)
    · exact absurd h (by show ¬ x.tries.toNat ≤ f.length; omega)
    · rcases b2 with ⟨_, h | h⟩ | ⟨d2, hd2, hx2, k', m1, m2, m3, m4⟩
      · exact absurd hx' (h d hd)
      · exact absurd h (by show ¬ x.tries.toNat ≤ 0; omega)
      · obtain rfl := ids_inj (devs_ids hl) hd1 hd2 (hx1.trans hx2.symm)
        refine ⟨by rw [k4, m4], hlen, hget, .inr ?_⟩
        obtain ⟨p1, p2, p3, p4⟩ := res_tries r (1 + k) d1
        obtain ⟨q1, q2, q3, q4⟩ := res_tries r (1 + k') d1
        rw [k3, m3, p1]
        refine ⟨res_kind _ _ _, p2.trans q2.symm, p3.trans q3.symm, p4.trans q4.symm, ?_, by omega⟩
        have k2' : k ≤ f.length := k2
        omega
  · have he' : ∀ d ∈ l, d.id ≠ r.dst := fun d hd h => he ⟨d, hd, h⟩
    have hs := set_none he'
    rw [hs] at a1 b1
    refine ⟨by rw [a1.elim id id, b1.elim id id], hlen, hget, .inl ?_⟩
    rcases a2 with ⟨e1, _⟩ | ⟨d1, hd1, hx1, _⟩
    · rcases b2 with ⟨e2, _⟩ | ⟨d2, hd2, hx2, _⟩
      · rw [e1, e2]
        exact ⟨rfl, rfl⟩
      · exact absurd hx2 (he' d2 hd2)
    · exact absurd hx1 (he' d1 hd1)

/-- A label is set. -/
theorem sets_law {x : Mgr} {l : List Dev} {f : List Int} {i : Nat} {d : Dev} {s : ByteArray} (hx : mgrE x = 0) (hy : wireE ⟨l, f, []⟩ = 0) (hd : l[i]? = some d) (hs : s.size ≤ 32) :
    askE x ⟨l, f, []⟩ ⟨d.id, 5, 130, s⟩ = 0 ∧ (askM x ⟨l, f, []⟩ ⟨d.id, 5, 130, s⟩).2.1.devs.length = l.length ∧
      ∃ g : Dev, (askM x ⟨l, f, []⟩ ⟨d.id, 5, 130, s⟩).2.1.devs[i]? = some g ∧ { g with lb := d.lb } = d ∧ ((askM x ⟨l, f, []⟩ ⟨d.id, 5, 130, s⟩).2.2.kind = 0 → g.lb = s) ∧ ((askM x ⟨l, f, []⟩ ⟨d.id, 5, 130, s⟩).2.2.kind = 1 → g.lb = d.lb) ∧ (g.lb = d.lb ∨ g.lb = s) := by
  have hl := (wire_parts hy).1
  have hm := mgr_parts hx
  have hmem := List.mem_of_getElem? hd
  have hid := isId_of_chk d (devs_chk hl d hmem)
  have hidn := isId_nat hid
  have hc : chk (ofM x ⟨d.id, 5, 130, s⟩) = 0 := chk_plain hid hm.1 hm.2.1 hm.2.2.1 (.inr rfl) (by show (0 : Int) ≤ 130; decide) (by show (130 : Int) ≤ 65535; decide) (by show s.size ≤ 255; omega)
  have ht : d.id ≠ 281474976710655 := by omega
  have hk : (⟨d.id, 5, 130, s⟩ : Rqs).kind = 4 ∨ (⟨d.id, 5, 130, s⟩ : Rqs).kind = 5 ∧ (⟨d.id, 5, 130, s⟩ : Rqs).par ≠ 4097 := .inr ⟨rfl, by show (130 : Int) ≠ 4097; decide⟩
  have heff : effD ⟨d.id, 5, 130, s⟩ d = if lblE s ≠ 0 then (d, ⟨#[]⟩, 3) else ({ d with lb := s }, ⟨#[]⟩, -1) := by
    rw [eff_five rfl]
    show ((putD d 130 s).1, _, (putD d 130 s).2) = _
    unfold putD
    rw [if_pos rfl, if_neg (by omega)]
    split <;> rfl
  refine ⟨ask_ok hx hy hc ht (by show (5 : Int) ≠ 6; decide) (by show (5 : Int) ≠ 7; decide), ?_⟩
  obtain ⟨a1, a2⟩ := ask_out hk ht l hl x.tries.toNat 1 x ⟨l, f, []⟩ hy hc (stale_none _) (.inl rfl)
  have ha : askM x ⟨l, f, []⟩ ⟨d.id, 5, 130, s⟩ = askF ⟨d.id, 5, 130, s⟩ x.tries.toNat 1 x ⟨l, f, []⟩ := rfl
  rw [← ha] at a1 a2
  generalize askM x ⟨l, f, []⟩ ⟨d.id, 5, 130, s⟩ = A at a1 a2
  have hlen : A.2.1.devs.length = l.length := by
    rcases a1 with e | e
    · rw [e]
    · rw [e, set_length]
  refine ⟨hlen, ?_⟩
  have hg : A.2.1.devs[i]? = some d ∨ A.2.1.devs[i]? = some (effD ⟨d.id, 5, 130, s⟩ d).1 := by
    rcases a1 with e | e
    · exact .inl (by rw [e, hd])
    · exact .inr (by rw [e, set_get hd, if_pos rfl])
  have hset : A.2.1.devs = setL ⟨d.id, 5, 130, s⟩ l → A.2.1.devs[i]? = some (effD ⟨d.id, 5, 130, s⟩ d).1 := fun e => by rw [e, set_get hd, if_pos rfl]
  by_cases hb : lblE s ≠ 0
  · rw [if_pos hb] at heff
    have hgd : A.2.1.devs[i]? = some d := by
      rcases hg with e | e
      · exact e
      · rw [e, heff]
    refine ⟨d, hgd, rfl, fun h0 => ?_, fun _ => rfl, .inl rfl⟩
    rcases a2 with ⟨e, _⟩ | ⟨d2, hd2, hx2, k, _, _, k3, _⟩
    · rw [e] at h0
      cases h0
    · obtain rfl := ids_inj (devs_ids hl) hd2 hmem hx2
      rw [k3, resD, heff, if_pos (by show (0 : Int) ≤ 3; decide)] at h0
      cases h0
  · rw [if_neg hb] at heff
    rw [heff] at hg hset
    rcases a2 with ⟨e, _⟩ | ⟨d2, hd2, hx2, k, _, _, k3, k4⟩
    · have h2 : A.2.2.kind = 2 := by rw [e]; rfl
      rcases hg with hg | hg
      · exact ⟨d, hg, rfl, fun h => absurd (h2.symm.trans h) (by decide), fun h => absurd (h2.symm.trans h) (by decide), .inl rfl⟩
      · exact ⟨_, hg, rfl, fun h => absurd (h2.symm.trans h) (by decide), fun h => absurd (h2.symm.trans h) (by decide), .inr rfl⟩
    · obtain rfl := ids_inj (devs_ids hl) hd2 hmem hx2
      have h0 : A.2.2.kind = 0 := by
        rw [k3, resD, heff, if_neg (by show ¬ (0 : Int) ≤ -1; decide)]
      exact ⟨_, hset k4, rfl, fun _ => rfl, fun h => absurd (h0.symm.trans h) (by decide), .inr rfl⟩

/-! ### Reading -/
theorem get_set {r : Rqs} (hk : r.kind = 4) (l : List Dev) : setL r l = l := by
  unfold setL
  conv => rhs; rw [← List.map_id l]
  refine List.map_congr_left fun d _ => ?_
  rw [eff_four hk]
  split <;> rfl
theorem send_calm {x : Mgr} {r : Rqs} {l : List Dev} (hk : r.kind = 4) (ht : r.dst ≠ 281474976710655) : sendW x r ⟨l, [], []⟩ = ⟨l, [], []⟩ := by
  have h : sentD l (ofM x r) = l := by rw [sent_set (.inl hk) ht, get_set hk]
  show (⟨if (0 : Int) = 1 then l else sentD l (ofM x r), [], lateW 0 _⟩ : Wre) = _
  rw [if_neg (by decide), h]
  rfl
/-- Nobody answers. -/
theorem ask_silent {r : Rqs} {l : List Dev} (hk : r.kind = 4) (ht : r.dst ≠ 281474976710655) (hy : wireE ⟨l, [], []⟩ = 0) (hn : ∀ d ∈ l, d.id ≠ r.dst) :
    ∀ (n : Nat) (t : Int) (x : Mgr), chk (ofM x r) = 0 → 0 ≤ x.seq → x.seq ≤ 255 → askF r n t x ⟨l, [], []⟩ = ({ x with seq := (x.seq + n) % 256 }, ⟨l, [], []⟩, silent x)
  | 0, t, x, _, h0, h1 => by
    have e : (x.seq + (0 : Nat)) % 256 = x.seq := by omega
    rw [e]
    rfl
  | n + 1, t, x, hm, h0, h1 => by
    have hp := pick_is (y := ⟨l, [], []⟩) t (wire_parts hy).1 hm (stale_none _)
    rw [head_none (.inl hk) ht hn] at hp
    have hp' : pickR (ofM x r) t (hearW x r ⟨l, [], []⟩) = none := by
      rw [hp]
      split <;> rfl
    have e : askF r (n + 1) t x ⟨l, [], []⟩ = askF r n (t + 1) (nextM x) (sendW x r ⟨l, [], []⟩) := by rw [askF, hp']
    rw [e, send_calm hk ht, ask_silent hk ht hy hn n (t + 1) (nextM x) (of_next hm) (next_seq x).1 (next_seq x).2]
    have e2 : ((x.seq + 1) % 256 + (n : Int)) % 256 = (x.seq + ((n + 1 : Nat) : Int)) % 256 := by
      push_cast
      omega
    show (({ id := x.id, seq := ((x.seq + 1) % 256 + (n : Int)) % 256, tries := x.tries } : Mgr), _, _) = _
    rw [e2]
    rfl
theorem b0_one {n : Int} (h : n = 0 ∨ n = 1) : (b0 (bytesB n 1) : Int) = n := by
  rcases h with rfl | rfl <;> decide
/-- Without faults. -/
theorem reads_law {x : Mgr} {l : List Dev} {id par : Int} (hx : mgrE x = 0) (hy : wireE ⟨l, [], []⟩ = 0) (hi : isId id = true) (hp0 : 0 ≤ par) (hp1 : par ≤ 65535) :
    askE x ⟨l, [], []⟩ ⟨id, 4, par, ⟨#[]⟩⟩ = 0 ∧ (askM x ⟨l, [], []⟩ ⟨id, 4, par, ⟨#[]⟩⟩).2.1 = ⟨l, [], []⟩ ∧
      (askM x ⟨l, [], []⟩ ⟨id, 4, par, ⟨#[]⟩⟩).1.seq = (x.seq + (askM x ⟨l, [], []⟩ ⟨id, 4, par, ⟨#[]⟩⟩).2.2.tries) % 256 ∧
      ((∀ d ∈ l, d.id ≠ id) → (askM x ⟨l, [], []⟩ ⟨id, 4, par, ⟨#[]⟩⟩).2.2 = ⟨2, ⟨#[]⟩, 0, x.tries⟩) ∧
      (∀ d ∈ l, d.id = id → (askM x ⟨l, [], []⟩ ⟨id, 4, par, ⟨#[]⟩⟩).2.2 = if 0 ≤ (shownD d par).2 then ⟨1, ⟨#[]⟩, (shownD d par).2, 1⟩ else ⟨0, (shownD d par).1, 0, 1⟩) := by
  have hl := (wire_parts hy).1
  have hm := mgr_parts hx
  have hidn := isId_nat hi
  have ht : id ≠ 281474976710655 := by omega
  have hc : chk (ofM x ⟨id, 4, par, ⟨#[]⟩⟩) = 0 := chk_plain hi hm.1 hm.2.1 hm.2.2.1 (.inl rfl) hp0 hp1 (by show (⟨#[]⟩ : ByteArray).size ≤ 255; decide)
  refine ⟨ask_ok hx hy hc ht (by show (4 : Int) ≠ 6; decide) (by show (4 : Int) ≠ 7; decide), ?_⟩
  have ha : askM x ⟨l, [], []⟩ ⟨id, 4, par, ⟨#[]⟩⟩ = askF ⟨id, 4, par, ⟨#[]⟩⟩ x.tries.toNat 1 x ⟨l, [], []⟩ := rfl
  by_cases he : ∃ d ∈ l, d.id = id
  · obtain ⟨d, hd, hxd⟩ := he
    obtain ⟨n, hn⟩ : ∃ n, x.tries.toNat = n + 1 := ⟨x.tries.toNat - 1, by omega⟩
    have hp := pick_is (r := ⟨id, 4, par, ⟨#[]⟩⟩) (y := ⟨l, [], []⟩) 1 hl hc (stale_none _)
    have hf : faultW ⟨l, [], []⟩ = 0 := rfl
    rw [if_pos hf, head_some (.inl rfl) ht (devs_ids hl) hd hxd, Option.map_some, res_answered, eff_four rfl] at hp
    have e : askF ⟨id, 4, par, ⟨#[]⟩⟩ (n + 1) 1 x ⟨l, [], []⟩ = (nextM x, ⟨l, [], []⟩, if 0 ≤ (shownD d par).2 then ⟨1, ⟨#[]⟩, b0 (bytesB (shownD d par).2 1), 1⟩ else ⟨0, (shownD d par).1, 0, 1⟩) := by
      rw [askF, hp, send_calm rfl ht]
    rw [ha, hn, e]
    have hb : (if 0 ≤ (shownD d par).2 then (⟨1, ⟨#[]⟩, b0 (bytesB (shownD d par).2 1), 1⟩ : Rsl) else ⟨0, (shownD d par).1, 0, 1⟩) = if 0 ≤ (shownD d par).2 then ⟨1, ⟨#[]⟩, (shownD d par).2, 1⟩ else ⟨0, (shownD d par).1, 0, 1⟩ := by
      split
      · rename_i h0
        rw [b0_one]
        rcases shown_reason d par with h | h
        · omega
        · omega
      · rfl
    refine ⟨rfl, ?_, fun h => absurd hxd (h d hd), fun d2 hd2 hx2 => ?_⟩
    · show (x.seq + 1) % 256 = (x.seq + (if 0 ≤ (shownD d par).2 then (⟨1, ⟨#[]⟩, b0 (bytesB (shownD d par).2 1), 1⟩ : Rsl) else ⟨0, (shownD d par).1, 0, 1⟩).tries) % 256
      split <;> rfl
    · obtain rfl := ids_inj (devs_ids hl) hd2 hd (hx2.trans hxd.symm)
      exact hb
  · have he' : ∀ d ∈ l, d.id ≠ id := fun d hd h => he ⟨d, hd, h⟩
    rw [ha, ask_silent (r := ⟨id, 4, par, ⟨#[]⟩⟩) rfl ht hy he' x.tries.toNat 1 x hc hm.2.1 hm.2.2.1]
    refine ⟨rfl, ?_, fun _ => rfl, fun d hd h => absurd h (he' d hd)⟩
    show (x.seq + (x.tries.toNat : Int)) % 256 = (x.seq + x.tries) % 256
    rw [Int.toNat_of_nonneg (by omega)]

/-! ### Waiting -/
theorem find_stale {m : Msg} {l k : List ByteArray} (h : Stale m.seq l) : (heardM (l ++ k)).find? (matchesM m) = (heardM k).find? (matchesM m) := by
  rw [heard_append, stale_find h]
/-- Late answers to an earlier message are not taken. -/
theorem ask_late {r : Rqs} {x : Mgr} {l : List Dev} {f : List Int} {t : List ByteArray} (n : Nat) (k : Int) (h : Stale x.seq t) : askF r (n + 1) k x ⟨l, f, t⟩ = askF r (n + 1) k x ⟨l, f, []⟩ := by
  have h1 : pickR (ofM x r) k (hearW x r ⟨l, f, t⟩) = pickR (ofM x r) k (hearW x r ⟨l, f, []⟩) := by
    unfold pickR hearW
    rw [find_stale (m := ofM x r) h]
    rfl
  have h2 : sendW x r ⟨l, f, t⟩ = sendW x r ⟨l, f, []⟩ := rfl
  rw [askF, askF, h1, h2]
theorem ask_error {x : Mgr} {l : List Dev} {f : List Int} {t : List ByteArray} {r : Rqs} (h : wireE ⟨l, f, t⟩ = 0) : askE x ⟨l, f, t⟩ r = askE x ⟨l, f, []⟩ r := by
  have hz := still_right h
  unfold askE givenE
  rw [h, hz]
theorem waits_law {x : Mgr} {l : List Dev} {r s : Rqs} (hg : givenE x ⟨l, [4], []⟩ r = 0) :
    hearW x r ⟨l, [4], []⟩ = [] ∧ (sendW x r ⟨l, [4], []⟩).faults = [] ∧
      askE (nextM x) ⟨(sendW x r ⟨l, [4], []⟩).devs, [], (sendW x r ⟨l, [4], []⟩).late⟩ s = askE (nextM x) ⟨(sendW x r ⟨l, [4], []⟩).devs, [], []⟩ s ∧
      askU (nextM x) ⟨(sendW x r ⟨l, [4], []⟩).devs, [], (sendW x r ⟨l, [4], []⟩).late⟩ s = askU (nextM x) ⟨(sendW x r ⟨l, [4], []⟩).devs, [], []⟩ s := by
  have hp : mgrE x = 0 ∧ wireE ⟨l, [4], []⟩ = 0 ∧ chk (ofM x r) = 0 := by
    unfold givenE at hg
    split at hg
    · rename_i h1; exact absurd hg h1
    · rename_i h1
      split at hg
      · rename_i h2; exact absurd hg h2
      · rename_i h2
        split at hg
        · rename_i h3; exact absurd hg h3
        · rename_i h3
          exact ⟨Decidable.not_not.1 h1, Decidable.not_not.1 h2, Decidable.not_not.1 h3⟩
  obtain ⟨hx, hy, hc⟩ := hp
  have hl := (wire_parts hy).1
  have hm := mgr_parts hx
  have hsw : wireE ⟨(sendW x r ⟨l, [4], []⟩).devs, [], (sendW x r ⟨l, [4], []⟩).late⟩ = 0 := send_right hy hc
  have hst : Stale (nextM x).seq (sendW x r ⟨l, [4], []⟩).late := send_stale hl hc
  have he := ask_error (x := nextM x) (r := s) hsw
  refine ⟨?_, rfl, he, ?_⟩
  · rw [hear_is hl hc]
    rfl
  · unfold askU
    rw [he]
    split
    · rename_i h0
      have hx2 : (nextM x).tries = x.tries := rfl
      obtain ⟨n, hn⟩ : ∃ n, (nextM x).tries.toNat = n + 1 := ⟨x.tries.toNat - 1, by rw [hx2]; omega⟩
      show askF s (nextM x).tries.toNat 1 (nextM x) _ = askF s (nextM x).tries.toNat 1 (nextM x) _
      rw [hn]
      exact ask_late n 1 hst
    · rfl
end Go.Proofs.YtpkhcehddfmhpaaGreat

namespace Go.Proofs.YtpkhcehddfmhpaaGreat
open Go.RowKit Go.Shelf

set_option maxHeartbeats 2000000 in
set_option maxRecDepth 100000 in
theorem sametexts_any (v u : Value) (l : List ByteArray) (w : World) (hv : StrsAt w v l) (hu : StrsAt w u l) :
    Calls Tryz.prog 29 #[v, u] w fun e w' => e = .returned (.bool true) ∧ Below w.heap.size w w' := by
  rcases hv with ⟨h0, a, cap, rfl⟩ | ⟨h0, h1, b, off, cap, rfl, hlt, hc⟩
  · have hl : l = [] := List.eq_nil_of_length_eq_zero h0
    subst hl
    rcases hu with ⟨_, a', cap', rfl⟩ | ⟨g0, _⟩
    · go_enter Tryz.func29, Tryz.ntmps29
      go_wp2
      refine wp_loop_rounds 1 ?_
      rw [rounds_succ]
      go_wp2
      go_ret
      exact ⟨rfl, by (repeat' (first | (with_reducible exact Below.refl _ _) | (with_reducible assumption) | (with_reducible refine below_run ?_ (by assumption)) | (with_reducible refine below_of_upd ?_ (by assumption) ?_) | (with_reducible refine below_drewN ?_ _) | (with_reducible refine Below.drew ?_) | (with_reducible refine below_seven ?_ ?_) | (with_reducible refine below_six ?_ ?_) | (with_reducible refine below_one ?_ ?_) | (with_reducible refine Below.alloc ?_ ?_ _) | (with_reducible refine below_after ?_ ?_ (by assumption)) | (show _ ≤ _; first | omega | (simp; done) | (simp; omega))))⟩
    · simp at g0
  · rcases hu with ⟨g0, _⟩ | ⟨_, _, b', off', cap', rfl, hlt', hc'⟩
    · omega
    · have h3 : (l.length : Int) ≤ 140737488351232 := by omega
      have h4 : (0 : Int) < (l.length : Int) := by omega
      have h5 : ((l.length : Int) != (l.length : Int)) = false := by simp
      go_enter Tryz.func29, Tryz.ntmps29
      go_wp2
      go_loopw [5] (fun i wr => ∃ k : Nat, k ≤ l.length ∧ i = .int .i64 k ∧ Below w.heap.size w wr) (fun i _ => l.length - (intOf i).toNat)
      case atStart => exact ⟨0, Nat.zero_le _, rfl, Below.refl _ _⟩
      case round =>
        obtain ⟨k, hk, rfl, hb0⟩ := hrel
        by_cases hlt2 : k < l.length
        · have hlt3 : (k : Int) < (l.length : Int) := by omega
          have hk0 : (0 : Int) ≤ (k : Int) := by omega
          have hw1 : ∀ j, j < l.length * 1 → wr.cell? ⟨b, off + j, none⟩ = strsC l j := fun j hj => (hb0.cell (p := ⟨b, off + j, none⟩) hlt).trans (hc j hj)
          have hw2 : ∀ j, j < l.length * 1 → wr.cell? ⟨b', off' + j, none⟩ = strsC l j := fun j hj => (hb0.cell (p := ⟨b', off' + j, none⟩) hlt').trans (hc' j hj)
          obtain ⟨d, hd, e0⟩ := str_cell hw1 k hlt2
          obtain ⟨d', hd', f0⟩ := str_cell hw2 k hlt2
          rw [hd] at hd'
          simp only [Option.some.injEq] at hd'
          subst hd'
          clear hc hc' hw1 hw2 hd
          go_wp2
          go_quiet (fail)
          go_wp2
          go_roundw
          case rel => exact ⟨k + 1, by omega, by go_num, by (repeat' (first | (with_reducible exact Below.refl _ _) | (with_reducible assumption) | (with_reducible refine below_run ?_ (by assumption)) | (with_reducible refine below_of_upd ?_ (by assumption) ?_) | (with_reducible refine below_drewN ?_ _) | (with_reducible refine Below.drew ?_) | (with_reducible refine below_seven ?_ ?_) | (with_reducible refine below_six ?_ ?_) | (with_reducible refine below_one ?_ ?_) | (with_reducible refine Below.alloc ?_ ?_ _) | (with_reducible refine below_after ?_ ?_ (by assumption)) | (show _ ≤ _; first | omega | (simp; done) | (simp; omega))))⟩
          case measure => simp [intOf]; omega
        · obtain rfl : k = l.length := by omega
          go_wp2
          go_ret
          exact ⟨rfl, hb0⟩

set_option maxHeartbeats 4000000 in
set_option maxRecDepth 100000 in
theorem rsame_any (da fa la da' fa' la' : Option Addr) (dn dc fn fc ln lc dn' dc' fn' fc' ln' lc' : Nat) (y : Wre) (w : World) (h : WireR w (.slice da dn dc) (.slice fa fn fc) (.slice la ln lc) y) (h' : WireR w (.slice da' dn' dc') (.slice fa' fn' fc') (.slice la' ln' lc') y) :
    Calls Tryz.prog 10 #[.agg #[.slice da dn dc, .slice fa fn fc, .slice la ln lc], .agg #[.slice da' dn' dc', .slice fa' fn' fc', .slice la' ln' lc']] w fun e w' => e = .returned (.bool true) ∧ Below w.heap.size w w' := by
  obtain rfl : fn = y.faults.length := by
    obtain ⟨a, c, e⟩ := shape_of h.faults
    cases e
    rfl
  obtain rfl : fn' = y.faults.length := by
    obtain ⟨a, c, e⟩ := shape_of h'.faults
    cases e
    rfl
  have hz : (y.faults.length : Int) ≤ 140737488351232 := by
    rcases h.faults with ⟨h0, _⟩ | ⟨_, h1, _⟩ <;> omega
  have h5 : ((y.faults.length : Int) != (y.faults.length : Int)) = false := by simp
  obtain ⟨W, hW⟩ : ∃ W, (w.alloc (.cells #[.slice da dn dc, .slice fa y.faults.length fc, .slice la ln lc] 44)).alloc (.cells #[.slice da' dn' dc', .slice fa' y.faults.length fc', .slice la' ln' lc'] 44) = W := ⟨_, rfl⟩
  have hbW : Below w.heap.size w W := by rw [← hW]; (repeat' (first | (with_reducible exact Below.refl _ _) | (with_reducible assumption) | (with_reducible refine below_run ?_ (by assumption)) | (with_reducible refine below_of_upd ?_ (by assumption) ?_) | (with_reducible refine below_drewN ?_ _) | (with_reducible refine Below.drew ?_) | (with_reducible refine below_seven ?_ ?_) | (with_reducible refine below_six ?_ ?_) | (with_reducible refine below_one ?_ ?_) | (with_reducible refine Below.alloc ?_ ?_ _) | (with_reducible refine below_after ?_ ?_ (by assumption)) | (show _ ≤ _; first | omega | (simp; done) | (simp; omega))))
  have r0 : RowAt W w.heap.size 44 #[.slice da dn dc, .slice fa y.faults.length fc, .slice la ln lc] := by rw [← hW]; exact (RowAt.new _ _ _).alloc _
  have r1 : RowAt W (w.heap.size + 1) 44 #[.slice da' dn' dc', .slice fa' y.faults.length fc', .slice la' ln' lc'] := by rw [← hW]; exact RowAt.mk (by simp) rfl
  have H := Lib.hid (h.run hbW)
  have H' := Lib.hid (h'.run hbW)
  have HB := Lib.hid hbW
  have R0 := Lib.hid r0
  have R1 := Lib.hid r1
  obtain ⟨x1, x2, x3, x4, x5, x6⟩ := row_facts r0
  obtain ⟨y1, y2, y3, y4, y5, y6⟩ := row_facts r1
  clear h h' r0 r1 hbW
  go_enter Tryz.func10, Tryz.ntmps10
  go_upto_region 1 with fail
  clear hW
  go_wp2_with fail
  refine (same_any _ _ y.devs _ H.out.devs H'.out.devs).mono ?_
  rintro e w1 ⟨rfl, hb1⟩
  have H1 := Lib.hid (H.out.run hb1)
  have H1' := Lib.hid (H'.out.run hb1)
  have HB1 := Lib.hid (below_run HB.out hb1)
  have r0 := R0.out.run hb1
  have r1 := R1.out.run hb1
  have R01 := Lib.hid r0
  have R11 := Lib.hid r1
  clear hb1 H H' HB x1 x2 x3 x4 x5 x6 y1 y2 y3 y4 y5 y6 R0 R1
  obtain ⟨x1, x2, x3, x4, x5, x6⟩ := row_facts r0
  obtain ⟨y1, y2, y3, y4, y5, y6⟩ := row_facts r1
  clear r0 r1
  go_wp2_with fail
  refine (sametexts_any _ _ y.late _ H1.out.late H1'.out.late).mono ?_
  rintro e w2 ⟨rfl, hb2⟩
  have H2 := Lib.hid (H1.out.run hb2)
  have H2' := Lib.hid (H1'.out.run hb2)
  have HB2 := Lib.hid (below_run HB1.out hb2)
  have r0 := R01.out.run hb2
  have r1 := R11.out.run hb2
  clear hb2 H1 H1' HB1 x1 x2 x3 x4 x5 x6 y1 y2 y3 y4 y5 y6 R01 R11
  obtain ⟨x1, x2, x3, x4, x5, x6⟩ := row_facts r0
  obtain ⟨y1, y2, y3, y4, y5, y6⟩ := row_facts r1
  have HR0 := Lib.hid r0
  have HR1 := Lib.hid r1
  clear r0 r1
  go_wp2
  go_loopw [5] (fun i wr => ∃ k : Nat, k ≤ y.faults.length ∧ i = .int .i64 k ∧ Below w2.heap.size w2 wr) (fun i _ => y.faults.length - (intOf i).toNat)
  case atStart => exact ⟨0, Nat.zero_le _, rfl, Below.refl _ _⟩
  case round =>
    obtain ⟨k, hk, rfl, hb0⟩ := hrel
    have r0 := HR0.out.run hb0
    have r1 := HR1.out.run hb0
    have c1 := cell_fact r0 1
    have d1 := cell_fact r1 1
    simp only [List.getElem?_toArray] at c1 d1
    have g1 := H2.out.run hb0
    have g2 := H2'.out.run hb0
    clear x1 x2 x3 x4 x5 x6 y1 y2 y3 y4 y5 y6
    obtain ⟨x1, x2, x3, x4, x5, x6⟩ := row_facts r0
    obtain ⟨y1, y2, y3, y4, y5, y6⟩ := row_facts r1
    clear r0 r1
    by_cases hlt2 : k < y.faults.length
    · have hlt3 : (k : Int) < (y.faults.length : Int) := by omega
      have hk0 : (0 : Int) ≤ (k : Int) := by omega
      rcases g1.faults with ⟨h0, _⟩ | ⟨h0, _, b, off, cap, hv, hbl, hcel⟩
      · omega
      · rcases g2.faults with ⟨h0, _⟩ | ⟨h0, _, b', off', cap', hv', hbl', hcel'⟩
        · omega
        · cases hv
          cases hv'
          obtain ⟨d, hd, e0⟩ := int_cell hcel k hlt2
          obtain ⟨d', hd', f0⟩ := int_cell hcel' k hlt2
          rw [hd] at hd'
          simp only [Option.some.injEq] at hd'
          subst hd'
          have h7 : (d != d) = false := by simp
          clear hcel hcel' hd g1 g2
          go_wp2
          go_quiet (fail)
          go_wp2
          go_roundw
          case rel => exact ⟨k + 1, by omega, by go_num, by (repeat' (first | (with_reducible exact Below.refl _ _) | (with_reducible assumption) | (with_reducible refine below_run ?_ (by assumption)) | (with_reducible refine below_of_upd ?_ (by assumption) ?_) | (with_reducible refine below_drewN ?_ _) | (with_reducible refine Below.drew ?_) | (with_reducible refine below_seven ?_ ?_) | (with_reducible refine below_six ?_ ?_) | (with_reducible refine below_one ?_ ?_) | (with_reducible refine Below.alloc ?_ ?_ _) | (with_reducible refine below_after ?_ ?_ (by assumption)) | (show _ ≤ _; first | omega | (simp; done) | (simp; omega))))⟩
          case measure => simp [intOf]; omega
    · obtain rfl : k = y.faults.length := by omega
      clear g1 g2
      go_wp2
      go_ret
      exact ⟨rfl, below_run HB2.out hb0⟩

/-- A world is small and right. -/
def rightW (x : Mgr) (y : Wre) : Bool := fewW y && (decide (wireE y = 0) && decide (mgrE x = 0))
end Go.Proofs.YtpkhcehddfmhpaaGreat

namespace Go.Proofs.YtpkhcehddfmhpaaGreat
open Go.RowKit Go.Shelf

theorem ask_lift {x x' : Mgr} {y y' : Wre} {a : Rsl} {E : Int} {dst kind par : Int} {dat : ByteArray} (hU : askU x y ⟨dst, kind, par, dat⟩ = (x', y', a)) (hE : askE x y ⟨dst, kind, par, dat⟩ = E) {da fa la : Option Addr} {dn dc fn fc ln lc : Nat} {V W : World} (h : WireAt V (.slice da dn dc) (.slice fa fn fc) (.slice la ln lc) y) (hb : Below V.heap.size V W) :
    Calls Tryz.prog 7 #[.agg #[.int .u64 x.id, .int .i64 x.seq, .int .i64 x.tries], .agg #[.slice da dn dc, .slice fa fn fc, .slice la ln lc], .agg #[.int .u64 dst, .int .i64 kind, .int .i64 par, .string dat]] W
      fun e w' => (∃ (da' fa' la' : Option Addr) (dc' fc' lc' : Nat), e = .returned (.tuple #[.agg #[.int .u64 x'.id, .int .i64 x'.seq, .int .i64 x'.tries], .agg #[.slice da' y'.devs.length dc', .slice fa' y'.faults.length fc', .slice la' y'.late.length lc'], .agg #[.int .i64 a.kind, .string a.dat, .int .i64 a.reason, .int .i64 a.tries], .int .i64 E]) ∧
        WireT w' (.slice da' y'.devs.length dc') (.slice fa' y'.faults.length fc') (.slice la' y'.late.length lc') y') ∧ Below V.heap.size V w' := by
  have C := maskU_any x da fa la dn dc fn fc ln lc y dst kind par dat W (h.run hb)
  rw [hU, hE] at C
  refine C.mono ?_
  rintro e w' ⟨da', fa', la', dn', dc', fn', fc', ln', lc', rfl, hw, hb'⟩
  obtain rfl : dn' = y'.devs.length := by
    obtain ⟨a, c, e⟩ := seq_shape hw.devs
    cases e
    rfl
  obtain rfl : fn' = y'.faults.length := by
    obtain ⟨a, c, e⟩ := seq_shape hw.faults
    cases e
    rfl
  obtain rfl : ln' = y'.late.length := by
    obtain ⟨a, c, e⟩ := seq_shape hw.late
    cases e
    rfl
  exact ⟨⟨da', fa', la', dc', fc', lc', rfl, hw⟩, below_run hb hb'⟩
theorem send_length (x : Mgr) (r : Rqs) (y : Wre) : (sendW x r y).devs.length = y.devs.length := by
  show (if faultW y = 1 then y.devs else sentD y.devs (ofM x r)).length = _
  split
  · rfl
  · exact sentD_length _ _
theorem askF_length (r : Rqs) : ∀ (n : Nat) (t : Int) (x : Mgr) (y : Wre), (askF r n t x y).2.1.devs.length = y.devs.length
  | 0, _, _, _ => rfl
  | n + 1, t, x, y => by
    rw [askF]
    split
    · exact send_length x r y
    · rw [askF_length r n, send_length]
theorem askU_length (x : Mgr) (y : Wre) (r : Rqs) : (askU x y r).2.1.devs.length ≤ y.devs.length := by
  unfold askU
  split
  · exact Nat.le_of_eq (askF_length r _ _ x y)
  · exact Nat.zero_le _
theorem askU_of {x : Mgr} {y : Wre} {r : Rqs} (h : askE x y r = 0) : askU x y r = askM x y r := by rw [askU, if_pos h]
end Go.Proofs.YtpkhcehddfmhpaaGreat

/-
  A search whose messages are right: plain laws.
  Lists of identities: searched, compared.
-/
import Derived.Test.YtpkhcehddfmhpaaGreatDl
import Derived.Test.YtpkhcehddfmhpaaGreatBusX
import Derived.Test.YtpkhcehddfmhpaaGreatSame
import Derived.Test.YtpkhcehddfmhpaaGreatIds
namespace Go.Proofs.YtpkhcehddfmhpaaGreat
open Go.RowKit

/-- Devices behind a right message are right. -/
theorem dErr_same {f : Dev → Dev} (hf : ∀ d, (f d).id = d.id) (hc : ∀ d, chkD d = 0 → chkD (f d) = 0) : ∀ (l : List Dev) (seen : List Int), dErr seen l = 0 → dErr seen (l.map f) = 0
  | [], _, _ => rfl
  | d :: l, seen, h => by
    rw [dErr] at h
    split at h
    · rename_i hne
      exact absurd h hne
    · rename_i h0
      split at h
      · cases h
      · rename_i h1
        rw [List.map_cons, dErr, if_neg (not_not_intro (hc d (Decidable.not_not.1 h0))), hf, if_neg h1]
        exact dErr_same hf hc l _ h
theorem sent_right {l : List Dev} {m : Msg} (h : devsE l = 0) (hc : ∀ d, chkD d = 0 → chkD (recvD d m).1 = 0) : devsE (sentD l m) = 0 := by
  unfold devsE at h ⊢
  rw [sentD_length]
  split at h
  · cases h
  · rename_i hl
    rw [if_neg hl]
    exact dErr_same (fun d => recv_id d m) hc l [] h
theorem bus_right {l : List Dev} {m : Msg} (h : devsE l = 0) (hm : chk m = 0) : busE l m = 0 ∧ busD l m = sentD l m ∧ busA l m = sentA l m := by
  have h0 : busE l m = 0 := busE_msg h hm
  exact ⟨h0, by rw [busD, if_pos h0], by rw [busA, if_pos h0]⟩

theorem wrap_more (n : Nat) : IntKind.i64.wrap (IntKind.i64.wrap (n : Int) + 1) = IntKind.i64.wrap ((n + 1 : Nat) : Int) := by
  simp only [IntKind.wrap, IntKind.bits, IntKind.signed, Bool.true_and, decide_eq_true_eq, show (64 : Nat) - 1 = 63 from rfl, show (2 : Int) ^ 64 = 18446744073709551616 from by decide, show (2 : Int) ^ 63 = 9223372036854775808 from by decide]
  repeat' split
  all_goals omega

/-- What a search must be for its messages to be right. -/
structure Sok (src : Int) (t : SSt) : Prop where
  id : isId src = true
  devs : devsE t.devs = 0
  q0 : 0 ≤ t.seq
  q1 : t.seq ≤ 255
  few : t.found.length + freeS t ≤ 64

theorem devs_few {l : List Dev} (h : devsE l = 0) : l.length ≤ 64 := by
  unfold devsE at h
  split at h <;> omega
theorem devs_chk {l : List Dev} (h : devsE l = 0) : ∀ d ∈ l, chkD d = 0 := by
  have := devs_few h
  rw [devsE, if_neg (by omega)] at h
  exact dErr_all h
theorem devs_nodup {seen : List Int} : ∀ {l : List Dev}, dErr seen l = 0 → (l.map (·.id)).Nodup ∧ ∀ d ∈ l, d.id ∉ seen
  | [], _ => ⟨List.nodup_nil, fun d hd => by cases hd⟩
  | d :: l, h => by
    rw [dErr] at h
    split at h
    · rename_i hne
      exact absurd h hne
    · split at h
      · cases h
      · rename_i h1
        obtain ⟨a, b⟩ := devs_nodup h
        refine ⟨?_, ?_⟩
        · rw [List.map_cons, List.nodup_cons]
          refine ⟨fun hm => ?_, a⟩
          obtain ⟨e, he, hx⟩ := List.mem_map.1 hm
          exact b e he (by rw [hx]; simp)
        · intro e he
          rcases List.mem_cons.1 he with rfl | he
          · exact h1
          · exact fun hs => b e he (by simp [hs])

theorem recv_seek {src seq low high : Int} (h1 : isId low = true) (h2 : isId high = true) (d : Dev) (h : chkD d = 0) : chkD (recvD d (discM src seq low high)).1 = 0 := by
  rw [seek_one h1 h2]
  split <;> exact h
theorem recv_ord {src seq x k : Int} (hk : k = 2 ∨ k = 3) (d : Dev) (h : chkD d = 0) : chkD (recvD d (ordM src seq k x)).1 = 0 := by
  unfold recvD
  split
  · exact h
  · rcases hk with rfl | rfl
    · have e : (doneD d (ordM src seq 2 x)).1 = { d with mu := true } := rfl
      simp only [e, show (ordM src seq 2 x).kind = 2 from rfl]
      rw [if_neg (by decide)]
      split <;> exact h
    · have e : (doneD d (ordM src seq 3 x)).1 = { d with mu := false } := rfl
      simp only [e, show (ordM src seq 3 x).kind = 3 from rfl]
      rw [if_neg (by decide)]
      split <;> exact h
theorem order_ok {src x k : Int} {t : SSt} (h : Sok src t) (hk : k = 2 ∨ k = 3) : Sok src (orderS src t k x) :=
  ⟨h.id, sent_right h.devs fun d hd => recv_ord hk d hd, (seq_mod _).1, (seq_mod _).2, by show t.found.length + freeS (sendS t _) ≤ 64; rw [send_free]; exact h.few⟩
theorem seek_ok {src low high : Int} {t : SSt} (h : Sok src t) (h1 : isId low = true) (h2 : isId high = true) : Sok src (sendS t (discM src t.seq low high)) :=
  ⟨h.id, sent_right h.devs fun d hd => recv_seek h1 h2 d hd, (seq_mod _).1, (seq_mod _).2, by show t.found.length + freeS (sendS t _) ≤ 64; rw [send_free]; exact h.few⟩
/-- The five ways of one message that seeks. -/
theorem again_ways {src low high : Int} {t t1 : SSt} {k id : Int} (hh : hearM (discM src t.seq low high) (sentA t.devs (discM src t.seq low high)) = (k, id)) (h1 : sendS t (discM src t.seq low high) = t1) :
    (k = 0 → againS src low high t = (t1, false, true)) ∧ (k = 2 → againS src low high t = (t1, false, false)) ∧ (k = 1 → id ∈ t1.known ++ t1.found → againS src low high t = (t1, false, false)) ∧
    (k = 1 → id ∉ t1.known ++ t1.found → orderB src t1 2 id = true → againS src low high t = ({ orderS src t1 2 id with found := t1.found ++ [id] }, true, false)) ∧
    (k = 1 → id ∉ t1.known ++ t1.found → orderB src t1 2 id = false → againS src low high t = (orderS src t1 2 id, false, false)) := by
  unfold againS
  simp only [hh, h1]
  refine ⟨?_, ?_, ?_, ?_, ?_⟩
  · rintro rfl
    rfl
  · rintro rfl
    rfl
  · rintro rfl hm
    rw [if_neg (by decide), if_pos (.inr hm)]
  · rintro rfl hm hb
    rw [if_neg (by decide), if_neg (by simp only [ne_eq, not_true_eq_false, false_or]; exact hm), if_pos hb]
  · rintro rfl hm hb
    rw [if_neg (by decide), if_neg (by simp only [ne_eq, not_true_eq_false, false_or]; exact hm), if_neg (by rw [hb]; decide)]
theorem hear_kinds (m : Msg) (l : List Msg) : (hearM m l).1 = 0 ∨ (hearM m l).1 = 2 ∨ (hearM m l).1 = 1 := by
  unfold hearM
  split
  · exact .inl rfl
  · split
    · exact .inr (.inl rfl)
    · unfold heardX
      repeat' split
      all_goals simp
theorem again_ok {src low high : Int} {t : SSt} (h : Sok src t) (h1 : isId low = true) (h2 : isId high = true) : Sok src (againS src low high t).1 := by
  have hs := seek_ok h h1 h2
  have hl := @again_less src low high t
  obtain ⟨p, hp⟩ : ∃ p, hearM (discM src t.seq low high) (sentA t.devs (discM src t.seq low high)) = p := ⟨_, rfl⟩
  have hk := hear_kinds (discM src t.seq low high) (sentA t.devs (discM src t.seq low high))
  obtain ⟨t1, ht1⟩ : ∃ t1, sendS t (discM src t.seq low high) = t1 := ⟨_, rfl⟩
  have hfr : freeS t1 = freeS t := by rw [← ht1, send_free]
  have hfo : t1.found = t.found := by rw [← ht1]; rfl
  obtain ⟨k, id⟩ := p
  obtain ⟨w0, w2, w3, w4, w5⟩ := again_ways hp ht1
  rw [hp] at hk
  rw [ht1] at hs
  rcases hk with hk | hk | hk
  · rw [w0 hk]
    exact hs
  · rw [w2 hk]
    exact hs
  · by_cases hm : id ∈ t1.known ++ t1.found
    · rw [w3 hk hm]
      exact hs
    · cases hb : orderB src t1 2 id with
      | true =>
        rw [w4 hk hm hb] at hl ⊢
        have hl2 : freeS { orderS src t1 2 id with found := t1.found ++ [id] } < freeS t := hl rfl
        have ho := order_ok (x := id) hs (.inl rfl)
        refine ⟨ho.id, ho.devs, ho.q0, ho.q1, ?_⟩
        have := h.few
        show (t1.found ++ [id]).length + freeS { orderS src t1 2 id with found := t1.found ++ [id] } ≤ 64
        generalize freeS { orderS src t1 2 id with found := t1.found ++ [id] } = z at hl2 ⊢
        rw [List.length_append, hfo]
        simp only [List.length_cons, List.length_nil]
        omega
      | false =>
        rw [w5 hk hm hb]
        exact order_ok hs (.inl rfl)
theorem seek_right {src seq low high : Int} {l : List Dev} (hs : isId src = true) (q0 : 0 ≤ seq) (q1 : seq ≤ 255) (h1 : isId low = true) (h2 : isId high = true) (hle : low ≤ high) (hd : ∀ d ∈ l, chkD d = 0) : ∀ a ∈ sentA l (discM src seq low high), chk a = 0 := by
  intro a ha
  rw [seek_answers h1 h2, List.mem_map] at ha
  obtain ⟨d, hm, rfl⟩ := ha
  exact chk_replied _ _ _ (disc_chk hs q0 q1 h1 h2 hle) (isId_of_chk d (hd d (List.mem_filter.1 hm).1)) (by rw [bytesB_size]; decide)

end Go.Proofs.YtpkhcehddfmhpaaGreat

namespace Go.Proofs.YtpkhcehddfmhpaaGreat
open Go.RowKit

theorem Tryz.info_u64 : (Tryz.prog.info? 22).map (fun i => (i.zero, i.size, i.bytes)) = some (some (.int .u64 0), 1, 8) := by kernel_rfl

/-- The identities of a list, in a row; and a slice that holds them. -/
def u64L (l : List Int) : List Value := l.map (Value.int .u64)
def u64C (l : List Int) (j : Nat) : Option Value := (l[j]?).map (Value.int .u64)
def IdsAt (w : World) (v : Value) (l : List Int) : Prop := SeqAt w 1 v l.length (u64C l)
theorem u64L_get (l : List Int) (j : Nat) : (u64L l)[j]? = u64C l j := by simp [u64L, u64C]
theorem u64L_length (l : List Int) : (u64L l).length = l.length := by simp [u64L]
theorem own_ids {w : World} {B T n : Nat} {v : Value} {l : List Int} (h : w.ownsRow B T 1 v n (u64L l)) (hn : n = l.length) (h2 : n ≤ 140737488351232) : IdsAt w v l := by
  subst hn
  exact own_seq h h2 (u64L_get l)
theorem IdsAt.run {w w' : World} {v : Value} {l : List Int} (h : IdsAt w v l) (hb : Below w.heap.size w w') : IdsAt w' v l := SeqAt.below h hb
theorem id_cell {w : World} {b off : Nat} {l : List Int} (hc : ∀ j, j < l.length * 1 → w.cell? ⟨b, off + j, none⟩ = u64C l j) (k : Nat) (hk : k < l.length) :
    ∃ x, l[k]? = some x ∧ w.cell? ⟨b, off + k, none⟩ = some (.int .u64 x) := by
  refine ⟨l[k], List.getElem?_eq_getElem hk, ?_⟩
  rw [hc k (by omega), u64C, List.getElem?_eq_getElem hk]
  rfl


theorem cell_fact {w : World} {b T : Nat} {cs : Array Value} (h : RowAt w b T cs) (o : Nat) : w.cell? ⟨b, o, none⟩ = cs[o]? := (row_facts h).1 o

theorem SeqAt.same {w w' : World} {S n : Nat} {v : Value} {cs : Nat → Option Value} (h : SeqAt w S v n cs) (hz : w.heap.size ≤ w'.heap.size)
    (hk : ∀ b off cap, v = .slice (some ⟨b, off, none⟩) n cap → 0 < n → (∀ j, j < n * S → w.cell? ⟨b, off + j, none⟩ = cs j) → w'.heap[b]? = w.heap[b]?) : SeqAt w' S v n cs := by
  rcases h with h | ⟨h0, h1, b, off, cap, rfl, hlt, hc⟩
  · exact .inl h
  · refine .inr ⟨h0, h1, b, off, cap, rfl, Nat.lt_of_lt_of_le hlt hz, fun j hj => ?_⟩
    have := hk b off cap rfl h0 hc
    exact (World.cell?_of_block (a := ⟨b, off + j, none⟩) this).trans (hc j hj)

/-- Neither devices nor messages lie in the block of a search. -/
theorem devs_apart {w : World} {s b off n T : Nat} {cs : Array Value} {l : List Dev} (hr : RowAt w s T cs) (h6 : cs.size = 6) (h0 : 0 < l.length) (hn : n = l.length) (hc : ∀ j, j < n * 7 → w.cell? ⟨b, off + j, none⟩ = devsC l j) : b ≠ s := by
  intro e
  subst e hn
  have h := hc 6 (by omega)
  rw [(row_facts hr).1, Array.getElem?_eq_none (by omega)] at h
  have h7 := devsC_at l 0 h0 6 (by decide)
  rw [show 0 * 7 + 6 = 6 from rfl] at h7
  rw [h7] at h
  cases h
theorem msgs_apart {w : World} {s b off n T : Nat} {cs : Array Value} {l : List Msg} (hr : RowAt w s T cs) (h6 : cs.size = 6) (hs : ∃ a k c, cs[0]? = some (.slice a k c)) (h0 : 0 < l.length) (hn : n = l.length) (hc : ∀ j, j < n * 6 → w.cell? ⟨b, off + j, none⟩ = msgsC l j) : b ≠ s := by
  intro e
  subst e hn
  obtain ⟨a, k, c, hs⟩ := hs
  cases l with
  | nil => cases h0
  | cons x l =>
    have h := hc 5 (by simp; omega)
    rw [(row_facts hr).1] at h
    by_cases ho : off = 0
    · subst ho
      have g := hc 0 (by simp)
      rw [(row_facts hr).1, hs] at g
      cases g
    · rw [Array.getElem?_eq_none (by omega)] at h
      cases h
theorem slice_of {w : World} {S n : Nat} {v : Value} {cs : Nat → Option Value} (h : SeqAt w S v n cs) : ∃ a k c, v = .slice a k c := by
  rcases h with ⟨_, a, c, rfl⟩ | ⟨_, _, b, off, cap, rfl, _⟩
  · exact ⟨_, _, _, rfl⟩
  · exact ⟨_, _, _, rfl⟩

/-- A part of a list of identities. -/
theorem IdsAt.part {w : World} {b off cap n : Nat} {l : List Int} (hlt : b < w.heap.size) (hl : l.length ≤ 140737488351232) (hc : ∀ j, j < l.length * 1 → w.cell? ⟨b, off + j, none⟩ = u64C l j) (hn : n ≤ l.length) : IdsAt w (.slice (some ⟨b, off, none⟩) n cap) (l.take n) := by
  have hz : (l.take n).length = n := by simp; omega
  by_cases h0 : n = 0
  · subst h0
    exact .inl ⟨hz, _, _, rfl⟩
  · refine .inr ⟨by omega, by omega, b, off, cap, by rw [hz], hlt, fun j hj => ?_⟩
    rw [hz] at hj
    rw [hc j (by omega), u64C, u64C, List.getElem?_take, if_pos (by omega)]

end Go.Proofs.YtpkhcehddfmhpaaGreat

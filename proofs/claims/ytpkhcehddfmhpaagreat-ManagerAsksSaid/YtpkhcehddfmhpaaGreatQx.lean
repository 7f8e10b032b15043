/-
  The identities whose results are not done: both sides.
  All, plain: every identity is asked, the wire stays right, and setting a label reaches every device.
  All.
-/
import Derived.Test.YtpkhcehddfmhpaaGreatQf
import Derived.Test.YtpkhcehddfmhpaaGreatSk
import Derived.Test.YtpkhcehddfmhpaaGreatQt
import Derived.Test.YtpkhcehddfmhpaaGreatQd
namespace Go.Proofs.YtpkhcehddfmhpaaGreat
open Go.RowKit

/-- The cells of a list of results. -/
def rslA (a : Rsl) : Array Value := #[.int .i64 a.kind, .string a.dat, .int .i64 a.reason, .int .i64 a.tries]
def rslC (l : List Rsl) (j : Nat) : Option Value := (l[j / 4]?).bind fun a => (rslA a)[j % 4]?
def rslL : List Rsl → List Value
  | [] => []
  | a :: l => (rslA a).toList ++ rslL l
def RslsAt (w : World) (v : Value) (l : List Rsl) : Prop := SeqAt w 4 v l.length (rslC l)
theorem rslL_length (l : List Rsl) : (rslL l).length = l.length * 4 := by
  induction l with
  | nil => rfl
  | cons d l ih => rw [rslL, List.length_append, ih]; simp [rslA]; omega
theorem rslL_append (l m : List Rsl) : rslL (l ++ m) = rslL l ++ rslL m := by
  induction l with
  | nil => rfl
  | cons d l ih => rw [List.cons_append, rslL, rslL, ih, List.append_assoc]
theorem rslL_get (l : List Rsl) (j : Nat) : (rslL l)[j]? = rslC l j := by
  induction l generalizing j with
  | nil => rfl
  | cons d l ih =>
    have h4 : (rslA d).toList.length = 4 := rfl
    rw [rslL]
    by_cases hj : j < 4
    · rw [List.getElem?_append_left (by omega), rslC, show j / 4 = 0 from by omega, show j % 4 = j from by omega]
      simp
    · rw [List.getElem?_append_right (by omega), h4, ih, rslC, rslC, show j / 4 = (j - 4) / 4 + 1 from by omega, show j % 4 = (j - 4) % 4 from by omega]
      simp
theorem own_rsls {w : World} {base T : Nat} {v : Value} {l : List Rsl} (h : w.ownsRow base T 4 v l.length (rslL l)) (hn : l.length ≤ 140737488351232) : RslsAt w v l := own_seq h hn (rslL_get l)
theorem RslsAt.run {w w' : World} {v : Value} {l : List Rsl} (h : RslsAt w v l) (hb : Below w.heap.size w w') : RslsAt w' v l := SeqAt.below h hb
theorem rsl_ones (d : Rsl) : ∀ u ∈ (rslA d).toList, u.oneCell' = true := by
  intro u hu
  simp [rslA] at hu
  rcases hu with rfl | rfl | rfl | rfl <;> rfl
theorem rslC_at (l : List Rsl) (k : Nat) (hk : k < l.length) (i : Nat) (hi : i < 4) : rslC l (k * 4 + i) = (rslA l[k])[i]? := by
  unfold rslC
  rw [show (k * 4 + i) / 4 = k from by omega, show (k * 4 + i) % 4 = i from by omega, List.getElem?_eq_getElem hk]
  rfl
theorem rsl_cells {w : World} {b off : Nat} {l : List Rsl} (hc : ∀ j, j < l.length * 4 → w.cell? ⟨b, off + j, none⟩ = rslC l j) (k : Nat) (hk : k < l.length) :
    ∃ d, l[k]? = some d ∧ w.cell? ⟨b, off + k * 4, none⟩ = some (.int .i64 d.kind) ∧ w.cell? ⟨b, off + k * 4 + 1, none⟩ = some (.string d.dat) ∧ w.cell? ⟨b, off + k * 4 + 2, none⟩ = some (.int .i64 d.reason) ∧ w.cell? ⟨b, off + k * 4 + 3, none⟩ = some (.int .i64 d.tries) := by
  refine ⟨l[k], List.getElem?_eq_getElem hk, ?_, ?_, ?_, ?_⟩
  · rw [show off + k * 4 = off + (k * 4 + 0) from rfl, hc _ (by omega), rslC_at l k hk 0 (by decide)]; rfl
  · rw [show off + k * 4 + 1 = off + (k * 4 + 1) from rfl, hc _ (by omega), rslC_at l k hk 1 (by decide)]; rfl
  · rw [show off + k * 4 + 2 = off + (k * 4 + 2) from rfl, hc _ (by omega), rslC_at l k hk 2 (by decide)]; rfl
  · rw [show off + k * 4 + 3 = off + (k * 4 + 3) from rfl, hc _ (by omega), rslC_at l k hk 3 (by decide)]; rfl
theorem failed_snoc : ∀ (ids : List Int) (l : List Rsl) (x : Int) (a : Rsl), ids.length = l.length → failedM (ids ++ [x]) (l ++ [a]) = failedM ids l ++ if a.kind ≠ 0 then [x] else []
  | [], [], x, a, _ => by
    show (if a.kind ≠ 0 then x :: failedM [] [] else failedM [] []) = failedM [] [] ++ if a.kind ≠ 0 then [x] else []
    split <;> rfl
  | i :: ids, b :: l, x, a, h => by
    have ih := failed_snoc ids l x a (by simpa using h)
    simp only [List.cons_append, failedM, ih]
    split <;> rfl
  | [], b :: l, _, _, h => by simp at h
  | i :: ids, [], _, _, h => by simp at h
theorem failed_length : ∀ (ids : List Int) (l : List Rsl), (failedM ids l).length ≤ ids.length
  | [], _ => Nat.le_refl _
  | _ :: _, [] => Nat.zero_le _
  | i :: ids, b :: l => by
    have ih := failed_length ids l
    rw [failedM]
    split
    · simp only [List.length_cons]; omega
    · simp only [List.length_cons]; omega
def failE (ids : List Int) (l : List Rsl) : Int := if ids.length ≠ l.length then 14 else 0
def failU (ids : List Int) (l : List Rsl) : List Int := if ids.length ≠ l.length then [] else failedM ids l
def FailPost (n : Int) (u : List Int) (w : World) (e : Ending) (w' : World) : Prop := ∃ v, e = .returned (.tuple #[v, .int .i64 n]) ∧ IdsAt w' v u ∧ Below w.heap.size w w'

end Go.Proofs.YtpkhcehddfmhpaaGreat

namespace Go.Proofs.YtpkhcehddfmhpaaGreat

theorem next_right {x : Mgr} (h : mgrE x = 0) : mgrE (nextM x) = 0 := by
  obtain ⟨h1, h2, h3, h4, h5⟩ := mgr_parts h
  obtain ⟨q0, q1⟩ := next_seq x
  have hi : isId (nextM x).id = true := h1
  have ht : (nextM x).tries = x.tries := rfl
  unfold mgrE
  rw [if_neg]
  rintro (e | e | e | e | e)
  · rw [hi] at e
    cases e
  all_goals omega
/-- What asking leaves is right again. -/
theorem ask_keep {r : Rqs} : ∀ (n : Nat) (t : Int) (x : Mgr) (y : Wre), wireE y = 0 → mgrE x = 0 → chk (ofM x r) = 0 → Stale x.seq y.late →
    wireE (askF r n t x y).2.1 = 0 ∧ mgrE (askF r n t x y).1 = 0 ∧ (askF r n t x y).1.tries = x.tries ∧ (askF r n t x y).1.id = x.id ∧ Stale (askF r n t x y).1.seq (askF r n t x y).2.1.late ∧ (askF r n t x y).2.1.faults.length ≤ y.faults.length
  | 0, _, _, _, hy, hx, _, hs => ⟨hy, hx, rfl, rfl, hs, Nat.le_refl _⟩
  | n + 1, t, x, y, hy, hx, hm, hs => by
    have h1 := (wire_parts hy).1
    have a1 := send_right (r := r) hy hm
    have a2 := next_right hx
    have a3 := send_stale (x := x) (r := r) (y := y) h1 hm
    have hf : (sendW x r y).faults.length ≤ y.faults.length := by
      show y.faults.tail.length ≤ y.faults.length
      rw [List.length_tail]
      omega
    rw [askF]
    cases hp : pickR (ofM x r) t (hearW x r y) with
    | some a => exact ⟨a1, a2, rfl, rfl, a3, hf⟩
    | none =>
      obtain ⟨b1, b2, b3, b4, b5, b6⟩ := ask_keep n (t + 1) (nextM x) (sendW x r y) a1 a2 (of_next hm) a3
      exact ⟨b1, b2, b3, b4, b5, Nat.le_trans b6 hf⟩
/-- Every device of the list gets the label. -/
def labelD (s : ByteArray) (ids : List Int) (l : List Dev) : List Dev := l.map fun d => if d.id ∈ ids then { d with lb := s } else d
theorem label_ids (s : ByteArray) (ids : List Int) (l : List Dev) : (labelD s ids l).map (·.id) = l.map (·.id) := by
  unfold labelD
  rw [List.map_map]
  refine List.map_congr_left fun d _ => ?_
  show (if d.id ∈ ids then { d with lb := s } else d).id = d.id
  split <;> rfl
theorem label_eff {s : ByteArray} (hs : lblE s = 0) (hz : s.size ≤ 32) (i : Int) (d : Dev) : effD ⟨i, 5, 130, s⟩ d = ({ d with lb := s }, ⟨#[]⟩, -1) := by
  rw [eff_five rfl]
  show ((putD d 130 s).1, _, (putD d 130 s).2) = _
  unfold putD
  rw [if_pos rfl, if_neg (by omega), if_neg (by rw [hs]; decide)]
theorem label_set {s : ByteArray} (hs : lblE s = 0) (hz : s.size ≤ 32) (i : Int) (ids : List Int) (l : List Dev) : labelD s ids (setL ⟨i, 5, 130, s⟩ l) = labelD s (i :: ids) l := by
  unfold labelD setL
  rw [List.map_map]
  refine List.map_congr_left fun d _ => ?_
  show (if (if d.id = i then (effD ⟨i, 5, 130, s⟩ d).1 else d).id ∈ ids then { (if d.id = i then (effD ⟨i, 5, 130, s⟩ d).1 else d) with lb := s } else (if d.id = i then (effD ⟨i, 5, 130, s⟩ d).1 else d)) = _
  rw [label_eff hs hz]
  by_cases hi : d.id = i
  · rw [if_pos hi, if_pos (show d.id ∈ i :: ids from hi ▸ List.mem_cons_self)]
    split <;> rfl
  · rw [if_neg hi]
    by_cases hm : d.id ∈ ids
    · rw [if_pos hm, if_pos (show d.id ∈ i :: ids from List.mem_cons_of_mem _ hm)]
    · rw [if_neg hm, if_neg (show ¬ d.id ∈ i :: ids by simp [hi, hm])]
/-- All sets a label on every identity's device, if the tries outlast the faults. -/
theorem all_label {s : ByteArray} (hs : lblE s = 0) (hz : s.size ≤ 32) (k0 : Int) : ∀ (ids : List Int) (x : Mgr) (y : Wre) (out : List Rsl), mgrE x = 0 → wireE y = 0 → Stale x.seq y.late → (y.faults.length : Int) < x.tries →
    (∀ i ∈ ids, ∃ d ∈ y.devs, d.id = i) →
    ∃ R : List Rsl, R.length = ids.length ∧ (∀ a ∈ R, a.kind = 0) ∧ (allF ⟨k0, 5, 130, s⟩ ids x y out).2.2 = (out ++ R, 0) ∧ (allF ⟨k0, 5, 130, s⟩ ids x y out).2.1.devs = labelD s ids y.devs
  | [], x, y, out, _, _, _, _, _ => ⟨[], rfl, (fun a ha => by cases ha), (by rw [allF, List.append_nil]), (by rw [allF]; unfold labelD; simp)⟩
  | i :: ids, x, y, out, hx, hy, hst, hf, hin => by
    obtain ⟨d, hd, hdi⟩ := hin i List.mem_cons_self
    have h1 := (wire_parts hy).1
    have hm := mgr_parts hx
    have hid : isId i = true := hdi ▸ isId_of_chk d (devs_chk h1 d hd)
    have hidn := isId_nat hid
    have hc : chk (ofM x ⟨i, 5, 130, s⟩) = 0 := chk_plain hid hm.1 hm.2.1 hm.2.2.1 (.inr rfl) (by show (0 : Int) ≤ 130; decide) (by show (130 : Int) ≤ 65535; decide) (by show s.size ≤ 255; omega)
    have ht : (⟨i, 5, 130, s⟩ : Rqs).dst ≠ 281474976710655 := by show i ≠ _; omega
    have hk : (⟨i, 5, 130, s⟩ : Rqs).kind = 4 ∨ (⟨i, 5, 130, s⟩ : Rqs).kind = 5 ∧ (⟨i, 5, 130, s⟩ : Rqs).par ≠ 4097 := .inr ⟨rfl, by show (130 : Int) ≠ 4097; decide⟩
    have ha : askE x y (toR ⟨k0, 5, 130, s⟩ i) = 0 := ask_ok hx hy hc ht (by show (5 : Int) ≠ 6; decide) (by show (5 : Int) ≠ 7; decide)
    have e0 : toR ⟨k0, 5, 130, s⟩ i = ⟨i, 5, 130, s⟩ := rfl
    obtain ⟨b1, b2, b3, b4, b5, b6⟩ := ask_keep (r := ⟨i, 5, 130, s⟩) x.tries.toNat 1 x y hy hx hc hst
    obtain ⟨-, a2⟩ := ask_out hk ht y.devs h1 x.tries.toNat 1 x y hy hc hst (.inl rfl)
    rw [allF, if_pos ha, e0]
    have hM : askM x y ⟨i, 5, 130, s⟩ = askF ⟨i, 5, 130, s⟩ x.tries.toNat 1 x y := rfl
    rw [hM]
    generalize askF ⟨i, 5, 130, s⟩ x.tries.toNat 1 x y = A at b1 b2 b3 b4 b5 b6 a2
    have hA : A.2.2.kind = 0 ∧ A.2.1.devs = setL ⟨i, 5, 130, s⟩ y.devs := by
      rcases a2 with ⟨_, e | e⟩ | ⟨d2, hd2, hx2, k, _, _, k3, k4⟩
      · exact absurd hdi (e d hd)
      · exfalso
        omega
      · refine ⟨?_, k4⟩
        rw [k3, resD, label_eff hs hz, if_neg (by show ¬ (0 : Int) ≤ -1; decide)]
    obtain ⟨R, r1, r2, r3, r4⟩ := all_label hs hz k0 ids A.1 A.2.1 (out ++ [A.2.2]) b2 b1 b5 (by rw [b3]; omega) (fun j hj => by
      obtain ⟨g, hg, hgj⟩ := hin j (List.mem_cons_of_mem _ hj)
      have e : (A.2.1.devs.map (·.id)) = y.devs.map (·.id) := by rw [hA.2]; exact set_ids (.inr rfl) _
      have hm2 : j ∈ A.2.1.devs.map (·.id) := by rw [e]; exact List.mem_map.2 ⟨g, hg, hgj⟩
      obtain ⟨g2, hg2, e2⟩ := List.mem_map.1 hm2
      exact ⟨g2, hg2, e2⟩)
    refine ⟨A.2.2 :: R, by simp [r1], ?_, by rw [r3, List.append_assoc]; rfl, by rw [r4, hA.2, label_set hs hz]⟩
    intro a h
    rcases List.mem_cons.1 h with e | e
    · rw [e]
      exact hA.1
    · exact r2 a e
theorem failed_none : ∀ (ids : List Int) (R : List Rsl), (∀ a ∈ R, a.kind = 0) → failedM ids R = []
  | [], R, _ => by cases R <;> rfl
  | i :: ids, [], _ => rfl
  | i :: ids, a :: R, h => by
    rw [failedM, if_neg (not_not_intro (h a List.mem_cons_self))]
    exact failed_none ids R fun b hb => h b (List.mem_cons_of_mem _ hb)
theorem label_all {s : ByteArray} {ids : List Int} {l : List Dev} (h : ∀ d ∈ l, d.id ∈ ids) : labelD s ids l = l.map fun d => { d with lb := s } := by
  unfold labelD
  exact List.map_congr_left fun d hd => by rw [if_pos (h d hd)]
end Go.Proofs.YtpkhcehddfmhpaaGreat

namespace Go.Proofs.YtpkhcehddfmhpaaGreat
open Go.RowKit Go.Shelf

theorem own_upd {w w' : World} {base T S n s U : Nat} {v : Value} {xs : List Value} {cs : Array Value} (h : w.ownsRow base T S v n xs) (hr : RowAt w s U cs) (hne : T ≠ U) (hu : Upd s w w') : w'.ownsRow base T S v n xs := by
  refine ⟨h.1, ?_⟩
  rcases h.2 with hn | ⟨g, cap, cur, rfl, hbg, hg, rest⟩
  · exact .inl hn
  · refine .inr ⟨g, cap, cur, rfl, hbg, (hu.block g (lt_of_block hg) ?_).trans hg, rest⟩
    intro e
    cases e
    unfold RowAt at hr
    rw [hr] at hg
    cases hg
    exact hne rfl
theorem own_apart {w : World} {b1 T1 S1 n1 k T : Nat} {v1 : Value} {x1 : List Value} {cur : Array Value} {x : Nat × Nat} (h1 : w.ownsRow b1 T1 S1 v1 n1 x1) (hk : w.heap[k]? = some (.cells cur T x)) (hne : T1 ≠ T) : ¬ some k = v1.ownBlock := by
  intro e
  rcases h1.2 with ⟨rfl, _⟩ | ⟨g1, c1, u1, rfl, _, hg1, _⟩
  · cases e
  · simp [Value.ownBlock] at e
    subst e
    rw [hk] at hg1
    simp at hg1
    exact hne hg1.2.1.symm
theorem typed_two {w w' : World} {b1 T1 S1 n1 T : Nat} {v1 v : Value} {x1 : List Value} (h1 : w.ownsRow b1 T1 S1 v1 n1 x1) (h : Typed w v T) (hne : T1 ≠ T) (hg : w.grownBy w' v1.ownBlock) : Typed w' v T :=
  h.same fun k _ _ hk => hg.block k (lt_of_block hk) (own_apart h1 hk hne)
theorem seq_two {w w' : World} {b1 T1 S1 n1 T S n : Nat} {v1 v : Value} {x1 : List Value} {cs : Nat → Option Value} (h1 : w.ownsRow b1 T1 S1 v1 n1 x1) (h : SeqAt w S v n cs) (ht : Typed w v T) (hne : T1 ≠ T) (hg : w.grownBy w' v1.ownBlock) : SeqAt w' S v n cs :=
  SeqAt.same h hg.size fun b off cap e _ _ => by
    obtain ⟨-, cur, x, hk⟩ := ht _ _ _ e
    exact hg.block b (lt_of_block hk) (own_apart h1 hk hne)
theorem WireT.two {w w' : World} {b1 T1 S1 n1 : Nat} {v1 dv fv lv : Value} {x1 : List Value} {y : Wre} (h1 : w.ownsRow b1 T1 S1 v1 n1 x1) (h : WireT w dv fv lv y) (e1 : T1 ≠ 91) (e2 : T1 ≠ 3) (e3 : T1 ≠ 9) (hg : w.grownBy w' v1.ownBlock) : WireT w' dv fv lv y :=
  ⟨seq_two h1 h.devs h.td e1 hg, seq_two h1 h.faults h.tf e2 hg, seq_two h1 h.late h.tl e3 hg, typed_two h1 h.td e1 hg, typed_two h1 h.tf e2 hg, typed_two h1 h.tl e3 hg, h.nil, h.room⟩
theorem Tryz.info_rslt : (Tryz.prog.info? 37).map (fun i => (i.zero, i.size, i.bytes)) = some (some (.agg #[.int .i64 0, .string ⟨#[]⟩, .int .i64 0, .int .i64 0]), 4, 40) := by kernel_rfl
theorem rsl_news {w : World} {b : Nat} {T : Nat} {d : Rsl} (h : RowAt w b T (rslA d)) : ∀ (j : Nat) u, (rslA d).toList[j]? = some u → w.cell? ((⟨b, 0, none⟩ : Addr).add j) = some u := by
  intro j u hj
  have hadd : (⟨b, 0, none⟩ : Addr).add j = ⟨b, j, none⟩ := by unfold Addr.add; split <;> simp_all
  rw [hadd, (row_facts h).1 j]
  simpa using hj
theorem RslsAt.drew {w : World} {v : Value} {l : List Rsl} (h : RslsAt w v l) : RslsAt w.drew v l := RslsAt.run h (Below.drew (Below.refl _ _))
theorem drop_id {l : List Int} {k : Nat} {d : Int} (h : l[k]? = some d) : l.drop k = d :: l.drop (k + 1) := by
  have hk : k < l.length := (List.getElem?_eq_some_iff.1 h).1
  rw [List.drop_eq_getElem_cons hk, (List.getElem?_eq_some_iff.1 h).2]
/-- What All returns. -/
def MAllPost (p : Mgr × Wre × List Rsl × Int) (w : World) (e : Ending) (w' : World) : Prop :=
  ∃ da fa la ra, ∃ dn dc fn fc ln lc rc : Nat, e = .returned (.tuple #[mgrV p.1, .agg #[.slice da dn dc, .slice fa fn fc, .slice la ln lc], .slice ra p.2.2.1.length rc, .int .i64 p.2.2.2]) ∧ WireT w' (.slice da dn dc) (.slice fa fn fc) (.slice la ln lc) p.2.1 ∧ RslsAt w' (.slice ra p.2.2.1.length rc) p.2.2.1 ∧ Below w.heap.size w w'
/-- What is so in each round. -/
def MAllRel (s A : Nat) (ids : List Int) (r : Rqs) (p : Mgr × Wre × List Rsl × Int) (w wr : World) (v i : Value) : Prop :=
  ∃ (k : Nat) (x' : Mgr) (y' : Wre) (dv fv lv : Value) (out : List Rsl) (d' : Int), i = .int .i64 k ∧ k ≤ ids.length ∧ RowAt wr s 85 (sesA x' dv fv lv) ∧ WireT wr dv fv lv y' ∧ wr.ownsRow (s + 1) 37 4 v k (rslL out) ∧ out.length = k ∧
    allF r (ids.drop k) x' y' out = p ∧ RowAt wr (A + 2) 33 #[.int .u64 d', .int .i64 r.kind, .int .i64 r.par, .string r.dat] ∧ RowAt wr (A + 3) 24 #[.int .u64 0, .int .i64 0, .int .i64 0] ∧ RowAt wr (A + 4) 29 #[.slice none 0 0, .slice none 0 0, .slice none 0 0] ∧ Below A w wr

end Go.Proofs.YtpkhcehddfmhpaaGreat

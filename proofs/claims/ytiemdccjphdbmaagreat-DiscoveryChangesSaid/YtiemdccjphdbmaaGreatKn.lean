/-
  Known identities, and the refreshing of them: plain.
-/
import Derived.Test.YtiemdccjphdbmaaGreatAk
namespace Go.Proofs.YtiemdccjphdbmaaGreat
open Go.RowKit

/-- The error of known identities, when some were seen. -/
def knE : List Int → List Int → Int
  | _, [] => 0
  | seen, x :: l => if isId x = false then 2 else if x ∈ seen then 7 else knE (seen ++ [x]) l
def knownE (k : List Int) : Int := if 64 < k.length then 5 else knE [] k

theorem kn_bad {seen l : List Int} {x : Int} (h : isId x = false) : knE seen (x :: l) = 2 := by rw [knE, if_pos h]
theorem kn_twice {seen l : List Int} {x : Int} (h : isId x = true) (hm : x ∈ seen) : knE seen (x :: l) = 7 := by rw [knE, if_neg (by rw [h]; decide), if_pos hm]
theorem kn_on {seen l : List Int} {x : Int} (h : isId x = true) (hm : x ∉ seen) : knE seen (x :: l) = knE (seen ++ [x]) l := by rw [knE, if_neg (by rw [h]; decide), if_neg hm]
theorem drop_int {l : List Int} {k : Nat} {d : Int} (h : l[k]? = some d) : l.drop k = d :: l.drop (k + 1) := by
  have hk : k < l.length := (List.getElem?_eq_some_iff.1 h).1
  rw [List.drop_eq_getElem_cons hk, (List.getElem?_eq_some_iff.1 h).2]
/-- Right known identities are identities, each once. -/
theorem kn_right : ∀ (l seen : List Int), knE seen l = 0 → (∀ x ∈ l, isId x = true ∧ x ∉ seen) ∧ l.Nodup
  | [], _, _ => ⟨fun x hx => (by cases hx), List.nodup_nil⟩
  | x :: l, seen, h => by
    rw [knE] at h
    by_cases h1 : isId x = false
    · rw [if_pos h1] at h
      cases h
    · rw [if_neg h1] at h
      by_cases h2 : x ∈ seen
      · rw [if_pos h2] at h
        cases h
      · rw [if_neg h2] at h
        obtain ⟨a, b⟩ := kn_right l _ h
        have h1' : isId x = true := by simpa using h1
        refine ⟨fun y hy => ?_, ?_⟩
        · rcases List.mem_cons.1 hy with rfl | hy
          · exact ⟨h1', h2⟩
          · exact ⟨(a y hy).1, fun e => (a y hy).2 (List.mem_append.2 (.inl e))⟩
        · exact List.nodup_cons.2 ⟨fun e => (a x e).2 (List.mem_append.2 (.inr (List.mem_singleton.2 rfl))), b⟩
theorem known_few {k : List Int} (h : knownE k = 0) : k.length ≤ 64 ∧ knE [] k = 0 := by
  unfold knownE at h
  split at h
  · cases h
  · exact ⟨by omega, h⟩

/-- A known device is muted; the known ones are muted, one behind the other; the lost ones. -/
def muteS (src : Int) (s : SSt) (x : Int) : SSt := { orderS src s 2 x with known := if orderB src s 2 x then s.known ++ [x] else s.known }
def refrS (src : Int) : List Int → SSt → List Int → SSt × List Int
  | [], s, lost => (s, lost)
  | x :: l, s, lost => refrS src l (muteS src s x) (if orderB src s 2 x then lost else lost ++ [x])
theorem refr_snoc (src x : Int) : ∀ (l : List Int) (s : SSt) (lost : List Int), refrS src (l ++ [x]) s lost = (muteS src (refrS src l s lost).1 x, if orderB src (refrS src l s lost).1 2 x then (refrS src l s lost).2 else (refrS src l s lost).2 ++ [x])
  | [], _, _ => rfl
  | _ :: l, _, _ => refr_snoc src x l _ _

theorem filter_le {α : Type} {p q : α → Bool} (h : ∀ a, p a = true → q a = true) (l : List α) : (l.filter p).length ≤ (l.filter q).length := by
  rw [← List.countP_eq_length_filter, ← List.countP_eq_length_filter]
  exact List.countP_mono_left fun a _ => h a
theorem mute_sok {src x : Int} {t : SSt} (h : Sok src t) : Sok src (muteS src t x) := by
  have h1 : Sok src (orderS src t 2 x) := order_ok h (.inl rfl)
  refine ⟨h1.id, h1.devs, h1.q0, h1.q1, Nat.le_trans (Nat.add_le_add_left (filter_le (fun a ha => ?_) _) _) h1.few⟩
  have ha' := of_decide_eq_true ha
  refine decide_eq_true fun e => ha' ?_
  simp only [List.mem_append] at e ⊢
  refine e.imp (fun e => ?_) id
  show a.id ∈ (if orderB src t 2 x then t.known ++ [x] else t.known)
  split
  · exact List.mem_append.2 (.inl e)
  · exact e
/-- What holds of the state while the known ones are muted. -/
theorem refr_all {src : Int} : ∀ (l : List Int) (s : SSt) (lost : List Int), Sok src s → Sok src (refrS src l s lost).1 ∧ (refrS src l s lost).1.found = s.found ∧ (∀ x ∈ (refrS src l s lost).1.known, x ∈ s.known ∨ x ∈ l) ∧ (refrS src l s lost).2.length ≤ lost.length + l.length
  | [], s, lost, h => ⟨h, rfl, fun x hx => .inl hx, Nat.le_refl _⟩
  | y :: l, s, lost, h => by
    obtain ⟨a, b, c, d⟩ := refr_all l (muteS src s y) (if orderB src s 2 y then lost else lost ++ [y]) (mute_sok h)
    refine ⟨a, b, fun x hx => ?_, ?_⟩
    · rcases c x hx with e | e
      · have e' : x ∈ (if orderB src s 2 y then s.known ++ [y] else s.known) := e
        split at e'
        · rcases List.mem_append.1 e' with e' | e'
          · exact .inl e'
          · exact .inr (List.mem_cons.2 (.inl (List.mem_singleton.1 e')))
        · exact .inl e'
      · exact .inr (List.mem_cons_of_mem _ e)
    · refine Nat.le_trans d ?_
      rw [List.length_cons]
      split
      · omega
      · rw [List.length_append, List.length_singleton]
        omega

def refrE (l : List Dev) (src : Int) (k : List Int) : Int := if beginE l src 0 ≠ 0 then beginE l src 0 else knownE k
def refrP (l : List Dev) (src : Int) (k : List Int) : SSt × List Int := refrS src k (unmS src l) []
def refrU (l : List Dev) (src : Int) (k : List Int) : SSt := if refrE l src k = 0 then searchS src 48 1 281474976710654 (refrP l src k).1 else zeroS
def refrL (l : List Dev) (src : Int) (k : List Int) : List Int := if refrE l src k = 0 then (refrP l src k).2 else []

/-- A slice is not longer than its room. -/
def CapOk (v : Value) : Prop := ∀ a n c, v = .slice a n c → n ≤ c

/-- What Refresh returns. -/
def RefrPost (n : Int) (u : SSt) (lost : List Int) (w : World) (e : Ending) (w' : World) : Prop := ∃ v vf vl, e = .returned (.tuple #[v, .agg #[vf, .int .i64 (IntKind.i64.wrap u.msgs)], vl, .int .i64 n]) ∧ DevsAt w' v u.devs ∧ IdsAt w' vf u.found ∧ IdsAt w' vl lost ∧ Below w.heap.size w w'
theorem refr_bad {n : Int} {w w' : World} (hb : Below w.heap.size w w') : RefrPost n zeroS [] w (.returned (.tuple #[.slice none 0 0, .agg #[.slice none 0 0, .int .i64 0], .slice none 0 0, .int .i64 n])) w' :=
  ⟨_, _, _, rfl, .inl ⟨rfl, _, _, rfl⟩, .inl ⟨rfl, _, _, rfl⟩, .inl ⟨rfl, _, _, rfl⟩, hb⟩
theorem own_rows {w w' : World} {B T n : Nat} {v : Value} {xs : List Value} (h : w.ownsRow B T 1 v n xs) (hk : ∀ g cur, RowAt w g T cur → B ≤ g → RowAt w' g T cur) : w'.ownsRow B T 1 v n xs := by
  refine ⟨h.1, ?_⟩
  rcases h.2 with hn | ⟨g, cap, cur, rfl, hbg, hg, rest⟩
  · exact .inl hn
  · exact .inr ⟨g, cap, cur, rfl, hbg, hk g cur hg hbg, rest⟩
theorem sat_ne {w : World} {B s m g : Nat} {src : Int} {t : SSt} {K : List Int} {cur : Array Value} (h : SAt w B s m src t K) (hg : RowAt w g 23 cur) : g ≠ s := by
  rintro rfl
  obtain ⟨⟨vd, vf, h1, _⟩, _⟩ := h
  unfold RowAt at hg h1
  rw [hg] at h1
  simp at h1

theorem RowAt.two {w : World} {b T : Nat} {a c u1 u2 : Value} (h : RowAt w b T #[a, c]) : RowAt ((w.setCell ⟨b, 0, none⟩ u1).setCell ⟨b, 1, none⟩ u2) b T #[u1, u2] := RowAt.set (RowAt.set h rfl) rfl

/-- Two stores into a block of two cells leave devices and identities elsewhere. -/
theorem devs_two {w : World} {z T : Nat} {cs : Array Value} {u1 u2 v : Value} {l : List Dev} (hr : RowAt w z T cs) (hs : cs.size < 7) (h : DevsAt w v l) : DevsAt ((w.setCell ⟨z, 0, none⟩ u1).setCell ⟨z, 1, none⟩ u2) v l := by
  have far : ∀ (k : Nat), k ≠ z → ((w.setCell ⟨z, 0, none⟩ u1).setCell ⟨z, 1, none⟩ u2).heap[k]? = w.heap[k]? := fun k hne => (heap_setCell_other _ ⟨z, 1, none⟩ k _ hne).trans (heap_setCell_other _ ⟨z, 0, none⟩ k _ hne)
  refine SeqAt.same h (by simp) fun b off cap e h0 hc => far b ?_
  rintro rfl
  have h7 := devsC_at l 0 h0 6 (by decide)
  have hg := hc 6 (by omega)
  rw [show 0 * 7 + 6 = 6 from rfl] at h7
  rw [h7, (row_facts hr).1, Array.getElem?_eq_none (by omega)] at hg
  cases hg
theorem ids_two {w : World} {z T n c : Nat} {a : Option Addr} {m : Int} {u1 u2 v : Value} {l : List Int} (hr : RowAt w z T #[.slice a n c, .int .i64 m]) (h : IdsAt w v l) : IdsAt ((w.setCell ⟨z, 0, none⟩ u1).setCell ⟨z, 1, none⟩ u2) v l := by
  have far : ∀ (k : Nat), k ≠ z → ((w.setCell ⟨z, 0, none⟩ u1).setCell ⟨z, 1, none⟩ u2).heap[k]? = w.heap[k]? := fun k hne => (heap_setCell_other _ ⟨z, 1, none⟩ k _ hne).trans (heap_setCell_other _ ⟨z, 0, none⟩ k _ hne)
  refine SeqAt.same h (by simp) fun b off cap e h0 hc => far b ?_
  rintro rfl
  have hg := hc 0 (by omega)
  have h1 : u64C l 0 = some (.int .u64 l[0]) := by simp [u64C, h0]
  rw [h1, (row_facts hr).1] at hg
  match off, hg with
  | 0, hg => simp at hg
  | 1, hg => simp at hg
  | k + 2, hg =>
    rw [Array.getElem?_eq_none (by simp)] at hg
    cases hg

theorem refr_zero {l : List Dev} {src n : Int} {k : List Int} (h : refrE l src k = n) (hn : n ≠ 0) : refrU l src k = zeroS ∧ refrL l src k = [] := by
  rw [refrU, refrL, if_neg (by rw [h]; exact hn), if_neg (by rw [h]; exact hn)]
  exact ⟨rfl, rfl⟩
end Go.Proofs.YtiemdccjphdbmaaGreat

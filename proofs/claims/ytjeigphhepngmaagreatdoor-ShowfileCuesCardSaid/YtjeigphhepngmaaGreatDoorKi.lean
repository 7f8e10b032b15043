/-
  Arguments: what the reading of a value says of it, by its type; slices of whatever elements.
  Arguments that are cues: what the reading says of them.
-/
import Derived.Test.YtjeigphhepngmaaGreatDoorRows
import Derived.Test.YtjeigphhepngmaaGreatDoorOwn
import Derived.WalkKit
import Derived.ProofKit
import Derived.OpenShut
import Derived.ShutString
import Derived.ChangeOld
import Derived.Below
import Derived.Deep.Slices
import Derived.SizedLaws
import Derived.Test.YtjeigphhepngmaaGreatDoorYv
namespace Go.Proofs.YtjeigphhepngmaaGreatDoor
open Go.ChangeShapes Go.WideShapes Go.ChangeAt Go.RowKit Go.Deep

theorem list_of3 {α : Type} {P : Nat → α → Prop} (n : Nat) (h : ∀ i, i < n → ∃ d, P i d) : ∃ l : List α, l.length = n ∧ ∀ i d, l[i]? = some d → P i d := by
  induction n with
  | zero => exact ⟨[], rfl, fun i d h => by simp at h⟩
  | succ n ih =>
    obtain ⟨l, hl, hp⟩ := ih fun i hi => h i (by omega)
    obtain ⟨d, hd⟩ := h n (by omega)
    refine ⟨l ++ [d], by simp [hl], fun i d' hd' => ?_⟩
    by_cases hi : i < n
    · rw [List.getElem?_append_left (by omega)] at hd'
      exact hp i d' hd'
    · rw [List.getElem?_append_right (by omega), hl] at hd'
      have : i = n := by
        by_cases h0 : i - n = 0
        · omega
        · rw [List.getElem?_eq_none (by simp; omega)] at hd'; cases hd'
      subst this
      simp at hd'
      subst hd'
      exact hd

theorem add_plain3 (b off k : Nat) : (⟨b, off, none⟩ : Addr).add k = ⟨b, off + k, none⟩ := by unfold Addr.add; split <;> simp_all

/-- The reading of a value of a type says what it is. -/
def Opens {α : Type} (T : Nat) (f : α → Array Value) (R : World → α → Prop) : Prop :=
  ∀ {H : Type} (enc : TypeId × Value → H) (w : World) (base n : Nat) (spare : Nat → Bool) (held : Bool) (cs : List Value) (x : DataW H × List MemPlace),
    DataW.trod enc Tryz.prog w base spare held n T cs = some x → (∀ k ∈ x.1.weights Tryz.prog T, k ≤ reachBytes) → ∃ d, cs = (f d).toList ∧ R w d

def In64 (n : Int) : Prop := -9223372036854775808 ≤ n ∧ n ≤ 9223372036854775807
theorem in64_wf {n : Int} (h : (Lit.int .i64 n).wf = true) : In64 n := by
  simp [Lit.wf] at h
  exact h

theorem opens_int : Opens 3 (fun n : Int => #[.int .i64 n]) (fun _ n => In64 n) := by
  intro H enc w base n spare held cs x h _
  obtain ⟨d, e, _, hw⟩ := DataW.trod_int Tryz.underlying3 h
  exact ⟨d, e, in64_wf hw⟩
theorem opens_bool : Opens 4 (fun b : Bool => #[.bool b]) (fun _ _ => True) := by
  intro H enc w base n spare held cs x h _
  obtain ⟨d, e, _⟩ := DataW.trod_bool Tryz.underlying4 h
  exact ⟨d, e, trivial⟩
theorem opens_string : Opens 9 (fun s : ByteArray => #[.string s]) (fun _ s => s.size ≤ 140737488351232) := by
  intro H enc w base n spare held cs x h hw
  obtain ⟨d, e, hx, _⟩ := DataW.trod_string Tryz.underlying9 h
  refine ⟨d, e, ?_⟩
  have := hw d.data.toList.length (by rw [hx]; simp [DataW.weights])
  have hre : reachBytes = 140737488351232 := rfl
  rw [hre] at this
  simpa using this

theorem wAll_mem {H : Type} {P : Program} {e : TypeId} : ∀ {l : List (DataW H)} {d : DataW H}, d ∈ l → ∀ k ∈ d.weights P e, k ∈ DataW.weightsAll P e l
  | a :: l, d, hd, k, hk => by
    rcases List.mem_cons.1 hd with rfl | hd
    · simp [DataW.weightsAll, hk]
    · simp [DataW.weightsAll, wAll_mem hd k hk]

/-- What the reading of a slice says. -/
structure SliceAt {α : Type} (S : Nat) (f : α → Array Value) (R : World → α → Prop) (w : World) (v : Value × List α) : Prop where
  shape : ∃ a cap, v.1 = .slice a v.2.length cap ∧ v.2.length ≤ cap
  list : ListAt S f w v.1 v.2
  each : ∀ d ∈ v.2, R w d

set_option maxRecDepth 100000 in
theorem opens_slice {α : Type} {ST T S : Nat} {f : α → Array Value} {R : World → α → Prop} (hu : Tryz.prog.underlying ST = some (.slice T)) (hC : Tryz.prog.cellsOf T = S) (hS : 0 < S) (hB0 : Nat.ble 1 (Tryz.prog.bytesOf T) = true) (hfs : ∀ d, (f d).size = S) (ho : Opens T f R) :
    Opens ST (fun v : Value × List α => #[v.1]) (SliceAt S f R) := by
  have hB : 0 < Tryz.prog.bytesOf T := Nat.le_of_ble_eq_true hB0
  intro H enc w base n spare held cs x hf hw
  rcases open_slice hu hf with ⟨hcs, hx⟩ | ⟨a, len, cap, m, nn, D, Pl, hcs, hb, hl, hm, hmm, hx, hi⟩
  · subst hcs
    exact ⟨(.slice none 0 0, []), rfl, ⟨none, 0, rfl, Nat.le_refl _⟩, .inl ⟨rfl, _, _, rfl⟩, fun d hd => by cases hd⟩
  · subst hcs
    subst hx
    have hlm : len ≤ m := by rw [hmm]; split <;> omega
    have hwD : ∀ i, i < len → ∀ k ∈ (D i).weights Tryz.prog T, k ≤ reachBytes := by
      intro i hi0 k hk
      refine hw k ?_
      simp only [DataW.weights, hu]
      refine List.mem_cons_of_mem _ (List.mem_append_left _ (wAll_mem (d := D i) ?_ k hk))
      exact List.mem_map.2 ⟨i, List.mem_range.2 hi0, rfl⟩
    have hd : ∀ i, i < len → ∃ d : α, (∀ j, j < S → w.cell? ((a.add (i * S)).add j) = (f d)[j]?) ∧ R w d := by
      intro i hi0
      obtain ⟨cs', hc, ht⟩ := hi i (by omega)
      rw [hC] at hc
      obtain ⟨_, hcl, hat⟩ := World.cells?_some hc
      obtain ⟨d, rfl, hR⟩ := ho enc w base nn spare held cs' (D i, Pl i) ht (hwD i hi0)
      refine ⟨d, fun j hj => ?_, hR⟩
      rw [hat j hj]
      first | done | rfl | simp
    obtain ⟨l, hl2, hp⟩ := list_of3 len hd
    subst hl2
    have hre : reachBytes = 140737488351232 := rfl
    have hwt := hw ((((List.range l.length).map D).length + ((List.range (m - l.length)).map fun j => D (l.length + j)).length) * Tryz.prog.bytesOf T) (by simp [DataW.weights, hu])
    rw [hre, List.length_map, List.length_range] at hwt
    have h1 : l.length ≤ 140737488351232 := by
      have := Nat.le_mul_of_pos_right (l.length + ((List.range (m - l.length)).map fun j => D (l.length + j)).length) hB
      omega
    refine ⟨(.slice (some a) l.length cap, l), rfl, ⟨some a, cap, rfl, hl⟩, ?_, ?_⟩
    · by_cases h0 : l.length = 0
      · exact .inl ⟨h0, some a, cap, by rw [h0]⟩
      · have hsome : ∀ k (hk : k < l.length), l[k]? = some l[k] := fun k hk => List.getElem?_eq_getElem hk
        have hfirst := (hp 0 _ (hsome 0 (by omega))).1 0 hS
        have hz : (f l[0])[0]? = some ((f l[0])[0]'(by rw [hfs]; exact hS)) := Array.getElem?_eq_getElem _
        obtain ⟨b, off, spot⟩ := a
        have hspot : spot = none := by simpa [Addr.add] using World.cell?_spot (hfirst.trans hz)
        subst hspot
        refine .inr ⟨by simp only; omega, h1, b, off, cap, rfl, ?_, fun j hj => ?_⟩
        · have := World.block_lt_of_cell? w _ (hfirst.trans hz)
          simpa [add_plain3] using this
        · have hj2 : j < l.length * S := hj
          have hk : j / S < l.length := Nat.div_lt_of_lt_mul (by rw [Nat.mul_comm]; exact hj2)
          have := (hp (j / S) _ (hsome _ hk)).1 (j % S) (Nat.mod_lt _ hS)
          have he : off + j / S * S + j % S = off + j := by have := Nat.div_add_mod j S; rw [Nat.mul_comm] at this; omega
          rw [add_plain3, add_plain3, he] at this
          rw [this, genC]
          simp only
          rw [hsome _ hk]
          rfl
    · intro d hd
      obtain ⟨k, hk⟩ := List.getElem?_of_mem hd
      exact (hp k d hk).2

end Go.Proofs.YtjeigphhepngmaaGreatDoor

namespace Go.Proofs.YtjeigphhepngmaaGreatDoor
open Go.ChangeShapes Go.WideShapes Go.ChangeAt Go.RowKit Go.Deep

def pairA (d : Int × Int) : Array Value := #[.int .i64 d.1, .int .i64 d.2]
def RPair (_ : World) (d : Int × Int) : Prop := In64 d.1 ∧ In64 d.2
def RMv (_ : World) (m : Mv) : Prop := Ints64 (mvI m)
def RTim (_ : World) (m : Tim) : Prop := Ints64 (timI m)
/-- A cue with the values of its slices. -/
abbrev CueX := CueD × Value × Value
def cueXA (x : CueX) : Array Value := cueA x.1 x.2.1 x.2.2
structure RCue (w : World) (x : CueX) : Prop where
  at_ : CueAt w x.2.1 x.2.2 x.1
  ok : Cue64 x.1
  cap1 : CapOk x.2.1
  cap2 : CapOk x.2.2
  num : x.1.num.size ≤ 140737488351232
  lab : x.1.lab.size ≤ 140737488351232
  link : x.1.link.size ≤ 140737488351232
theorem cap_of {a : Option Addr} {n c : Nat} (h : n ≤ c) : CapOk (.slice a n c) := fun _ _ _ e => by cases e; exact h

set_option maxRecDepth 100000 in
theorem opens_param : Opens 233 pairA RPair := by
  intro H enc w base n spare held cs x h hw
  have k0 : Tryz.prog.cellsOf 3 = 1 := by kernel_rfl
  obtain ⟨xs, m, -, hx, hl, hlen, hg⟩ := DataW.trod_struct Tryz.underlying233 h
  have hl : cs.length = 2 := hl.trans (by kernel_rfl)
  match cs, hl with
  | [c0, c1], _ =>
    match xs, hlen with
    | [y0, y1], _ =>
      have hd : x.1 = .agg [y0.1, y1.1] := by rw [hx]; rfl
      have g0 : DataW.trod enc Tryz.prog w base spare held m 3 [c0] = some y0 := by simpa [Value.cells, k0] using hg 0 _ rfl
      obtain ⟨a, e0, r0⟩ := opens_int enc w base m spare held _ _ g0 (fun k hk => hw k (by rw [hd]; simp [DataW.weights, Tryz.underlying233, DataW.weightsEach, hk]))
      simp [] at e0
      obtain rfl := e0
      have g1 : DataW.trod enc Tryz.prog w base spare held m 3 [c1] = some y1 := by simpa [Value.cells, k0] using hg 1 _ rfl
      obtain ⟨b, e1, r1⟩ := opens_int enc w base m spare held _ _ g1 (fun k hk => hw k (by rw [hd]; simp [DataW.weights, Tryz.underlying233, DataW.weightsEach, hk]))
      simp [] at e1
      obtain rfl := e1
      exact ⟨(a, b), rfl, r0, r1⟩

set_option maxRecDepth 100000 in
theorem opens_value : Opens 235 pairA RPair := by
  intro H enc w base n spare held cs x h hw
  have k0 : Tryz.prog.cellsOf 3 = 1 := by kernel_rfl
  obtain ⟨xs, m, -, hx, hl, hlen, hg⟩ := DataW.trod_struct Tryz.underlying235 h
  have hl : cs.length = 2 := hl.trans (by kernel_rfl)
  match cs, hl with
  | [c0, c1], _ =>
    match xs, hlen with
    | [y0, y1], _ =>
      have hd : x.1 = .agg [y0.1, y1.1] := by rw [hx]; rfl
      have g0 : DataW.trod enc Tryz.prog w base spare held m 3 [c0] = some y0 := by simpa [Value.cells, k0] using hg 0 _ rfl
      obtain ⟨a, e0, r0⟩ := opens_int enc w base m spare held _ _ g0 (fun k hk => hw k (by rw [hd]; simp [DataW.weights, Tryz.underlying235, DataW.weightsEach, hk]))
      simp [] at e0
      obtain rfl := e0
      have g1 : DataW.trod enc Tryz.prog w base spare held m 3 [c1] = some y1 := by simpa [Value.cells, k0] using hg 1 _ rfl
      obtain ⟨b, e1, r1⟩ := opens_int enc w base m spare held _ _ g1 (fun k hk => hw k (by rw [hd]; simp [DataW.weights, Tryz.underlying235, DataW.weightsEach, hk]))
      simp [] at e1
      obtain rfl := e1
      exact ⟨(a, b), rfl, r0, r1⟩

set_option maxRecDepth 100000 in
theorem opens_move : Opens 237 mvA RMv := by
  intro H enc w base n spare held cs x h hw
  have k0 : Tryz.prog.cellsOf 233 = 2 := by kernel_rfl
  have k1 : Tryz.prog.cellsOf 235 = 2 := by kernel_rfl
  have k2 : Tryz.prog.cellsOf 3 = 1 := by kernel_rfl
  obtain ⟨xs, m, -, hx, hl, hlen, hg⟩ := DataW.trod_struct Tryz.underlying237 h
  have hl : cs.length = 5 := hl.trans (by kernel_rfl)
  match cs, hl with
  | [c0, c1, c2, c3, c4], _ =>
    match xs, hlen with
    | [y0, y1, y2], _ =>
      have hd : x.1 = .agg [y0.1, y1.1, y2.1] := by rw [hx]; rfl
      have g0 : DataW.trod enc Tryz.prog w base spare held m 233 [c0, c1] = some y0 := by simpa [Value.cells, k0, k1, k2] using hg 0 _ rfl
      obtain ⟨p, e0, r0⟩ := opens_param enc w base m spare held _ _ g0 (fun k hk => hw k (by rw [hd]; simp [DataW.weights, Tryz.underlying237, DataW.weightsEach, hk]))
      simp [pairA] at e0
      obtain ⟨rfl, rfl⟩ := e0
      have g1 : DataW.trod enc Tryz.prog w base spare held m 235 [c2, c3] = some y1 := by simpa [Value.cells, k0, k1, k2] using hg 1 _ rfl
      obtain ⟨q, e1, r1⟩ := opens_value enc w base m spare held _ _ g1 (fun k hk => hw k (by rw [hd]; simp [DataW.weights, Tryz.underlying237, DataW.weightsEach, hk]))
      simp [pairA] at e1
      obtain ⟨rfl, rfl⟩ := e1
      have g2 : DataW.trod enc Tryz.prog w base spare held m 3 [c4] = some y2 := by simpa [Value.cells, k0, k1, k2] using hg 2 _ rfl
      obtain ⟨a, e2, r2⟩ := opens_int enc w base m spare held _ _ g2 (fun k hk => hw k (by rw [hd]; simp [DataW.weights, Tryz.underlying237, DataW.weightsEach, hk]))
      simp [] at e2
      obtain rfl := e2
      refine ⟨⟨p.1, p.2, q.1, q.2, a⟩, rfl, fun n hn => ?_⟩
      simp only [mvI, List.mem_cons, List.not_mem_nil, or_false] at hn
      rcases hn with rfl | rfl | rfl | rfl | rfl
      · exact r0.1
      · exact r0.2
      · exact r1.1
      · exact r1.2
      · exact r2

set_option maxRecDepth 100000 in
theorem opens_timing : Opens 142 timA RTim := by
  intro H enc w base n spare held cs x h hw
  have k0 : Tryz.prog.cellsOf 3 = 1 := by kernel_rfl
  obtain ⟨xs, m, -, hx, hl, hlen, hg⟩ := DataW.trod_struct Tryz.underlying142 h
  have hl : cs.length = 6 := hl.trans (by kernel_rfl)
  match cs, hl with
  | [c0, c1, c2, c3, c4, c5], _ =>
    match xs, hlen with
    | [y0, y1, y2, y3, y4, y5], _ =>
      have hd : x.1 = .agg [y0.1, y1.1, y2.1, y3.1, y4.1, y5.1] := by rw [hx]; rfl
      have g0 : DataW.trod enc Tryz.prog w base spare held m 3 [c0] = some y0 := by simpa [Value.cells, k0] using hg 0 _ rfl
      obtain ⟨a, e0, r0⟩ := opens_int enc w base m spare held _ _ g0 (fun k hk => hw k (by rw [hd]; simp [DataW.weights, Tryz.underlying142, DataW.weightsEach, hk]))
      simp [] at e0
      obtain rfl := e0
      have g1 : DataW.trod enc Tryz.prog w base spare held m 3 [c1] = some y1 := by simpa [Value.cells, k0] using hg 1 _ rfl
      obtain ⟨b, e1, r1⟩ := opens_int enc w base m spare held _ _ g1 (fun k hk => hw k (by rw [hd]; simp [DataW.weights, Tryz.underlying142, DataW.weightsEach, hk]))
      simp [] at e1
      obtain rfl := e1
      have g2 : DataW.trod enc Tryz.prog w base spare held m 3 [c2] = some y2 := by simpa [Value.cells, k0] using hg 2 _ rfl
      obtain ⟨c, e2, r2⟩ := opens_int enc w base m spare held _ _ g2 (fun k hk => hw k (by rw [hd]; simp [DataW.weights, Tryz.underlying142, DataW.weightsEach, hk]))
      simp [] at e2
      obtain rfl := e2
      have g3 : DataW.trod enc Tryz.prog w base spare held m 3 [c3] = some y3 := by simpa [Value.cells, k0] using hg 3 _ rfl
      obtain ⟨d, e3, r3⟩ := opens_int enc w base m spare held _ _ g3 (fun k hk => hw k (by rw [hd]; simp [DataW.weights, Tryz.underlying142, DataW.weightsEach, hk]))
      simp [] at e3
      obtain rfl := e3
      have g4 : DataW.trod enc Tryz.prog w base spare held m 3 [c4] = some y4 := by simpa [Value.cells, k0] using hg 4 _ rfl
      obtain ⟨e, e4, r4⟩ := opens_int enc w base m spare held _ _ g4 (fun k hk => hw k (by rw [hd]; simp [DataW.weights, Tryz.underlying142, DataW.weightsEach, hk]))
      simp [] at e4
      obtain rfl := e4
      have g5 : DataW.trod enc Tryz.prog w base spare held m 3 [c5] = some y5 := by simpa [Value.cells, k0] using hg 5 _ rfl
      obtain ⟨f, e5, r5⟩ := opens_int enc w base m spare held _ _ g5 (fun k hk => hw k (by rw [hd]; simp [DataW.weights, Tryz.underlying142, DataW.weightsEach, hk]))
      simp [] at e5
      obtain rfl := e5
      refine ⟨⟨a, b, c, d, e, f⟩, rfl, fun n hn => ?_⟩
      simp only [timI, List.mem_cons, List.not_mem_nil, or_false] at hn
      rcases hn with rfl | rfl | rfl | rfl | rfl | rfl <;> assumption

theorem opens_moves : Opens 61 (fun v : Value × List Mv => #[v.1]) (SliceAt 5 mvA RMv) := opens_slice (S := 5) Tryz.underlying61 (by kernel_rfl) (by decide) (by kernel_rfl) (fun _ => rfl) opens_move
theorem opens_timings : Opens 62 (fun v : Value × List Tim => #[v.1]) (SliceAt 6 timA RTim) := opens_slice (S := 6) Tryz.underlying62 (by kernel_rfl) (by decide) (by kernel_rfl) (fun _ => rfl) opens_timing

set_option maxRecDepth 100000 in
theorem opens_cue : Opens 64 cueXA RCue := by
  intro H enc w base n spare held cs x h hw
  have k0 : Tryz.prog.cellsOf 9 = 1 := by kernel_rfl
  have k1 : Tryz.prog.cellsOf 61 = 1 := by kernel_rfl
  have k2 : Tryz.prog.cellsOf 62 = 1 := by kernel_rfl
  have k3 : Tryz.prog.cellsOf 4 = 1 := by kernel_rfl
  have k4 : Tryz.prog.cellsOf 3 = 1 := by kernel_rfl
  obtain ⟨xs, m, -, hx, hl, hlen, hg⟩ := DataW.trod_struct Tryz.underlying64 h
  have hl : cs.length = 9 := hl.trans (by kernel_rfl)
  match cs, hl with
  | [c0, c1, c2, c3, c4, c5, c6, c7, c8], _ =>
    match xs, hlen with
    | [y0, y1, y2, y3, y4, y5, y6, y7, y8], _ =>
      have hd : x.1 = .agg [y0.1, y1.1, y2.1, y3.1, y4.1, y5.1, y6.1, y7.1, y8.1] := by rw [hx]; rfl
      have g0 : DataW.trod enc Tryz.prog w base spare held m 9 [c0] = some y0 := by simpa [Value.cells, k0, k1, k2, k3, k4] using hg 0 _ rfl
      obtain ⟨nu, e0, r0⟩ := opens_string enc w base m spare held _ _ g0 (fun k hk => hw k (by rw [hd]; simp [DataW.weights, Tryz.underlying64, DataW.weightsEach, hk]))
      simp [] at e0
      obtain rfl := e0
      have g1 : DataW.trod enc Tryz.prog w base spare held m 9 [c1] = some y1 := by simpa [Value.cells, k0, k1, k2, k3, k4] using hg 1 _ rfl
      obtain ⟨la, e1, r1⟩ := opens_string enc w base m spare held _ _ g1 (fun k hk => hw k (by rw [hd]; simp [DataW.weights, Tryz.underlying64, DataW.weightsEach, hk]))
      simp [] at e1
      obtain rfl := e1
      have g2 : DataW.trod enc Tryz.prog w base spare held m 61 [c2] = some y2 := by simpa [Value.cells, k0, k1, k2, k3, k4] using hg 2 _ rfl
      obtain ⟨ms, e2, r2⟩ := opens_moves enc w base m spare held _ _ g2 (fun k hk => hw k (by rw [hd]; simp [DataW.weights, Tryz.underlying64, DataW.weightsEach, hk]))
      simp [] at e2
      obtain rfl := e2
      have g3 : DataW.trod enc Tryz.prog w base spare held m 62 [c3] = some y3 := by simpa [Value.cells, k0, k1, k2, k3, k4] using hg 3 _ rfl
      obtain ⟨ts, e3, r3⟩ := opens_timings enc w base m spare held _ _ g3 (fun k hk => hw k (by rw [hd]; simp [DataW.weights, Tryz.underlying64, DataW.weightsEach, hk]))
      simp [] at e3
      obtain rfl := e3
      have g4 : DataW.trod enc Tryz.prog w base spare held m 4 [c4] = some y4 := by simpa [Value.cells, k0, k1, k2, k3, k4] using hg 4 _ rfl
      obtain ⟨bl, e4, r4⟩ := opens_bool enc w base m spare held _ _ g4 (fun k hk => hw k (by rw [hd]; simp [DataW.weights, Tryz.underlying64, DataW.weightsEach, hk]))
      simp [] at e4
      obtain rfl := e4
      have g5 : DataW.trod enc Tryz.prog w base spare held m 4 [c5] = some y5 := by simpa [Value.cells, k0, k1, k2, k3, k4] using hg 5 _ rfl
      obtain ⟨mk, e5, r5⟩ := opens_bool enc w base m spare held _ _ g5 (fun k hk => hw k (by rw [hd]; simp [DataW.weights, Tryz.underlying64, DataW.weightsEach, hk]))
      simp [] at e5
      obtain rfl := e5
      have g6 : DataW.trod enc Tryz.prog w base spare held m 3 [c6] = some y6 := by simpa [Value.cells, k0, k1, k2, k3, k4] using hg 6 _ rfl
      obtain ⟨fo, e6, r6⟩ := opens_int enc w base m spare held _ _ g6 (fun k hk => hw k (by rw [hd]; simp [DataW.weights, Tryz.underlying64, DataW.weightsEach, hk]))
      simp [] at e6
      obtain rfl := e6
      have g7 : DataW.trod enc Tryz.prog w base spare held m 9 [c7] = some y7 := by simpa [Value.cells, k0, k1, k2, k3, k4] using hg 7 _ rfl
      obtain ⟨li, e7, r7⟩ := opens_string enc w base m spare held _ _ g7 (fun k hk => hw k (by rw [hd]; simp [DataW.weights, Tryz.underlying64, DataW.weightsEach, hk]))
      simp [] at e7
      obtain rfl := e7
      have g8 : DataW.trod enc Tryz.prog w base spare held m 3 [c8] = some y8 := by simpa [Value.cells, k0, k1, k2, k3, k4] using hg 8 _ rfl
      obtain ⟨lo, e8, r8⟩ := opens_int enc w base m spare held _ _ g8 (fun k hk => hw k (by rw [hd]; simp [DataW.weights, Tryz.underlying64, DataW.weightsEach, hk]))
      simp [] at e8
      obtain rfl := e8
      obtain ⟨v1, l1⟩ := ms
      obtain ⟨v2, l2⟩ := ts
      obtain ⟨⟨a1, p1, h1, q1⟩, m1, m2⟩ := r2
      obtain ⟨⟨a2, p2, h2, q2⟩, m3, m4⟩ := r3
      simp only at h1 h2 m1 m2 m3 m4 q1 q2
      subst h1 h2
      exact ⟨(⟨nu, la, l1, l2, bl, mk, fo, li, lo⟩, .slice a1 l1.length p1, .slice a2 l2.length p2), rfl, ⟨m1, m3⟩, ⟨m2, m4, r6, r8, by simp only; omega, by simp only; omega, by simp only; omega⟩, cap_of q1, cap_of q2, r0, r1, r7⟩

end Go.Proofs.YtjeigphhepngmaaGreatDoor

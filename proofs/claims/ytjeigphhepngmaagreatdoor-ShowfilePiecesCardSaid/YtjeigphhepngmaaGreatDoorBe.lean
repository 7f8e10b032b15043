/- -/
import Derived.Test.YtjeigphhepngmaaGreatDoorRows
import Derived.Test.YtjeigphhepngmaaGreatDoorYe
import Derived.WalkKit
import Derived.ProofKit
import Derived.OpenShut
import Derived.ShutString
import Derived.ChangeOld
import Derived.Below
import Derived.Deep.Slices
import Derived.SizedLaws
import Derived.Test.YtjeigphhepngmaaGreatDoorYv
import Derived.Test.YtjeigphhepngmaaGreatDoorAp
namespace Go.Proofs.YtjeigphhepngmaaGreatDoor
open Go.ChangeShapes Go.WideShapes Go.ChangeAt Go.RowKit Go.Deep
set_option maxHeartbeats 8000000
set_option linter.unusedSimpArgs false
set_option linter.unusedVariables false
set_option maxRecDepth 100000
theorem zpb {α : Type} {P : Nat → α → Prop} (n : Nat) (h : ∀ i, i < n → ∃ d, P i d) : ∃ l : List α, l.length = n ∧ ∀ i d, l[i]? = some d → P i d := by
 induction n with
 | zero => exact ⟨[], rfl, fun i d h => by simp at h⟩
 | succ n ih =>
   obtain ⟨l, hl, hp⟩ := ih fun i hi => h i (by omega)
   obtain ⟨d, hd⟩ := h n (by omega)
   refine ⟨l ++ [d], by simp [hl], fun i d' hd' => ?_⟩
   by_cases hi : i < n
   · rw [List.getElem?_append_left (by omega)] at hd'
     exact hp i d' hd'
   rw [List.getElem?_append_right (by omega), hl] at hd'
   have : i = n := by
     by_cases h0 : i - n = 0
     · omega
     rw [List.getElem?_eq_none (by simp; omega)] at hd'; cases hd'
   subst this
   simp at hd'
   subst hd'
   exact hd
theorem zgr (b off k : Nat) : (⟨b, off, none⟩ : Addr).add k = ⟨b, off + k, none⟩ := by unfold Addr.add; split <;> simp_all
def Opens {α : Type} (T : Nat) (f : α → Array Value) (R : World → α → Prop) : Prop :=
 ∀ {H : Type} (enc : TypeId × Value → H) (w : World) (base n : Nat) (spare : Nat → Bool) (held : Bool) (cs : List Value) (x : DataW H × List MemPlace),
  DataW.trod enc Tryz.prog w base spare held n T cs = some x → (∀ k ∈ x.1.weights Tryz.prog T, k ≤ reachBytes) → ∃ d, cs = (f d).toList ∧ R w d
def In64 (n : Int) : Prop := -9223372036854775808 ≤ n ∧ n ≤ 9223372036854775807
theorem ztl {n : Int} (h : (Lit.int .i64 n).wf = true) : In64 n := by
 simp [Lit.wf] at h
 exact h
theorem zai : Opens 3 (fun n : Int => #[.int .i64 n]) (fun _ n => In64 n) := by
 intro H enc w base n spare held cs x h _
 obtain ⟨d, e, _, hw⟩ := DataW.trod_int Tryz.underlying3 h
 exact ⟨d, e, ztl hw⟩
theorem zev : Opens 4 (fun b : Bool => #[.bool b]) (fun _ _ => True) := by
 intro H enc w base n spare held cs x h _
 obtain ⟨d, e, _⟩ := DataW.trod_bool Tryz.underlying4 h
 exact ⟨d, e, trivial⟩
theorem zcg : Opens 9 (fun s : ByteArray => #[.string s]) (fun _ s => s.size ≤ 140737488351232) := by
 intro H enc w base n spare held cs x h hw
 obtain ⟨d, e, hx, _⟩ := DataW.trod_string Tryz.underlying9 h
 refine ⟨d, e, ?_⟩
 have := hw d.data.toList.length (by rw [hx]; simp [DataW.weights])
 have hre : reachBytes = 140737488351232 := rfl
 rw [hre] at this
 simpa using this
theorem zkr {H : Type} {P : Program} {e : TypeId} : ∀ {l : List (DataW H)} {d : DataW H}, d ∈ l → ∀ k ∈ d.weights P e, k ∈ DataW.weightsAll P e l
 | a :: l, d, hd, k, hk => by
   rcases List.mem_cons.1 hd with rfl | hd
   · simp [DataW.weightsAll, hk]
   simp [DataW.weightsAll, zkr hd k hk]
structure SliceAt {α : Type} (S : Nat) (f : α → Array Value) (R : World → α → Prop) (w : World) (v : Value × List α) : Prop where
 shape : ∃ a cap, v.1 = .slice a v.2.length cap ∧ v.2.length ≤ cap
 list : ListAt S f w v.1 v.2
 each : ∀ d ∈ v.2, R w d
theorem za1 {α : Type} {ST T S : Nat} {f : α → Array Value} {R : World → α → Prop} (hu : Tryz.prog.underlying ST = some (.slice T)) (hC : Tryz.prog.cellsOf T = S) (hS : 0 < S) (hB0 : Nat.ble 1 (Tryz.prog.bytesOf T) = true) (hfs : ∀ d, (f d).size = S) (ho : Opens T f R) :
   Opens ST (fun v : Value × List α => #[v.1]) (SliceAt S f R) := by
 have hB : 0 < Tryz.prog.bytesOf T := Nat.le_of_ble_eq_true hB0
 intro H enc w base n spare held cs x hf hw
 rcases open_slice hu hf with ⟨hcs, hx⟩ | ⟨a, len, cap, m, nn, D, Pl, hcs, hb, hl, hm, hmm, hx, hi⟩
 · subst hcs
   exact ⟨(.slice none 0 0, []), rfl, ⟨none, 0, rfl, Nat.le_refl _⟩, .inl ⟨rfl, _, _, rfl⟩, fun d hd => by cases hd⟩
 subst hcs
 subst hx
 have hlm : len ≤ m := by rw [hmm]; split <;> omega
 have hwD : ∀ i, i < len → ∀ k ∈ (D i).weights Tryz.prog T, k ≤ reachBytes := by
   intro i hi0 k hk
   refine hw k ?_
   simp only [DataW.weights, hu]
   refine List.mem_cons_of_mem _ (List.mem_append_left _ (zkr (d := D i) ?_ k hk))
   exact List.mem_map.2 ⟨i, List.mem_range.2 hi0, rfl⟩
 have hd : ∀ i, i < len → ∃ d : α, (∀ j, j < S → w.cell? ((a.add (i * S)).add j) = (f d)[j]?) ∧ R w d := by
   intro i hi0
   obtain ⟨cs', hc, ht⟩ := hi i (by omega)
   rw [hC] at hc
   obtain ⟨_, hcl, hat⟩ := World.cells?_some hc
   obtain ⟨d, rfl, hR⟩ := ho enc w base nn spare held cs' (D i, Pl i) ht (hwD i hi0)
   refine ⟨d, fun j hj => ?_, hR⟩
   rw [hat j hj]
   first | done | rfl | simp
 obtain ⟨l, hl2, hp⟩ := zpb len hd
 subst hl2
 have hre : reachBytes = 140737488351232 := rfl
 have hwt := hw ((((List.range l.length).map D).length + ((List.range (m - l.length)).map fun j => D (l.length + j)).length) * Tryz.prog.bytesOf T) (by simp [DataW.weights, hu])
 rw [hre, List.length_map, List.length_range] at hwt
 have h1 : l.length ≤ 140737488351232 := by
   have := Nat.le_mul_of_pos_right (l.length + ((List.range (m - l.length)).map fun j => D (l.length + j)).length) hB
   omega
 refine ⟨(.slice (some a) l.length cap, l), rfl, ⟨some a, cap, rfl, hl⟩, ?_, ?_⟩
 · by_cases h0 : l.length = 0
   · exact .inl ⟨h0, some a, cap, by rw [h0]⟩
   have hsome : ∀ k (hk : k < l.length), l[k]? = some l[k] := fun k hk => List.getElem?_eq_getElem hk
   have hfirst := (hp 0 _ (hsome 0 (by omega))).1 0 hS
   have hz : (f l[0])[0]? = some ((f l[0])[0]'(by rw [hfs]; exact hS)) := Array.getElem?_eq_getElem _
   obtain ⟨b, off, spot⟩ := a
   have hspot : spot = none := by simpa [Addr.add] using World.cell?_spot (hfirst.trans hz)
   subst hspot
   refine .inr ⟨by simp only; omega, h1, b, off, cap, rfl, ?_, fun j hj => ?_⟩
   · have := World.block_lt_of_cell? w _ (hfirst.trans hz)
     simpa [zgr] using this
   have hj2 : j < l.length * S := hj
   have hk : j / S < l.length := Nat.div_lt_of_lt_mul (by rw [Nat.mul_comm]; exact hj2)
   have := (hp (j / S) _ (hsome _ hk)).1 (j % S) (Nat.mod_lt _ hS)
   have he : off + j / S * S + j % S = off + j := by have := Nat.div_add_mod j S; rw [Nat.mul_comm] at this; omega
   rw [zgr, zgr, he] at this
   rw [this, genC]
   simp only
   rw [hsome _ hk]
   rfl
 intro d hd
 obtain ⟨k, hk⟩ := List.getElem?_of_mem hd
 exact (hp k d hk).2
def pairA (d : Int × Int) : Array Value := #[.int .i64 d.1, .int .i64 d.2]
def RPair (_ : World) (d : Int × Int) : Prop := In64 d.1 ∧ In64 d.2
def RMv (_ : World) (m : Mv) : Prop := Ints64 (mvI m)
def RTim (_ : World) (m : Tim) : Prop := Ints64 (timI m)
abbrev CueX := CueD × Value × Value
def cueXA (x : CueX) : Array Value := cueA x.1 x.2.1 x.2.2
structure RCue (w : World) (x : CueX) : Prop where
 at_ : CueAt w x.2.1 x.2.2 x.1
 ok : Cue64 x.1
 cap1 : CapOk x.2.1
 cap2 : CapOk x.2.2
 num : x.1.num.size ≤ 140737488351232
 lab : x.1.lab.size ≤ 140737488351232
 link : x.1.link.size ≤ 140737488351232
theorem zcy {a : Option Addr} {n c : Nat} (h : n ≤ c) : CapOk (.slice a n c) := fun _ _ _ e => by cases e; exact h
theorem zht : Opens 233 pairA RPair := by
 intro H enc w base n spare held cs x h hw
 have k0 : Tryz.prog.cellsOf 3 = 1 := by kernel_rfl
 obtain ⟨xs, m, -, hx, hl, hlen, hg⟩ := DataW.trod_struct Tryz.underlying233 h
 have hl : cs.length = 2 := hl.trans (by kernel_rfl)
 match cs, hl with
 | [c0, c1], _ =>
   match xs, hlen with
   | [y0, y1], _ =>
     have hd : x.1 = .agg [y0.1, y1.1] := by rw [hx]; rfl
     have g0 : DataW.trod enc Tryz.prog w base spare held m 3 [c0] = some y0 := by simpa [Value.cells, k0] using hg 0 _ rfl
     obtain ⟨a, e0, r0⟩ := zai enc w base m spare held _ _ g0 (fun k hk => hw k (by rw [hd]; simp [DataW.weights, Tryz.underlying233, DataW.weightsEach, hk]))
     simp [] at e0
     obtain rfl := e0
     have g1 : DataW.trod enc Tryz.prog w base spare held m 3 [c1] = some y1 := by simpa [Value.cells, k0] using hg 1 _ rfl
     obtain ⟨b, e1, r1⟩ := zai enc w base m spare held _ _ g1 (fun k hk => hw k (by rw [hd]; simp [DataW.weights, Tryz.underlying233, DataW.weightsEach, hk]))
     simp [] at e1
     obtain rfl := e1
     exact ⟨(a, b), rfl, r0, r1⟩
theorem zv7 : Opens 235 pairA RPair := by
 intro H enc w base n spare held cs x h hw
 have k0 : Tryz.prog.cellsOf 3 = 1 := by kernel_rfl
 obtain ⟨xs, m, -, hx, hl, hlen, hg⟩ := DataW.trod_struct Tryz.underlying235 h
 have hl : cs.length = 2 := hl.trans (by kernel_rfl)
 match cs, hl with
 | [c0, c1], _ =>
   match xs, hlen with
   | [y0, y1], _ =>
     have hd : x.1 = .agg [y0.1, y1.1] := by rw [hx]; rfl
     have g0 : DataW.trod enc Tryz.prog w base spare held m 3 [c0] = some y0 := by simpa [Value.cells, k0] using hg 0 _ rfl
     obtain ⟨a, e0, r0⟩ := zai enc w base m spare held _ _ g0 (fun k hk => hw k (by rw [hd]; simp [DataW.weights, Tryz.underlying235, DataW.weightsEach, hk]))
     simp [] at e0
     obtain rfl := e0
     have g1 : DataW.trod enc Tryz.prog w base spare held m 3 [c1] = some y1 := by simpa [Value.cells, k0] using hg 1 _ rfl
     obtain ⟨b, e1, r1⟩ := zai enc w base m spare held _ _ g1 (fun k hk => hw k (by rw [hd]; simp [DataW.weights, Tryz.underlying235, DataW.weightsEach, hk]))
     simp [] at e1
     obtain rfl := e1
     exact ⟨(a, b), rfl, r0, r1⟩
theorem zgx : Opens 237 mvA RMv := by
 intro H enc w base n spare held cs x h hw
 have k0 : Tryz.prog.cellsOf 233 = 2 := by kernel_rfl
 have k1 : Tryz.prog.cellsOf 235 = 2 := by kernel_rfl
 have k2 : Tryz.prog.cellsOf 3 = 1 := by kernel_rfl
 obtain ⟨xs, m, -, hx, hl, hlen, hg⟩ := DataW.trod_struct Tryz.underlying237 h
 have hl : cs.length = 5 := hl.trans (by kernel_rfl)
 match cs, hl with
 | [c0, c1, c2, c3, c4], _ =>
   match xs, hlen with
   | [y0, y1, y2], _ =>
     have hd : x.1 = .agg [y0.1, y1.1, y2.1] := by rw [hx]; rfl
     have g0 : DataW.trod enc Tryz.prog w base spare held m 233 [c0, c1] = some y0 := by simpa [Value.cells, k0, k1, k2] using hg 0 _ rfl
     obtain ⟨p, e0, r0⟩ := zht enc w base m spare held _ _ g0 (fun k hk => hw k (by rw [hd]; simp [DataW.weights, Tryz.underlying237, DataW.weightsEach, hk]))
     simp [pairA] at e0
     obtain ⟨rfl, rfl⟩ := e0
     have g1 : DataW.trod enc Tryz.prog w base spare held m 235 [c2, c3] = some y1 := by simpa [Value.cells, k0, k1, k2] using hg 1 _ rfl
     obtain ⟨q, e1, r1⟩ := zv7 enc w base m spare held _ _ g1 (fun k hk => hw k (by rw [hd]; simp [DataW.weights, Tryz.underlying237, DataW.weightsEach, hk]))
     simp [pairA] at e1
     obtain ⟨rfl, rfl⟩ := e1
     have g2 : DataW.trod enc Tryz.prog w base spare held m 3 [c4] = some y2 := by simpa [Value.cells, k0, k1, k2] using hg 2 _ rfl
     obtain ⟨a, e2, r2⟩ := zai enc w base m spare held _ _ g2 (fun k hk => hw k (by rw [hd]; simp [DataW.weights, Tryz.underlying237, DataW.weightsEach, hk]))
     simp [] at e2
     obtain rfl := e2
     refine ⟨⟨p.1, p.2, q.1, q.2, a⟩, rfl, fun n hn => ?_⟩
     simp only [mvI, List.mem_cons, List.not_mem_nil, or_false] at hn
     rcases hn with rfl | rfl | rfl | rfl | rfl
     · exact r0.1
     · exact r0.2
     · exact r1.1
     · exact r1.2
     exact r2
theorem zgs : Opens 142 timA RTim := by
 intro H enc w base n spare held cs x h hw
 have k0 : Tryz.prog.cellsOf 3 = 1 := by kernel_rfl
 obtain ⟨xs, m, -, hx, hl, hlen, hg⟩ := DataW.trod_struct Tryz.underlying142 h
 have hl : cs.length = 6 := hl.trans (by kernel_rfl)
 match cs, hl with
 | [c0, c1, c2, c3, c4, c5], _ =>
   match xs, hlen with
   | [y0, y1, y2, y3, y4, y5], _ =>
     have hd : x.1 = .agg [y0.1, y1.1, y2.1, y3.1, y4.1, y5.1] := by rw [hx]; rfl
     have g0 : DataW.trod enc Tryz.prog w base spare held m 3 [c0] = some y0 := by simpa [Value.cells, k0] using hg 0 _ rfl
     obtain ⟨a, e0, r0⟩ := zai enc w base m spare held _ _ g0 (fun k hk => hw k (by rw [hd]; simp [DataW.weights, Tryz.underlying142, DataW.weightsEach, hk]))
     simp [] at e0
     obtain rfl := e0
     have g1 : DataW.trod enc Tryz.prog w base spare held m 3 [c1] = some y1 := by simpa [Value.cells, k0] using hg 1 _ rfl
     obtain ⟨b, e1, r1⟩ := zai enc w base m spare held _ _ g1 (fun k hk => hw k (by rw [hd]; simp [DataW.weights, Tryz.underlying142, DataW.weightsEach, hk]))
     simp [] at e1
     obtain rfl := e1
     have g2 : DataW.trod enc Tryz.prog w base spare held m 3 [c2] = some y2 := by simpa [Value.cells, k0] using hg 2 _ rfl
     obtain ⟨c, e2, r2⟩ := zai enc w base m spare held _ _ g2 (fun k hk => hw k (by rw [hd]; simp [DataW.weights, Tryz.underlying142, DataW.weightsEach, hk]))
     simp [] at e2
     obtain rfl := e2
     have g3 : DataW.trod enc Tryz.prog w base spare held m 3 [c3] = some y3 := by simpa [Value.cells, k0] using hg 3 _ rfl
     obtain ⟨d, e3, r3⟩ := zai enc w base m spare held _ _ g3 (fun k hk => hw k (by rw [hd]; simp [DataW.weights, Tryz.underlying142, DataW.weightsEach, hk]))
     simp [] at e3
     obtain rfl := e3
     have g4 : DataW.trod enc Tryz.prog w base spare held m 3 [c4] = some y4 := by simpa [Value.cells, k0] using hg 4 _ rfl
     obtain ⟨e, e4, r4⟩ := zai enc w base m spare held _ _ g4 (fun k hk => hw k (by rw [hd]; simp [DataW.weights, Tryz.underlying142, DataW.weightsEach, hk]))
     simp [] at e4
     obtain rfl := e4
     have g5 : DataW.trod enc Tryz.prog w base spare held m 3 [c5] = some y5 := by simpa [Value.cells, k0] using hg 5 _ rfl
     obtain ⟨f, e5, r5⟩ := zai enc w base m spare held _ _ g5 (fun k hk => hw k (by rw [hd]; simp [DataW.weights, Tryz.underlying142, DataW.weightsEach, hk]))
     simp [] at e5
     obtain rfl := e5
     refine ⟨⟨a, b, c, d, e, f⟩, rfl, fun n hn => ?_⟩
     simp only [timI, List.mem_cons, List.not_mem_nil, or_false] at hn
     rcases hn with rfl | rfl | rfl | rfl | rfl | rfl <;> assumption
theorem zoq : Opens 61 (fun v : Value × List Mv => #[v.1]) (SliceAt 5 mvA RMv) := za1 (S := 5) Tryz.underlying61 (by kernel_rfl) (by decide) (by kernel_rfl) (fun _ => rfl) zgx
theorem zyb : Opens 62 (fun v : Value × List Tim => #[v.1]) (SliceAt 6 timA RTim) := za1 (S := 6) Tryz.underlying62 (by kernel_rfl) (by decide) (by kernel_rfl) (fun _ => rfl) zgs
theorem zge : Opens 64 cueXA RCue := by
 intro H enc w base n spare held cs x h hw
 have k0 : Tryz.prog.cellsOf 9 = 1 := by kernel_rfl
 have k1 : Tryz.prog.cellsOf 61 = 1 := by kernel_rfl
 have k2 : Tryz.prog.cellsOf 62 = 1 := by kernel_rfl
 have k3 : Tryz.prog.cellsOf 4 = 1 := by kernel_rfl
 have k4 : Tryz.prog.cellsOf 3 = 1 := by kernel_rfl
 obtain ⟨xs, m, -, hx, hl, hlen, hg⟩ := DataW.trod_struct Tryz.underlying64 h
 have hl : cs.length = 9 := hl.trans (by kernel_rfl)
 match cs, hl with
 | [c0, c1, c2, c3, c4, c5, c6, c7, c8], _ =>
   match xs, hlen with
   | [y0, y1, y2, y3, y4, y5, y6, y7, y8], _ =>
     have hd : x.1 = .agg [y0.1, y1.1, y2.1, y3.1, y4.1, y5.1, y6.1, y7.1, y8.1] := by rw [hx]; rfl
     have g0 : DataW.trod enc Tryz.prog w base spare held m 9 [c0] = some y0 := by simpa [Value.cells, k0, k1, k2, k3, k4] using hg 0 _ rfl
     obtain ⟨nu, e0, r0⟩ := zcg enc w base m spare held _ _ g0 (fun k hk => hw k (by rw [hd]; simp [DataW.weights, Tryz.underlying64, DataW.weightsEach, hk]))
     simp [] at e0
     obtain rfl := e0
     have g1 : DataW.trod enc Tryz.prog w base spare held m 9 [c1] = some y1 := by simpa [Value.cells, k0, k1, k2, k3, k4] using hg 1 _ rfl
     obtain ⟨la, e1, r1⟩ := zcg enc w base m spare held _ _ g1 (fun k hk => hw k (by rw [hd]; simp [DataW.weights, Tryz.underlying64, DataW.weightsEach, hk]))
     simp [] at e1
     obtain rfl := e1
     have g2 : DataW.trod enc Tryz.prog w base spare held m 61 [c2] = some y2 := by simpa [Value.cells, k0, k1, k2, k3, k4] using hg 2 _ rfl
     obtain ⟨ms, e2, r2⟩ := zoq enc w base m spare held _ _ g2 (fun k hk => hw k (by rw [hd]; simp [DataW.weights, Tryz.underlying64, DataW.weightsEach, hk]))
     simp [] at e2
     obtain rfl := e2
     have g3 : DataW.trod enc Tryz.prog w base spare held m 62 [c3] = some y3 := by simpa [Value.cells, k0, k1, k2, k3, k4] using hg 3 _ rfl
     obtain ⟨ts, e3, r3⟩ := zyb enc w base m spare held _ _ g3 (fun k hk => hw k (by rw [hd]; simp [DataW.weights, Tryz.underlying64, DataW.weightsEach, hk]))
     simp [] at e3
     obtain rfl := e3
     have g4 : DataW.trod enc Tryz.prog w base spare held m 4 [c4] = some y4 := by simpa [Value.cells, k0, k1, k2, k3, k4] using hg 4 _ rfl
     obtain ⟨bl, e4, r4⟩ := zev enc w base m spare held _ _ g4 (fun k hk => hw k (by rw [hd]; simp [DataW.weights, Tryz.underlying64, DataW.weightsEach, hk]))
     simp [] at e4
     obtain rfl := e4
     have g5 : DataW.trod enc Tryz.prog w base spare held m 4 [c5] = some y5 := by simpa [Value.cells, k0, k1, k2, k3, k4] using hg 5 _ rfl
     obtain ⟨mk, e5, r5⟩ := zev enc w base m spare held _ _ g5 (fun k hk => hw k (by rw [hd]; simp [DataW.weights, Tryz.underlying64, DataW.weightsEach, hk]))
     simp [] at e5
     obtain rfl := e5
     have g6 : DataW.trod enc Tryz.prog w base spare held m 3 [c6] = some y6 := by simpa [Value.cells, k0, k1, k2, k3, k4] using hg 6 _ rfl
     obtain ⟨fo, e6, r6⟩ := zai enc w base m spare held _ _ g6 (fun k hk => hw k (by rw [hd]; simp [DataW.weights, Tryz.underlying64, DataW.weightsEach, hk]))
     simp [] at e6
     obtain rfl := e6
     have g7 : DataW.trod enc Tryz.prog w base spare held m 9 [c7] = some y7 := by simpa [Value.cells, k0, k1, k2, k3, k4] using hg 7 _ rfl
     obtain ⟨li, e7, r7⟩ := zcg enc w base m spare held _ _ g7 (fun k hk => hw k (by rw [hd]; simp [DataW.weights, Tryz.underlying64, DataW.weightsEach, hk]))
     simp [] at e7
     obtain rfl := e7
     have g8 : DataW.trod enc Tryz.prog w base spare held m 3 [c8] = some y8 := by simpa [Value.cells, k0, k1, k2, k3, k4] using hg 8 _ rfl
     obtain ⟨lo, e8, r8⟩ := zai enc w base m spare held _ _ g8 (fun k hk => hw k (by rw [hd]; simp [DataW.weights, Tryz.underlying64, DataW.weightsEach, hk]))
     simp [] at e8
     obtain rfl := e8
     obtain ⟨v1, l1⟩ := ms
     obtain ⟨v2, l2⟩ := ts
     obtain ⟨⟨a1, p1, h1, q1⟩, m1, m2⟩ := r2
     obtain ⟨⟨a2, p2, h2, q2⟩, m3, m4⟩ := r3
     simp only at h1 h2 m1 m2 m3 m4 q1 q2
     subst h1 h2
     exact ⟨(⟨nu, la, l1, l2, bl, mk, fo, li, lo⟩, .slice a1 l1.length p1, .slice a2 l2.length p2), rfl, ⟨m1, m3⟩, ⟨m2, m4, r6, r8, by simp only; omega, by simp only; omega, by simp only; omega⟩, zcy q1, zcy q2, r0, r1, r7⟩
theorem zva {α β : Type} {S : Nat} {f : α → Array Value} {f2 : β → Array Value} {g : α → β} (hg : ∀ x, f2 (g x) = f x) {w : World} {v : Value} {l : List α} (h : ListAt S f w v l) : ListAt S f2 w v (l.map g) := by
 rcases h with ⟨h0, a, cap, e⟩ | ⟨h0, h1, b, off, cap, e, hlt, hc⟩
 · exact .inl ⟨by simpa using h0, a, cap, e⟩
 refine .inr ⟨by simpa using h0, by simpa using h1, b, off, cap, by simpa using e, hlt, fun j hj => ?_⟩
 rw [hc j (by simpa using hj), genC, genC, List.getElem?_map]
 cases l[j / S]? with
 | none => rfl
 | some x => simp [hg]
def RPt (_ : World) (d : Pt) : Prop := Ints64 [d.1, d.2]
def RSlotO (_ : World) (d : SlotD) : Prop := Len48 d.name ∧ Ints64 [d.lo, d.hi]
def RFeatO (w : World) (x : FeatD × Value) : Prop := RFeat w x ∧ Feat64 x.1
def RProfO (w : World) (x : ProfD × Value) : Prop := RProf w x ∧ Prof64 x.1
def RFixO (_ : World) (d : FixD) : Prop := Fix64 d
def RGrpO (w : World) (x : GrpD × Value) : Prop := RGrp w x ∧ Ints64 [x.1.num] ∧ Ints64 x.1.chs
def RHueO (_ : World) (d : HueD) : Prop := Ints64 (hueI d)
def RPalO (w : World) (x : PalD × Value) : Prop := RPal w x ∧ Ints64 [x.1.num] ∧ ∀ h ∈ x.1.hues, Ints64 (hueI h)
def RGainO (_ : World) (d : GainD) : Prop := Ints64 (gainI d)
def RSubO (w : World) (x : SubD × Value) : Prop := RSub w x ∧ Ints64 [x.1.num, x.1.pri] ∧ ∀ g ∈ x.1.gains, Ints64 (gainI g)
def REffO (w : World) (x : EffD × Value) : Prop := REff w x ∧ Ints64 [x.1.num, x.1.attr] ∧ (∀ p ∈ x.1.wave, Ints64 [p.1, p.2]) ∧ Ints64 [x.1.per, x.1.spr, x.1.size]
def RLstO (w : World) (x : LstD × Value) : Prop := RLst w x ∧ Ints64 [x.1.num, x.1.pri] ∧ ∀ c ∈ x.1.cues, Cue48 c
abbrev ShowX := ShowD × ShowV
def showXA (x : ShowX) : Array Value := showA x.1 x.2
def RShowO (w : World) (x : ShowX) : Prop := ShowAt w x.2 x.1 ∧ Show64 x.1
theorem zea : Opens 268 ptA RPt := by
 intro H enc w base n spare held cs x h hw
 have k0 : Tryz.prog.cellsOf 3 = 1 := by kernel_rfl
 obtain ⟨xs, m, -, hx, hl, hlen, hg⟩ := DataW.trod_struct Tryz.underlying268 h
 have hl : cs.length = 2 := hl.trans (by kernel_rfl)
 match cs, hl with
 | [c0, c1], _ =>
   match xs, hlen with
   | [y0, y1], _ =>
     have hd : x.1 = .agg [y0.1, y1.1] := by rw [hx]; rfl
     have g0 : DataW.trod enc Tryz.prog w base spare held m 3 [c0] = some y0 := by simpa [Value.cells, k0] using hg 0 _ rfl
     obtain ⟨a, e0, r0⟩ := zai enc w base m spare held _ _ g0 (fun k hk => hw k (by rw [hd]; simp [DataW.weights, Tryz.underlying268, DataW.weightsEach, hk]))
     simp [] at e0
     obtain rfl := e0
     have g1 : DataW.trod enc Tryz.prog w base spare held m 3 [c1] = some y1 := by simpa [Value.cells, k0] using hg 1 _ rfl
     obtain ⟨b, e1, r1⟩ := zai enc w base m spare held _ _ g1 (fun k hk => hw k (by rw [hd]; simp [DataW.weights, Tryz.underlying268, DataW.weightsEach, hk]))
     simp [] at e1
     obtain rfl := e1
     exact ⟨(a, b), rfl, (fun n hn => by
      simp only [List.mem_cons, List.not_mem_nil, or_false] at hn
      rcases hn with rfl | rfl <;> assumption)⟩
theorem zib : Opens 144 (fun v : Value × List (Pt) => #[v.1]) (SliceAt 2 ptA RPt) := za1 (S := 2) Tryz.underlying144 (by kernel_rfl) (by decide) (by kernel_rfl) (fun _ => rfl) zea
theorem zni : Opens 22 (fun v : Value × List (Value × List Pt) => #[v.1]) (SliceAt 1 (fun v : Value × List Pt => #[v.1]) (SliceAt 2 ptA RPt)) := za1 (S := 1) Tryz.underlying22 (by kernel_rfl) (by decide) (by kernel_rfl) (fun _ => rfl) zib
theorem zf5 : Opens 273 slotA RSlotO := by
 intro H enc w base n spare held cs x h hw
 have k0 : Tryz.prog.cellsOf 9 = 1 := by kernel_rfl
 have k1 : Tryz.prog.cellsOf 3 = 1 := by kernel_rfl
 obtain ⟨xs, m, -, hx, hl, hlen, hg⟩ := DataW.trod_struct Tryz.underlying273 h
 have hl : cs.length = 3 := hl.trans (by kernel_rfl)
 match cs, hl with
 | [c0, c1, c2], _ =>
   match xs, hlen with
   | [y0, y1, y2], _ =>
     have hd : x.1 = .agg [y0.1, y1.1, y2.1] := by rw [hx]; rfl
     have g0 : DataW.trod enc Tryz.prog w base spare held m 9 [c0] = some y0 := by simpa [Value.cells, k0, k1] using hg 0 _ rfl
     obtain ⟨s, e0, r0⟩ := zcg enc w base m spare held _ _ g0 (fun k hk => hw k (by rw [hd]; simp [DataW.weights, Tryz.underlying273, DataW.weightsEach, hk]))
     simp [] at e0
     obtain rfl := e0
     have g1 : DataW.trod enc Tryz.prog w base spare held m 3 [c1] = some y1 := by simpa [Value.cells, k0, k1] using hg 1 _ rfl
     obtain ⟨a, e1, r1⟩ := zai enc w base m spare held _ _ g1 (fun k hk => hw k (by rw [hd]; simp [DataW.weights, Tryz.underlying273, DataW.weightsEach, hk]))
     simp [] at e1
     obtain rfl := e1
     have g2 : DataW.trod enc Tryz.prog w base spare held m 3 [c2] = some y2 := by simpa [Value.cells, k0, k1] using hg 2 _ rfl
     obtain ⟨b, e2, r2⟩ := zai enc w base m spare held _ _ g2 (fun k hk => hw k (by rw [hd]; simp [DataW.weights, Tryz.underlying273, DataW.weightsEach, hk]))
     simp [] at e2
     obtain rfl := e2
     exact ⟨⟨s, a, b⟩, rfl, r0, (fun n hn => by
      simp only [List.mem_cons, List.not_mem_nil, or_false] at hn
      rcases hn with rfl | rfl <;> assumption)⟩
theorem zmv : Opens 159 (fun v : Value × List (SlotD) => #[v.1]) (SliceAt 3 slotA RSlotO) := za1 (S := 3) Tryz.underlying159 (by kernel_rfl) (by decide) (by kernel_rfl) (fun _ => rfl) zf5
theorem zfs : Opens 161 featA RFeatO := by
 intro H enc w base n spare held cs x h hw
 have k0 : Tryz.prog.cellsOf 3 = 1 := by kernel_rfl
 have k1 : Tryz.prog.cellsOf 4 = 1 := by kernel_rfl
 have k2 : Tryz.prog.cellsOf 159 = 1 := by kernel_rfl
 obtain ⟨xs, m, -, hx, hl, hlen, hg⟩ := DataW.trod_struct Tryz.underlying161 h
 have hl : cs.length = 10 := hl.trans (by kernel_rfl)
 match cs, hl with
 | [c0, c1, c2, c3, c4, c5, c6, c7, c8, c9], _ =>
   match xs, hlen with
   | [y0, y1, y2, y3, y4, y5, y6, y7, y8, y9], _ =>
     have hd : x.1 = .agg [y0.1, y1.1, y2.1, y3.1, y4.1, y5.1, y6.1, y7.1, y8.1, y9.1] := by rw [hx]; rfl
     have g0 : DataW.trod enc Tryz.prog w base spare held m 3 [c0] = some y0 := by simpa [Value.cells, k0, k1, k2] using hg 0 _ rfl
     obtain ⟨i0, e0, r0⟩ := zai enc w base m spare held _ _ g0 (fun k hk => hw k (by rw [hd]; simp [DataW.weights, Tryz.underlying161, DataW.weightsEach, hk]))
     simp [] at e0
     obtain rfl := e0
     have g1 : DataW.trod enc Tryz.prog w base spare held m 3 [c1] = some y1 := by simpa [Value.cells, k0, k1, k2] using hg 1 _ rfl
     obtain ⟨i1, e1, r1⟩ := zai enc w base m spare held _ _ g1 (fun k hk => hw k (by rw [hd]; simp [DataW.weights, Tryz.underlying161, DataW.weightsEach, hk]))
     simp [] at e1
     obtain rfl := e1
     have g2 : DataW.trod enc Tryz.prog w base spare held m 3 [c2] = some y2 := by simpa [Value.cells, k0, k1, k2] using hg 2 _ rfl
     obtain ⟨i2, e2, r2⟩ := zai enc w base m spare held _ _ g2 (fun k hk => hw k (by rw [hd]; simp [DataW.weights, Tryz.underlying161, DataW.weightsEach, hk]))
     simp [] at e2
     obtain rfl := e2
     have g3 : DataW.trod enc Tryz.prog w base spare held m 3 [c3] = some y3 := by simpa [Value.cells, k0, k1, k2] using hg 3 _ rfl
     obtain ⟨i3, e3, r3⟩ := zai enc w base m spare held _ _ g3 (fun k hk => hw k (by rw [hd]; simp [DataW.weights, Tryz.underlying161, DataW.weightsEach, hk]))
     simp [] at e3
     obtain rfl := e3
     have g4 : DataW.trod enc Tryz.prog w base spare held m 3 [c4] = some y4 := by simpa [Value.cells, k0, k1, k2] using hg 4 _ rfl
     obtain ⟨i4, e4, r4⟩ := zai enc w base m spare held _ _ g4 (fun k hk => hw k (by rw [hd]; simp [DataW.weights, Tryz.underlying161, DataW.weightsEach, hk]))
     simp [] at e4
     obtain rfl := e4
     have g5 : DataW.trod enc Tryz.prog w base spare held m 3 [c5] = some y5 := by simpa [Value.cells, k0, k1, k2] using hg 5 _ rfl
     obtain ⟨i5, e5, r5⟩ := zai enc w base m spare held _ _ g5 (fun k hk => hw k (by rw [hd]; simp [DataW.weights, Tryz.underlying161, DataW.weightsEach, hk]))
     simp [] at e5
     obtain rfl := e5
     have g6 : DataW.trod enc Tryz.prog w base spare held m 3 [c6] = some y6 := by simpa [Value.cells, k0, k1, k2] using hg 6 _ rfl
     obtain ⟨i6, e6, r6⟩ := zai enc w base m spare held _ _ g6 (fun k hk => hw k (by rw [hd]; simp [DataW.weights, Tryz.underlying161, DataW.weightsEach, hk]))
     simp [] at e6
     obtain rfl := e6
     have g7 : DataW.trod enc Tryz.prog w base spare held m 3 [c7] = some y7 := by simpa [Value.cells, k0, k1, k2] using hg 7 _ rfl
     obtain ⟨i7, e7, r7⟩ := zai enc w base m spare held _ _ g7 (fun k hk => hw k (by rw [hd]; simp [DataW.weights, Tryz.underlying161, DataW.weightsEach, hk]))
     simp [] at e7
     obtain rfl := e7
     have g8 : DataW.trod enc Tryz.prog w base spare held m 4 [c8] = some y8 := by simpa [Value.cells, k0, k1, k2] using hg 8 _ rfl
     obtain ⟨sn, e8, r8⟩ := zev enc w base m spare held _ _ g8 (fun k hk => hw k (by rw [hd]; simp [DataW.weights, Tryz.underlying161, DataW.weightsEach, hk]))
     simp [] at e8
     obtain rfl := e8
     have g9 : DataW.trod enc Tryz.prog w base spare held m 159 [c9] = some y9 := by simpa [Value.cells, k0, k1, k2] using hg 9 _ rfl
     obtain ⟨ms, e9, r9⟩ := zmv enc w base m spare held _ _ g9 (fun k hk => hw k (by rw [hd]; simp [DataW.weights, Tryz.underlying161, DataW.weightsEach, hk]))
     simp [] at e9
     obtain rfl := e9
     obtain ⟨v, l⟩ := ms
     obtain ⟨⟨a, p, h, q⟩, m, n⟩ := r9
     simp only at h q m n
     subst h
     refine ⟨(⟨i0, i1, i2, i3, i4, i5, i6, i7, sn, l⟩, .slice a l.length p), rfl, ⟨m, zcy q, fun s hs => ?_⟩, ⟨(fun n hn => by
      simp only [featI, List.mem_cons, List.not_mem_nil, or_false] at hn
      rcases hn with rfl | rfl | rfl | rfl | rfl | rfl | rfl | rfl <;> assumption), fun s hs => n s hs⟩⟩
     have := (n s hs).1
     unfold Len48 at this
     omega
theorem zr5 : Opens 87 (fun v : Value × List (FeatD × Value) => #[v.1]) (SliceAt 10 featA RFeatO) := za1 (S := 10) Tryz.underlying87 (by kernel_rfl) (by decide) (by kernel_rfl) (fun _ => rfl) zfs
theorem zgy : Opens 89 profA RProfO := by
 intro H enc w base n spare held cs x h hw
 have k0 : Tryz.prog.cellsOf 9 = 1 := by kernel_rfl
 have k1 : Tryz.prog.cellsOf 3 = 1 := by kernel_rfl
 have k2 : Tryz.prog.cellsOf 87 = 1 := by kernel_rfl
 obtain ⟨xs, m, -, hx, hl, hlen, hg⟩ := DataW.trod_struct Tryz.underlying89 h
 have hl : cs.length = 4 := hl.trans (by kernel_rfl)
 match cs, hl with
 | [c0, c1, c2, c3], _ =>
   match xs, hlen with
   | [y0, y1, y2, y3], _ =>
     have hd : x.1 = .agg [y0.1, y1.1, y2.1, y3.1] := by rw [hx]; rfl
     have g0 : DataW.trod enc Tryz.prog w base spare held m 9 [c0] = some y0 := by simpa [Value.cells, k0, k1, k2] using hg 0 _ rfl
     obtain ⟨s, e0, r0⟩ := zcg enc w base m spare held _ _ g0 (fun k hk => hw k (by rw [hd]; simp [DataW.weights, Tryz.underlying89, DataW.weightsEach, hk]))
     simp [] at e0
     obtain rfl := e0
     have g1 : DataW.trod enc Tryz.prog w base spare held m 3 [c1] = some y1 := by simpa [Value.cells, k0, k1, k2] using hg 1 _ rfl
     obtain ⟨i0, e1, r1⟩ := zai enc w base m spare held _ _ g1 (fun k hk => hw k (by rw [hd]; simp [DataW.weights, Tryz.underlying89, DataW.weightsEach, hk]))
     simp [] at e1
     obtain rfl := e1
     have g2 : DataW.trod enc Tryz.prog w base spare held m 3 [c2] = some y2 := by simpa [Value.cells, k0, k1, k2] using hg 2 _ rfl
     obtain ⟨i1, e2, r2⟩ := zai enc w base m spare held _ _ g2 (fun k hk => hw k (by rw [hd]; simp [DataW.weights, Tryz.underlying89, DataW.weightsEach, hk]))
     simp [] at e2
     obtain rfl := e2
     have g3 : DataW.trod enc Tryz.prog w base spare held m 87 [c3] = some y3 := by simpa [Value.cells, k0, k1, k2] using hg 3 _ rfl
     obtain ⟨ms, e3, r3⟩ := zr5 enc w base m spare held _ _ g3 (fun k hk => hw k (by rw [hd]; simp [DataW.weights, Tryz.underlying89, DataW.weightsEach, hk]))
     simp [] at e3
     obtain rfl := e3
     obtain ⟨v, l⟩ := ms
     obtain ⟨⟨a, p, h, q⟩, m, n⟩ := r3
     simp only at h q m n
     subst h
     exact ⟨(⟨s, i0, i1, l.map (·.1)⟩, .slice a l.length p), rfl, ⟨⟨l, rfl, m, fun x hx => (n x hx).1⟩, zcy q, by simp only; omega⟩, r0, (fun n hn => by
       simp only [List.mem_cons, List.not_mem_nil, or_false] at hn
       rcases hn with rfl | rfl <;> assumption), fun f hf => by
      obtain ⟨x, hx, rfl⟩ := List.mem_map.1 hf
      exact (n x hx).2⟩
theorem znm : Opens 23 (fun v : Value × List (ProfD × Value) => #[v.1]) (SliceAt 4 profA RProfO) := za1 (S := 4) Tryz.underlying23 (by kernel_rfl) (by decide) (by kernel_rfl) (fun _ => rfl) zgy
theorem zfp : Opens 173 fixA RFixO := by
 intro H enc w base n spare held cs x h hw
 have k0 : Tryz.prog.cellsOf 3 = 1 := by kernel_rfl
 have k1 : Tryz.prog.cellsOf 9 = 1 := by kernel_rfl
 obtain ⟨xs, m, -, hx, hl, hlen, hg⟩ := DataW.trod_struct Tryz.underlying173 h
 have hl : cs.length = 7 := hl.trans (by kernel_rfl)
 match cs, hl with
 | [c0, c1, c2, c3, c4, c5, c6], _ =>
   match xs, hlen with
   | [y0, y1, y2, y3, y4, y5, y6], _ =>
     have hd : x.1 = .agg [y0.1, y1.1, y2.1, y3.1, y4.1, y5.1, y6.1] := by rw [hx]; rfl
     have g0 : DataW.trod enc Tryz.prog w base spare held m 3 [c0] = some y0 := by simpa [Value.cells, k0, k1] using hg 0 _ rfl
     obtain ⟨i0, e0, r0⟩ := zai enc w base m spare held _ _ g0 (fun k hk => hw k (by rw [hd]; simp [DataW.weights, Tryz.underlying173, DataW.weightsEach, hk]))
     simp [] at e0
     obtain rfl := e0
     have g1 : DataW.trod enc Tryz.prog w base spare held m 3 [c1] = some y1 := by simpa [Value.cells, k0, k1] using hg 1 _ rfl
     obtain ⟨i1, e1, r1⟩ := zai enc w base m spare held _ _ g1 (fun k hk => hw k (by rw [hd]; simp [DataW.weights, Tryz.underlying173, DataW.weightsEach, hk]))
     simp [] at e1
     obtain rfl := e1
     have g2 : DataW.trod enc Tryz.prog w base spare held m 9 [c2] = some y2 := by simpa [Value.cells, k0, k1] using hg 2 _ rfl
     obtain ⟨s, e2, r2⟩ := zcg enc w base m spare held _ _ g2 (fun k hk => hw k (by rw [hd]; simp [DataW.weights, Tryz.underlying173, DataW.weightsEach, hk]))
     simp [] at e2
     obtain rfl := e2
     have g3 : DataW.trod enc Tryz.prog w base spare held m 3 [c3] = some y3 := by simpa [Value.cells, k0, k1] using hg 3 _ rfl
     obtain ⟨i2, e3, r3⟩ := zai enc w base m spare held _ _ g3 (fun k hk => hw k (by rw [hd]; simp [DataW.weights, Tryz.underlying173, DataW.weightsEach, hk]))
     simp [] at e3
     obtain rfl := e3
     have g4 : DataW.trod enc Tryz.prog w base spare held m 3 [c4] = some y4 := by simpa [Value.cells, k0, k1] using hg 4 _ rfl
     obtain ⟨i3, e4, r4⟩ := zai enc w base m spare held _ _ g4 (fun k hk => hw k (by rw [hd]; simp [DataW.weights, Tryz.underlying173, DataW.weightsEach, hk]))
     simp [] at e4
     obtain rfl := e4
     have g5 : DataW.trod enc Tryz.prog w base spare held m 3 [c5] = some y5 := by simpa [Value.cells, k0, k1] using hg 5 _ rfl
     obtain ⟨i4, e5, r5⟩ := zai enc w base m spare held _ _ g5 (fun k hk => hw k (by rw [hd]; simp [DataW.weights, Tryz.underlying173, DataW.weightsEach, hk]))
     simp [] at e5
     obtain rfl := e5
     have g6 : DataW.trod enc Tryz.prog w base spare held m 9 [c6] = some y6 := by simpa [Value.cells, k0, k1] using hg 6 _ rfl
     obtain ⟨t, e6, r6⟩ := zcg enc w base m spare held _ _ g6 (fun k hk => hw k (by rw [hd]; simp [DataW.weights, Tryz.underlying173, DataW.weightsEach, hk]))
     simp [] at e6
     obtain rfl := e6
     exact ⟨⟨i0, i1, s, i2, i3, i4, t⟩, rfl, (fun n hn => by
      simp only [List.mem_cons, List.not_mem_nil, or_false] at hn
      rcases hn with rfl | rfl <;> assumption), (fun n hn => by
      simp only [List.mem_cons, List.not_mem_nil, or_false] at hn
      rcases hn with rfl | rfl | rfl <;> assumption), r2, r6⟩
theorem zm3 : Opens 24 (fun v : Value × List (FixD) => #[v.1]) (SliceAt 7 fixA RFixO) := za1 (S := 7) Tryz.underlying24 (by kernel_rfl) (by decide) (by kernel_rfl) (fun _ => rfl) zfp
theorem zmy : Opens 145 (fun v : Value × List (Int) => #[v.1]) (SliceAt 1 intC (fun _ n => In64 n)) := za1 (S := 1) Tryz.underlying145 (by kernel_rfl) (by decide) (by kernel_rfl) (fun _ => rfl) zai
theorem zgo : Opens 147 grpA RGrpO := by
 intro H enc w base n spare held cs x h hw
 have k0 : Tryz.prog.cellsOf 3 = 1 := by kernel_rfl
 have k1 : Tryz.prog.cellsOf 145 = 1 := by kernel_rfl
 obtain ⟨xs, m, -, hx, hl, hlen, hg⟩ := DataW.trod_struct Tryz.underlying147 h
 have hl : cs.length = 2 := hl.trans (by kernel_rfl)
 match cs, hl with
 | [c0, c1], _ =>
   match xs, hlen with
   | [y0, y1], _ =>
     have hd : x.1 = .agg [y0.1, y1.1] := by rw [hx]; rfl
     have g0 : DataW.trod enc Tryz.prog w base spare held m 3 [c0] = some y0 := by simpa [Value.cells, k0, k1] using hg 0 _ rfl
     obtain ⟨i0, e0, r0⟩ := zai enc w base m spare held _ _ g0 (fun k hk => hw k (by rw [hd]; simp [DataW.weights, Tryz.underlying147, DataW.weightsEach, hk]))
     simp [] at e0
     obtain rfl := e0
     have g1 : DataW.trod enc Tryz.prog w base spare held m 145 [c1] = some y1 := by simpa [Value.cells, k0, k1] using hg 1 _ rfl
     obtain ⟨ms, e1, r1⟩ := zmy enc w base m spare held _ _ g1 (fun k hk => hw k (by rw [hd]; simp [DataW.weights, Tryz.underlying147, DataW.weightsEach, hk]))
     simp [] at e1
     obtain rfl := e1
     obtain ⟨v, l⟩ := ms
     obtain ⟨⟨a, p, h, q⟩, m, n⟩ := r1
     simp only at h q m n
     subst h
     exact ⟨(⟨i0, l⟩, .slice a l.length p), rfl, ⟨m, zcy q⟩, (fun n hn => by
      simp only [List.mem_cons, List.not_mem_nil, or_false] at hn
      rcases hn with rfl
      assumption), fun x hx => n x hx⟩
theorem zpo : Opens 25 (fun v : Value × List (GrpD × Value) => #[v.1]) (SliceAt 2 grpA RGrpO) := za1 (S := 2) Tryz.underlying25 (by kernel_rfl) (by decide) (by kernel_rfl) (fun _ => rfl) zgo
theorem zfr : Opens 179 hueA RHueO := by
 intro H enc w base n spare held cs x h hw
 have k0 : Tryz.prog.cellsOf 3 = 1 := by kernel_rfl
 obtain ⟨xs, m, -, hx, hl, hlen, hg⟩ := DataW.trod_struct Tryz.underlying179 h
 have hl : cs.length = 3 := hl.trans (by kernel_rfl)
 match cs, hl with
 | [c0, c1, c2], _ =>
   match xs, hlen with
   | [y0, y1, y2], _ =>
     have hd : x.1 = .agg [y0.1, y1.1, y2.1] := by rw [hx]; rfl
     have g0 : DataW.trod enc Tryz.prog w base spare held m 3 [c0] = some y0 := by simpa [Value.cells, k0] using hg 0 _ rfl
     obtain ⟨i0, e0, r0⟩ := zai enc w base m spare held _ _ g0 (fun k hk => hw k (by rw [hd]; simp [DataW.weights, Tryz.underlying179, DataW.weightsEach, hk]))
     simp [] at e0
     obtain rfl := e0
     have g1 : DataW.trod enc Tryz.prog w base spare held m 3 [c1] = some y1 := by simpa [Value.cells, k0] using hg 1 _ rfl
     obtain ⟨i1, e1, r1⟩ := zai enc w base m spare held _ _ g1 (fun k hk => hw k (by rw [hd]; simp [DataW.weights, Tryz.underlying179, DataW.weightsEach, hk]))
     simp [] at e1
     obtain rfl := e1
     have g2 : DataW.trod enc Tryz.prog w base spare held m 3 [c2] = some y2 := by simpa [Value.cells, k0] using hg 2 _ rfl
     obtain ⟨i2, e2, r2⟩ := zai enc w base m spare held _ _ g2 (fun k hk => hw k (by rw [hd]; simp [DataW.weights, Tryz.underlying179, DataW.weightsEach, hk]))
     simp [] at e2
     obtain rfl := e2
     exact ⟨⟨i0, i1, i2⟩, rfl, (fun n hn => by
      simp only [hueI, List.mem_cons, List.not_mem_nil, or_false] at hn
      rcases hn with rfl | rfl | rfl <;> assumption)⟩
theorem zrd : Opens 148 (fun v : Value × List (HueD) => #[v.1]) (SliceAt 3 hueA RHueO) := za1 (S := 3) Tryz.underlying148 (by kernel_rfl) (by decide) (by kernel_rfl) (fun _ => rfl) zfr
theorem zgu : Opens 150 palA RPalO := by
 intro H enc w base n spare held cs x h hw
 have k0 : Tryz.prog.cellsOf 3 = 1 := by kernel_rfl
 have k1 : Tryz.prog.cellsOf 148 = 1 := by kernel_rfl
 obtain ⟨xs, m, -, hx, hl, hlen, hg⟩ := DataW.trod_struct Tryz.underlying150 h
 have hl : cs.length = 2 := hl.trans (by kernel_rfl)
 match cs, hl with
 | [c0, c1], _ =>
   match xs, hlen with
   | [y0, y1], _ =>
     have hd : x.1 = .agg [y0.1, y1.1] := by rw [hx]; rfl
     have g0 : DataW.trod enc Tryz.prog w base spare held m 3 [c0] = some y0 := by simpa [Value.cells, k0, k1] using hg 0 _ rfl
     obtain ⟨i0, e0, r0⟩ := zai enc w base m spare held _ _ g0 (fun k hk => hw k (by rw [hd]; simp [DataW.weights, Tryz.underlying150, DataW.weightsEach, hk]))
     simp [] at e0
     obtain rfl := e0
     have g1 : DataW.trod enc Tryz.prog w base spare held m 148 [c1] = some y1 := by simpa [Value.cells, k0, k1] using hg 1 _ rfl
     obtain ⟨ms, e1, r1⟩ := zrd enc w base m spare held _ _ g1 (fun k hk => hw k (by rw [hd]; simp [DataW.weights, Tryz.underlying150, DataW.weightsEach, hk]))
     simp [] at e1
     obtain rfl := e1
     obtain ⟨v, l⟩ := ms
     obtain ⟨⟨a, p, h, q⟩, m, n⟩ := r1
     simp only at h q m n
     subst h
     exact ⟨(⟨i0, l⟩, .slice a l.length p), rfl, m, (fun n hn => by
      simp only [List.mem_cons, List.not_mem_nil, or_false] at hn
      rcases hn with rfl
      assumption), fun x hx => n x hx⟩
theorem zv0 : Opens 26 (fun v : Value × List (PalD × Value) => #[v.1]) (SliceAt 2 palA RPalO) := za1 (S := 2) Tryz.underlying26 (by kernel_rfl) (by decide) (by kernel_rfl) (fun _ => rfl) zgu
theorem zgt : Opens 278 gainA RGainO := by
 intro H enc w base n spare held cs x h hw
 have k0 : Tryz.prog.cellsOf 233 = 2 := by kernel_rfl
 have k1 : Tryz.prog.cellsOf 3 = 1 := by kernel_rfl
 obtain ⟨xs, m, -, hx, hl, hlen, hg⟩ := DataW.trod_struct Tryz.underlying278 h
 have hl : cs.length = 3 := hl.trans (by kernel_rfl)
 match cs, hl with
 | [c0, c1, c2], _ =>
   match xs, hlen with
   | [y0, y1], _ =>
     have hd : x.1 = .agg [y0.1, y1.1] := by rw [hx]; rfl
     have g0 : DataW.trod enc Tryz.prog w base spare held m 233 [c0, c1] = some y0 := by simpa [Value.cells, k0, k1] using hg 0 _ rfl
     obtain ⟨pp, e0, r0⟩ := zht enc w base m spare held _ _ g0 (fun k hk => hw k (by rw [hd]; simp [DataW.weights, Tryz.underlying278, DataW.weightsEach, hk]))
     simp [pairA] at e0
     obtain ⟨rfl, rfl⟩ := e0
     have g1 : DataW.trod enc Tryz.prog w base spare held m 3 [c2] = some y1 := by simpa [Value.cells, k0, k1] using hg 1 _ rfl
     obtain ⟨i2, e1, r1⟩ := zai enc w base m spare held _ _ g1 (fun k hk => hw k (by rw [hd]; simp [DataW.weights, Tryz.underlying278, DataW.weightsEach, hk]))
     simp [] at e1
     obtain rfl := e1
     obtain ⟨r0, r3⟩ := r0
     exact ⟨⟨pp.1, pp.2, i2⟩, rfl, (fun n hn => by
      simp only [gainI, List.mem_cons, List.not_mem_nil, or_false] at hn
      rcases hn with rfl | rfl | rfl <;> assumption)⟩
theorem zo7 : Opens 151 (fun v : Value × List (GainD) => #[v.1]) (SliceAt 3 gainA RGainO) := za1 (S := 3) Tryz.underlying151 (by kernel_rfl) (by decide) (by kernel_rfl) (fun _ => rfl) zgt
theorem zfc : Opens 153 subA RSubO := by
 intro H enc w base n spare held cs x h hw
 have k0 : Tryz.prog.cellsOf 3 = 1 := by kernel_rfl
 have k1 : Tryz.prog.cellsOf 4 = 1 := by kernel_rfl
 have k2 : Tryz.prog.cellsOf 151 = 1 := by kernel_rfl
 obtain ⟨xs, m, -, hx, hl, hlen, hg⟩ := DataW.trod_struct Tryz.underlying153 h
 have hl : cs.length = 4 := hl.trans (by kernel_rfl)
 match cs, hl with
 | [c0, c1, c2, c3], _ =>
   match xs, hlen with
   | [y0, y1, y2, y3], _ =>
     have hd : x.1 = .agg [y0.1, y1.1, y2.1, y3.1] := by rw [hx]; rfl
     have g0 : DataW.trod enc Tryz.prog w base spare held m 3 [c0] = some y0 := by simpa [Value.cells, k0, k1, k2] using hg 0 _ rfl
     obtain ⟨i0, e0, r0⟩ := zai enc w base m spare held _ _ g0 (fun k hk => hw k (by rw [hd]; simp [DataW.weights, Tryz.underlying153, DataW.weightsEach, hk]))
     simp [] at e0
     obtain rfl := e0
     have g1 : DataW.trod enc Tryz.prog w base spare held m 3 [c1] = some y1 := by simpa [Value.cells, k0, k1, k2] using hg 1 _ rfl
     obtain ⟨i1, e1, r1⟩ := zai enc w base m spare held _ _ g1 (fun k hk => hw k (by rw [hd]; simp [DataW.weights, Tryz.underlying153, DataW.weightsEach, hk]))
     simp [] at e1
     obtain rfl := e1
     have g2 : DataW.trod enc Tryz.prog w base spare held m 4 [c2] = some y2 := by simpa [Value.cells, k0, k1, k2] using hg 2 _ rfl
     obtain ⟨b, e2, r2⟩ := zev enc w base m spare held _ _ g2 (fun k hk => hw k (by rw [hd]; simp [DataW.weights, Tryz.underlying153, DataW.weightsEach, hk]))
     simp [] at e2
     obtain rfl := e2
     have g3 : DataW.trod enc Tryz.prog w base spare held m 151 [c3] = some y3 := by simpa [Value.cells, k0, k1, k2] using hg 3 _ rfl
     obtain ⟨ms, e3, r3⟩ := zo7 enc w base m spare held _ _ g3 (fun k hk => hw k (by rw [hd]; simp [DataW.weights, Tryz.underlying153, DataW.weightsEach, hk]))
     simp [] at e3
     obtain rfl := e3
     obtain ⟨v, l⟩ := ms
     obtain ⟨⟨a, p, h, q⟩, m, n⟩ := r3
     simp only at h q m n
     subst h
     exact ⟨(⟨i0, i1, b, l⟩, .slice a l.length p), rfl, m, (fun n hn => by
      simp only [List.mem_cons, List.not_mem_nil, or_false] at hn
      rcases hn with rfl | rfl <;> assumption), fun x hx => n x hx⟩
theorem zxu : Opens 28 (fun v : Value × List (SubD × Value) => #[v.1]) (SliceAt 4 subA RSubO) := za1 (S := 4) Tryz.underlying28 (by kernel_rfl) (by decide) (by kernel_rfl) (fun _ => rfl) zfc
theorem zfd : Opens 183 effA REffO := by
 intro H enc w base n spare held cs x h hw
 have k0 : Tryz.prog.cellsOf 3 = 1 := by kernel_rfl
 have k1 : Tryz.prog.cellsOf 144 = 1 := by kernel_rfl
 obtain ⟨xs, m, -, hx, hl, hlen, hg⟩ := DataW.trod_struct Tryz.underlying183 h
 have hl : cs.length = 6 := hl.trans (by kernel_rfl)
 match cs, hl with
 | [c0, c1, c2, c3, c4, c5], _ =>
   match xs, hlen with
   | [y0, y1, y2, y3, y4, y5], _ =>
     have hd : x.1 = .agg [y0.1, y1.1, y2.1, y3.1, y4.1, y5.1] := by rw [hx]; rfl
     have g0 : DataW.trod enc Tryz.prog w base spare held m 3 [c0] = some y0 := by simpa [Value.cells, k0, k1] using hg 0 _ rfl
     obtain ⟨i0, e0, r0⟩ := zai enc w base m spare held _ _ g0 (fun k hk => hw k (by rw [hd]; simp [DataW.weights, Tryz.underlying183, DataW.weightsEach, hk]))
     simp [] at e0
     obtain rfl := e0
     have g1 : DataW.trod enc Tryz.prog w base spare held m 3 [c1] = some y1 := by simpa [Value.cells, k0, k1] using hg 1 _ rfl
     obtain ⟨i1, e1, r1⟩ := zai enc w base m spare held _ _ g1 (fun k hk => hw k (by rw [hd]; simp [DataW.weights, Tryz.underlying183, DataW.weightsEach, hk]))
     simp [] at e1
     obtain rfl := e1
     have g2 : DataW.trod enc Tryz.prog w base spare held m 144 [c2] = some y2 := by simpa [Value.cells, k0, k1] using hg 2 _ rfl
     obtain ⟨ms, e2, r2⟩ := zib enc w base m spare held _ _ g2 (fun k hk => hw k (by rw [hd]; simp [DataW.weights, Tryz.underlying183, DataW.weightsEach, hk]))
     simp [] at e2
     obtain rfl := e2
     have g3 : DataW.trod enc Tryz.prog w base spare held m 3 [c3] = some y3 := by simpa [Value.cells, k0, k1] using hg 3 _ rfl
     obtain ⟨i2, e3, r3⟩ := zai enc w base m spare held _ _ g3 (fun k hk => hw k (by rw [hd]; simp [DataW.weights, Tryz.underlying183, DataW.weightsEach, hk]))
     simp [] at e3
     obtain rfl := e3
     have g4 : DataW.trod enc Tryz.prog w base spare held m 3 [c4] = some y4 := by simpa [Value.cells, k0, k1] using hg 4 _ rfl
     obtain ⟨i3, e4, r4⟩ := zai enc w base m spare held _ _ g4 (fun k hk => hw k (by rw [hd]; simp [DataW.weights, Tryz.underlying183, DataW.weightsEach, hk]))
     simp [] at e4
     obtain rfl := e4
     have g5 : DataW.trod enc Tryz.prog w base spare held m 3 [c5] = some y5 := by simpa [Value.cells, k0, k1] using hg 5 _ rfl
     obtain ⟨i4, e5, r5⟩ := zai enc w base m spare held _ _ g5 (fun k hk => hw k (by rw [hd]; simp [DataW.weights, Tryz.underlying183, DataW.weightsEach, hk]))
     simp [] at e5
     obtain rfl := e5
     obtain ⟨v, l⟩ := ms
     obtain ⟨⟨a, p, h, q⟩, m, n⟩ := r2
     simp only at h q m n
     subst h
     exact ⟨(⟨i0, i1, l, i2, i3, i4⟩, .slice a l.length p), rfl, m, (fun n hn => by
      simp only [List.mem_cons, List.not_mem_nil, or_false] at hn
      rcases hn with rfl | rfl <;> assumption), fun x hx => n x hx, (fun n hn => by
      simp only [List.mem_cons, List.not_mem_nil, or_false] at hn
      rcases hn with rfl | rfl | rfl <;> assumption)⟩
theorem zry : Opens 29 (fun v : Value × List (EffD × Value) => #[v.1]) (SliceAt 6 effA REffO) := za1 (S := 6) Tryz.underlying29 (by kernel_rfl) (by decide) (by kernel_rfl) (fun _ => rfl) zfd
theorem znd : Opens 91 (fun v : Value × List (CueX) => #[v.1]) (SliceAt 9 cueXA RCue) := za1 (S := 9) Tryz.underlying91 (by kernel_rfl) (by decide) (by kernel_rfl) (fun _ => rfl) zge
theorem zfy : Opens 93 lstA RLstO := by
 intro H enc w base n spare held cs x h hw
 have k0 : Tryz.prog.cellsOf 3 = 1 := by kernel_rfl
 have k1 : Tryz.prog.cellsOf 91 = 1 := by kernel_rfl
 obtain ⟨xs, m, -, hx, hl, hlen, hg⟩ := DataW.trod_struct Tryz.underlying93 h
 have hl : cs.length = 3 := hl.trans (by kernel_rfl)
 match cs, hl with
 | [c0, c1, c2], _ =>
   match xs, hlen with
   | [y0, y1, y2], _ =>
     have hd : x.1 = .agg [y0.1, y1.1, y2.1] := by rw [hx]; rfl
     have g0 : DataW.trod enc Tryz.prog w base spare held m 3 [c0] = some y0 := by simpa [Value.cells, k0, k1] using hg 0 _ rfl
     obtain ⟨i0, e0, r0⟩ := zai enc w base m spare held _ _ g0 (fun k hk => hw k (by rw [hd]; simp [DataW.weights, Tryz.underlying93, DataW.weightsEach, hk]))
     simp [] at e0
     obtain rfl := e0
     have g1 : DataW.trod enc Tryz.prog w base spare held m 3 [c1] = some y1 := by simpa [Value.cells, k0, k1] using hg 1 _ rfl
     obtain ⟨i1, e1, r1⟩ := zai enc w base m spare held _ _ g1 (fun k hk => hw k (by rw [hd]; simp [DataW.weights, Tryz.underlying93, DataW.weightsEach, hk]))
     simp [] at e1
     obtain rfl := e1
     have g2 : DataW.trod enc Tryz.prog w base spare held m 91 [c2] = some y2 := by simpa [Value.cells, k0, k1] using hg 2 _ rfl
     obtain ⟨ms, e2, r2⟩ := znd enc w base m spare held _ _ g2 (fun k hk => hw k (by rw [hd]; simp [DataW.weights, Tryz.underlying93, DataW.weightsEach, hk]))
     simp [] at e2
     obtain rfl := e2
     obtain ⟨v, l⟩ := ms
     obtain ⟨⟨a, p, h, q⟩, m, n⟩ := r2
     simp only at h q m n
     subst h
     exact ⟨(⟨i0, i1, l.map (·.1)⟩, .slice a l.length p), rfl, ⟨l, rfl, m, fun x hx => ⟨(n x hx).at_, (n x hx).cap1, by have := (n x hx).lab; omega, by have := (n x hx).num; omega, by have := (n x hx).link; omega⟩⟩, (fun n hn => by
       simp only [List.mem_cons, List.not_mem_nil, or_false] at hn
       rcases hn with rfl | rfl <;> assumption), fun c hc => by
      obtain ⟨x, hx, rfl⟩ := List.mem_map.1 hc
      exact ⟨(n x hx).ok, (n x hx).num, (n x hx).lab, (n x hx).link⟩⟩
theorem zve : Opens 27 (fun v : Value × List (LstD × Value) => #[v.1]) (SliceAt 3 lstA RLstO) := za1 (S := 3) Tryz.underlying27 (by kernel_rfl) (by decide) (by kernel_rfl) (fun _ => rfl) zfy
theorem zh8 : Opens 31 showXA RShowO := by
 intro H enc w base n spare held cs x h hw
 have k0 : Tryz.prog.cellsOf 9 = 1 := by kernel_rfl
 have k1 : Tryz.prog.cellsOf 22 = 1 := by kernel_rfl
 have k2 : Tryz.prog.cellsOf 23 = 1 := by kernel_rfl
 have k3 : Tryz.prog.cellsOf 24 = 1 := by kernel_rfl
 have k4 : Tryz.prog.cellsOf 25 = 1 := by kernel_rfl
 have k5 : Tryz.prog.cellsOf 26 = 1 := by kernel_rfl
 have k6 : Tryz.prog.cellsOf 27 = 1 := by kernel_rfl
 have k7 : Tryz.prog.cellsOf 28 = 1 := by kernel_rfl
 have k8 : Tryz.prog.cellsOf 29 = 1 := by kernel_rfl
 obtain ⟨xs, m, -, hx, hl, hlen, hg⟩ := DataW.trod_struct Tryz.underlying31 h
 have hl : cs.length = 9 := hl.trans (by kernel_rfl)
 match cs, hl with
 | [c0, c1, c2, c3, c4, c5, c6, c7, c8], _ =>
   match xs, hlen with
   | [y0, y1, y2, y3, y4, y5, y6, y7, y8], _ =>
     have hd : x.1 = .agg [y0.1, y1.1, y2.1, y3.1, y4.1, y5.1, y6.1, y7.1, y8.1] := by rw [hx]; rfl
     have g0 : DataW.trod enc Tryz.prog w base spare held m 9 [c0] = some y0 := by simpa [Value.cells, k0, k1, k2, k3, k4, k5, k6, k7, k8] using hg 0 _ rfl
     obtain ⟨t, e0, r0⟩ := zcg enc w base m spare held _ _ g0 (fun k hk => hw k (by rw [hd]; simp [DataW.weights, Tryz.underlying31, DataW.weightsEach, hk]))
     simp [] at e0
     obtain rfl := e0
     have g1 : DataW.trod enc Tryz.prog w base spare held m 22 [c1] = some y1 := by simpa [Value.cells, k0, k1, k2, k3, k4, k5, k6, k7, k8] using hg 1 _ rfl
     obtain ⟨s1, e1, r1⟩ := zni enc w base m spare held _ _ g1 (fun k hk => hw k (by rw [hd]; simp [DataW.weights, Tryz.underlying31, DataW.weightsEach, hk]))
     simp [] at e1
     obtain rfl := e1
     have g2 : DataW.trod enc Tryz.prog w base spare held m 23 [c2] = some y2 := by simpa [Value.cells, k0, k1, k2, k3, k4, k5, k6, k7, k8] using hg 2 _ rfl
     obtain ⟨s2, e2, r2⟩ := znm enc w base m spare held _ _ g2 (fun k hk => hw k (by rw [hd]; simp [DataW.weights, Tryz.underlying31, DataW.weightsEach, hk]))
     simp [] at e2
     obtain rfl := e2
     have g3 : DataW.trod enc Tryz.prog w base spare held m 24 [c3] = some y3 := by simpa [Value.cells, k0, k1, k2, k3, k4, k5, k6, k7, k8] using hg 3 _ rfl
     obtain ⟨s3, e3, r3⟩ := zm3 enc w base m spare held _ _ g3 (fun k hk => hw k (by rw [hd]; simp [DataW.weights, Tryz.underlying31, DataW.weightsEach, hk]))
     simp [] at e3
     obtain rfl := e3
     have g4 : DataW.trod enc Tryz.prog w base spare held m 25 [c4] = some y4 := by simpa [Value.cells, k0, k1, k2, k3, k4, k5, k6, k7, k8] using hg 4 _ rfl
     obtain ⟨s4, e4, r4⟩ := zpo enc w base m spare held _ _ g4 (fun k hk => hw k (by rw [hd]; simp [DataW.weights, Tryz.underlying31, DataW.weightsEach, hk]))
     simp [] at e4
     obtain rfl := e4
     have g5 : DataW.trod enc Tryz.prog w base spare held m 26 [c5] = some y5 := by simpa [Value.cells, k0, k1, k2, k3, k4, k5, k6, k7, k8] using hg 5 _ rfl
     obtain ⟨s5, e5, r5⟩ := zv0 enc w base m spare held _ _ g5 (fun k hk => hw k (by rw [hd]; simp [DataW.weights, Tryz.underlying31, DataW.weightsEach, hk]))
     simp [] at e5
     obtain rfl := e5
     have g6 : DataW.trod enc Tryz.prog w base spare held m 27 [c6] = some y6 := by simpa [Value.cells, k0, k1, k2, k3, k4, k5, k6, k7, k8] using hg 6 _ rfl
     obtain ⟨s6, e6, r6⟩ := zve enc w base m spare held _ _ g6 (fun k hk => hw k (by rw [hd]; simp [DataW.weights, Tryz.underlying31, DataW.weightsEach, hk]))
     simp [] at e6
     obtain rfl := e6
     have g7 : DataW.trod enc Tryz.prog w base spare held m 28 [c7] = some y7 := by simpa [Value.cells, k0, k1, k2, k3, k4, k5, k6, k7, k8] using hg 7 _ rfl
     obtain ⟨s7, e7, r7⟩ := zxu enc w base m spare held _ _ g7 (fun k hk => hw k (by rw [hd]; simp [DataW.weights, Tryz.underlying31, DataW.weightsEach, hk]))
     simp [] at e7
     obtain rfl := e7
     have g8 : DataW.trod enc Tryz.prog w base spare held m 29 [c8] = some y8 := by simpa [Value.cells, k0, k1, k2, k3, k4, k5, k6, k7, k8] using hg 8 _ rfl
     obtain ⟨s8, e8, r8⟩ := zry enc w base m spare held _ _ g8 (fun k hk => hw k (by rw [hd]; simp [DataW.weights, Tryz.underlying31, DataW.weightsEach, hk]))
     simp [] at e8
     obtain rfl := e8
     obtain ⟨v1, l1⟩ := s1
     obtain ⟨⟨b1, p1, h1, q1⟩, m1, n1⟩ := r1
     simp only at h1 q1 m1 n1
     subst h1
     obtain ⟨v2, l2⟩ := s2
     obtain ⟨⟨b2, p2, h2, q2⟩, m2, n2⟩ := r2
     simp only at h2 q2 m2 n2
     subst h2
     obtain ⟨v3, l3⟩ := s3
     obtain ⟨⟨b3, p3, h3, q3⟩, m3, n3⟩ := r3
     simp only at h3 q3 m3 n3
     subst h3
     obtain ⟨v4, l4⟩ := s4
     obtain ⟨⟨b4, p4, h4, q4⟩, m4, n4⟩ := r4
     simp only at h4 q4 m4 n4
     subst h4
     obtain ⟨v5, l5⟩ := s5
     obtain ⟨⟨b5, p5, h5, q5⟩, m5, n5⟩ := r5
     simp only at h5 q5 m5 n5
     subst h5
     obtain ⟨v6, l6⟩ := s6
     obtain ⟨⟨b6, p6, h6, q6⟩, m6, n6⟩ := r6
     simp only at h6 q6 m6 n6
     subst h6
     obtain ⟨v7, l7⟩ := s7
     obtain ⟨⟨b7, p7, h7, q7⟩, m7, n7⟩ := r7
     simp only at h7 q7 m7 n7
     subst h7
     obtain ⟨v8, l8⟩ := s8
     obtain ⟨⟨b8, p8, h8, q8⟩, m8, n8⟩ := r8
     simp only at h8 q8 m8 n8
     subst h8
     refine ⟨(⟨t, l1.map (·.2), l2.map (·.1), l3, l4.map (·.1), l5.map (·.1), l6.map (·.1), l7.map (·.1), l8.map (·.1)⟩, ⟨_, _, _, _, _, _, _, _⟩), rfl, ⟨⟨l1.map fun x => (x.2, x.1), by rw [List.map_map]; rfl, zva (f2 := curveA) (g := fun x : Value × List Pt => (x.2, x.1)) (fun _ => rfl) m1, fun x hx => ?_⟩, ⟨l2, rfl, m2, fun x hx => (n2 x hx).1⟩, m3, ⟨l4, rfl, m4, fun x hx => (n4 x hx).1⟩, ⟨l5, rfl, m5, fun x hx => (n5 x hx).1⟩, ⟨l6, rfl, m6, fun x hx => (n6 x hx).1⟩, ⟨l7, rfl, m7, fun x hx => (n7 x hx).1⟩, ⟨l8, rfl, m8, fun x hx => (n8 x hx).1⟩, zcy q3, fun d hd => ?_, by simp only; omega⟩, ⟨r0, fun c hc => ?_, fun d hd => ?_, fun d hd => n3 d hd, fun d hd => ?_, fun d hd => ?_, fun d hd => ?_, fun d hd => ?_, fun d hd => ?_⟩⟩
     · obtain ⟨y, hy, rfl⟩ := List.mem_map.1 hx
       exact (n1 y hy).list
     · have h1 := (n3 d hd).prof
       have h2 := (n3 d hd).cable
       unfold Len48 at h1 h2
       omega
     · obtain ⟨y, hy, rfl⟩ := List.mem_map.1 hc
       exact fun p hp => (n1 y hy).each p hp
     · obtain ⟨y, hy, rfl⟩ := List.mem_map.1 hd
       exact (n2 y hy).2
     · obtain ⟨y, hy, rfl⟩ := List.mem_map.1 hd
       exact (n4 y hy).2
     · obtain ⟨y, hy, rfl⟩ := List.mem_map.1 hd
       exact (n5 y hy).2
     · obtain ⟨y, hy, rfl⟩ := List.mem_map.1 hd
       exact (n6 y hy).2
     · obtain ⟨y, hy, rfl⟩ := List.mem_map.1 hd
       exact (n7 y hy).2
     obtain ⟨y, hy, rfl⟩ := List.mem_map.1 hd
     exact (n8 y hy).2
end Go.Proofs.YtjeigphhepngmaaGreatDoor

/-
  A drawn region whose three allocations may come anywhere, by its states: the numbers of the blocks are variables.
  The walk of the law ManagerAsks.
-/
import Derived.Test.YtpkhcehddfmhpaaGreatTf
import Derived.Deep.RegionHeld3
import Derived.Test.YtpkhcehddfmhpaaGreatQh
import Derived.Test.YtpkhcehddfmhpaaGreatSameM
namespace Go.Proofs.YtpkhcehddfmhpaaGreat
open Go.RowKit Go.Shelf

section
variable {P : Program} {ops : Array Oper} {Q : Exit → Act → World → Prop} {md : Region.Mode} {S : World → Prop} {fuel : Nat} {listed : Array Bool} {a : Act} {w : World}
/-- What is to be shown of one operation that may come up. -/
def AnyStep (P : Program) (md : Region.Mode) (ops : Array Oper) (Q : Exit → Act → World → Prop) (S : World → Prop) (fuel : Nat) (listed : Array Bool) (a : Act) (w : World) (i : Nat) (o : Oper) : Prop :=
  ∀ K' : Act → World → Prop, Shut (∀ a w, S w → (S w → wpAnyH P md ops Q S fuel (listed.setIfInBounds i true) a w) → K' a w) → if Region.wanted o (yielded ops a.tmps) = true then Oper.wp P o a w K' Q else K' (a.put o.dst undef) w
theorem any_tk (i : Nat) {oi : Oper} {v : Value} (hi : ops[i]? = some oi) (hs : Region.noSelect ops = true) (hf : Region.free md ops listed i = true) (hr : (Region.ready md ops listed).contains i = true)
    (hQ : ∀ c a w, Q (.panic c) (a.put oi.dst v) w → Q (.panic c) a w) (hy : YieldsIf P ops S oi v a) (hS : S w) (h : wpAnyH P md ops Q S fuel (listed.setIfInBounds i true) (a.put oi.dst v) w) : wpAnyH P md ops Q S (fuel + 1) listed a w := wpAnyH_take hi hs hf hr hQ hy hS h
theorem any_1 {i : Nat} {o : Oper} (hr : Region.ready md ops listed = [i]) (ho : ops[i]? = some o) (h : AnyStep P md ops Q S fuel listed a w i o) : wpAnyH P md ops Q S (fuel + 1) listed a w :=
  wpAnyH_ready hr (by simp) (AllReadyH.cons ho h AllReadyH.nil)
theorem any_2 {i j : Nat} {o o2 : Oper} (hr : Region.ready md ops listed = [i, j]) (ho : ops[i]? = some o) (ho2 : ops[j]? = some o2) (h : AnyStep P md ops Q S fuel listed a w i o) (h2 : AnyStep P md ops Q S fuel listed a w j o2) : wpAnyH P md ops Q S (fuel + 1) listed a w :=
  wpAnyH_ready hr (by simp) (AllReadyH.cons ho h (AllReadyH.cons ho2 h2 AllReadyH.nil))
theorem any_3 {i j k : Nat} {o o2 o3 : Oper} (hr : Region.ready md ops listed = [i, j, k]) (ho : ops[i]? = some o) (ho2 : ops[j]? = some o2) (ho3 : ops[k]? = some o3) (h : AnyStep P md ops Q S fuel listed a w i o) (h2 : AnyStep P md ops Q S fuel listed a w j o2) (h3 : AnyStep P md ops Q S fuel listed a w k o3) : wpAnyH P md ops Q S (fuel + 1) listed a w :=
  wpAnyH_ready hr (by simp) (AllReadyH.cons ho h (AllReadyH.cons ho2 h2 (AllReadyH.cons ho3 h3 AllReadyH.nil)))
theorem any_4 {i j k l : Nat} {o o2 o3 o4 : Oper} (hr : Region.ready md ops listed = [i, j, k, l]) (ho : ops[i]? = some o) (ho2 : ops[j]? = some o2) (ho3 : ops[k]? = some o3) (ho4 : ops[l]? = some o4) (h : AnyStep P md ops Q S fuel listed a w i o) (h2 : AnyStep P md ops Q S fuel listed a w j o2) (h3 : AnyStep P md ops Q S fuel listed a w k o3) (h4 : AnyStep P md ops Q S fuel listed a w l o4) : wpAnyH P md ops Q S (fuel + 1) listed a w :=
  wpAnyH_ready hr (by simp) (AllReadyH.cons ho h (AllReadyH.cons ho2 h2 (AllReadyH.cons ho3 h3 (AllReadyH.cons ho4 h4 AllReadyH.nil))))

theorem wpAnyH_cast {n : Nat} {L' : Array Bool} {a' : Act} (hL : listed = L') (ha : a = a') (h : wpAnyH P md ops Q S n L' a' w) : wpAnyH P md ops Q S n listed a w := by
  subst hL
  subst ha
  exact h
end
def sI (q : Bool) (L : Array Bool) (k : Nat) : Array Bool := match q with | true => L.setIfInBounds k true | false => L
def pI (q : Bool) (a : Act) (k g : Nat) : Act := match q with | true => a.put (some k) (.pointer (some ⟨g, 0, none⟩)) | false => a
/-- From a state the region goes on well. -/
def Gr (P : Program) (md : Region.Mode) (ops : Array Oper) (Q : Exit → Act → World → Prop) (S : World → Prop) (fuel : Nat) (L : Array Bool) (a : Act) (I : Bool → Bool → Bool → Nat → Nat → Nat → World → Prop) (q9 q10 q11 : Bool) : Prop :=
  ∀ (g9 g10 g11 : Nat) (w' : World), I q9 q10 q11 g9 g10 g11 w' → S w' → wpAnyH P md ops Q S fuel (sI q11 (sI q10 (sI q9 L 12) 13) 14) (pI q11 (pI q10 (pI q9 a 9 g9) 10 g10) 11 g11) w'
structure Grs (P : Program) (md : Region.Mode) (ops : Array Oper) (Q : Exit → Act → World → Prop) (S : World → Prop) (fuel : Nat) (L : Array Bool) (a : Act) (I : Bool → Bool → Bool → Nat → Nat → Nat → World → Prop) : Prop where
  ttt : Gr P md ops Q S fuel L a I true true true
  ftt : Gr P md ops Q S (fuel + 1) L a I false true true
  tft : Gr P md ops Q S (fuel + 1) L a I true false true
  ttf : Gr P md ops Q S (fuel + 1) L a I true true false
  fft : Gr P md ops Q S (fuel + 2) L a I false false true
  ftf : Gr P md ops Q S (fuel + 2) L a I false true false
  tff : Gr P md ops Q S (fuel + 2) L a I true false false
  fff : Gr P md ops Q S (fuel + 3) L a I false false false
section
variable {P : Program} {md : Region.Mode} {ops : Array Oper} {Q : Exit → Act → World → Prop} {S : World → Prop} {fuel : Nat} {L : Array Bool} {a : Act} {I : Bool → Bool → Bool → Nat → Nat → Nat → World → Prop}
theorem grs_of (httt : Gr P md ops Q S fuel L a I true true true) (hftt : Gr P md ops Q S fuel L a I true true true → Gr P md ops Q S (fuel + 1) L a I false true true) (htft : Gr P md ops Q S fuel L a I true true true → Gr P md ops Q S (fuel + 1) L a I true false true) (httf : Gr P md ops Q S fuel L a I true true true → Gr P md ops Q S (fuel + 1) L a I true true false) (hfft : Gr P md ops Q S (fuel + 1) L a I true false true → Gr P md ops Q S (fuel + 1) L a I false true true → Gr P md ops Q S (fuel + 2) L a I false false true) (hftf : Gr P md ops Q S (fuel + 1) L a I true true false → Gr P md ops Q S (fuel + 1) L a I false true true → Gr P md ops Q S (fuel + 2) L a I false true false) (htff : Gr P md ops Q S (fuel + 1) L a I true true false → Gr P md ops Q S (fuel + 1) L a I true false true → Gr P md ops Q S (fuel + 2) L a I true false false) (hfff : Gr P md ops Q S (fuel + 2) L a I true false false → Gr P md ops Q S (fuel + 2) L a I false true false → Gr P md ops Q S (fuel + 2) L a I false false true → Gr P md ops Q S (fuel + 3) L a I false false false) : Grs P md ops Q S fuel L a I :=
  ⟨httt, hftt httt, htft httt, httf httt, hfft (htft httt) (hftt httt), hftf (httf httt) (hftt httt), htff (httf httt) (htft httt), hfff (htff (httf httt) (htft httt)) (hftf (httf httt) (hftt httt)) (hfft (htft httt) (hftt httt))⟩
/-- The region, by its three stages: ahead of the first call, between the calls, behind the second. -/
theorem asks_region {w0 : World} {D1 D2 : Type} (up1 : D1 → Act → Act) (up2 : D2 → Act → Act) (I0 : Bool → Bool → Bool → Nat → Nat → Nat → World → Prop) (I1 : D1 → Bool → Bool → Bool → Nat → Nat → Nat → World → Prop) (I2 : D1 → D2 → Bool → Bool → Bool → Nat → Nat → Nat → World → Prop)
    (i0 : I0 false false false 0 0 0 w0) (s0 : S w0)
    (h2 : ∀ d1 d2, Grs P md ops Q S 4 (((((((L.setIfInBounds 4 true).setIfInBounds 6 true).setIfInBounds 7 true).setIfInBounds 8 true).setIfInBounds 9 true).setIfInBounds 10 true).setIfInBounds 11 true) (up2 d2 (up1 d1 a)) (I2 d1 d2))
    (h1 : ∀ d1, (∀ d2, Grs P md ops Q S 4 (((((((L.setIfInBounds 4 true).setIfInBounds 6 true).setIfInBounds 7 true).setIfInBounds 8 true).setIfInBounds 9 true).setIfInBounds 10 true).setIfInBounds 11 true) (up2 d2 (up1 d1 a)) (I2 d1 d2)) → Grs P md ops Q S 10 (L.setIfInBounds 4 true) (up1 d1 a) (I1 d1))
    (h0 : (∀ d1, Grs P md ops Q S 10 (L.setIfInBounds 4 true) (up1 d1 a) (I1 d1)) → Grs P md ops Q S 11 L a I0) : wpAnyH P md ops Q S 14 L a w0 :=
  (h0 fun d1 => h1 d1 fun d2 => h2 d1 d2).fff 0 0 0 w0 i0 s0
end

/-- What is so of the three blocks. -/
def InvA (Z : World) (q9 q10 q11 : Bool) (g9 g10 g11 : Nat) (w' : World) : Prop :=
  Below Z.heap.size Z w' ∧ (q9 = true → RowAt w' g9 41 #[.int .u64 0, .int .i64 0, .int .i64 0] ∧ Z.heap.size ≤ g9) ∧ (q10 = true → RowAt w' g10 44 #[.slice none 0 0, .slice none 0 0, .slice none 0 0] ∧ Z.heap.size ≤ g10) ∧ (q11 = true → RowAt w' g11 45 #[.int .i64 0, .string ⟨#[]⟩, .int .i64 0, .int .i64 0] ∧ Z.heap.size ≤ g11)
section
variable {Z w' : World} {q9 q10 q11 : Bool} {g9 g10 g11 : Nat}
theorem invA_start (Z : World) : InvA Z false false false 0 0 0 Z.drew := ⟨Below.drew (Below.refl _ _), (fun h => by cases h), (fun h => by cases h), (fun h => by cases h)⟩
theorem InvA.run {w2 : World} (h : InvA Z q9 q10 q11 g9 g10 g11 w') (hb : Below w'.heap.size w' w2) : InvA Z q9 q10 q11 g9 g10 g11 w2 :=
  ⟨below_run h.1 hb, fun e => ⟨(h.2.1 e).1.run hb, (h.2.1 e).2⟩, fun e => ⟨(h.2.2.1 e).1.run hb, (h.2.2.1 e).2⟩, fun e => ⟨(h.2.2.2 e).1.run hb, (h.2.2.2 e).2⟩⟩
theorem below_new (w : World) (o : Obj) : Below w.heap.size w (w.alloc o) := (Below.refl _ _).alloc (Nat.le_refl _) _
theorem InvA.new9 (h : InvA Z q9 q10 q11 g9 g10 g11 w') : InvA Z true q10 q11 w'.heap.size g10 g11 (w'.alloc (.cells #[.int .u64 0, .int .i64 0, .int .i64 0] 41)) :=
  ⟨(h.run (below_new _ _)).1, fun _ => ⟨RowAt.new _ _ _, h.1.size⟩, (h.run (below_new _ _)).2.2.1, (h.run (below_new _ _)).2.2.2⟩
theorem InvA.new10 (h : InvA Z q9 q10 q11 g9 g10 g11 w') : InvA Z q9 true q11 g9 w'.heap.size g11 (w'.alloc (.cells #[.slice none 0 0, .slice none 0 0, .slice none 0 0] 44)) :=
  ⟨(h.run (below_new _ _)).1, (h.run (below_new _ _)).2.1, fun _ => ⟨RowAt.new _ _ _, h.1.size⟩, (h.run (below_new _ _)).2.2.2⟩
theorem InvA.new11 (h : InvA Z q9 q10 q11 g9 g10 g11 w') : InvA Z q9 q10 true g9 g10 w'.heap.size (w'.alloc (.cells #[.int .i64 0, .string ⟨#[]⟩, .int .i64 0, .int .i64 0] 45)) :=
  ⟨(h.run (below_new _ _)).1, (h.run (below_new _ _)).2.1, (h.run (below_new _ _)).2.2.1, fun _ => ⟨RowAt.new _ _ _, h.1.size⟩⟩
end
theorem row_ne {w : World} {a b T U : Nat} {cs ds : Array Value} (h : RowAt w a T cs) (h' : RowAt w b U ds) (hne : T ≠ U) : ¬ a = b := by
  intro e
  subst e
  unfold RowAt at h h'
  rw [h] at h'
  simp at h'
  exact hne h'.2
/-- A slice does not lie in a block. -/
def OffB (g : Nat) (v : Value) (n : Nat) : Prop := n ≠ 0 → v.ownBlock ≠ some g
theorem off_new {w : World} {S n : Nat} {v : Value} {cs : Nat → Option Value} (h : SeqAt w S v n cs) : OffB w.heap.size v n := by
  intro hn e
  rcases h with ⟨h0, _⟩ | ⟨_, _, b, off, cap, rfl, hlt, _⟩
  · exact hn h0
  · have : b = w.heap.size := by simpa [Value.ownBlock] using e
    omega
theorem off_out {K B g n : Nat} {v : Value} (h : OutB K B v n) (h1 : K ≤ g) (h2 : g < B) : OffB g v n := fun hn e => by
  have := h hn g e
  omega
/-- The wire that the answer holds, whatever blocks are made beside. -/
structure AskI (w0 w' : World) (dv fv lv : Value) (y : Wre) : Prop where
  devs : DevsAt w' dv y.devs
  faults : IntsAt w0 fv y.faults
  late : StrsAt w' lv y.late
  below : Below w0.heap.size w0 w'
section
variable {w0 w' : World} {dv fv lv : Value} {y : Wre}
theorem AskI.run {w2 : World} (h : AskI w0 w' dv fv lv y) (hb : Below w'.heap.size w' w2) : AskI w0 w2 dv fv lv y := ⟨h.devs.below hb, h.faults, h.late.runM hb, below_run h.below hb⟩
theorem AskI.upd {w2 : World} {b T : Nat} {cs : Array Value} (h : AskI w0 w' dv fv lv y) (hr : RowAt w' b T cs) (hz : cs.size < 6) (h1 : w0.heap.size ≤ b) (ho : OffB b lv y.late.length) (hu : Upd b w' w2) : AskI w0 w2 dv fv lv y :=
  ⟨devs_small h.devs hr hz hu, h.faults, SeqAt.same h.late hu.size fun g off cap e h0 _ => hu.block g (by
    rcases h.late with ⟨h2, _⟩ | ⟨_, _, g2, off2, cap2, e2, hlt, _⟩
    · omega
    · rw [e] at e2
      cases e2
      exact hlt) (fun e3 => by
    cases e3
    exact ho (by omega) (by rw [e]; rfl)), below_of_upd h.below hu h1⟩
theorem AskI.r (h : AskI w0 w' dv fv lv y) : WireR w' dv fv lv y := ⟨h.devs, h.faults.run h.below, h.late⟩
end
end Go.Proofs.YtpkhcehddfmhpaaGreat

namespace Go.Proofs.YtpkhcehddfmhpaaGreat
open Go.RowKit Go.Shelf

/-- What is so behind the reference's Ask. -/
def AsksCut (x : Mgr) (y : Wre) (a : Rsl) (E : Int) (Z : World) (s9 s10 s11 s12 : Value) (wx : World) : Prop :=
  ∃ (g9 g10 g11 : Nat) (d3 f3 l3 : Option Addr), ∃ n1 c1 n2 c2 n3 c3 : Nat, s9 = .pointer (some ⟨g9, 0, none⟩) ∧ s10 = .pointer (some ⟨g10, 0, none⟩) ∧ s11 = .pointer (some ⟨g11, 0, none⟩) ∧ s12 = .int .i64 E ∧
    RowAt wx g9 41 #[.int .u64 x.id, .int .i64 x.seq, .int .i64 x.tries] ∧ RowAt wx g10 44 #[.slice d3 n1 c1, .slice f3 n2 c2, .slice l3 n3 c3] ∧ RowAt wx g11 45 #[.int .i64 a.kind, .string a.dat, .int .i64 a.reason, .int .i64 a.tries] ∧
    WireR wx (.slice d3 n1 c1) (.slice f3 n2 c2) (.slice l3 n3 c3) y ∧ Below Z.heap.size Z wx
theorem asks_cut {K B : Nat} {w0 wx Z : World} {x : Mgr} {y : Wre} {a : Rsl} {E : Int} {g9 g10 g11 : Nat} {d3 f3 l3 : Option Addr} {n1 c1 n2 c2 n3 c3 : Nat} (F : LawF K B w0 wx (.slice d3 n1 c1) (.slice f3 n2 c2) (.slice l3 n3 c3) (.slice none 0 0) y [])
    (r9 : RowAt wx g9 41 #[.int .u64 x.id, .int .i64 x.seq, .int .i64 x.tries]) (r10 : RowAt wx g10 44 #[.slice d3 n1 c1, .slice f3 n2 c2, .slice l3 n3 c3]) (r11 : RowAt wx g11 45 #[.int .i64 a.kind, .string a.dat, .int .i64 a.reason, .int .i64 a.tries]) (hb : Below Z.heap.size Z wx) :
    AsksCut x y a E Z (.pointer (some ⟨g9, 0, none⟩)) (.pointer (some ⟨g10, 0, none⟩)) (.pointer (some ⟨g11, 0, none⟩)) (.int .i64 E) wx :=
  ⟨g9, g10, g11, d3, f3, l3, n1, c1, n2, c2, n3, c3, rfl, rfl, rfl, rfl, r9, r10, r11, F.r, hb⟩
theorem asks_fin {w w' Z : World} {x : Mgr} {y : Wre} {a : Rsl} {E : Int} {g9 g10 g11 : Nat} {d3 f3 l3 : Option Addr} {n1 c1 n2 c2 n3 c3 : Nat} {zs9 zs10 zs11 : Value} {z1 z2 z3 z4 z5 z6 z7 : Value}
    (h : AskI w w' (.slice d3 n1 c1) (.slice f3 n2 c2) (.slice l3 n3 c3) y) (hz : w.heap.size ≤ Z.heap.size) (hB : Below Z.heap.size Z w') (r9 : RowAt w' g9 41 #[zs9, z1, z2]) (k9 : Z.heap.size ≤ g9) (r10 : RowAt w' g10 44 #[zs10, z3, z4]) (k10 : Z.heap.size ≤ g10) (r11 : RowAt w' g11 45 #[zs11, z5, z6, z7]) (k11 : Z.heap.size ≤ g11)
    (o9 : OffB g9 (.slice l3 n3 c3) y.late.length) (o10 : OffB g10 (.slice l3 n3 c3) y.late.length) (o11 : OffB g11 (.slice l3 n3 c3) y.late.length) :
    AsksCut x y a E Z (.pointer (some ⟨g9, 0, none⟩)) (.pointer (some ⟨g10, 0, none⟩)) (.pointer (some ⟨g11, 0, none⟩)) (.int .i64 E) ((((((((((w'.setCell ⟨g9, 0, none⟩ (.int .u64 x.id)).setCell ⟨g9, 1, none⟩ (.int .i64 x.seq)).setCell ⟨g9, 2, none⟩ (.int .i64 x.tries)).setCell ⟨g10, 0, none⟩ (.slice d3 n1 c1)).setCell ⟨g10, 1, none⟩ (.slice f3 n2 c2)).setCell ⟨g10, 2, none⟩ (.slice l3 n3 c3)).setCell ⟨g11, 0, none⟩ (.int .i64 a.kind)).setCell ⟨g11, 1, none⟩ (.string a.dat)).setCell ⟨g11, 2, none⟩ (.int .i64 a.reason)).setCell ⟨g11, 3, none⟩ (.int .i64 a.tries)) := by
  have n1' := row_ne r9 r10 (by decide)
  have n2' := row_ne r9 r11 (by decide)
  have n3' := row_ne r10 r11 (by decide)
  have A3 : AskI w ((((((((((w'.setCell ⟨g9, 0, none⟩ (.int .u64 x.id)).setCell ⟨g9, 1, none⟩ (.int .i64 x.seq)).setCell ⟨g9, 2, none⟩ (.int .i64 x.tries)).setCell ⟨g10, 0, none⟩ (.slice d3 n1 c1)).setCell ⟨g10, 1, none⟩ (.slice f3 n2 c2)).setCell ⟨g10, 2, none⟩ (.slice l3 n3 c3)).setCell ⟨g11, 0, none⟩ (.int .i64 a.kind)).setCell ⟨g11, 1, none⟩ (.string a.dat)).setCell ⟨g11, 2, none⟩ (.int .i64 a.reason)).setCell ⟨g11, 3, none⟩ (.int .i64 a.tries)) (.slice d3 n1 c1) (.slice f3 n2 c2) (.slice l3 n3 c3) y :=
    AskI.upd (AskI.upd (AskI.upd h r9 (by show (3 : Nat) < 6; omega) (by omega) o9 upd3) (r10.far3 (fun e => n1' e.symm)) (by show (3 : Nat) < 6; omega) (by omega) o10 upd3) ((r11.far3 (fun e => n2' e.symm)).far3 (fun e => n3' e.symm)) (by show (4 : Nat) < 6; omega) (by omega) o11 upd4
  exact ⟨g9, g10, g11, d3, f3, l3, n1, c1, n2, c2, n3, c3, rfl, rfl, rfl, rfl, ((row3 r9).far3 n1').far4 n2', (row3 (r10.far3 (fun e => n1' e.symm))).far4 n3', row4 ((r11.far3 (fun e => n2' e.symm)).far3 (fun e => n3' e.symm)), A3.r, below_four (below_three (below_three hB k9) k10) k11⟩
theorem offs_of {Z w' : World} {q9 q10 q11 : Bool} {g9 g10 g11 K n : Nat} {v : Value} (h : InvA Z q9 q10 q11 g9 g10 g11 w') (hK : K ≤ Z.heap.size) (ho : OutB K w'.heap.size v n) :
    (q9 = true → OffB g9 v n) ∧ (q10 = true → OffB g10 v n) ∧ (q11 = true → OffB g11 v n) :=
  ⟨fun e => off_out ho (Nat.le_trans hK (h.2.1 e).2) (lt_of_block (h.2.1 e).1), fun e => off_out ho (Nat.le_trans hK (h.2.2.1 e).2) (lt_of_block (h.2.2.1 e).1), fun e => off_out ho (Nat.le_trans hK (h.2.2.2 e).2) (lt_of_block (h.2.2.2 e).1)⟩

set_option maxHeartbeats 32000000 in
set_option maxRecDepth 100000 in
theorem law_asks (x : Mgr) (da fa la : Option Addr) (dn dc fn fc ln lc : Nat) (y : Wre) (dst kind par : Int) (dat : ByteArray) (w : World) (h : WireAt w (.slice da dn dc) (.slice fa fn fc) (.slice la ln lc) y) (hr : y.devs.length * 56 ≤ 140737488351232) (hn : NilOne (.slice la ln lc)) (hrm : RoomOk (.slice fa fn fc)) :
    Calls Tryz.prog 3 #[.agg #[.int .u64 x.id, .int .i64 x.seq, .int .i64 x.tries, .slice da dn dc, .slice fa fn fc, .slice la ln lc], .agg #[.int .u64 dst, .int .i64 kind, .int .i64 par, .string dat]] w fun e w' => e = .returned (.bool true) ∧ Below w.heap.size w w' := by
  obtain ⟨xi, xs, xt⟩ := x
  show Calls Tryz.prog 3 #[.agg #[.int .u64 xi, .int .i64 xs, .int .i64 xt, .slice da dn dc, .slice fa fn fc, .slice la ln lc], _] w _
  obtain ⟨W, hW⟩ : ∃ W, (w.alloc (.cells #[.int .u64 xi, .int .i64 xs, .int .i64 xt, .slice da dn dc, .slice fa fn fc, .slice la ln lc] 31)).alloc (.cells #[.int .u64 dst, .int .i64 kind, .int .i64 par, .string dat] 33) = W := ⟨_, rfl⟩
  have hbW : Below w.heap.size w W := by rw [← hW]; (repeat' (first | (with_reducible exact Below.refl _ _) | (with_reducible assumption) | (with_reducible refine below_run ?_ (by assumption)) | (with_reducible refine below_of_upd ?_ (by assumption) ?_) | (with_reducible refine below_drewN ?_ _) | (with_reducible refine Below.drew ?_) | (with_reducible refine below_seven ?_ ?_) | (with_reducible refine below_six ?_ ?_) | (with_reducible refine below_one ?_ ?_) | (with_reducible refine Below.alloc ?_ ?_ _) | (with_reducible refine below_after ?_ ?_ (by assumption)) | (show _ ≤ _; first | omega | (simp; done) | (simp; omega))))
  have r0 : RowAt W w.heap.size 31 #[.int .u64 xi, .int .i64 xs, .int .i64 xt, .slice da dn dc, .slice fa fn fc, .slice la ln lc] := by rw [← hW]; exact (RowAt.new _ _ _).alloc _
  have r1 : RowAt W (w.heap.size + 1) 33 #[.int .u64 dst, .int .i64 kind, .int .i64 par, .string dat] := by rw [← hW]; exact RowAt.mk (by simp) rfl
  obtain ⟨q, hq⟩ : ∃ q, (fewW y && decide (dat.size ≤ 1000)) = q := ⟨_, rfl⟩
  have CF := Lib.hid (mfew_any q ⟨xi, xs, xt⟩ da fa la dn dc fn fc ln lc y dst kind par dat W (h.run hbW) hr hq)
  have HH := Lib.hid h
  have HR := Lib.hid hr
  have HN := Lib.hid hn
  have HRM := Lib.hid hrm
  have HQ := Lib.hid hq
  have R0 := Lib.hid r0
  have R1 := Lib.hid r1
  have HB := Lib.hid hbW
  obtain ⟨x1, x2, x3, x4, x5, x6⟩ := row_facts r0
  obtain ⟨y1, y2, y3, y4, y5, y6⟩ := row_facts r1
  clear h hr hn hrm hq r0 r1 hbW
  go_enter Tryz.func3, Tryz.ntmps3
  go_upto_region 1 with fail
  clear hW
  go_wp2_with fail
  refine CF.out.mono ?_
  rintro e w1 ⟨rfl, hb1⟩
  have r0 := R0.out.run hb1
  have r1 := R1.out.run hb1
  have HB1 := Lib.hid (below_run HB.out hb1)
  have R01 := Lib.hid r0
  have R11 := Lib.hid r1
  clear x1 x2 x3 x4 x5 x6 y1 y2 y3 y4 y5 y6 hb1 R0 R1 HB CF
  obtain ⟨x1, x2, x3, x4, x5, x6⟩ := row_facts r0
  obtain ⟨y1, y2, y3, y4, y5, y6⟩ := row_facts r1
  clear r0 r1
  cases q with
  | false =>
    go_wp2_with fail
    refine (awake49_any _).mono ?_
    rintro e w9 ⟨rfl, hb9⟩
    go_wp2
    go_ret
    exact ⟨rfl, below_run HB1.out hb9⟩
  | true =>
  have hq := HQ.out
  simp only [Bool.and_eq_true, decide_eq_true_eq] at hq
  obtain ⟨hfw, hds⟩ := hq
  obtain ⟨f1, f2, -⟩ := few_small hfw
  have HLB := Lib.hid (show ∀ d ∈ y.devs, d.lb.size ≤ 9223372036854775807 from fun d hd => by have := f2 d hd; omega)
  have HDS := Lib.hid (show dat.size ≤ 9223372036854775807 by omega)
  obtain ⟨⟨⟨pi, ps, pt⟩, y', ⟨ak, ad, ar, aat⟩⟩, hp⟩ : ∃ p, askU ⟨xi, xs, xt⟩ y ⟨dst, kind, par, dat⟩ = p := ⟨_, rfl⟩
  obtain ⟨E, hE⟩ : ∃ E, askE ⟨xi, xs, xt⟩ y ⟨dst, kind, par, dat⟩ = E := ⟨_, rfl⟩
  have hyl : y'.devs.length ≤ 128 := by
    have h1 : (askU ⟨xi, xs, xt⟩ y ⟨dst, kind, par, dat⟩).2.1 = y' := by rw [hp]
    rw [← h1]
    exact Nat.le_trans (askU_length _ _ _) f1
  have HYL := Lib.hid hyl
  have C1 := maskU_any ⟨xi, xs, xt⟩ da fa la dn dc fn fc ln lc y dst kind par dat w1 (HH.out.run HB1.out)
  have C2 := fun V (a9 : Option Addr) (c9 : Nat) (hv : WireAt V (.slice a9 y.devs.length c9) (.slice fa fn fc) (.slice la ln lc) y) => raskU_any ⟨xi, xs, xt⟩ a9 fa la y.devs.length c9 fn fc ln lc y dst kind par dat V ⟨hv.r, HN.out, HRM.out⟩ HLB.out HDS.out
  rw [hp, hE] at C1
  simp only [hp, hE] at C2
  have C1H := Lib.hid C1
  have C2H := Lib.hid C2
  clear C1 C2 hp hE hfw hds f1 f2 hyl
  go_wp2_with fail
  refine C1H.out.mono ?_
  rintro e w2 ⟨d1, g1, l1, n1, c1, n2, c2, n3, c3, he, hw2, hb2⟩
  have he' : e = .returned (.tuple #[.agg #[.int .u64 pi, .int .i64 ps, .int .i64 pt], .agg #[.slice d1 n1 c1, .slice g1 n2 c2, .slice l1 n3 c3], .agg #[.int .i64 ak, .string ad, .int .i64 ar, .int .i64 aat], .int .i64 E]) := he
  subst he'
  have HW2 := Lib.hid hw2
  have R02 := Lib.hid (R01.out.run hb2)
  have R12 := Lib.hid (R11.out.run hb2)
  have HB2 := Lib.hid (below_run HB1.out hb2)
  clear he hw2 hb2 x1 x2 x3 x4 x5 x6 y1 y2 y3 y4 y5 y6 R01 R11 HB1 C1H
  go_upto_region 4 with fail
  (try rw [show w2.heap.size + 1 + 1 = w2.heap.size + 2 from rfl])
  have hbT : Below w2.heap.size w2 (((w2.alloc (.cells #[.int .u64 pi, .int .i64 ps, .int .i64 pt] 24)).alloc (.cells #[.slice d1 n1 c1, .slice g1 n2 c2, .slice l1 n3 c3] 29)).alloc (.cells #[.int .i64 ak, .string ad, .int .i64 ar, .int .i64 aat] 37)) := by (repeat' (first | (with_reducible exact Below.refl _ _) | (with_reducible assumption) | (with_reducible refine below_run ?_ (by assumption)) | (with_reducible refine below_of_upd ?_ (by assumption) ?_) | (with_reducible refine below_drewN ?_ _) | (with_reducible refine Below.drew ?_) | (with_reducible refine below_seven ?_ ?_) | (with_reducible refine below_six ?_ ?_) | (with_reducible refine below_one ?_ ?_) | (with_reducible refine Below.alloc ?_ ?_ _) | (with_reducible refine below_after ?_ ?_ (by assumption)) | (show _ ≤ _; first | omega | (simp; done) | (simp; omega))))
  have r5 : RowAt (((w2.alloc (.cells #[.int .u64 pi, .int .i64 ps, .int .i64 pt] 24)).alloc (.cells #[.slice d1 n1 c1, .slice g1 n2 c2, .slice l1 n3 c3] 29)).alloc (.cells #[.int .i64 ak, .string ad, .int .i64 ar, .int .i64 aat] 37)) w2.heap.size 24 #[.int .u64 pi, .int .i64 ps, .int .i64 pt] := ((RowAt.new _ _ _).alloc _).alloc _
  have r6 : RowAt (((w2.alloc (.cells #[.int .u64 pi, .int .i64 ps, .int .i64 pt] 24)).alloc (.cells #[.slice d1 n1 c1, .slice g1 n2 c2, .slice l1 n3 c3] 29)).alloc (.cells #[.int .i64 ak, .string ad, .int .i64 ar, .int .i64 aat] 37)) (w2.heap.size + 1) 29 #[.slice d1 n1 c1, .slice g1 n2 c2, .slice l1 n3 c3] := (RowAt.mk (by simp) rfl).alloc _
  have r7 : RowAt (((w2.alloc (.cells #[.int .u64 pi, .int .i64 ps, .int .i64 pt] 24)).alloc (.cells #[.slice d1 n1 c1, .slice g1 n2 c2, .slice l1 n3 c3] 29)).alloc (.cells #[.int .i64 ak, .string ad, .int .i64 ar, .int .i64 aat] 37)) (w2.heap.size + 2) 37 #[.int .i64 ak, .string ad, .int .i64 ar, .int .i64 aat] := RowAt.mk (by simp) rfl
  have r0 := R02.out.run hbT
  have r1 := R12.out.run hbT
  have hw := HW2.out.run hbT
  have hbw := below_run HB2.out hbT
  generalize ((w2.alloc (.cells #[.int .u64 pi, .int .i64 ps, .int .i64 pt] 24)).alloc (.cells #[.slice d1 n1 c1, .slice g1 n2 c2, .slice l1 n3 c3] 29)).alloc (.cells #[.int .i64 ak, .string ad, .int .i64 ar, .int .i64 aat] 37) = Z at hbT r5 r6 r7 r0 r1 hw hbw ⊢
  generalize w2.heap.size = k5 at r5 r6 r7 ⊢
  have hkeep : ∀ W', Below Z.heap.size Z W' → (W'.cell? ⟨w.heap.size, 0, none⟩ = some (.int .u64 xi) ∧ W'.cell? ⟨w.heap.size, 1, none⟩ = some (.int .i64 xs) ∧ W'.cell? ⟨w.heap.size, 2, none⟩ = some (.int .i64 xt) ∧ W'.cell? ⟨w.heap.size, 3, none⟩ = some (.slice da dn dc) ∧ W'.cell? ⟨w.heap.size, 4, none⟩ = some (.slice fa fn fc) ∧ W'.cell? ⟨w.heap.size, 5, none⟩ = some (.slice la ln lc) ∧ W'.cell? ⟨w.heap.size + 1, 0, none⟩ = some (.int .u64 dst) ∧ W'.cell? ⟨w.heap.size + 1, 1, none⟩ = some (.int .i64 kind) ∧ W'.cell? ⟨w.heap.size + 1, 2, none⟩ = some (.int .i64 par) ∧ W'.cell? ⟨w.heap.size + 1, 3, none⟩ = some (.string dat)) := by
    intro W' hb
    have a0 := r0.run hb
    have a1 := r1.run hb
    exact ⟨cell_fact a0 0, cell_fact a0 1, cell_fact a0 2, cell_fact a0 3, cell_fact a0 4, cell_fact a0 5, cell_fact a1 0, cell_fact a1 1, cell_fact a1 2, cell_fact a1 3⟩
  have HK := Lib.hid hkeep
  have hbd : Below Z.heap.size Z Z.drew := Below.drew (Below.refl _ _)
  obtain ⟨m0, m1, m2, m3, m4, m5, m6, m7, m8, m9⟩ := hkeep Z (Below.refl _ _)
  have HWZ := Lib.hid hw
  have HBZ := Lib.hid hbw
  have R5 := Lib.hid r5
  have R6 := Lib.hid r6
  have R7 := Lib.hid r7
  have hz0 := hbw.size
  have hlz := lt_of_block r1
  have C3H : Hid (∀ V (a9 : Option Addr) (c9 : Nat), WireAt V (.slice a9 y.devs.length c9) (.slice fa fn fc) (.slice la ln lc) y → Below Z.heap.size Z V → Calls Tryz.prog 8 #[.agg #[.int .u64 xi, .int .i64 xs, .int .i64 xt], .agg #[.slice a9 y.devs.length c9, .slice fa fn fc, .slice la ln lc], .agg #[.int .u64 dst, .int .i64 kind, .int .i64 par, .string dat]] V fun e u2 => ∃ (d3 f3 l3 : Option Addr) (o1 e1 o2 e2 o3 e3 : Nat), e = .returned (.tuple #[.agg #[.int .u64 pi, .int .i64 ps, .int .i64 pt], .agg #[.slice d3 o1 e1, .slice f3 o2 e2, .slice l3 o3 e3], .agg #[.int .i64 ak, .string ad, .int .i64 ar, .int .i64 aat], .int .i64 E]) ∧ AskI w u2 (.slice d3 o1 e1) (.slice f3 o2 e2) (.slice l3 o3 e3) y' ∧ OutB w.heap.size V.heap.size (.slice l3 o3 e3) y'.late.length ∧ Below V.heap.size V u2) := Lib.hid fun V a9 c9 hv hbV => (C2H.out V a9 c9 hv).mono fun e u2 h => by
    obtain ⟨d3, f3, l3, o1, e1, o2, e2, o3, e3, he2, hI2, hb22⟩ := h
    have F := lawF_of hI2 HH.out.faults HH.out.late (mv := .slice none 0 0) (L := []) (.inl ⟨rfl, _, _, rfl⟩) (below_run HBZ.out (below_run hbV hb22))
    exact ⟨d3, f3, l3, o1, e1, o2, e2, o3, e3, he2, ⟨F.devs, F.faults, F.late, F.below⟩, F.lout, hb22⟩
  have CO := Lib.hid (fun V (hb : Below Z.heap.size Z V) => wof_any da fa la dn dc fn fc ln lc y V (HH.out.run (below_run HBZ.out hb)) HR.out)
  clear hbT r5 r6 r7 r0 r1 hw hbw hkeep HW2 R02 R12 HB2
  go_cut [9, 10, 11, 12] (fun s9 s10 s11 s12 wx => AsksCut ⟨pi, ps, pt⟩ y' ⟨ak, ad, ar, aat⟩ E Z s9 s10 s11 s12 wx)
  case first =>
    refine wp_region_noPanic ?_
    refine wp_region_held_drew (S := (fun w' => w'.cell? ⟨w.heap.size, 0, none⟩ = some (.int .u64 xi) ∧ w'.cell? ⟨w.heap.size, 1, none⟩ = some (.int .i64 xs) ∧ w'.cell? ⟨w.heap.size, 2, none⟩ = some (.int .i64 xt) ∧ w'.cell? ⟨w.heap.size, 3, none⟩ = some (.slice da dn dc) ∧ w'.cell? ⟨w.heap.size, 4, none⟩ = some (.slice fa fn fc) ∧ w'.cell? ⟨w.heap.size, 5, none⟩ = some (.slice la ln lc) ∧ w'.cell? ⟨w.heap.size + 1, 0, none⟩ = some (.int .u64 dst) ∧ w'.cell? ⟨w.heap.size + 1, 1, none⟩ = some (.int .i64 kind) ∧ w'.cell? ⟨w.heap.size + 1, 2, none⟩ = some (.int .i64 par) ∧ w'.cell? ⟨w.heap.size + 1, 3, none⟩ = some (.string dat))) (by kernel_rfl) ?_ (fun hHeld => ?_)
    · exact HK.out _ hbd
    (refine wpAnyH_take (i := 0) (oi := _) (v := ?_) rfl (by kernel_rfl) (by kernel_rfl) (by kernel_rfl) (fun _ _ _ h => h) (Or.inl ⟨by rfl, ?_⟩) (by assumption) ?_; rotate_left; (focus (intro w' hSw; (try dsimp only at hSw); go_simp; (try with_reducible rfl); done)); (try simp only [Act.put, List.setIfInBounds_toArray, List.set_cons_zero, List.set_cons_succ, List.getElem_toArray, List.getElem_cons_zero]))
    (refine wpAnyH_take (i := 1) (oi := _) (v := ?_) rfl (by kernel_rfl) (by kernel_rfl) (by kernel_rfl) (fun _ _ _ h => h) (Or.inl ⟨by rfl, ?_⟩) (by assumption) ?_; rotate_left; (focus (intro w' hSw; (try dsimp only at hSw); go_simp; (try with_reducible rfl); done)); (try simp only [Act.put, List.setIfInBounds_toArray, List.set_cons_zero, List.set_cons_succ, List.getElem_toArray, List.getElem_cons_succ, List.getElem_cons_zero]))
    (refine wpAnyH_take (i := 2) (oi := _) (v := ?_) rfl (by kernel_rfl) (by kernel_rfl) (by kernel_rfl) (fun _ _ _ h => h) (Or.inl ⟨by rfl, ?_⟩) (by assumption) ?_; rotate_left; (focus (intro w' hSw; (try dsimp only at hSw); go_simp; (try with_reducible rfl); done)); (try simp only [Act.put, List.setIfInBounds_toArray, List.set_cons_zero, List.set_cons_succ, List.getElem_toArray, List.getElem_cons_succ, List.getElem_cons_zero]))
    (refine wpAnyH_take (i := 3) (oi := _) (v := ?_) rfl (by kernel_rfl) (by kernel_rfl) (by kernel_rfl) (fun _ _ _ h => h) (Or.inl ⟨by rfl, ?_⟩) (by assumption) ?_; rotate_left; (focus (intro w' hSw; (try dsimp only at hSw); go_simp; (try with_reducible rfl); done)); (try simp only [Act.put, List.setIfInBounds_toArray, List.set_cons_zero, List.set_cons_succ, List.getElem_toArray, List.getElem_cons_succ, List.getElem_cons_zero]))
    (refine wpAnyH_take (i := 5) (oi := _) (v := ?_) rfl (by kernel_rfl) (by kernel_rfl) (by kernel_rfl) (fun _ _ _ h => h) (Or.inl ⟨by rfl, ?_⟩) (by assumption) ?_; rotate_left; (focus (intro w' hSw; (try dsimp only at hSw); go_simp; (try with_reducible rfl); done)); (try simp only [Act.put, List.setIfInBounds_toArray, List.set_cons_zero, List.set_cons_succ, List.getElem_toArray, List.getElem_cons_succ, List.getElem_cons_zero]))
    clear m0 m1 m2 m3 m4 m5 m6 m7 m8 m9
    refine asks_region (D1 := Option Addr × Nat) (D2 := Option Addr × Option Addr × Option Addr × Nat × Nat × Nat × Nat × Nat × Nat) (fun d a => a.put (some 34) (.agg #[.slice d.1 y.devs.length d.2, .slice fa fn fc, .slice la ln lc])) (fun d a => (((((a.put (some 36) (.tuple #[.agg #[.int .u64 pi, .int .i64 ps, .int .i64 pt], .agg #[.slice d.1 d.2.2.2.1 d.2.2.2.2.1, .slice d.2.1 d.2.2.2.2.2.1 d.2.2.2.2.2.2.1, .slice d.2.2.1 d.2.2.2.2.2.2.2.1 d.2.2.2.2.2.2.2.2], .agg #[.int .i64 ak, .string ad, .int .i64 ar, .int .i64 aat], .int .i64 E])).put (some 29) (.tuple #[.agg #[.int .u64 pi, .int .i64 ps, .int .i64 pt], .agg #[.slice d.1 d.2.2.2.1 d.2.2.2.2.1, .slice d.2.1 d.2.2.2.2.2.1 d.2.2.2.2.2.2.1, .slice d.2.2.1 d.2.2.2.2.2.2.2.1 d.2.2.2.2.2.2.2.2], .agg #[.int .i64 ak, .string ad, .int .i64 ar, .int .i64 aat], .int .i64 E])).put (some 37) (.agg #[.int .u64 pi, .int .i64 ps, .int .i64 pt])).put (some 38) (.agg #[.slice d.1 d.2.2.2.1 d.2.2.2.2.1, .slice d.2.1 d.2.2.2.2.2.1 d.2.2.2.2.2.2.1, .slice d.2.2.1 d.2.2.2.2.2.2.2.1 d.2.2.2.2.2.2.2.2])).put (some 39) (.agg #[.int .i64 ak, .string ad, .int .i64 ar, .int .i64 aat])).put (some 40) (.int .i64 E))
      (InvA Z) (fun d q9 q10 q11 g9 g10 g11 w' => InvA Z q9 q10 q11 g9 g10 g11 w' ∧ WireAt w' (.slice d.1 y.devs.length d.2) (.slice fa fn fc) (.slice la ln lc) y)
      (fun _ d q9 q10 q11 g9 g10 g11 w' => InvA Z q9 q10 q11 g9 g10 g11 w' ∧ AskI w w' (.slice d.1 d.2.2.2.1 d.2.2.2.2.1) (.slice d.2.1 d.2.2.2.2.2.1 d.2.2.2.2.2.2.1) (.slice d.2.2.1 d.2.2.2.2.2.2.2.1 d.2.2.2.2.2.2.2.2) y' ∧ (q9 = true → OffB g9 (.slice d.2.2.1 d.2.2.2.2.2.2.2.1 d.2.2.2.2.2.2.2.2) y'.late.length) ∧ (q10 = true → OffB g10 (.slice d.2.2.1 d.2.2.2.2.2.2.2.1 d.2.2.2.2.2.2.2.2) y'.late.length) ∧ (q11 = true → OffB g11 (.slice d.2.2.1 d.2.2.2.2.2.2.2.1 d.2.2.2.2.2.2.2.2) y'.late.length))
      (invA_start Z) hHeld ?h2 ?h1 ?h0
    case h2 =>
      rintro ⟨a9, c9⟩ ⟨d3, f3, l3, o1, e1, o2, e2, o3, e3⟩
      refine grs_of ?_ ?_ ?_ ?_ ?_ ?_ ?_ ?_
      · intro g9 g10 g11 w' hI hS
        simp only [sI, pI, Act.put, List.setIfInBounds_toArray, List.set_cons_zero, List.set_cons_succ]
        obtain ⟨⟨hB, h9, h10, h11⟩, hask, o9, o10, o11⟩ := hI
        have O9 := Lib.hid (o9 rfl)
        have O10 := Lib.hid (o10 rfl)
        have O11 := Lib.hid (o11 rfl)
        clear o9 o10 o11
        obtain ⟨r9, k9⟩ := h9 rfl
        obtain ⟨a91, a92, a93, a94, a95, a96⟩ := row_facts r9
        obtain ⟨r10, k10⟩ := h10 rfl
        obtain ⟨a101, a102, a103, a104, a105, a106⟩ := row_facts r10
        obtain ⟨r11, k11⟩ := h11 rfl
        obtain ⟨a111, a112, a113, a114, a115, a116⟩ := row_facts r11
        have n9_10 := row_ne r9 r10 (by decide)
        have n10_9 : ¬ g10 = g9 := fun e => n9_10 e.symm
        have n9_11 := row_ne r9 r11 (by decide)
        have n11_9 : ¬ g11 = g9 := fun e => n9_11 e.symm
        have n10_11 := row_ne r10 r11 (by decide)
        have n11_10 : ¬ g11 = g10 := fun e => n10_11 e.symm
        have B1 := hB
        refine any_1 (i := 15) (by kernel_rfl) rfl (fun K hK => ?_)
        go_simp
        refine hK.out _ _ (HK.out _ (below_three hB k9)) (fun hHeld => ?_)
        clear hK K
        (try simp only [Act.put, List.setIfInBounds_toArray, List.set_cons_zero, List.set_cons_succ])
        refine any_1 (i := 16) (by kernel_rfl) rfl (fun K hK => ?_)
        go_simp
        refine hK.out _ _ (HK.out _ (below_three (below_three hB k9) k10)) (fun hHeld => ?_)
        clear hK K
        (try simp only [Act.put, List.setIfInBounds_toArray, List.set_cons_zero, List.set_cons_succ])
        refine any_1 (i := 17) (by kernel_rfl) rfl (fun K hK => ?_)
        go_simp
        refine hK.out _ _ (HK.out _ (below_four (below_three (below_three hB k9) k10) k11)) (fun hHeld => ?_)
        clear hK K
        (try simp only [Act.put, List.setIfInBounds_toArray, List.set_cons_zero, List.set_cons_succ])
        refine any_1 (i := 18) (by kernel_rfl) rfl (fun K hK => ?_)
        go_simp
        refine hK.out _ _ (HK.out _ (below_four (below_three (below_three hB k9) k10) k11)) (fun hHeld => ?_)
        clear hK K
        (try simp only [Act.put, List.setIfInBounds_toArray, List.set_cons_zero, List.set_cons_succ])
        refine wpAnyH_done (by kernel_rfl) ?_ _
        refine NoPanic.normal ?_
        (go_wp2_with fail; go_meet)
        exact asks_fin (x := ⟨pi, ps, pt⟩) (a := ⟨ak, ad, ar, aat⟩) hask hz0 hB r9 k9 r10 k10 r11 k11 O9.out O10.out O11.out
      · intro i_ttt
        intro g9 g10 g11 w' hI hS
        simp only [sI, pI, Act.put, List.setIfInBounds_toArray, List.set_cons_zero, List.set_cons_succ]
        refine any_1 (i := 12) (by kernel_rfl) rfl (fun K hK => ?_) 
        · go_simp
          refine hK.out _ _ (HK.out _ hI.1.new9.1) (fun hHeld => wpAnyH_cast ?_ ?_ (i_ttt _ g10 g11 _ ⟨hI.1.new9, hI.2.1.run (below_new _ _), (fun _ => off_new hI.2.1.late), hI.2.2.2.1, hI.2.2.2.2⟩ hHeld))
          · kernel_rfl
          · simp only [pI, Act.put, List.setIfInBounds_toArray, List.set_cons_zero, List.set_cons_succ]
      · intro i_ttt
        intro g9 g10 g11 w' hI hS
        simp only [sI, pI, Act.put, List.setIfInBounds_toArray, List.set_cons_zero, List.set_cons_succ]
        refine any_1 (i := 13) (by kernel_rfl) rfl (fun K hK => ?_) 
        · go_simp
          refine hK.out _ _ (HK.out _ hI.1.new10.1) (fun hHeld => wpAnyH_cast ?_ ?_ (i_ttt g9 _ g11 _ ⟨hI.1.new10, hI.2.1.run (below_new _ _), hI.2.2.1, (fun _ => off_new hI.2.1.late), hI.2.2.2.2⟩ hHeld))
          · kernel_rfl
          · simp only [pI, Act.put, List.setIfInBounds_toArray, List.set_cons_zero, List.set_cons_succ]
      · intro i_ttt
        intro g9 g10 g11 w' hI hS
        simp only [sI, pI, Act.put, List.setIfInBounds_toArray, List.set_cons_zero, List.set_cons_succ]
        refine any_1 (i := 14) (by kernel_rfl) rfl (fun K hK => ?_) 
        · go_simp
          refine hK.out _ _ (HK.out _ hI.1.new11.1) (fun hHeld => wpAnyH_cast ?_ ?_ (i_ttt g9 g10 _ _ ⟨hI.1.new11, hI.2.1.run (below_new _ _), hI.2.2.1, hI.2.2.2.1, (fun _ => off_new hI.2.1.late)⟩ hHeld))
          · kernel_rfl
          · simp only [pI, Act.put, List.setIfInBounds_toArray, List.set_cons_zero, List.set_cons_succ]
      · intro i_tft i_ftt
        intro g9 g10 g11 w' hI hS
        simp only [sI, pI, Act.put, List.setIfInBounds_toArray, List.set_cons_zero, List.set_cons_succ]
        refine any_2 (i := 12) (j := 13) (by kernel_rfl) rfl rfl (fun K hK => ?_) (fun K hK => ?_) 
        · go_simp
          refine hK.out _ _ (HK.out _ hI.1.new9.1) (fun hHeld => wpAnyH_cast ?_ ?_ (i_tft _ g10 g11 _ ⟨hI.1.new9, hI.2.1.run (below_new _ _), (fun _ => off_new hI.2.1.late), hI.2.2.2.1, hI.2.2.2.2⟩ hHeld))
          · kernel_rfl
          · simp only [pI, Act.put, List.setIfInBounds_toArray, List.set_cons_zero, List.set_cons_succ]
        · go_simp
          refine hK.out _ _ (HK.out _ hI.1.new10.1) (fun hHeld => wpAnyH_cast ?_ ?_ (i_ftt g9 _ g11 _ ⟨hI.1.new10, hI.2.1.run (below_new _ _), hI.2.2.1, (fun _ => off_new hI.2.1.late), hI.2.2.2.2⟩ hHeld))
          · kernel_rfl
          · simp only [pI, Act.put, List.setIfInBounds_toArray, List.set_cons_zero, List.set_cons_succ]
      · intro i_ttf i_ftt
        intro g9 g10 g11 w' hI hS
        simp only [sI, pI, Act.put, List.setIfInBounds_toArray, List.set_cons_zero, List.set_cons_succ]
        refine any_2 (i := 12) (j := 14) (by kernel_rfl) rfl rfl (fun K hK => ?_) (fun K hK => ?_) 
        · go_simp
          refine hK.out _ _ (HK.out _ hI.1.new9.1) (fun hHeld => wpAnyH_cast ?_ ?_ (i_ttf _ g10 g11 _ ⟨hI.1.new9, hI.2.1.run (below_new _ _), (fun _ => off_new hI.2.1.late), hI.2.2.2.1, hI.2.2.2.2⟩ hHeld))
          · kernel_rfl
          · simp only [pI, Act.put, List.setIfInBounds_toArray, List.set_cons_zero, List.set_cons_succ]
        · go_simp
          refine hK.out _ _ (HK.out _ hI.1.new11.1) (fun hHeld => wpAnyH_cast ?_ ?_ (i_ftt g9 g10 _ _ ⟨hI.1.new11, hI.2.1.run (below_new _ _), hI.2.2.1, hI.2.2.2.1, (fun _ => off_new hI.2.1.late)⟩ hHeld))
          · kernel_rfl
          · simp only [pI, Act.put, List.setIfInBounds_toArray, List.set_cons_zero, List.set_cons_succ]
      · intro i_ttf i_tft
        intro g9 g10 g11 w' hI hS
        simp only [sI, pI, Act.put, List.setIfInBounds_toArray, List.set_cons_zero, List.set_cons_succ]
        refine any_2 (i := 13) (j := 14) (by kernel_rfl) rfl rfl (fun K hK => ?_) (fun K hK => ?_) 
        · go_simp
          refine hK.out _ _ (HK.out _ hI.1.new10.1) (fun hHeld => wpAnyH_cast ?_ ?_ (i_ttf g9 _ g11 _ ⟨hI.1.new10, hI.2.1.run (below_new _ _), hI.2.2.1, (fun _ => off_new hI.2.1.late), hI.2.2.2.2⟩ hHeld))
          · kernel_rfl
          · simp only [pI, Act.put, List.setIfInBounds_toArray, List.set_cons_zero, List.set_cons_succ]
        · go_simp
          refine hK.out _ _ (HK.out _ hI.1.new11.1) (fun hHeld => wpAnyH_cast ?_ ?_ (i_tft g9 g10 _ _ ⟨hI.1.new11, hI.2.1.run (below_new _ _), hI.2.2.1, hI.2.2.2.1, (fun _ => off_new hI.2.1.late)⟩ hHeld))
          · kernel_rfl
          · simp only [pI, Act.put, List.setIfInBounds_toArray, List.set_cons_zero, List.set_cons_succ]
      · intro i_tff i_ftf i_fft
        intro g9 g10 g11 w' hI hS
        simp only [sI, pI, Act.put, List.setIfInBounds_toArray, List.set_cons_zero, List.set_cons_succ]
        refine any_3 (i := 12) (j := 13) (k := 14) (by kernel_rfl) rfl rfl rfl (fun K hK => ?_) (fun K hK => ?_) (fun K hK => ?_) 
        · go_simp
          refine hK.out _ _ (HK.out _ hI.1.new9.1) (fun hHeld => wpAnyH_cast ?_ ?_ (i_tff _ g10 g11 _ ⟨hI.1.new9, hI.2.1.run (below_new _ _), (fun _ => off_new hI.2.1.late), hI.2.2.2.1, hI.2.2.2.2⟩ hHeld))
          · kernel_rfl
          · simp only [pI, Act.put, List.setIfInBounds_toArray, List.set_cons_zero, List.set_cons_succ]
        · go_simp
          refine hK.out _ _ (HK.out _ hI.1.new10.1) (fun hHeld => wpAnyH_cast ?_ ?_ (i_ftf g9 _ g11 _ ⟨hI.1.new10, hI.2.1.run (below_new _ _), hI.2.2.1, (fun _ => off_new hI.2.1.late), hI.2.2.2.2⟩ hHeld))
          · kernel_rfl
          · simp only [pI, Act.put, List.setIfInBounds_toArray, List.set_cons_zero, List.set_cons_succ]
        · go_simp
          refine hK.out _ _ (HK.out _ hI.1.new11.1) (fun hHeld => wpAnyH_cast ?_ ?_ (i_fft g9 g10 _ _ ⟨hI.1.new11, hI.2.1.run (below_new _ _), hI.2.2.1, hI.2.2.2.1, (fun _ => off_new hI.2.1.late)⟩ hHeld))
          · kernel_rfl
          · simp only [pI, Act.put, List.setIfInBounds_toArray, List.set_cons_zero, List.set_cons_succ]
    case h1 =>
      rintro ⟨a9, c9⟩ T2
      refine grs_of ?_ ?_ ?_ ?_ ?_ ?_ ?_ ?_
      · intro g9 g10 g11 w' hI hS
        simp only [sI, pI, Act.put, List.setIfInBounds_toArray, List.set_cons_zero, List.set_cons_succ]
        refine any_1 (i := 6) (by kernel_rfl) rfl (fun K hK => ?_) 
        · go_simp
          (go_at_call 8; refine (C3H.out _ _ _ hI.2 hI.1.1).mono ?_; rintro e u2 ⟨d3, f3, l3, o1, e1, o2, e2, o3, e3, rfl, hask, hout, hb22⟩)
          refine hK.out _ _ (HK.out _ (below_run hI.1.1 hb22)) (fun hHeld => ?_)
          clear hK K
          (try simp only [Act.put, List.setIfInBounds_toArray, List.set_cons_zero, List.set_cons_succ])
          (refine wpAnyH_take (i := 7) (oi := _) (v := ?_) rfl (by kernel_rfl) (by kernel_rfl) (by kernel_rfl) (fun _ _ _ h => h) (Or.inl ⟨by rfl, ?_⟩) (by assumption) ?_; rotate_left; (focus (intro w' hSw; (try dsimp only at hSw); go_simp; (try with_reducible rfl); done)); (try simp only [Act.put, List.setIfInBounds_toArray, List.set_cons_zero, List.set_cons_succ, List.getElem_toArray, List.getElem_cons_succ, List.getElem_cons_zero]))
          (refine wpAnyH_take (i := 8) (oi := _) (v := ?_) rfl (by kernel_rfl) (by kernel_rfl) (by kernel_rfl) (fun _ _ _ h => h) (Or.inl ⟨by rfl, ?_⟩) (by assumption) ?_; rotate_left; (focus (intro w' hSw; (try dsimp only at hSw); go_simp; (try with_reducible rfl); done)); (try simp only [Act.put, List.setIfInBounds_toArray, List.set_cons_zero, List.set_cons_succ, List.getElem_toArray, List.getElem_cons_succ, List.getElem_cons_zero]))
          (refine wpAnyH_take (i := 9) (oi := _) (v := ?_) rfl (by kernel_rfl) (by kernel_rfl) (by kernel_rfl) (fun _ _ _ h => h) (Or.inl ⟨by rfl, ?_⟩) (by assumption) ?_; rotate_left; (focus (intro w' hSw; (try dsimp only at hSw); go_simp; (try with_reducible rfl); done)); (try simp only [Act.put, List.setIfInBounds_toArray, List.set_cons_zero, List.set_cons_succ, List.getElem_toArray, List.getElem_cons_succ, List.getElem_cons_zero]))
          (refine wpAnyH_take (i := 10) (oi := _) (v := ?_) rfl (by kernel_rfl) (by kernel_rfl) (by kernel_rfl) (fun _ _ _ h => h) (Or.inl ⟨by rfl, ?_⟩) (by assumption) ?_; rotate_left; (focus (intro w' hSw; (try dsimp only at hSw); go_simp; (try with_reducible rfl); done)); (try simp only [Act.put, List.setIfInBounds_toArray, List.set_cons_zero, List.set_cons_succ, List.getElem_toArray, List.getElem_cons_succ, List.getElem_cons_zero]))
          (refine wpAnyH_take (i := 11) (oi := _) (v := ?_) rfl (by kernel_rfl) (by kernel_rfl) (by kernel_rfl) (fun _ _ _ h => h) (Or.inl ⟨by rfl, ?_⟩) (by assumption) ?_; rotate_left; (focus (intro w' hSw; (try dsimp only at hSw); go_simp; (try with_reducible rfl); done)); (try simp only [Act.put, List.setIfInBounds_toArray, List.set_cons_zero, List.set_cons_succ, List.getElem_toArray, List.getElem_cons_succ, List.getElem_cons_zero]))
          refine wpAnyH_cast ?_ ?_ ((T2 (d3, f3, l3, o1, e1, o2, e2, o3, e3)).ttt g9 g10 g11 _ ⟨hI.1.run hb22, hask, offs_of hI.1 hz0 hout⟩ hHeld)
          · kernel_rfl
          · simp only [pI, Act.put, List.setIfInBounds_toArray, List.set_cons_zero, List.set_cons_succ]
      · intro i_ttt
        intro g9 g10 g11 w' hI hS
        simp only [sI, pI, Act.put, List.setIfInBounds_toArray, List.set_cons_zero, List.set_cons_succ]
        refine any_2 (i := 6) (j := 12) (by kernel_rfl) rfl rfl (fun K hK => ?_) (fun K hK => ?_) 
        · go_simp
          (go_at_call 8; refine (C3H.out _ _ _ hI.2 hI.1.1).mono ?_; rintro e u2 ⟨d3, f3, l3, o1, e1, o2, e2, o3, e3, rfl, hask, hout, hb22⟩)
          refine hK.out _ _ (HK.out _ (below_run hI.1.1 hb22)) (fun hHeld => ?_)
          clear hK K
          (try simp only [Act.put, List.setIfInBounds_toArray, List.set_cons_zero, List.set_cons_succ])
          (refine wpAnyH_take (i := 7) (oi := _) (v := ?_) rfl (by kernel_rfl) (by kernel_rfl) (by kernel_rfl) (fun _ _ _ h => h) (Or.inl ⟨by rfl, ?_⟩) (by assumption) ?_; rotate_left; (focus (intro w' hSw; (try dsimp only at hSw); go_simp; (try with_reducible rfl); done)); (try simp only [Act.put, List.setIfInBounds_toArray, List.set_cons_zero, List.set_cons_succ, List.getElem_toArray, List.getElem_cons_succ, List.getElem_cons_zero]))
          (refine wpAnyH_take (i := 8) (oi := _) (v := ?_) rfl (by kernel_rfl) (by kernel_rfl) (by kernel_rfl) (fun _ _ _ h => h) (Or.inl ⟨by rfl, ?_⟩) (by assumption) ?_; rotate_left; (focus (intro w' hSw; (try dsimp only at hSw); go_simp; (try with_reducible rfl); done)); (try simp only [Act.put, List.setIfInBounds_toArray, List.set_cons_zero, List.set_cons_succ, List.getElem_toArray, List.getElem_cons_succ, List.getElem_cons_zero]))
          (refine wpAnyH_take (i := 9) (oi := _) (v := ?_) rfl (by kernel_rfl) (by kernel_rfl) (by kernel_rfl) (fun _ _ _ h => h) (Or.inl ⟨by rfl, ?_⟩) (by assumption) ?_; rotate_left; (focus (intro w' hSw; (try dsimp only at hSw); go_simp; (try with_reducible rfl); done)); (try simp only [Act.put, List.setIfInBounds_toArray, List.set_cons_zero, List.set_cons_succ, List.getElem_toArray, List.getElem_cons_succ, List.getElem_cons_zero]))
          (refine wpAnyH_take (i := 10) (oi := _) (v := ?_) rfl (by kernel_rfl) (by kernel_rfl) (by kernel_rfl) (fun _ _ _ h => h) (Or.inl ⟨by rfl, ?_⟩) (by assumption) ?_; rotate_left; (focus (intro w' hSw; (try dsimp only at hSw); go_simp; (try with_reducible rfl); done)); (try simp only [Act.put, List.setIfInBounds_toArray, List.set_cons_zero, List.set_cons_succ, List.getElem_toArray, List.getElem_cons_succ, List.getElem_cons_zero]))
          (refine wpAnyH_take (i := 11) (oi := _) (v := ?_) rfl (by kernel_rfl) (by kernel_rfl) (by kernel_rfl) (fun _ _ _ h => h) (Or.inl ⟨by rfl, ?_⟩) (by assumption) ?_; rotate_left; (focus (intro w' hSw; (try dsimp only at hSw); go_simp; (try with_reducible rfl); done)); (try simp only [Act.put, List.setIfInBounds_toArray, List.set_cons_zero, List.set_cons_succ, List.getElem_toArray, List.getElem_cons_succ, List.getElem_cons_zero]))
          refine wpAnyH_cast ?_ ?_ ((T2 (d3, f3, l3, o1, e1, o2, e2, o3, e3)).ftt g9 g10 g11 _ ⟨hI.1.run hb22, hask, offs_of hI.1 hz0 hout⟩ hHeld)
          · kernel_rfl
          · simp only [pI, Act.put, List.setIfInBounds_toArray, List.set_cons_zero, List.set_cons_succ]
        · go_simp
          refine hK.out _ _ (HK.out _ hI.1.new9.1) (fun hHeld => wpAnyH_cast ?_ ?_ (i_ttt _ g10 g11 _ ⟨hI.1.new9, hI.2.run (below_new _ _)⟩ hHeld))
          · kernel_rfl
          · simp only [pI, Act.put, List.setIfInBounds_toArray, List.set_cons_zero, List.set_cons_succ]
      · intro i_ttt
        intro g9 g10 g11 w' hI hS
        simp only [sI, pI, Act.put, List.setIfInBounds_toArray, List.set_cons_zero, List.set_cons_succ]
        refine any_2 (i := 6) (j := 13) (by kernel_rfl) rfl rfl (fun K hK => ?_) (fun K hK => ?_) 
        · go_simp
          (go_at_call 8; refine (C3H.out _ _ _ hI.2 hI.1.1).mono ?_; rintro e u2 ⟨d3, f3, l3, o1, e1, o2, e2, o3, e3, rfl, hask, hout, hb22⟩)
          refine hK.out _ _ (HK.out _ (below_run hI.1.1 hb22)) (fun hHeld => ?_)
          clear hK K
          (try simp only [Act.put, List.setIfInBounds_toArray, List.set_cons_zero, List.set_cons_succ])
          (refine wpAnyH_take (i := 7) (oi := _) (v := ?_) rfl (by kernel_rfl) (by kernel_rfl) (by kernel_rfl) (fun _ _ _ h => h) (Or.inl ⟨by rfl, ?_⟩) (by assumption) ?_; rotate_left; (focus (intro w' hSw; (try dsimp only at hSw); go_simp; (try with_reducible rfl); done)); (try simp only [Act.put, List.setIfInBounds_toArray, List.set_cons_zero, List.set_cons_succ, List.getElem_toArray, List.getElem_cons_succ, List.getElem_cons_zero]))
          (refine wpAnyH_take (i := 8) (oi := _) (v := ?_) rfl (by kernel_rfl) (by kernel_rfl) (by kernel_rfl) (fun _ _ _ h => h) (Or.inl ⟨by rfl, ?_⟩) (by assumption) ?_; rotate_left; (focus (intro w' hSw; (try dsimp only at hSw); go_simp; (try with_reducible rfl); done)); (try simp only [Act.put, List.setIfInBounds_toArray, List.set_cons_zero, List.set_cons_succ, List.getElem_toArray, List.getElem_cons_succ, List.getElem_cons_zero]))
          (refine wpAnyH_take (i := 9) (oi := _) (v := ?_) rfl (by kernel_rfl) (by kernel_rfl) (by kernel_rfl) (fun _ _ _ h => h) (Or.inl ⟨by rfl, ?_⟩) (by assumption) ?_; rotate_left; (focus (intro w' hSw; (try dsimp only at hSw); go_simp; (try with_reducible rfl); done)); (try simp only [Act.put, List.setIfInBounds_toArray, List.set_cons_zero, List.set_cons_succ, List.getElem_toArray, List.getElem_cons_succ, List.getElem_cons_zero]))
          (refine wpAnyH_take (i := 10) (oi := _) (v := ?_) rfl (by kernel_rfl) (by kernel_rfl) (by kernel_rfl) (fun _ _ _ h => h) (Or.inl ⟨by rfl, ?_⟩) (by assumption) ?_; rotate_left; (focus (intro w' hSw; (try dsimp only at hSw); go_simp; (try with_reducible rfl); done)); (try simp only [Act.put, List.setIfInBounds_toArray, List.set_cons_zero, List.set_cons_succ, List.getElem_toArray, List.getElem_cons_succ, List.getElem_cons_zero]))
          (refine wpAnyH_take (i := 11) (oi := _) (v := ?_) rfl (by kernel_rfl) (by kernel_rfl) (by kernel_rfl) (fun _ _ _ h => h) (Or.inl ⟨by rfl, ?_⟩) (by assumption) ?_; rotate_left; (focus (intro w' hSw; (try dsimp only at hSw); go_simp; (try with_reducible rfl); done)); (try simp only [Act.put, List.setIfInBounds_toArray, List.set_cons_zero, List.set_cons_succ, List.getElem_toArray, List.getElem_cons_succ, List.getElem_cons_zero]))
          refine wpAnyH_cast ?_ ?_ ((T2 (d3, f3, l3, o1, e1, o2, e2, o3, e3)).tft g9 g10 g11 _ ⟨hI.1.run hb22, hask, offs_of hI.1 hz0 hout⟩ hHeld)
          · kernel_rfl
          · simp only [pI, Act.put, List.setIfInBounds_toArray, List.set_cons_zero, List.set_cons_succ]
        · go_simp
          refine hK.out _ _ (HK.out _ hI.1.new10.1) (fun hHeld => wpAnyH_cast ?_ ?_ (i_ttt g9 _ g11 _ ⟨hI.1.new10, hI.2.run (below_new _ _)⟩ hHeld))
          · kernel_rfl
          · simp only [pI, Act.put, List.setIfInBounds_toArray, List.set_cons_zero, List.set_cons_succ]
      · intro i_ttt
        intro g9 g10 g11 w' hI hS
        simp only [sI, pI, Act.put, List.setIfInBounds_toArray, List.set_cons_zero, List.set_cons_succ]
        refine any_2 (i := 6) (j := 14) (by kernel_rfl) rfl rfl (fun K hK => ?_) (fun K hK => ?_) 
        · go_simp
          (go_at_call 8; refine (C3H.out _ _ _ hI.2 hI.1.1).mono ?_; rintro e u2 ⟨d3, f3, l3, o1, e1, o2, e2, o3, e3, rfl, hask, hout, hb22⟩)
          refine hK.out _ _ (HK.out _ (below_run hI.1.1 hb22)) (fun hHeld => ?_)
          clear hK K
          (try simp only [Act.put, List.setIfInBounds_toArray, List.set_cons_zero, List.set_cons_succ])
          (refine wpAnyH_take (i := 7) (oi := _) (v := ?_) rfl (by kernel_rfl) (by kernel_rfl) (by kernel_rfl) (fun _ _ _ h => h) (Or.inl ⟨by rfl, ?_⟩) (by assumption) ?_; rotate_left; (focus (intro w' hSw; (try dsimp only at hSw); go_simp; (try with_reducible rfl); done)); (try simp only [Act.put, List.setIfInBounds_toArray, List.set_cons_zero, List.set_cons_succ, List.getElem_toArray, List.getElem_cons_succ, List.getElem_cons_zero]))
          (refine wpAnyH_take (i := 8) (oi := _) (v := ?_) rfl (by kernel_rfl) (by kernel_rfl) (by kernel_rfl) (fun _ _ _ h => h) (Or.inl ⟨by rfl, ?_⟩) (by assumption) ?_; rotate_left; (focus (intro w' hSw; (try dsimp only at hSw); go_simp; (try with_reducible rfl); done)); (try simp only [Act.put, List.setIfInBounds_toArray, List.set_cons_zero, List.set_cons_succ, List.getElem_toArray, List.getElem_cons_succ, List.getElem_cons_zero]))
          (refine wpAnyH_take (i := 9) (oi := _) (v := ?_) rfl (by kernel_rfl) (by kernel_rfl) (by kernel_rfl) (fun _ _ _ h => h) (Or.inl ⟨by rfl, ?_⟩) (by assumption) ?_; rotate_left; (focus (intro w' hSw; (try dsimp only at hSw); go_simp; (try with_reducible rfl); done)); (try simp only [Act.put, List.setIfInBounds_toArray, List.set_cons_zero, List.set_cons_succ, List.getElem_toArray, List.getElem_cons_succ, List.getElem_cons_zero]))
          (refine wpAnyH_take (i := 10) (oi := _) (v := ?_) rfl (by kernel_rfl) (by kernel_rfl) (by kernel_rfl) (fun _ _ _ h => h) (Or.inl ⟨by rfl, ?_⟩) (by assumption) ?_; rotate_left; (focus (intro w' hSw; (try dsimp only at hSw); go_simp; (try with_reducible rfl); done)); (try simp only [Act.put, List.setIfInBounds_toArray, List.set_cons_zero, List.set_cons_succ, List.getElem_toArray, List.getElem_cons_succ, List.getElem_cons_zero]))
          (refine wpAnyH_take (i := 11) (oi := _) (v := ?_) rfl (by kernel_rfl) (by kernel_rfl) (by kernel_rfl) (fun _ _ _ h => h) (Or.inl ⟨by rfl, ?_⟩) (by assumption) ?_; rotate_left; (focus (intro w' hSw; (try dsimp only at hSw); go_simp; (try with_reducible rfl); done)); (try simp only [Act.put, List.setIfInBounds_toArray, List.set_cons_zero, List.set_cons_succ, List.getElem_toArray, List.getElem_cons_succ, List.getElem_cons_zero]))
          refine wpAnyH_cast ?_ ?_ ((T2 (d3, f3, l3, o1, e1, o2, e2, o3, e3)).ttf g9 g10 g11 _ ⟨hI.1.run hb22, hask, offs_of hI.1 hz0 hout⟩ hHeld)
          · kernel_rfl
          · simp only [pI, Act.put, List.setIfInBounds_toArray, List.set_cons_zero, List.set_cons_succ]
        · go_simp
          refine hK.out _ _ (HK.out _ hI.1.new11.1) (fun hHeld => wpAnyH_cast ?_ ?_ (i_ttt g9 g10 _ _ ⟨hI.1.new11, hI.2.run (below_new _ _)⟩ hHeld))
          · kernel_rfl
          · simp only [pI, Act.put, List.setIfInBounds_toArray, List.set_cons_zero, List.set_cons_succ]
      · intro i_tft i_ftt
        intro g9 g10 g11 w' hI hS
        simp only [sI, pI, Act.put, List.setIfInBounds_toArray, List.set_cons_zero, List.set_cons_succ]
        refine any_3 (i := 6) (j := 12) (k := 13) (by kernel_rfl) rfl rfl rfl (fun K hK => ?_) (fun K hK => ?_) (fun K hK => ?_) 
        · go_simp
          (go_at_call 8; refine (C3H.out _ _ _ hI.2 hI.1.1).mono ?_; rintro e u2 ⟨d3, f3, l3, o1, e1, o2, e2, o3, e3, rfl, hask, hout, hb22⟩)
          refine hK.out _ _ (HK.out _ (below_run hI.1.1 hb22)) (fun hHeld => ?_)
          clear hK K
          (try simp only [Act.put, List.setIfInBounds_toArray, List.set_cons_zero, List.set_cons_succ])
          (refine wpAnyH_take (i := 7) (oi := _) (v := ?_) rfl (by kernel_rfl) (by kernel_rfl) (by kernel_rfl) (fun _ _ _ h => h) (Or.inl ⟨by rfl, ?_⟩) (by assumption) ?_; rotate_left; (focus (intro w' hSw; (try dsimp only at hSw); go_simp; (try with_reducible rfl); done)); (try simp only [Act.put, List.setIfInBounds_toArray, List.set_cons_zero, List.set_cons_succ, List.getElem_toArray, List.getElem_cons_succ, List.getElem_cons_zero]))
          (refine wpAnyH_take (i := 8) (oi := _) (v := ?_) rfl (by kernel_rfl) (by kernel_rfl) (by kernel_rfl) (fun _ _ _ h => h) (Or.inl ⟨by rfl, ?_⟩) (by assumption) ?_; rotate_left; (focus (intro w' hSw; (try dsimp only at hSw); go_simp; (try with_reducible rfl); done)); (try simp only [Act.put, List.setIfInBounds_toArray, List.set_cons_zero, List.set_cons_succ, List.getElem_toArray, List.getElem_cons_succ, List.getElem_cons_zero]))
          (refine wpAnyH_take (i := 9) (oi := _) (v := ?_) rfl (by kernel_rfl) (by kernel_rfl) (by kernel_rfl) (fun _ _ _ h => h) (Or.inl ⟨by rfl, ?_⟩) (by assumption) ?_; rotate_left; (focus (intro w' hSw; (try dsimp only at hSw); go_simp; (try with_reducible rfl); done)); (try simp only [Act.put, List.setIfInBounds_toArray, List.set_cons_zero, List.set_cons_succ, List.getElem_toArray, List.getElem_cons_succ, List.getElem_cons_zero]))
          (refine wpAnyH_take (i := 10) (oi := _) (v := ?_) rfl (by kernel_rfl) (by kernel_rfl) (by kernel_rfl) (fun _ _ _ h => h) (Or.inl ⟨by rfl, ?_⟩) (by assumption) ?_; rotate_left; (focus (intro w' hSw; (try dsimp only at hSw); go_simp; (try with_reducible rfl); done)); (try simp only [Act.put, List.setIfInBounds_toArray, List.set_cons_zero, List.set_cons_succ, List.getElem_toArray, List.getElem_cons_succ, List.getElem_cons_zero]))
          (refine wpAnyH_take (i := 11) (oi := _) (v := ?_) rfl (by kernel_rfl) (by kernel_rfl) (by kernel_rfl) (fun _ _ _ h => h) (Or.inl ⟨by rfl, ?_⟩) (by assumption) ?_; rotate_left; (focus (intro w' hSw; (try dsimp only at hSw); go_simp; (try with_reducible rfl); done)); (try simp only [Act.put, List.setIfInBounds_toArray, List.set_cons_zero, List.set_cons_succ, List.getElem_toArray, List.getElem_cons_succ, List.getElem_cons_zero]))
          refine wpAnyH_cast ?_ ?_ ((T2 (d3, f3, l3, o1, e1, o2, e2, o3, e3)).fft g9 g10 g11 _ ⟨hI.1.run hb22, hask, offs_of hI.1 hz0 hout⟩ hHeld)
          · kernel_rfl
          · simp only [pI, Act.put, List.setIfInBounds_toArray, List.set_cons_zero, List.set_cons_succ]
        · go_simp
          refine hK.out _ _ (HK.out _ hI.1.new9.1) (fun hHeld => wpAnyH_cast ?_ ?_ (i_tft _ g10 g11 _ ⟨hI.1.new9, hI.2.run (below_new _ _)⟩ hHeld))
          · kernel_rfl
          · simp only [pI, Act.put, List.setIfInBounds_toArray, List.set_cons_zero, List.set_cons_succ]
        · go_simp
          refine hK.out _ _ (HK.out _ hI.1.new10.1) (fun hHeld => wpAnyH_cast ?_ ?_ (i_ftt g9 _ g11 _ ⟨hI.1.new10, hI.2.run (below_new _ _)⟩ hHeld))
          · kernel_rfl
          · simp only [pI, Act.put, List.setIfInBounds_toArray, List.set_cons_zero, List.set_cons_succ]
      · intro i_ttf i_ftt
        intro g9 g10 g11 w' hI hS
        simp only [sI, pI, Act.put, List.setIfInBounds_toArray, List.set_cons_zero, List.set_cons_succ]
        refine any_3 (i := 6) (j := 12) (k := 14) (by kernel_rfl) rfl rfl rfl (fun K hK => ?_) (fun K hK => ?_) (fun K hK => ?_) 
        · go_simp
          (go_at_call 8; refine (C3H.out _ _ _ hI.2 hI.1.1).mono ?_; rintro e u2 ⟨d3, f3, l3, o1, e1, o2, e2, o3, e3, rfl, hask, hout, hb22⟩)
          refine hK.out _ _ (HK.out _ (below_run hI.1.1 hb22)) (fun hHeld => ?_)
          clear hK K
          (try simp only [Act.put, List.setIfInBounds_toArray, List.set_cons_zero, List.set_cons_succ])
          (refine wpAnyH_take (i := 7) (oi := _) (v := ?_) rfl (by kernel_rfl) (by kernel_rfl) (by kernel_rfl) (fun _ _ _ h => h) (Or.inl ⟨by rfl, ?_⟩) (by assumption) ?_; rotate_left; (focus (intro w' hSw; (try dsimp only at hSw); go_simp; (try with_reducible rfl); done)); (try simp only [Act.put, List.setIfInBounds_toArray, List.set_cons_zero, List.set_cons_succ, List.getElem_toArray, List.getElem_cons_succ, List.getElem_cons_zero]))
          (refine wpAnyH_take (i := 8) (oi := _) (v := ?_) rfl (by kernel_rfl) (by kernel_rfl) (by kernel_rfl) (fun _ _ _ h => h) (Or.inl ⟨by rfl, ?_⟩) (by assumption) ?_; rotate_left; (focus (intro w' hSw; (try dsimp only at hSw); go_simp; (try with_reducible rfl); done)); (try simp only [Act.put, List.setIfInBounds_toArray, List.set_cons_zero, List.set_cons_succ, List.getElem_toArray, List.getElem_cons_succ, List.getElem_cons_zero]))
          (refine wpAnyH_take (i := 9) (oi := _) (v := ?_) rfl (by kernel_rfl) (by kernel_rfl) (by kernel_rfl) (fun _ _ _ h => h) (Or.inl ⟨by rfl, ?_⟩) (by assumption) ?_; rotate_left; (focus (intro w' hSw; (try dsimp only at hSw); go_simp; (try with_reducible rfl); done)); (try simp only [Act.put, List.setIfInBounds_toArray, List.set_cons_zero, List.set_cons_succ, List.getElem_toArray, List.getElem_cons_succ, List.getElem_cons_zero]))
          (refine wpAnyH_take (i := 10) (oi := _) (v := ?_) rfl (by kernel_rfl) (by kernel_rfl) (by kernel_rfl) (fun _ _ _ h => h) (Or.inl ⟨by rfl, ?_⟩) (by assumption) ?_; rotate_left; (focus (intro w' hSw; (try dsimp only at hSw); go_simp; (try with_reducible rfl); done)); (try simp only [Act.put, List.setIfInBounds_toArray, List.set_cons_zero, List.set_cons_succ, List.getElem_toArray, List.getElem_cons_succ, List.getElem_cons_zero]))
          (refine wpAnyH_take (i := 11) (oi := _) (v := ?_) rfl (by kernel_rfl) (by kernel_rfl) (by kernel_rfl) (fun _ _ _ h => h) (Or.inl ⟨by rfl, ?_⟩) (by assumption) ?_; rotate_left; (focus (intro w' hSw; (try dsimp only at hSw); go_simp; (try with_reducible rfl); done)); (try simp only [Act.put, List.setIfInBounds_toArray, List.set_cons_zero, List.set_cons_succ, List.getElem_toArray, List.getElem_cons_succ, List.getElem_cons_zero]))
          refine wpAnyH_cast ?_ ?_ ((T2 (d3, f3, l3, o1, e1, o2, e2, o3, e3)).ftf g9 g10 g11 _ ⟨hI.1.run hb22, hask, offs_of hI.1 hz0 hout⟩ hHeld)
          · kernel_rfl
          · simp only [pI, Act.put, List.setIfInBounds_toArray, List.set_cons_zero, List.set_cons_succ]
        · go_simp
          refine hK.out _ _ (HK.out _ hI.1.new9.1) (fun hHeld => wpAnyH_cast ?_ ?_ (i_ttf _ g10 g11 _ ⟨hI.1.new9, hI.2.run (below_new _ _)⟩ hHeld))
          · kernel_rfl
          · simp only [pI, Act.put, List.setIfInBounds_toArray, List.set_cons_zero, List.set_cons_succ]
        · go_simp
          refine hK.out _ _ (HK.out _ hI.1.new11.1) (fun hHeld => wpAnyH_cast ?_ ?_ (i_ftt g9 g10 _ _ ⟨hI.1.new11, hI.2.run (below_new _ _)⟩ hHeld))
          · kernel_rfl
          · simp only [pI, Act.put, List.setIfInBounds_toArray, List.set_cons_zero, List.set_cons_succ]
      · intro i_ttf i_tft
        intro g9 g10 g11 w' hI hS
        simp only [sI, pI, Act.put, List.setIfInBounds_toArray, List.set_cons_zero, List.set_cons_succ]
        refine any_3 (i := 6) (j := 13) (k := 14) (by kernel_rfl) rfl rfl rfl (fun K hK => ?_) (fun K hK => ?_) (fun K hK => ?_) 
        · go_simp
          (go_at_call 8; refine (C3H.out _ _ _ hI.2 hI.1.1).mono ?_; rintro e u2 ⟨d3, f3, l3, o1, e1, o2, e2, o3, e3, rfl, hask, hout, hb22⟩)
          refine hK.out _ _ (HK.out _ (below_run hI.1.1 hb22)) (fun hHeld => ?_)
          clear hK K
          (try simp only [Act.put, List.setIfInBounds_toArray, List.set_cons_zero, List.set_cons_succ])
          (refine wpAnyH_take (i := 7) (oi := _) (v := ?_) rfl (by kernel_rfl) (by kernel_rfl) (by kernel_rfl) (fun _ _ _ h => h) (Or.inl ⟨by rfl, ?_⟩) (by assumption) ?_; rotate_left; (focus (intro w' hSw; (try dsimp only at hSw); go_simp; (try with_reducible rfl); done)); (try simp only [Act.put, List.setIfInBounds_toArray, List.set_cons_zero, List.set_cons_succ, List.getElem_toArray, List.getElem_cons_succ, List.getElem_cons_zero]))
          (refine wpAnyH_take (i := 8) (oi := _) (v := ?_) rfl (by kernel_rfl) (by kernel_rfl) (by kernel_rfl) (fun _ _ _ h => h) (Or.inl ⟨by rfl, ?_⟩) (by assumption) ?_; rotate_left; (focus (intro w' hSw; (try dsimp only at hSw); go_simp; (try with_reducible rfl); done)); (try simp only [Act.put, List.setIfInBounds_toArray, List.set_cons_zero, List.set_cons_succ, List.getElem_toArray, List.getElem_cons_succ, List.getElem_cons_zero]))
          (refine wpAnyH_take (i := 9) (oi := _) (v := ?_) rfl (by kernel_rfl) (by kernel_rfl) (by kernel_rfl) (fun _ _ _ h => h) (Or.inl ⟨by rfl, ?_⟩) (by assumption) ?_; rotate_left; (focus (intro w' hSw; (try dsimp only at hSw); go_simp; (try with_reducible rfl); done)); (try simp only [Act.put, List.setIfInBounds_toArray, List.set_cons_zero, List.set_cons_succ, List.getElem_toArray, List.getElem_cons_succ, List.getElem_cons_zero]))
          (refine wpAnyH_take (i := 10) (oi := _) (v := ?_) rfl (by kernel_rfl) (by kernel_rfl) (by kernel_rfl) (fun _ _ _ h => h) (Or.inl ⟨by rfl, ?_⟩) (by assumption) ?_; rotate_left; (focus (intro w' hSw; (try dsimp only at hSw); go_simp; (try with_reducible rfl); done)); (try simp only [Act.put, List.setIfInBounds_toArray, List.set_cons_zero, List.set_cons_succ, List.getElem_toArray, List.getElem_cons_succ, List.getElem_cons_zero]))
          (refine wpAnyH_take (i := 11) (oi := _) (v := ?_) rfl (by kernel_rfl) (by kernel_rfl) (by kernel_rfl) (fun _ _ _ h => h) (Or.inl ⟨by rfl, ?_⟩) (by assumption) ?_; rotate_left; (focus (intro w' hSw; (try dsimp only at hSw); go_simp; (try with_reducible rfl); done)); (try simp only [Act.put, List.setIfInBounds_toArray, List.set_cons_zero, List.set_cons_succ, List.getElem_toArray, List.getElem_cons_succ, List.getElem_cons_zero]))
          refine wpAnyH_cast ?_ ?_ ((T2 (d3, f3, l3, o1, e1, o2, e2, o3, e3)).tff g9 g10 g11 _ ⟨hI.1.run hb22, hask, offs_of hI.1 hz0 hout⟩ hHeld)
          · kernel_rfl
          · simp only [pI, Act.put, List.setIfInBounds_toArray, List.set_cons_zero, List.set_cons_succ]
        · go_simp
          refine hK.out _ _ (HK.out _ hI.1.new10.1) (fun hHeld => wpAnyH_cast ?_ ?_ (i_ttf g9 _ g11 _ ⟨hI.1.new10, hI.2.run (below_new _ _)⟩ hHeld))
          · kernel_rfl
          · simp only [pI, Act.put, List.setIfInBounds_toArray, List.set_cons_zero, List.set_cons_succ]
        · go_simp
          refine hK.out _ _ (HK.out _ hI.1.new11.1) (fun hHeld => wpAnyH_cast ?_ ?_ (i_tft g9 g10 _ _ ⟨hI.1.new11, hI.2.run (below_new _ _)⟩ hHeld))
          · kernel_rfl
          · simp only [pI, Act.put, List.setIfInBounds_toArray, List.set_cons_zero, List.set_cons_succ]
      · intro i_tff i_ftf i_fft
        intro g9 g10 g11 w' hI hS
        simp only [sI, pI, Act.put, List.setIfInBounds_toArray, List.set_cons_zero, List.set_cons_succ]
        refine any_4 (i := 6) (j := 12) (k := 13) (l := 14) (by kernel_rfl) rfl rfl rfl rfl (fun K hK => ?_) (fun K hK => ?_) (fun K hK => ?_) (fun K hK => ?_) 
        · go_simp
          (go_at_call 8; refine (C3H.out _ _ _ hI.2 hI.1.1).mono ?_; rintro e u2 ⟨d3, f3, l3, o1, e1, o2, e2, o3, e3, rfl, hask, hout, hb22⟩)
          refine hK.out _ _ (HK.out _ (below_run hI.1.1 hb22)) (fun hHeld => ?_)
          clear hK K
          (try simp only [Act.put, List.setIfInBounds_toArray, List.set_cons_zero, List.set_cons_succ])
          (refine wpAnyH_take (i := 7) (oi := _) (v := ?_) rfl (by kernel_rfl) (by kernel_rfl) (by kernel_rfl) (fun _ _ _ h => h) (Or.inl ⟨by rfl, ?_⟩) (by assumption) ?_; rotate_left; (focus (intro w' hSw; (try dsimp only at hSw); go_simp; (try with_reducible rfl); done)); (try simp only [Act.put, List.setIfInBounds_toArray, List.set_cons_zero, List.set_cons_succ, List.getElem_toArray, List.getElem_cons_succ, List.getElem_cons_zero]))
          (refine wpAnyH_take (i := 8) (oi := _) (v := ?_) rfl (by kernel_rfl) (by kernel_rfl) (by kernel_rfl) (fun _ _ _ h => h) (Or.inl ⟨by rfl, ?_⟩) (by assumption) ?_; rotate_left; (focus (intro w' hSw; (try dsimp only at hSw); go_simp; (try with_reducible rfl); done)); (try simp only [Act.put, List.setIfInBounds_toArray, List.set_cons_zero, List.set_cons_succ, List.getElem_toArray, List.getElem_cons_succ, List.getElem_cons_zero]))
          (refine wpAnyH_take (i := 9) (oi := _) (v := ?_) rfl (by kernel_rfl) (by kernel_rfl) (by kernel_rfl) (fun _ _ _ h => h) (Or.inl ⟨by rfl, ?_⟩) (by assumption) ?_; rotate_left; (focus (intro w' hSw; (try dsimp only at hSw); go_simp; (try with_reducible rfl); done)); (try simp only [Act.put, List.setIfInBounds_toArray, List.set_cons_zero, List.set_cons_succ, List.getElem_toArray, List.getElem_cons_succ, List.getElem_cons_zero]))
          (refine wpAnyH_take (i := 10) (oi := _) (v := ?_) rfl (by kernel_rfl) (by kernel_rfl) (by kernel_rfl) (fun _ _ _ h => h) (Or.inl ⟨by rfl, ?_⟩) (by assumption) ?_; rotate_left; (focus (intro w' hSw; (try dsimp only at hSw); go_simp; (try with_reducible rfl); done)); (try simp only [Act.put, List.setIfInBounds_toArray, List.set_cons_zero, List.set_cons_succ, List.getElem_toArray, List.getElem_cons_succ, List.getElem_cons_zero]))
          (refine wpAnyH_take (i := 11) (oi := _) (v := ?_) rfl (by kernel_rfl) (by kernel_rfl) (by kernel_rfl) (fun _ _ _ h => h) (Or.inl ⟨by rfl, ?_⟩) (by assumption) ?_; rotate_left; (focus (intro w' hSw; (try dsimp only at hSw); go_simp; (try with_reducible rfl); done)); (try simp only [Act.put, List.setIfInBounds_toArray, List.set_cons_zero, List.set_cons_succ, List.getElem_toArray, List.getElem_cons_succ, List.getElem_cons_zero]))
          refine wpAnyH_cast ?_ ?_ ((T2 (d3, f3, l3, o1, e1, o2, e2, o3, e3)).fff g9 g10 g11 _ ⟨hI.1.run hb22, hask, offs_of hI.1 hz0 hout⟩ hHeld)
          · kernel_rfl
          · simp only [pI, Act.put, List.setIfInBounds_toArray, List.set_cons_zero, List.set_cons_succ]
        · go_simp
          refine hK.out _ _ (HK.out _ hI.1.new9.1) (fun hHeld => wpAnyH_cast ?_ ?_ (i_tff _ g10 g11 _ ⟨hI.1.new9, hI.2.run (below_new _ _)⟩ hHeld))
          · kernel_rfl
          · simp only [pI, Act.put, List.setIfInBounds_toArray, List.set_cons_zero, List.set_cons_succ]
        · go_simp
          refine hK.out _ _ (HK.out _ hI.1.new10.1) (fun hHeld => wpAnyH_cast ?_ ?_ (i_ftf g9 _ g11 _ ⟨hI.1.new10, hI.2.run (below_new _ _)⟩ hHeld))
          · kernel_rfl
          · simp only [pI, Act.put, List.setIfInBounds_toArray, List.set_cons_zero, List.set_cons_succ]
        · go_simp
          refine hK.out _ _ (HK.out _ hI.1.new11.1) (fun hHeld => wpAnyH_cast ?_ ?_ (i_fft g9 g10 _ _ ⟨hI.1.new11, hI.2.run (below_new _ _)⟩ hHeld))
          · kernel_rfl
          · simp only [pI, Act.put, List.setIfInBounds_toArray, List.set_cons_zero, List.set_cons_succ]
    case h0 =>
      intro T1
      refine grs_of ?_ ?_ ?_ ?_ ?_ ?_ ?_ ?_
      · intro g9 g10 g11 w' hI hS
        simp only [sI, pI, Act.put, List.setIfInBounds_toArray, List.set_cons_zero, List.set_cons_succ]
        refine any_1 (i := 4) (by kernel_rfl) rfl (fun K hK => ?_) 
        · go_simp
          (go_at_call 9; refine (CO.out _ hI.1).mono ?_; rintro e u1 ⟨a9, c9, rfl, hv9, hb9⟩)
          refine hK.out _ _ (HK.out _ (below_run hI.1 hb9)) (fun hHeld => wpAnyH_cast ?_ ?_ ((T1 (a9, c9)).ttt g9 g10 g11 _ ⟨hI.run hb9, hv9⟩ hHeld))
          · kernel_rfl
          · simp only [pI, Act.put, List.setIfInBounds_toArray, List.set_cons_zero, List.set_cons_succ]
      · intro i_ttt
        intro g9 g10 g11 w' hI hS
        simp only [sI, pI, Act.put, List.setIfInBounds_toArray, List.set_cons_zero, List.set_cons_succ]
        refine any_2 (i := 4) (j := 12) (by kernel_rfl) rfl rfl (fun K hK => ?_) (fun K hK => ?_) 
        · go_simp
          (go_at_call 9; refine (CO.out _ hI.1).mono ?_; rintro e u1 ⟨a9, c9, rfl, hv9, hb9⟩)
          refine hK.out _ _ (HK.out _ (below_run hI.1 hb9)) (fun hHeld => wpAnyH_cast ?_ ?_ ((T1 (a9, c9)).ftt g9 g10 g11 _ ⟨hI.run hb9, hv9⟩ hHeld))
          · kernel_rfl
          · simp only [pI, Act.put, List.setIfInBounds_toArray, List.set_cons_zero, List.set_cons_succ]
        · go_simp
          refine hK.out _ _ (HK.out _ hI.new9.1) (fun hHeld => wpAnyH_cast ?_ ?_ (i_ttt _ g10 g11 _ (hI.new9) hHeld))
          · kernel_rfl
          · simp only [pI, Act.put, List.setIfInBounds_toArray, List.set_cons_zero, List.set_cons_succ]
      · intro i_ttt
        intro g9 g10 g11 w' hI hS
        simp only [sI, pI, Act.put, List.setIfInBounds_toArray, List.set_cons_zero, List.set_cons_succ]
        refine any_2 (i := 4) (j := 13) (by kernel_rfl) rfl rfl (fun K hK => ?_) (fun K hK => ?_) 
        · go_simp
          (go_at_call 9; refine (CO.out _ hI.1).mono ?_; rintro e u1 ⟨a9, c9, rfl, hv9, hb9⟩)
          refine hK.out _ _ (HK.out _ (below_run hI.1 hb9)) (fun hHeld => wpAnyH_cast ?_ ?_ ((T1 (a9, c9)).tft g9 g10 g11 _ ⟨hI.run hb9, hv9⟩ hHeld))
          · kernel_rfl
          · simp only [pI, Act.put, List.setIfInBounds_toArray, List.set_cons_zero, List.set_cons_succ]
        · go_simp
          refine hK.out _ _ (HK.out _ hI.new10.1) (fun hHeld => wpAnyH_cast ?_ ?_ (i_ttt g9 _ g11 _ (hI.new10) hHeld))
          · kernel_rfl
          · simp only [pI, Act.put, List.setIfInBounds_toArray, List.set_cons_zero, List.set_cons_succ]
      · intro i_ttt
        intro g9 g10 g11 w' hI hS
        simp only [sI, pI, Act.put, List.setIfInBounds_toArray, List.set_cons_zero, List.set_cons_succ]
        refine any_2 (i := 4) (j := 14) (by kernel_rfl) rfl rfl (fun K hK => ?_) (fun K hK => ?_) 
        · go_simp
          (go_at_call 9; refine (CO.out _ hI.1).mono ?_; rintro e u1 ⟨a9, c9, rfl, hv9, hb9⟩)
          refine hK.out _ _ (HK.out _ (below_run hI.1 hb9)) (fun hHeld => wpAnyH_cast ?_ ?_ ((T1 (a9, c9)).ttf g9 g10 g11 _ ⟨hI.run hb9, hv9⟩ hHeld))
          · kernel_rfl
          · simp only [pI, Act.put, List.setIfInBounds_toArray, List.set_cons_zero, List.set_cons_succ]
        · go_simp
          refine hK.out _ _ (HK.out _ hI.new11.1) (fun hHeld => wpAnyH_cast ?_ ?_ (i_ttt g9 g10 _ _ (hI.new11) hHeld))
          · kernel_rfl
          · simp only [pI, Act.put, List.setIfInBounds_toArray, List.set_cons_zero, List.set_cons_succ]
      · intro i_tft i_ftt
        intro g9 g10 g11 w' hI hS
        simp only [sI, pI, Act.put, List.setIfInBounds_toArray, List.set_cons_zero, List.set_cons_succ]
        refine any_3 (i := 4) (j := 12) (k := 13) (by kernel_rfl) rfl rfl rfl (fun K hK => ?_) (fun K hK => ?_) (fun K hK => ?_) 
        · go_simp
          (go_at_call 9; refine (CO.out _ hI.1).mono ?_; rintro e u1 ⟨a9, c9, rfl, hv9, hb9⟩)
          refine hK.out _ _ (HK.out _ (below_run hI.1 hb9)) (fun hHeld => wpAnyH_cast ?_ ?_ ((T1 (a9, c9)).fft g9 g10 g11 _ ⟨hI.run hb9, hv9⟩ hHeld))
          · kernel_rfl
          · simp only [pI, Act.put, List.setIfInBounds_toArray, List.set_cons_zero, List.set_cons_succ]
        · go_simp
          refine hK.out _ _ (HK.out _ hI.new9.1) (fun hHeld => wpAnyH_cast ?_ ?_ (i_tft _ g10 g11 _ (hI.new9) hHeld))
          · kernel_rfl
          · simp only [pI, Act.put, List.setIfInBounds_toArray, List.set_cons_zero, List.set_cons_succ]
        · go_simp
          refine hK.out _ _ (HK.out _ hI.new10.1) (fun hHeld => wpAnyH_cast ?_ ?_ (i_ftt g9 _ g11 _ (hI.new10) hHeld))
          · kernel_rfl
          · simp only [pI, Act.put, List.setIfInBounds_toArray, List.set_cons_zero, List.set_cons_succ]
      · intro i_ttf i_ftt
        intro g9 g10 g11 w' hI hS
        simp only [sI, pI, Act.put, List.setIfInBounds_toArray, List.set_cons_zero, List.set_cons_succ]
        refine any_3 (i := 4) (j := 12) (k := 14) (by kernel_rfl) rfl rfl rfl (fun K hK => ?_) (fun K hK => ?_) (fun K hK => ?_) 
        · go_simp
          (go_at_call 9; refine (CO.out _ hI.1).mono ?_; rintro e u1 ⟨a9, c9, rfl, hv9, hb9⟩)
          refine hK.out _ _ (HK.out _ (below_run hI.1 hb9)) (fun hHeld => wpAnyH_cast ?_ ?_ ((T1 (a9, c9)).ftf g9 g10 g11 _ ⟨hI.run hb9, hv9⟩ hHeld))
          · kernel_rfl
          · simp only [pI, Act.put, List.setIfInBounds_toArray, List.set_cons_zero, List.set_cons_succ]
        · go_simp
          refine hK.out _ _ (HK.out _ hI.new9.1) (fun hHeld => wpAnyH_cast ?_ ?_ (i_ttf _ g10 g11 _ (hI.new9) hHeld))
          · kernel_rfl
          · simp only [pI, Act.put, List.setIfInBounds_toArray, List.set_cons_zero, List.set_cons_succ]
        · go_simp
          refine hK.out _ _ (HK.out _ hI.new11.1) (fun hHeld => wpAnyH_cast ?_ ?_ (i_ftt g9 g10 _ _ (hI.new11) hHeld))
          · kernel_rfl
          · simp only [pI, Act.put, List.setIfInBounds_toArray, List.set_cons_zero, List.set_cons_succ]
      · intro i_ttf i_tft
        intro g9 g10 g11 w' hI hS
        simp only [sI, pI, Act.put, List.setIfInBounds_toArray, List.set_cons_zero, List.set_cons_succ]
        refine any_3 (i := 4) (j := 13) (k := 14) (by kernel_rfl) rfl rfl rfl (fun K hK => ?_) (fun K hK => ?_) (fun K hK => ?_) 
        · go_simp
          (go_at_call 9; refine (CO.out _ hI.1).mono ?_; rintro e u1 ⟨a9, c9, rfl, hv9, hb9⟩)
          refine hK.out _ _ (HK.out _ (below_run hI.1 hb9)) (fun hHeld => wpAnyH_cast ?_ ?_ ((T1 (a9, c9)).tff g9 g10 g11 _ ⟨hI.run hb9, hv9⟩ hHeld))
          · kernel_rfl
          · simp only [pI, Act.put, List.setIfInBounds_toArray, List.set_cons_zero, List.set_cons_succ]
        · go_simp
          refine hK.out _ _ (HK.out _ hI.new10.1) (fun hHeld => wpAnyH_cast ?_ ?_ (i_ttf g9 _ g11 _ (hI.new10) hHeld))
          · kernel_rfl
          · simp only [pI, Act.put, List.setIfInBounds_toArray, List.set_cons_zero, List.set_cons_succ]
        · go_simp
          refine hK.out _ _ (HK.out _ hI.new11.1) (fun hHeld => wpAnyH_cast ?_ ?_ (i_tft g9 g10 _ _ (hI.new11) hHeld))
          · kernel_rfl
          · simp only [pI, Act.put, List.setIfInBounds_toArray, List.set_cons_zero, List.set_cons_succ]
      · intro i_tff i_ftf i_fft
        intro g9 g10 g11 w' hI hS
        simp only [sI, pI]
        refine any_4 (i := 4) (j := 12) (k := 13) (l := 14) (by kernel_rfl) rfl rfl rfl rfl (fun K hK => ?_) (fun K hK => ?_) (fun K hK => ?_) (fun K hK => ?_) 
        · go_simp
          (go_at_call 9; refine (CO.out _ hI.1).mono ?_; rintro e u1 ⟨a9, c9, rfl, hv9, hb9⟩)
          refine hK.out _ _ (HK.out _ (below_run hI.1 hb9)) (fun hHeld => wpAnyH_cast ?_ ?_ ((T1 (a9, c9)).fff g9 g10 g11 _ ⟨hI.run hb9, hv9⟩ hHeld))
          · kernel_rfl
          · simp only [pI, Act.put, List.setIfInBounds_toArray, List.set_cons_zero, List.set_cons_succ]
        · go_simp
          refine hK.out _ _ (HK.out _ hI.new9.1) (fun hHeld => wpAnyH_cast ?_ ?_ (i_tff _ g10 g11 _ (hI.new9) hHeld))
          · kernel_rfl
          · simp only [pI, Act.put, List.setIfInBounds_toArray, List.set_cons_zero, List.set_cons_succ]
        · go_simp
          refine hK.out _ _ (HK.out _ hI.new10.1) (fun hHeld => wpAnyH_cast ?_ ?_ (i_ftf g9 _ g11 _ (hI.new10) hHeld))
          · kernel_rfl
          · simp only [pI, Act.put, List.setIfInBounds_toArray, List.set_cons_zero, List.set_cons_succ]
        · go_simp
          refine hK.out _ _ (HK.out _ hI.new11.1) (fun hHeld => wpAnyH_cast ?_ ?_ (i_fft g9 g10 _ _ (hI.new11) hHeld))
          · kernel_rfl
          · simp only [pI, Act.put, List.setIfInBounds_toArray, List.set_cons_zero, List.set_cons_succ]
  case rest =>
    obtain ⟨g9, g10, g11, d3, f3, l3, o1, e1, o2, e2, o3, e3, rfl, rfl, rfl, rfl, r9, r10, r11, hwr, hbc⟩ := hcut
    clear m0 m1 m2 m3 m4 m5 m6 m7 m8 m9 hbd
    rename World => X
    have hkeep : ∀ W', Below X.heap.size X W' → (W'.cell? ⟨k5, 0, none⟩ = some (.int .u64 pi) ∧ W'.cell? ⟨k5, 1, none⟩ = some (.int .i64 ps) ∧ W'.cell? ⟨k5, 2, none⟩ = some (.int .i64 pt) ∧ W'.cell? ⟨k5 + 1, 0, none⟩ = some (.slice d1 n1 c1) ∧ W'.cell? ⟨k5 + 1, 1, none⟩ = some (.slice g1 n2 c2) ∧ W'.cell? ⟨k5 + 1, 2, none⟩ = some (.slice l1 n3 c3) ∧ W'.cell? ⟨k5 + 2, 0, none⟩ = some (.int .i64 ak) ∧ W'.cell? ⟨k5 + 2, 1, none⟩ = some (.string ad) ∧ W'.cell? ⟨k5 + 2, 2, none⟩ = some (.int .i64 ar) ∧ W'.cell? ⟨k5 + 2, 3, none⟩ = some (.int .i64 aat) ∧ W'.cell? ⟨g9, 0, none⟩ = some (.int .u64 pi) ∧ W'.cell? ⟨g9, 1, none⟩ = some (.int .i64 ps) ∧ W'.cell? ⟨g9, 2, none⟩ = some (.int .i64 pt) ∧ W'.cell? ⟨g10, 0, none⟩ = some (.slice d3 o1 e1) ∧ W'.cell? ⟨g10, 1, none⟩ = some (.slice f3 o2 e2) ∧ W'.cell? ⟨g10, 2, none⟩ = some (.slice l3 o3 e3) ∧ W'.cell? ⟨g11, 0, none⟩ = some (.int .i64 ak) ∧ W'.cell? ⟨g11, 1, none⟩ = some (.string ad) ∧ W'.cell? ⟨g11, 2, none⟩ = some (.int .i64 ar) ∧ W'.cell? ⟨g11, 3, none⟩ = some (.int .i64 aat)) := by
      intro W' hb
      have hbb := below_run hbc hb
      have a0 := R5.out.run hbb
      have a1 := R6.out.run hbb
      have a2 := R7.out.run hbb
      have a3 := r9.run hb
      have a4 := r10.run hb
      have a5 := r11.run hb
      exact ⟨cell_fact a0 0, cell_fact a0 1, cell_fact a0 2, cell_fact a1 0, cell_fact a1 1, cell_fact a1 2, cell_fact a2 0, cell_fact a2 1, cell_fact a2 2, cell_fact a2 3, cell_fact a3 0, cell_fact a3 1, cell_fact a3 2, cell_fact a4 0, cell_fact a4 1, cell_fact a4 2, cell_fact a5 0, cell_fact a5 1, cell_fact a5 2, cell_fact a5 3⟩
    have HKX := Lib.hid hkeep
    obtain ⟨mm0, mm1, mm2, mm3, mm4, mm5, mm6, mm7, mm8, mm9, mm10, mm11, mm12, mm13, mm14, mm15, mm16, mm17, mm18, mm19⟩ := hkeep X (Below.refl _ _)
    have hbd : Below X.heap.size X X.drew := Below.drew (Below.refl _ _)
    have HWX := Lib.hid (HWZ.out.run hbc)
    have HRX := Lib.hid hwr
    have HBX := Lib.hid (below_run HBZ.out hbc)
    have CO2 := Lib.hid (fun V (hb : Below X.heap.size X V) => wof_any d1 g1 l1 n1 c1 n2 c2 n3 c3 y' V (HWX.out.run hb).at (by have := HYL.out; omega))
    have z1 : (E == E) = true := by simp
    clear hkeep hwr hbc r9 r10 r11 HK HWZ HBZ R5 R6 R7 CO C2H
    go_upto_region 5 with fail
    go_region_held3 (fun w' => w'.cell? ⟨k5, 0, none⟩ = some (.int .u64 pi) ∧ w'.cell? ⟨k5, 1, none⟩ = some (.int .i64 ps) ∧ w'.cell? ⟨k5, 2, none⟩ = some (.int .i64 pt) ∧ w'.cell? ⟨k5 + 1, 0, none⟩ = some (.slice d1 n1 c1) ∧ w'.cell? ⟨k5 + 1, 1, none⟩ = some (.slice g1 n2 c2) ∧ w'.cell? ⟨k5 + 1, 2, none⟩ = some (.slice l1 n3 c3) ∧ w'.cell? ⟨k5 + 2, 0, none⟩ = some (.int .i64 ak) ∧ w'.cell? ⟨k5 + 2, 1, none⟩ = some (.string ad) ∧ w'.cell? ⟨k5 + 2, 2, none⟩ = some (.int .i64 ar) ∧ w'.cell? ⟨k5 + 2, 3, none⟩ = some (.int .i64 aat) ∧ w'.cell? ⟨g9, 0, none⟩ = some (.int .u64 pi) ∧ w'.cell? ⟨g9, 1, none⟩ = some (.int .i64 ps) ∧ w'.cell? ⟨g9, 2, none⟩ = some (.int .i64 pt) ∧ w'.cell? ⟨g10, 0, none⟩ = some (.slice d3 o1 e1) ∧ w'.cell? ⟨g10, 1, none⟩ = some (.slice f3 o2 e2) ∧ w'.cell? ⟨g10, 2, none⟩ = some (.slice l3 o3 e3) ∧ w'.cell? ⟨g11, 0, none⟩ = some (.int .i64 ak) ∧ w'.cell? ⟨g11, 1, none⟩ = some (.string ad) ∧ w'.cell? ⟨g11, 2, none⟩ = some (.int .i64 ar) ∧ w'.cell? ⟨g11, 3, none⟩ = some (.int .i64 aat)) (first | go_keep | exact HKX.out _ (by (repeat' (first | (with_reducible exact Below.refl _ _) | (with_reducible assumption) | (with_reducible refine below_run ?_ (by assumption)) | (with_reducible refine below_of_upd ?_ (by assumption) ?_) | (with_reducible refine below_drewN ?_ _) | (with_reducible refine Below.drew ?_) | (with_reducible refine below_seven ?_ ?_) | (with_reducible refine below_six ?_ ?_) | (with_reducible refine below_one ?_ ?_) | (with_reducible refine Below.alloc ?_ ?_ _) | (with_reducible refine below_after ?_ ?_ (by assumption)) | (show _ ≤ _; first | omega | (simp; done) | (simp; omega))))))
      (first
        | (go_at_call 9; refine (CO2.out _ (by (repeat' (first | (with_reducible exact Below.refl _ _) | (with_reducible assumption) | (with_reducible refine below_run ?_ (by assumption)) | (with_reducible refine below_of_upd ?_ (by assumption) ?_) | (with_reducible refine below_drewN ?_ _) | (with_reducible refine Below.drew ?_) | (with_reducible refine below_seven ?_ ?_) | (with_reducible refine below_six ?_ ?_) | (with_reducible refine below_one ?_ ?_) | (with_reducible refine Below.alloc ?_ ?_ _) | (with_reducible refine below_after ?_ ?_ (by assumption)) | (show _ ≤ _; first | omega | (simp; done) | (simp; omega)))))).mono ?_; rintro e u3 ⟨a7, c7, rfl, hv7, hb7⟩; have hY7 : Below X.heap.size X u3 := (by (repeat' (first | (with_reducible exact Below.refl _ _) | (with_reducible assumption) | (with_reducible refine below_run ?_ (by assumption)) | (with_reducible refine below_of_upd ?_ (by assumption) ?_) | (with_reducible refine below_drewN ?_ _) | (with_reducible refine Below.drew ?_) | (with_reducible refine below_seven ?_ ?_) | (with_reducible refine below_six ?_ ?_) | (with_reducible refine below_one ?_ ?_) | (with_reducible refine Below.alloc ?_ ?_ _) | (with_reducible refine below_after ?_ ?_ (by assumption)) | (show _ ≤ _; first | omega | (simp; done) | (simp; omega))))); have hr7 := HRX.out.run hY7; clear hb7)
        | (go_at_call 10; refine (rsame_any _ _ _ _ _ _ _ _ _ _ _ _ _ _ _ _ _ _ y' _ (by first | exact hv7.r | exact hv7.r.drew) (by first | exact hr7 | exact hr7.drew)).mono ?_; rintro e u4 ⟨rfl, hb8⟩; have hY8 : Below X.heap.size X u4 := below_run hY7 (by first | exact hb8 | exact below_undrew hb8); clear hb8)
        | (go_at_call 6; refine (awake49_any _).mono ?_; rintro e u6 ⟨rfl, hb10⟩; have hY10 : Below X.heap.size X u6 := below_run hY8 (by first | exact hb10 | exact below_undrew hb10); clear hb10))
    all_goals (go_wp2)
    all_goals (go_ret)
    all_goals (exact ⟨rfl, below_run HBX.out hY10⟩)
end Go.Proofs.YtpkhcehddfmhpaaGreat

/-
  The builder: which kinds may follow; panics with any error.
  The builder: the header.
  The builder's readers by kind: a map of method values.
  The closure in Build, at a header.
  The chapter's examples of records.
-/
import Derived.Test.YtjeigphhepngmaaGreatDoorZp
namespace Go.Proofs.YtjeigphhepngmaaGreatDoor
open Go.RowKit

/-- The panic with an error. -/
def BadN (n : Int) : Ending := .panicked [{ v := .iface 200 (.agg #[.int .i64 n]), recovered := false }]

set_option maxHeartbeats 1000000 in
set_option maxRecDepth 100000 in
theorem catch_badN (n : Int) (k : Nat) (older : List PanicEntry) (w : World) (h : RowAt w k 35 #[.int .i64 0]) :
    CallsD Tryz.prog 132 #[.pointer (some ⟨k, 0, none⟩)] (.panicking ({ v := .iface 200 (.agg #[.int .i64 n]), recovered := false } :: older)) w fun e u' w' =>
      e = .returned (.tuple #[]) ∧ u' = .panicking ({ v := .iface 200 (.agg #[.int .i64 n]), recovered := true } :: older) ∧ RowAt w' k 35 #[.int .i64 n] ∧ Upd k w w' := by
  obtain ⟨x1, x2, x3, x4, x5, x6⟩ := row_facts h
  have h1 : RowAt (w.setCell ⟨k, 0, none⟩ (.int .i64 n)) k 35 #[.int .i64 n] := RowAt.set h rfl
  have h2 : RowAt ((w.setCell ⟨k, 0, none⟩ (.int .i64 n)).alloc (.cells #[.int .i64 n] 200)) k 35 #[.int .i64 n] := RowAt.alloc h1 _
  have h3 : Upd k w (w.setCell ⟨k, 0, none⟩ (.int .i64 n)) := upd_set (upd_refl _ _) _ _
  have h4 : Upd k w ((w.setCell ⟨k, 0, none⟩ (.int .i64 n)).alloc (.cells #[.int .i64 n] 200)) := upd_alloc h3 _
  have HS := Lib.hid (And.intro h2 h4)
  clear h1 h2 h3 h4
  clear h
  have hta := as_bad (.agg #[.int .i64 n])
  refine callsD_of_wpS Tryz.func132 rfl fun c₀ cs hu => ?_
  apply wpS_seq
  apply wpS_region
  simp [wpOpsS, go_sem, recoverD, hu, Tryz.ntmps132, Exit.thenS]
  refine wpS_of_wp ?_
  simp only [List.replicate, Array.replicate]
  go_wp2
  exact ⟨rfl, _, rfl, _, results_none rfl _ _ _, rfl, rfl, HS.out.1, HS.out.2⟩

set_option maxHeartbeats 1000000 in
set_option maxRecDepth 100000 in
theorem try_badN (n : Int) (K : Nat) (caps : Array Value) (w : World) (R : World → Prop)
    (hk : ∀ args W, (callFunc K args).run Tryz.prog W = .ok (.enter K args) W)
    (h : Calls Tryz.prog K caps (w.alloc (.cells #[.int .i64 0] 35)) fun e w' => e = BadN n ∧ RowAt w' w.heap.size 35 #[.int .i64 0] ∧ R w')
    : Calls Tryz.prog 49 #[.func (.func K) #[] caps] w fun e w' => e = .returned (.int .i64 n) ∧ ∃ w1, R w1 ∧ Upd w.heap.size w1 w' := by
  have hmf : ∀ (fn : Fn) (first cap : Array Value) (w : World), (Instr.makeFunc fn first cap).run Tryz.prog w = .ok (.func fn first cap) w := fun _ _ _ _ => rfl
  have HC := Lib.hid h
  clear h
  go_enter_defers Tryz.func49, Tryz.ntmps49
  go_wp2_with fail
  refine HC.out.mono ?_
  rintro e w1 ⟨rfl, hr1, hR⟩
  simp only [BadN]
  go_wp2
  refine leaves_cons (f := 132) (args := #[.pointer (some ⟨w.heap.size, 0, none⟩)]) (by simp) (by simp [go_sem]) ?_
  refine (catch_badN n w.heap.size [] _ hr1).mono ?_
  rintro e u' w2 ⟨rfl, rfl, hr2, hu2⟩
  have f0 := cell_h hr2 0
  simp at f0
  exact ⟨_, by simp [results, Tryz.results49, go_sem, f0], rfl, _, hR, hu2⟩

/-- May a record of a kind come behind one of another kind? -/
def folB (b k : Int) : Bool :=
  if b = 0 ∨ k = 1 then decide (b = 0 ∧ k = 1) else if b = 11 then false else if k = 8 then decide (b = 7 ∨ b = 8) else if k = 7 ∧ b = 8 then true else decide (b ≤ k)

set_option maxHeartbeats 1000000 in
set_option maxRecDepth 100000 in
theorem follows_any (b k : Int) (w : World) :
    Calls Tryz.prog 48 #[.int .i64 b, .int .i64 k] w fun e w' => e = .returned (.bool (folB b k)) ∧ w' = w := by
  obtain ⟨r, hr⟩ : ∃ r, folB b k = r := ⟨_, rfl⟩
  rw [hr]
  have HR := Lib.hid hr
  clear hr
  by_cases h1 : b = 0
  · by_cases h2 : k = 1
    · subst h1 h2
      go_enter Tryz.func48, Tryz.ntmps48
      go_wp2
      go_ret
      exact ⟨by rw [← HR.out]; rfl, rfl⟩
    · subst h1
      have h2' : (k == 1) = false := by simpa using h2
      go_enter Tryz.func48, Tryz.ntmps48
      go_wp2
      go_ret
      exact ⟨by rw [← HR.out]; simp [folB, h2], rfl⟩
  · have h1' : (b == 0) = false := by simpa using h1
    by_cases h2 : k = 1
    · subst h2
      go_enter Tryz.func48, Tryz.ntmps48
      go_wp2
      go_ret
      exact ⟨by rw [← HR.out]; simp [folB, h1], rfl⟩
    · have h2' : (k == 1) = false := by simpa using h2
      by_cases h3 : b = 11
      · subst h3
        go_enter Tryz.func48, Tryz.ntmps48
        go_wp2
        go_ret
        exact ⟨by rw [← HR.out]; simp [folB, h2], rfl⟩
      · have h3' : (b == 11) = false := by simpa using h3
        by_cases h4 : k = 8
        · subst h4
          by_cases h5 : b = 7
          · subst h5
            go_enter Tryz.func48, Tryz.ntmps48
            go_wp2
            go_ret
            exact ⟨by rw [← HR.out]; rfl, rfl⟩
          · have h5' : (b == 7) = false := by simpa using h5
            by_cases h6 : b = 8
            · subst h6
              go_enter Tryz.func48, Tryz.ntmps48
              go_wp2
              go_ret
              exact ⟨by rw [← HR.out]; rfl, rfl⟩
            · have h6' : (b == 8) = false := by simpa using h6
              go_enter Tryz.func48, Tryz.ntmps48
              go_wp2
              go_ret
              exact ⟨by rw [← HR.out]; simp [folB, h1, h3, h5, h6], rfl⟩
        · have h4' : (k == 8) = false := by simpa using h4
          by_cases h5 : k = 7
          · subst h5
            by_cases h6 : b = 8
            · subst h6
              go_enter Tryz.func48, Tryz.ntmps48
              go_wp2
              go_ret
              exact ⟨by rw [← HR.out]; rfl, rfl⟩
            · have h6' : (b == 8) = false := by simpa using h6
              go_enter Tryz.func48, Tryz.ntmps48
              go_wp2
              go_ret
              exact ⟨by rw [← HR.out]; simp [folB, h1, h3, h6], rfl⟩
          · have h5' : (k == 7) = false := by simpa using h5
            go_enter Tryz.func48, Tryz.ntmps48
            go_wp2
            go_ret
            exact ⟨by rw [← HR.out]; simp [folB, h1, h2, h3, h4, h5], rfl⟩

end Go.Proofs.YtjeigphhepngmaaGreatDoor

namespace Go.Proofs.YtjeigphhepngmaaGreatDoor
open Go.RowKit

/-- What a method of the builder says: how it ends, the reader, the builder's cells, all else as it was. -/
def HdPost (b B T : Nat) (s : ByteArray) (cs : Array Value) (r : Except Ending (ByteArray × Nat)) (w : World) (e : Ending) (w' : World) : Prop :=
  match r with
  | .ok (t, k) => e = .returned (.tuple #[]) ∧ PRd w' b s k ∧ RowAt w' B T (cs.setIfInBounds 0 (.string t)) ∧ Upd2 b B w w'
  | .error c => e = c ∧ Upd2 b B w w'
def headR (s : ByteArray) (a : Nat) : Except Ending (ByteArray × Nat) :=
  match rI s a with
  | none => .error BadE
  | some (n, a1) => if n = 3 then match rT s a1 with
    | none => .error BadE
    | some y => .ok y
    else .error (BadN 18)

set_option maxHeartbeats 1000000 in
set_option maxRecDepth 100000 in
theorem pheader_any (b B T : Nat) (s : ByteArray) (a : Nat) (cs : Array Value) (w : World) (h : PRd w b s a) (hB : RowAt w B T cs) (hbB : ¬ b = B) (hcs : 0 < cs.size) (ha : a ≤ s.size) (hs : s.size ≤ 1000000) :
    Calls Tryz.prog 121 #[.pointer (some ⟨B, 0, none⟩), .pointer (some ⟨b, 0, none⟩)] w fun e w' => HdPost b B T s cs (headR s a) w e w' := by
  have C := Lib.hid (pint_any b s a w h ha hs)
  cases hx : rI s a with
  | none =>
    have HX := Lib.hid (show headR s a = .error BadE from by simp [headR, hx])
    rw [hx] at C
    clear hx h hB hbB hcs ha hs
    go_enter Tryz.func121, Tryz.ntmps121
    go_wp2_with fail
    refine C.out.mono ?_
    rintro e w1 ⟨rfl, hu1⟩
    simp only [BadE]
    go_wp2
    refine ⟨rfl, ?_⟩
    show HdPost b B T s cs (headR s a) w _ _
    rw [HX.out]
    exact ⟨rfl, (Upd2.refl _ _ _).upd hu1⟩
  | some y =>
    obtain ⟨n, a1⟩ := y
    have h1 := (fwd_rI s a n a1 hx ha).2
    rw [hx] at C
    by_cases hn : n = 3
    · subst hn
      cases hy : rT s a1 with
      | none =>
        have HX := Lib.hid (show headR s a = .error BadE from by simp [headR, hx, hy])
        have C2 := Lib.hid (fun W (h : PRd W b s a1) => ptext_any b s a1 W h h1 hs)
        rw [hy] at C2
        clear hx hy h hB hbB hcs ha hs
        go_enter Tryz.func121, Tryz.ntmps121
        go_wp2_with fail
        refine C.out.mono ?_
        rintro e w1 ⟨rfl, hp1, hu1⟩
        have H1 := Lib.hid (And.intro hp1 hu1)
        clear hp1 hu1
        go_wp2_with fail
        refine (C2.out _ H1.out.1).mono ?_
        rintro e w2 ⟨rfl, hu2⟩
        simp only [BadE]
        go_wp2
        refine ⟨rfl, ?_⟩
        show HdPost b B T s cs (headR s a) w _ _
        rw [HX.out]
        exact ⟨rfl, ((Upd2.refl _ _ _).upd H1.out.2).upd hu2⟩
      | some z =>
        obtain ⟨t, a2⟩ := z
        have HX := Lib.hid (show headR s a = .ok (t, a2) from by simp [headR, hx, hy])
        have C2 := Lib.hid (fun W (h : PRd W b s a1) => ptext_any b s a1 W h h1 hs)
        rw [hy] at C2
        have HH := Lib.hid (And.intro hB (And.intro hbB hcs))
        clear hx hy h hB hbB hcs ha hs
        go_enter Tryz.func121, Tryz.ntmps121
        go_wp2_with fail
        refine C.out.mono ?_
        rintro e w1 ⟨rfl, hp1, hu1⟩
        have H1 := Lib.hid (And.intro hp1 (And.intro hu1 (RowAt.upd HH.out.1 hu1 (fun e => HH.out.2.1 e.symm))))
        clear hp1 hu1
        go_wp2_with fail
        refine (C2.out _ H1.out.1).mono ?_
        rintro e w2 ⟨rfl, hp2, hu2⟩
        have hB2 := RowAt.upd H1.out.2.2 hu2 (fun e => HH.out.2.1 e.symm)
        obtain ⟨x1, x2, x3, x4, x5, x6⟩ := row_facts hB2
        have x0 := x1 0
        rw [Array.getElem?_eq_getElem HH.out.2.2] at x0
        obtain ⟨old, hold⟩ : ∃ o, cs[0]'(HH.out.2.2) = o := ⟨_, rfl⟩
        rw [hold] at x0
        clear hold
        have H2 := Lib.hid (show PRd (w2.setCell ⟨B, 0, none⟩ (.string t)) b s a2 ∧ RowAt (w2.setCell ⟨B, 0, none⟩ (.string t)) B T (cs.setIfInBounds 0 (.string t)) ∧ Upd2 b B w (w2.setCell ⟨B, 0, none⟩ (.string t)) from ⟨RowAt.far1 hp2 HH.out.2.1, RowAt.set hB2 rfl, (((Upd2.refl _ _ _).upd H1.out.2.1).upd hu2).set 0 _⟩)
        clear hp2 hu2 hB2 x1
        go_wp2
        (first | go_end0 | refine bodyPost_ret (results_none rfl _ _ _) rfl ?_)
        show HdPost b B T s cs (headR s a) w _ _
        rw [HX.out]
        exact ⟨rfl, H2.out.1, H2.out.2.1, H2.out.2.2⟩
    · have HX := Lib.hid (show headR s a = .error (BadN 18) from by simp [headR, hx, hn])
      have hn' : (n != 3) = true := by simpa using hn
      clear hx h hB hbB hcs ha hs
      go_enter Tryz.func121, Tryz.ntmps121
      go_wp2_with fail
      refine C.out.mono ?_
      rintro e w1 ⟨rfl, hp1, hu1⟩
      clear hp1
      go_wp2
      refine ⟨rfl, ?_⟩
      show HdPost b B T s cs (headR s a) w _ _
      rw [HX.out]
      exact ⟨rfl, (Upd2.refl _ _ _).upd hu1⟩

end Go.Proofs.YtjeigphhepngmaaGreatDoor

namespace Go.Proofs.YtjeigphhepngmaaGreatDoor
open Go.RowKit

section
variable {P : Program} {w : World} {t kt et : TypeId} {q : IntKind} {es : Array MapEntry} {c : Nat}

theorem run_checkKey_int (b : Bool) (n : Nat) (a : Int) (hk : P.underlying kt = some (.int q)) : (Instr.checkKey b (n + 1) kt (.int q a)).run P w = .ok () w := by
  unfold Instr.checkKey
  simp [run_underlying hk]

theorem run_findKey_int (a : Int) (l : List MapEntry) (r : Option (Nat × Value)) (hk : P.underlying kt = some (.int q)) (hf : Instr.findNow (.int q) (.int q a) l 0 = some r) :
    (Instr.findKey kt (.int q a) l).run P w = .ok r w := by
  simp [Instr.findKey, run_underlying hk, hf]

theorem setIfInBounds_push_last {α : Type} (a : Array α) (x y : α) : (a.push x).setIfInBounds a.size y = a.push y := by
  apply Array.ext_getElem?
  intro i
  rw [Array.getElem?_setIfInBounds, Array.getElem?_push, Array.getElem?_push]
  by_cases h : a.size = i
  · subst h; simp
  · rw [if_neg h]
    have h' : i ≠ a.size := fun e => h e.symm
    simp [h']

theorem run_update_new (a : Int) (v : Value) (ht : P.underlying t = some (.map kt et)) (hk : P.underlying kt = some (.int q)) (hf : Instr.findNow (.int q) (.int q a) es.toList 0 = some none) :
    (Instr.mapUpdate t (.map (some w.heap.size)) (.int q a) v).run P (w.alloc (.map es c)) = .ok () (w.alloc (.map (es.push { key := .int q a, val := v, born := c }) (c + 1))) := by
  have hg : (getObj w.heap.size).run P (w.alloc (.map es c)) = .ok (.map es c) (w.alloc (.map es c)) := by
    simp only [getObj, Sem.run, heap_alloc_new]
  have hs : ∀ o, (setObj w.heap.size o).run P (w.alloc (.map es c)) = .ok () (w.alloc o) := by
    intro o
    simp only [setObj, Sem.run, heap_alloc_new]
    congr 1
    show { w.alloc (.map es c) with heap := (w.heap.push (.map es c)).setIfInBounds w.heap.size o } = _
    rw [setIfInBounds_push_last]
    rfl
  unfold Instr.mapUpdate
  simp [run_underlying ht, hg, run_checkKey_int false 9999 a hk, run_findKey_int a es.toList none hk hf, hs]

theorem run_lookup_ok (a : Int) (b : Nat) (r : Option (Nat × Value)) (z : Value) (hz : (zeroValue et).run P w = .ok z w) (ht : P.underlying t = some (.map kt et)) (hk : P.underlying kt = some (.int q))
    (hb : w.heap[b]? = some (.map es c)) (hf : Instr.findNow (.int q) (.int q a) es.toList 0 = some r) (ok : Bool) :
    (Instr.lookup t (.map (some b)) (.int q a) ok).run P w = .ok (if ok then .tuple #[(r.map (·.2)).getD z, .bool r.isSome] else (r.map (·.2)).getD z) w := by
  have hg : (getObj b).run P w = .ok (.map es c) w := by simp only [getObj, Sem.run, hb]
  unfold Instr.lookup
  cases r with
  | none => cases ok <;> simp [run_underlying ht, hg, run_checkKey_int _ 9999 a hk, run_findKey_int a es.toList _ hk hf, hz]
  | some x => cases ok <;> simp [run_underlying ht, hg, run_checkKey_int _ 9999 a hk, run_findKey_int a es.toList _ hk hf]
end


/-- What reads a record, by its kind. -/
def kindsM (B : Nat) : Array MapEntry := #[{ key := .int .i64 1, val := .func (.func 121) #[.pointer (some ⟨B, 0, none⟩)] #[], born := 0 }, { key := .int .i64 2, val := .func (.func 122) #[.pointer (some ⟨B, 0, none⟩)] #[], born := 1 }, { key := .int .i64 3, val := .func (.func 123) #[.pointer (some ⟨B, 0, none⟩)] #[], born := 2 }, { key := .int .i64 4, val := .func (.func 124) #[.pointer (some ⟨B, 0, none⟩)] #[], born := 3 }, { key := .int .i64 5, val := .func (.func 125) #[.pointer (some ⟨B, 0, none⟩)] #[], born := 4 }, { key := .int .i64 6, val := .func (.func 126) #[.pointer (some ⟨B, 0, none⟩)] #[], born := 5 }, { key := .int .i64 7, val := .func (.func 127) #[.pointer (some ⟨B, 0, none⟩)] #[], born := 6 }, { key := .int .i64 8, val := .func (.func 128) #[.pointer (some ⟨B, 0, none⟩)] #[], born := 7 }, { key := .int .i64 9, val := .func (.func 129) #[.pointer (some ⟨B, 0, none⟩)] #[], born := 8 }, { key := .int .i64 10, val := .func (.func 130) #[.pointer (some ⟨B, 0, none⟩)] #[], born := 9 }, { key := .int .i64 11, val := .func (.func 131) #[.pointer (some ⟨B, 0, none⟩)] #[], born := 10 }]

set_option maxHeartbeats 1000000 in
set_option maxRecDepth 100000 in
theorem kinds_any (B : Nat) (w : World) :
    Calls Tryz.prog 47 #[.pointer (some ⟨B, 0, none⟩)] w fun e w' => e = .returned (.map (some w.heap.size)) ∧ w' = w.alloc (.map (kindsM B) 11) := by
  have hmm := @run_makeMap Tryz.prog
  have hmf : ∀ (fn : Fn) (first cap : Array Value) (w : World), (Instr.makeFunc fn first cap).run Tryz.prog w = .ok (.func fn first cap) w := fun _ _ _ _ => rfl
  have h1 : (Instr.mapUpdate 102 (.map (some w.heap.size)) (.int .i64 1) (.func (.func 121) #[.pointer (some ⟨B, 0, none⟩)] #[])).run Tryz.prog (w.alloc (.map #[] 0)) = .ok () (w.alloc (.map #[{ key := .int .i64 1, val := .func (.func 121) #[.pointer (some ⟨B, 0, none⟩)] #[], born := 0 }] 1)) :=
    run_update_new 1 (.func (.func 121) #[.pointer (some ⟨B, 0, none⟩)] #[]) Tryz.underlying102 Tryz.underlying3 rfl
  have h2 : (Instr.mapUpdate 102 (.map (some w.heap.size)) (.int .i64 2) (.func (.func 122) #[.pointer (some ⟨B, 0, none⟩)] #[])).run Tryz.prog (w.alloc (.map #[{ key := .int .i64 1, val := .func (.func 121) #[.pointer (some ⟨B, 0, none⟩)] #[], born := 0 }] 1)) = .ok () (w.alloc (.map #[{ key := .int .i64 1, val := .func (.func 121) #[.pointer (some ⟨B, 0, none⟩)] #[], born := 0 }, { key := .int .i64 2, val := .func (.func 122) #[.pointer (some ⟨B, 0, none⟩)] #[], born := 1 }] 2)) :=
    run_update_new 2 (.func (.func 122) #[.pointer (some ⟨B, 0, none⟩)] #[]) Tryz.underlying102 Tryz.underlying3 rfl
  have h3 : (Instr.mapUpdate 102 (.map (some w.heap.size)) (.int .i64 3) (.func (.func 123) #[.pointer (some ⟨B, 0, none⟩)] #[])).run Tryz.prog (w.alloc (.map #[{ key := .int .i64 1, val := .func (.func 121) #[.pointer (some ⟨B, 0, none⟩)] #[], born := 0 }, { key := .int .i64 2, val := .func (.func 122) #[.pointer (some ⟨B, 0, none⟩)] #[], born := 1 }] 2)) = .ok () (w.alloc (.map #[{ key := .int .i64 1, val := .func (.func 121) #[.pointer (some ⟨B, 0, none⟩)] #[], born := 0 }, { key := .int .i64 2, val := .func (.func 122) #[.pointer (some ⟨B, 0, none⟩)] #[], born := 1 }, { key := .int .i64 3, val := .func (.func 123) #[.pointer (some ⟨B, 0, none⟩)] #[], born := 2 }] 3)) :=
    run_update_new 3 (.func (.func 123) #[.pointer (some ⟨B, 0, none⟩)] #[]) Tryz.underlying102 Tryz.underlying3 rfl
  have h4 : (Instr.mapUpdate 102 (.map (some w.heap.size)) (.int .i64 4) (.func (.func 124) #[.pointer (some ⟨B, 0, none⟩)] #[])).run Tryz.prog (w.alloc (.map #[{ key := .int .i64 1, val := .func (.func 121) #[.pointer (some ⟨B, 0, none⟩)] #[], born := 0 }, { key := .int .i64 2, val := .func (.func 122) #[.pointer (some ⟨B, 0, none⟩)] #[], born := 1 }, { key := .int .i64 3, val := .func (.func 123) #[.pointer (some ⟨B, 0, none⟩)] #[], born := 2 }] 3)) = .ok () (w.alloc (.map #[{ key := .int .i64 1, val := .func (.func 121) #[.pointer (some ⟨B, 0, none⟩)] #[], born := 0 }, { key := .int .i64 2, val := .func (.func 122) #[.pointer (some ⟨B, 0, none⟩)] #[], born := 1 }, { key := .int .i64 3, val := .func (.func 123) #[.pointer (some ⟨B, 0, none⟩)] #[], born := 2 }, { key := .int .i64 4, val := .func (.func 124) #[.pointer (some ⟨B, 0, none⟩)] #[], born := 3 }] 4)) :=
    run_update_new 4 (.func (.func 124) #[.pointer (some ⟨B, 0, none⟩)] #[]) Tryz.underlying102 Tryz.underlying3 rfl
  have h5 : (Instr.mapUpdate 102 (.map (some w.heap.size)) (.int .i64 5) (.func (.func 125) #[.pointer (some ⟨B, 0, none⟩)] #[])).run Tryz.prog (w.alloc (.map #[{ key := .int .i64 1, val := .func (.func 121) #[.pointer (some ⟨B, 0, none⟩)] #[], born := 0 }, { key := .int .i64 2, val := .func (.func 122) #[.pointer (some ⟨B, 0, none⟩)] #[], born := 1 }, { key := .int .i64 3, val := .func (.func 123) #[.pointer (some ⟨B, 0, none⟩)] #[], born := 2 }, { key := .int .i64 4, val := .func (.func 124) #[.pointer (some ⟨B, 0, none⟩)] #[], born := 3 }] 4)) = .ok () (w.alloc (.map #[{ key := .int .i64 1, val := .func (.func 121) #[.pointer (some ⟨B, 0, none⟩)] #[], born := 0 }, { key := .int .i64 2, val := .func (.func 122) #[.pointer (some ⟨B, 0, none⟩)] #[], born := 1 }, { key := .int .i64 3, val := .func (.func 123) #[.pointer (some ⟨B, 0, none⟩)] #[], born := 2 }, { key := .int .i64 4, val := .func (.func 124) #[.pointer (some ⟨B, 0, none⟩)] #[], born := 3 }, { key := .int .i64 5, val := .func (.func 125) #[.pointer (some ⟨B, 0, none⟩)] #[], born := 4 }] 5)) :=
    run_update_new 5 (.func (.func 125) #[.pointer (some ⟨B, 0, none⟩)] #[]) Tryz.underlying102 Tryz.underlying3 rfl
  have h6 : (Instr.mapUpdate 102 (.map (some w.heap.size)) (.int .i64 6) (.func (.func 126) #[.pointer (some ⟨B, 0, none⟩)] #[])).run Tryz.prog (w.alloc (.map #[{ key := .int .i64 1, val := .func (.func 121) #[.pointer (some ⟨B, 0, none⟩)] #[], born := 0 }, { key := .int .i64 2, val := .func (.func 122) #[.pointer (some ⟨B, 0, none⟩)] #[], born := 1 }, { key := .int .i64 3, val := .func (.func 123) #[.pointer (some ⟨B, 0, none⟩)] #[], born := 2 }, { key := .int .i64 4, val := .func (.func 124) #[.pointer (some ⟨B, 0, none⟩)] #[], born := 3 }, { key := .int .i64 5, val := .func (.func 125) #[.pointer (some ⟨B, 0, none⟩)] #[], born := 4 }] 5)) = .ok () (w.alloc (.map #[{ key := .int .i64 1, val := .func (.func 121) #[.pointer (some ⟨B, 0, none⟩)] #[], born := 0 }, { key := .int .i64 2, val := .func (.func 122) #[.pointer (some ⟨B, 0, none⟩)] #[], born := 1 }, { key := .int .i64 3, val := .func (.func 123) #[.pointer (some ⟨B, 0, none⟩)] #[], born := 2 }, { key := .int .i64 4, val := .func (.func 124) #[.pointer (some ⟨B, 0, none⟩)] #[], born := 3 }, { key := .int .i64 5, val := .func (.func 125) #[.pointer (some ⟨B, 0, none⟩)] #[], born := 4 }, { key := .int .i64 6, val := .func (.func 126) #[.pointer (some ⟨B, 0, none⟩)] #[], born := 5 }] 6)) :=
    run_update_new 6 (.func (.func 126) #[.pointer (some ⟨B, 0, none⟩)] #[]) Tryz.underlying102 Tryz.underlying3 rfl
  have h7 : (Instr.mapUpdate 102 (.map (some w.heap.size)) (.int .i64 7) (.func (.func 127) #[.pointer (some ⟨B, 0, none⟩)] #[])).run Tryz.prog (w.alloc (.map #[{ key := .int .i64 1, val := .func (.func 121) #[.pointer (some ⟨B, 0, none⟩)] #[], born := 0 }, { key := .int .i64 2, val := .func (.func 122) #[.pointer (some ⟨B, 0, none⟩)] #[], born := 1 }, { key := .int .i64 3, val := .func (.func 123) #[.pointer (some ⟨B, 0, none⟩)] #[], born := 2 }, { key := .int .i64 4, val := .func (.func 124) #[.pointer (some ⟨B, 0, none⟩)] #[], born := 3 }, { key := .int .i64 5, val := .func (.func 125) #[.pointer (some ⟨B, 0, none⟩)] #[], born := 4 }, { key := .int .i64 6, val := .func (.func 126) #[.pointer (some ⟨B, 0, none⟩)] #[], born := 5 }] 6)) = .ok () (w.alloc (.map #[{ key := .int .i64 1, val := .func (.func 121) #[.pointer (some ⟨B, 0, none⟩)] #[], born := 0 }, { key := .int .i64 2, val := .func (.func 122) #[.pointer (some ⟨B, 0, none⟩)] #[], born := 1 }, { key := .int .i64 3, val := .func (.func 123) #[.pointer (some ⟨B, 0, none⟩)] #[], born := 2 }, { key := .int .i64 4, val := .func (.func 124) #[.pointer (some ⟨B, 0, none⟩)] #[], born := 3 }, { key := .int .i64 5, val := .func (.func 125) #[.pointer (some ⟨B, 0, none⟩)] #[], born := 4 }, { key := .int .i64 6, val := .func (.func 126) #[.pointer (some ⟨B, 0, none⟩)] #[], born := 5 }, { key := .int .i64 7, val := .func (.func 127) #[.pointer (some ⟨B, 0, none⟩)] #[], born := 6 }] 7)) :=
    run_update_new 7 (.func (.func 127) #[.pointer (some ⟨B, 0, none⟩)] #[]) Tryz.underlying102 Tryz.underlying3 rfl
  have h8 : (Instr.mapUpdate 102 (.map (some w.heap.size)) (.int .i64 8) (.func (.func 128) #[.pointer (some ⟨B, 0, none⟩)] #[])).run Tryz.prog (w.alloc (.map #[{ key := .int .i64 1, val := .func (.func 121) #[.pointer (some ⟨B, 0, none⟩)] #[], born := 0 }, { key := .int .i64 2, val := .func (.func 122) #[.pointer (some ⟨B, 0, none⟩)] #[], born := 1 }, { key := .int .i64 3, val := .func (.func 123) #[.pointer (some ⟨B, 0, none⟩)] #[], born := 2 }, { key := .int .i64 4, val := .func (.func 124) #[.pointer (some ⟨B, 0, none⟩)] #[], born := 3 }, { key := .int .i64 5, val := .func (.func 125) #[.pointer (some ⟨B, 0, none⟩)] #[], born := 4 }, { key := .int .i64 6, val := .func (.func 126) #[.pointer (some ⟨B, 0, none⟩)] #[], born := 5 }, { key := .int .i64 7, val := .func (.func 127) #[.pointer (some ⟨B, 0, none⟩)] #[], born := 6 }] 7)) = .ok () (w.alloc (.map #[{ key := .int .i64 1, val := .func (.func 121) #[.pointer (some ⟨B, 0, none⟩)] #[], born := 0 }, { key := .int .i64 2, val := .func (.func 122) #[.pointer (some ⟨B, 0, none⟩)] #[], born := 1 }, { key := .int .i64 3, val := .func (.func 123) #[.pointer (some ⟨B, 0, none⟩)] #[], born := 2 }, { key := .int .i64 4, val := .func (.func 124) #[.pointer (some ⟨B, 0, none⟩)] #[], born := 3 }, { key := .int .i64 5, val := .func (.func 125) #[.pointer (some ⟨B, 0, none⟩)] #[], born := 4 }, { key := .int .i64 6, val := .func (.func 126) #[.pointer (some ⟨B, 0, none⟩)] #[], born := 5 }, { key := .int .i64 7, val := .func (.func 127) #[.pointer (some ⟨B, 0, none⟩)] #[], born := 6 }, { key := .int .i64 8, val := .func (.func 128) #[.pointer (some ⟨B, 0, none⟩)] #[], born := 7 }] 8)) :=
    run_update_new 8 (.func (.func 128) #[.pointer (some ⟨B, 0, none⟩)] #[]) Tryz.underlying102 Tryz.underlying3 rfl
  have h9 : (Instr.mapUpdate 102 (.map (some w.heap.size)) (.int .i64 9) (.func (.func 129) #[.pointer (some ⟨B, 0, none⟩)] #[])).run Tryz.prog (w.alloc (.map #[{ key := .int .i64 1, val := .func (.func 121) #[.pointer (some ⟨B, 0, none⟩)] #[], born := 0 }, { key := .int .i64 2, val := .func (.func 122) #[.pointer (some ⟨B, 0, none⟩)] #[], born := 1 }, { key := .int .i64 3, val := .func (.func 123) #[.pointer (some ⟨B, 0, none⟩)] #[], born := 2 }, { key := .int .i64 4, val := .func (.func 124) #[.pointer (some ⟨B, 0, none⟩)] #[], born := 3 }, { key := .int .i64 5, val := .func (.func 125) #[.pointer (some ⟨B, 0, none⟩)] #[], born := 4 }, { key := .int .i64 6, val := .func (.func 126) #[.pointer (some ⟨B, 0, none⟩)] #[], born := 5 }, { key := .int .i64 7, val := .func (.func 127) #[.pointer (some ⟨B, 0, none⟩)] #[], born := 6 }, { key := .int .i64 8, val := .func (.func 128) #[.pointer (some ⟨B, 0, none⟩)] #[], born := 7 }] 8)) = .ok () (w.alloc (.map #[{ key := .int .i64 1, val := .func (.func 121) #[.pointer (some ⟨B, 0, none⟩)] #[], born := 0 }, { key := .int .i64 2, val := .func (.func 122) #[.pointer (some ⟨B, 0, none⟩)] #[], born := 1 }, { key := .int .i64 3, val := .func (.func 123) #[.pointer (some ⟨B, 0, none⟩)] #[], born := 2 }, { key := .int .i64 4, val := .func (.func 124) #[.pointer (some ⟨B, 0, none⟩)] #[], born := 3 }, { key := .int .i64 5, val := .func (.func 125) #[.pointer (some ⟨B, 0, none⟩)] #[], born := 4 }, { key := .int .i64 6, val := .func (.func 126) #[.pointer (some ⟨B, 0, none⟩)] #[], born := 5 }, { key := .int .i64 7, val := .func (.func 127) #[.pointer (some ⟨B, 0, none⟩)] #[], born := 6 }, { key := .int .i64 8, val := .func (.func 128) #[.pointer (some ⟨B, 0, none⟩)] #[], born := 7 }, { key := .int .i64 9, val := .func (.func 129) #[.pointer (some ⟨B, 0, none⟩)] #[], born := 8 }] 9)) :=
    run_update_new 9 (.func (.func 129) #[.pointer (some ⟨B, 0, none⟩)] #[]) Tryz.underlying102 Tryz.underlying3 rfl
  have h10 : (Instr.mapUpdate 102 (.map (some w.heap.size)) (.int .i64 10) (.func (.func 130) #[.pointer (some ⟨B, 0, none⟩)] #[])).run Tryz.prog (w.alloc (.map #[{ key := .int .i64 1, val := .func (.func 121) #[.pointer (some ⟨B, 0, none⟩)] #[], born := 0 }, { key := .int .i64 2, val := .func (.func 122) #[.pointer (some ⟨B, 0, none⟩)] #[], born := 1 }, { key := .int .i64 3, val := .func (.func 123) #[.pointer (some ⟨B, 0, none⟩)] #[], born := 2 }, { key := .int .i64 4, val := .func (.func 124) #[.pointer (some ⟨B, 0, none⟩)] #[], born := 3 }, { key := .int .i64 5, val := .func (.func 125) #[.pointer (some ⟨B, 0, none⟩)] #[], born := 4 }, { key := .int .i64 6, val := .func (.func 126) #[.pointer (some ⟨B, 0, none⟩)] #[], born := 5 }, { key := .int .i64 7, val := .func (.func 127) #[.pointer (some ⟨B, 0, none⟩)] #[], born := 6 }, { key := .int .i64 8, val := .func (.func 128) #[.pointer (some ⟨B, 0, none⟩)] #[], born := 7 }, { key := .int .i64 9, val := .func (.func 129) #[.pointer (some ⟨B, 0, none⟩)] #[], born := 8 }] 9)) = .ok () (w.alloc (.map #[{ key := .int .i64 1, val := .func (.func 121) #[.pointer (some ⟨B, 0, none⟩)] #[], born := 0 }, { key := .int .i64 2, val := .func (.func 122) #[.pointer (some ⟨B, 0, none⟩)] #[], born := 1 }, { key := .int .i64 3, val := .func (.func 123) #[.pointer (some ⟨B, 0, none⟩)] #[], born := 2 }, { key := .int .i64 4, val := .func (.func 124) #[.pointer (some ⟨B, 0, none⟩)] #[], born := 3 }, { key := .int .i64 5, val := .func (.func 125) #[.pointer (some ⟨B, 0, none⟩)] #[], born := 4 }, { key := .int .i64 6, val := .func (.func 126) #[.pointer (some ⟨B, 0, none⟩)] #[], born := 5 }, { key := .int .i64 7, val := .func (.func 127) #[.pointer (some ⟨B, 0, none⟩)] #[], born := 6 }, { key := .int .i64 8, val := .func (.func 128) #[.pointer (some ⟨B, 0, none⟩)] #[], born := 7 }, { key := .int .i64 9, val := .func (.func 129) #[.pointer (some ⟨B, 0, none⟩)] #[], born := 8 }, { key := .int .i64 10, val := .func (.func 130) #[.pointer (some ⟨B, 0, none⟩)] #[], born := 9 }] 10)) :=
    run_update_new 10 (.func (.func 130) #[.pointer (some ⟨B, 0, none⟩)] #[]) Tryz.underlying102 Tryz.underlying3 rfl
  have h11 : (Instr.mapUpdate 102 (.map (some w.heap.size)) (.int .i64 11) (.func (.func 131) #[.pointer (some ⟨B, 0, none⟩)] #[])).run Tryz.prog (w.alloc (.map #[{ key := .int .i64 1, val := .func (.func 121) #[.pointer (some ⟨B, 0, none⟩)] #[], born := 0 }, { key := .int .i64 2, val := .func (.func 122) #[.pointer (some ⟨B, 0, none⟩)] #[], born := 1 }, { key := .int .i64 3, val := .func (.func 123) #[.pointer (some ⟨B, 0, none⟩)] #[], born := 2 }, { key := .int .i64 4, val := .func (.func 124) #[.pointer (some ⟨B, 0, none⟩)] #[], born := 3 }, { key := .int .i64 5, val := .func (.func 125) #[.pointer (some ⟨B, 0, none⟩)] #[], born := 4 }, { key := .int .i64 6, val := .func (.func 126) #[.pointer (some ⟨B, 0, none⟩)] #[], born := 5 }, { key := .int .i64 7, val := .func (.func 127) #[.pointer (some ⟨B, 0, none⟩)] #[], born := 6 }, { key := .int .i64 8, val := .func (.func 128) #[.pointer (some ⟨B, 0, none⟩)] #[], born := 7 }, { key := .int .i64 9, val := .func (.func 129) #[.pointer (some ⟨B, 0, none⟩)] #[], born := 8 }, { key := .int .i64 10, val := .func (.func 130) #[.pointer (some ⟨B, 0, none⟩)] #[], born := 9 }] 10)) = .ok () (w.alloc (.map #[{ key := .int .i64 1, val := .func (.func 121) #[.pointer (some ⟨B, 0, none⟩)] #[], born := 0 }, { key := .int .i64 2, val := .func (.func 122) #[.pointer (some ⟨B, 0, none⟩)] #[], born := 1 }, { key := .int .i64 3, val := .func (.func 123) #[.pointer (some ⟨B, 0, none⟩)] #[], born := 2 }, { key := .int .i64 4, val := .func (.func 124) #[.pointer (some ⟨B, 0, none⟩)] #[], born := 3 }, { key := .int .i64 5, val := .func (.func 125) #[.pointer (some ⟨B, 0, none⟩)] #[], born := 4 }, { key := .int .i64 6, val := .func (.func 126) #[.pointer (some ⟨B, 0, none⟩)] #[], born := 5 }, { key := .int .i64 7, val := .func (.func 127) #[.pointer (some ⟨B, 0, none⟩)] #[], born := 6 }, { key := .int .i64 8, val := .func (.func 128) #[.pointer (some ⟨B, 0, none⟩)] #[], born := 7 }, { key := .int .i64 9, val := .func (.func 129) #[.pointer (some ⟨B, 0, none⟩)] #[], born := 8 }, { key := .int .i64 10, val := .func (.func 130) #[.pointer (some ⟨B, 0, none⟩)] #[], born := 9 }, { key := .int .i64 11, val := .func (.func 131) #[.pointer (some ⟨B, 0, none⟩)] #[], born := 10 }] 11)) :=
    run_update_new 11 (.func (.func 131) #[.pointer (some ⟨B, 0, none⟩)] #[]) Tryz.underlying102 Tryz.underlying3 rfl
  go_enter Tryz.func47, Tryz.ntmps47
  go_wp2
  go_ret
  exact ⟨rfl, rfl⟩

end Go.Proofs.YtjeigphhepngmaaGreatDoor

namespace Go.Proofs.YtjeigphhepngmaaGreatDoor
open Go.RowKit

/-- What the closure in Build says at a header. -/
def B1Post (B T : Nat) (s : ByteArray) (cs : Array Value) (r : Except Ending (ByteArray × Nat)) (w : World) (e : Ending) (w' : World) : Prop :=
  match r with
  | .ok (t, k) => e = (if k = s.size then .returned (.tuple #[]) else BadE) ∧ RowAt w' B T (cs.setIfInBounds 0 (.string t)) ∧ Upd B w w'
  | .error c => e = c ∧ Upd B w w'
theorem headR_err {s : ByteArray} {a : Nat} {c : Ending} (h : headR s a = .error c) : ∃ n, c = .panicked [{ v := .iface 200 (.agg #[.int .i64 n]), recovered := false }] := by
  unfold headR at h
  split at h
  · cases h; exact ⟨3, rfl⟩
  · split at h
    · split at h
      · cases h; exact ⟨3, rfl⟩
      · cases h
    · cases h; exact ⟨18, rfl⟩
theorem below_upd2 {a w w' : World} {b t : Nat} (h : Below a.heap.size a w) (hu : Upd2 b t w w') (hb : a.heap.size ≤ b) : Upd t a w' :=
  ⟨hu.os.trans h.os, hu.tape.trans h.tape, hu.output.trans h.output, Nat.le_trans h.size hu.size, fun k hk hne => (hu.block k (by have := h.size; omega) (by omega) (fun e => hne (by simp [e]))).trans (h.block k hk)⟩

set_option maxHeartbeats 1000000 in
set_option maxRecDepth 100000 in
theorem build1_head (xb rb B T : Nat) (kd : Int) (d : ByteArray) (cs : Array Value) (w : World) (hx : RowAt w xb 77 #[.int .i64 kd, .string d]) (hr : RowAt w rb 104 #[.func (.func 121) #[.pointer (some ⟨B, 0, none⟩)] #[]]) (hB : RowAt w B T cs) (hcs : 0 < cs.size) (hd : d.size ≤ 1000000) :
    Calls Tryz.prog 50 #[.pointer (some ⟨xb, 0, none⟩), .pointer (some ⟨rb, 0, none⟩)] w fun e w' => B1Post B T d cs (headR d 0) w e w' := by
  have hBs := lt_of_block hB
  have hrs := lt_of_block hr
  have hxs := lt_of_block hx
  obtain ⟨W0, hW0⟩ : ∃ W, w.alloc (.cells #[.string d, .int .i64 0] 110) = W := ⟨_, rfl⟩
  have hp0 : PRd W0 w.heap.size d 0 := by rw [← hW0]; exact RowAt.new _ _ _
  have hB0 : RowAt W0 B T cs := by rw [← hW0]; exact RowAt.alloc hB _
  have hb0 : Below w.heap.size w W0 := by rw [← hW0]; (repeat' (first | (with_reducible exact Below.refl _ _) | (with_reducible assumption) | (with_reducible refine below_run ?_ (by assumption)) | (with_reducible refine below_of_upd ?_ (by assumption) ?_) | (with_reducible refine below_drewN ?_ _) | (with_reducible refine Below.drew ?_) | (with_reducible refine below_seven ?_ ?_) | (with_reducible refine below_six ?_ ?_) | (with_reducible refine below_one ?_ ?_) | (with_reducible refine Below.alloc ?_ ?_ _) | (with_reducible refine below_after ?_ ?_ (by assumption)) | (show _ ≤ _; first | omega | (simp; done) | (simp; omega))))
  have hr0 : RowAt W0 rb 104 #[.func (.func 121) #[.pointer (some ⟨B, 0, none⟩)] #[]] := by rw [← hW0]; exact RowAt.alloc hr _
  have C := Lib.hid (pheader_any w.heap.size B T d 0 cs W0 hp0 hB0 (by omega) hcs (Nat.zero_le _) hd)
  obtain ⟨x1, x2, x3, x4, x5, x6⟩ := row_facts hx
  obtain ⟨y1, y2, y3, y4, y5, y6⟩ := row_facts hr0
  have HB := Lib.hid hb0
  clear hx hr hB hb0 hr0 hcs
  go_enter Tryz.func50, Tryz.ntmps50
  go_wp2_with fail
  refine C.out.mono ?_
  intro e w1 hp
  cases hq : headR d 0 with
  | error c =>
    rw [hq] at hp
    obtain ⟨rfl, hu⟩ := hp
    obtain ⟨n, rfl⟩ := headR_err hq
    go_wp2
    refine ⟨rfl, ?_⟩
    show B1Post B T d cs (headR d 0) w _ _
    rw [hq]
    exact ⟨rfl, below_upd2 HB.out hu (Nat.le_refl _)⟩
  | ok y =>
    obtain ⟨t, k⟩ := y
    rw [hq] at hp
    obtain ⟨rfl, hp1, hB1, hu⟩ := hp
    have H1 := Lib.hid (And.intro hB1 (below_upd2 HB.out hu (Nat.le_refl _)))
    clear hu hB1
    go_wp2_with fail
    refine (pend_any w.heap.size d k w1 hp1).mono ?_
    rintro e w2 ⟨hu2, rfl⟩
    have H2 := Lib.hid (And.intro (RowAt.upd H1.out.1 hu2 (by omega)) (upd_new H1.out.2 hu2 (Nat.le_refl _)))
    clear hu2 hp1
    by_cases hk : k = d.size
    · rw [if_pos hk]
      go_wp2
      (first | go_end0 | refine bodyPost_ret (results_none rfl _ _ _) rfl ?_)
      show B1Post B T d cs (headR d 0) w _ _
      rw [hq]
      exact ⟨(if_pos hk).symm, H2.out⟩
    · rw [if_neg hk]
      simp only [BadE]
      go_wp2
      refine ⟨rfl, ?_⟩
      show B1Post B T d cs (headR d 0) w _ _
      rw [hq]
      exact ⟨(if_neg hk).symm, H2.out⟩

theorem build1_enters : ∀ args W, (callFunc 50 args).run Tryz.prog W = .ok (.enter 50 args) W := enters_of Tryz.func50 (by kernel_rfl) rfl

end Go.Proofs.YtjeigphhepngmaaGreatDoor

namespace Go.Proofs.YtjeigphhepngmaaGreatDoor
open Go.RowKit

def exHead : ByteArray := ⟨#[6, 0]⟩
def exOld : ByteArray := ⟨#[8, 0]⟩
def exEnd : ByteArray := ⟨#[2]⟩
def exFile : ByteArray := ⟨#[1, 0, 2, 6, 0, 23, 9, 11, 0, 1, 2, 48, 14]⟩
theorem ex_join : joinV [(1, exHead), (11, exEnd)] = .tuple #[.string exFile, .int .i64 0] := by kernel_rfl
theorem ex_head : headR exHead 0 = .ok (⟨#[]⟩, 2) := by kernel_rfl
theorem ex_old : headR exOld 0 = .error (BadN 18) := by kernel_rfl
theorem ex_all : allR ⟨#[1, 0, 2, 6, 0, 23, 9]⟩ = ([(1, exHead)], 7, 0) := by kernel_rfl
theorem ex_join1 : joinV [(1, exHead)] = .tuple #[.string ⟨#[1, 0, 2, 6, 0, 23, 9]⟩, .int .i64 0] := by kernel_rfl
theorem ex_headB : intB 3 ++ textB ⟨#[]⟩ = [6, 0] := by kernel_rfl
theorem ex_endB : intB 1 = [2] := by kernel_rfl

end Go.Proofs.YtjeigphhepngmaaGreatDoor

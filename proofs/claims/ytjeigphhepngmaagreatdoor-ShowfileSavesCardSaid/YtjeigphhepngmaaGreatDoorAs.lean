/- -/
import Derived.Test.YtjeigphhepngmaaGreatDoorZq
namespace Go.Proofs.YtjeigphhepngmaaGreatDoor
open Go.RowKit
open Go.Lib (hid)
set_option maxHeartbeats 8000000
set_option linter.unusedSimpArgs false
set_option linter.unusedVariables false
set_option maxRecDepth 100000
def HdPost (b B T : Nat) (s : ByteArray) (cs : Array Value) (r : Except Ending (ByteArray × Nat)) (w : World) (e : Ending) (w' : World) : Prop :=
 match r with
 | .ok (t, k) => e = .returned (.tuple #[]) ∧ PRd w' b s k ∧ RowAt w' B T (cs.setIfInBounds 0 (.string t)) ∧ Upd2 b B w w'
 | .error c => e = c ∧ Upd2 b B w w'
def headR (s : ByteArray) (a : Nat) : Except Ending (ByteArray × Nat) :=
 match rI s a with
 | none => .error BadE
 | some (n, a1) => if n = 3 then match rT s a1 with
   | none => .error BadE
   | some y => .ok y
   else .error (BadN 18)
theorem zmq (b B T : Nat) (s : ByteArray) (a : Nat) (cs : Array Value) (w : World) (h : PRd w b s a) (hB : RowAt w B T cs) (hbB : ¬ b = B) (hcs : 0 < cs.size) (ha : a ≤ s.size) (hs : s.size ≤ 1000000) :
   Calls Tryz.prog 121 #[.pointer (some ⟨B, 0, none⟩), .pointer (some ⟨b, 0, none⟩)] w fun e w' => HdPost b B T s cs (headR s a) w e w' := by
 have C := hid (zl8 b s a w h ha hs)
 cases hx : rI s a with
 | none =>
   have HX := hid (show headR s a = .error BadE from by simp [headR, hx])
   rw [hx] at C
   clear hx h hB hbB hcs ha hs
   go_enter Tryz.func121, Tryz.ntmps121
   go_wp2_with fail
   refine C.out.mono ?_
   rintro e w1 ⟨rfl, hu1⟩
   simp only [BadE]
   go_wp2
   refine ⟨rfl, ?_⟩
   show HdPost b B T s cs (headR s a) w _ _
   rw [HX.out]
   exact ⟨rfl, (Upd2.refl _ _ _).upd hu1⟩
 | some y =>
   obtain ⟨n, a1⟩ := y
   have h1 := (znz s a n a1 hx ha).2
   rw [hx] at C
   by_cases hn : n = 3
   · subst hn
     cases hy : rT s a1 with
     | none =>
       have HX := hid (show headR s a = .error BadE from by simp [headR, hx, hy])
       have C2 := hid (fun W (h : PRd W b s a1) => zjx b s a1 W h h1 hs)
       rw [hy] at C2
       clear hx hy h hB hbB hcs ha hs
       go_enter Tryz.func121, Tryz.ntmps121
       go_wp2_with fail
       refine C.out.mono ?_
       rintro e w1 ⟨rfl, hp1, hu1⟩
       have H1 := hid (And.intro hp1 hu1)
       clear hp1 hu1
       go_wp2_with fail
       refine (C2.out _ H1.out.1).mono ?_
       rintro e w2 ⟨rfl, hu2⟩
       simp only [BadE]
       go_wp2
       refine ⟨rfl, ?_⟩
       show HdPost b B T s cs (headR s a) w _ _
       rw [HX.out]
       exact ⟨rfl, ((Upd2.refl _ _ _).upd H1.out.2).upd hu2⟩
     | some z =>
       obtain ⟨t, a2⟩ := z
       have HX := hid (show headR s a = .ok (t, a2) from by simp [headR, hx, hy])
       have C2 := hid (fun W (h : PRd W b s a1) => zjx b s a1 W h h1 hs)
       rw [hy] at C2
       have HH := hid (And.intro hB (And.intro hbB hcs))
       clear hx hy h hB hbB hcs ha hs
       go_enter Tryz.func121, Tryz.ntmps121
       go_wp2_with fail
       refine C.out.mono ?_
       rintro e w1 ⟨rfl, hp1, hu1⟩
       have H1 := hid (And.intro hp1 (And.intro hu1 (RowAt.upd HH.out.1 hu1 (fun e => HH.out.2.1 e.symm))))
       clear hp1 hu1
       go_wp2_with fail
       refine (C2.out _ H1.out.1).mono ?_
       rintro e w2 ⟨rfl, hp2, hu2⟩
       have hB2 := RowAt.upd H1.out.2.2 hu2 (fun e => HH.out.2.1 e.symm)
       obtain ⟨x1, x2, x3, x4, x5, x6⟩ := zaa hB2
       have x0 := x1 0
       rw [Array.getElem?_eq_getElem HH.out.2.2] at x0
       obtain ⟨old, hold⟩ : ∃ o, cs[0]'(HH.out.2.2) = o := ⟨_, rfl⟩
       rw [hold] at x0
       clear hold
       have H2 := hid (show PRd (w2.setCell ⟨B, 0, none⟩ (.string t)) b s a2 ∧ RowAt (w2.setCell ⟨B, 0, none⟩ (.string t)) B T (cs.setIfInBounds 0 (.string t)) ∧ Upd2 b B w (w2.setCell ⟨B, 0, none⟩ (.string t)) from ⟨RowAt.far1 hp2 HH.out.2.1, RowAt.set hB2 rfl, (((Upd2.refl _ _ _).upd H1.out.2.1).upd hu2).set 0 _⟩)
       clear hp2 hu2 hB2 x1
       go_wp2
       (first | go_end0 | refine bodyPost_ret (results_none rfl _ _ _) rfl ?_)
       show HdPost b B T s cs (headR s a) w _ _
       rw [HX.out]
       exact ⟨rfl, H2.out.1, H2.out.2.1, H2.out.2.2⟩
   have HX := hid (show headR s a = .error (BadN 18) from by simp [headR, hx, hn])
   have hn' : (n != 3) = true := by simpa using hn
   clear hx h hB hbB hcs ha hs
   go_enter Tryz.func121, Tryz.ntmps121
   go_wp2_with fail
   refine C.out.mono ?_
   rintro e w1 ⟨rfl, hp1, hu1⟩
   clear hp1
   go_wp2
   refine ⟨rfl, ?_⟩
   show HdPost b B T s cs (headR s a) w _ _
   rw [HX.out]
   exact ⟨rfl, (Upd2.refl _ _ _).upd hu1⟩
section
variable {P : Program} {w : World} {t kt et : TypeId} {q : IntKind} {es : Array MapEntry} {c : Nat}
theorem zf0 (b : Bool) (n : Nat) (a : Int) (hk : P.underlying kt = some (.int q)) : (Instr.checkKey b (n + 1) kt (.int q a)).run P w = .ok () w := by
 unfold Instr.checkKey
 simp [run_underlying hk]
theorem zfv (a : Int) (l : List MapEntry) (r : Option (Nat × Value)) (hk : P.underlying kt = some (.int q)) (hf : Instr.findNow (.int q) (.int q a) l 0 = some r) :
  (Instr.findKey kt (.int q a) l).run P w = .ok r w := by
 simp [Instr.findKey, run_underlying hk, hf]
theorem zrf {α : Type} (a : Array α) (x y : α) : (a.push x).setIfInBounds a.size y = a.push y := by
 apply Array.ext_getElem?
 intro i
 rw [Array.getElem?_setIfInBounds, Array.getElem?_push, Array.getElem?_push]
 by_cases h : a.size = i
 · subst h; simp
 rw [if_neg h]
 have h' : i ≠ a.size := fun e => h e.symm
 simp [h']
theorem zbo (a : Int) (v : Value) (ht : P.underlying t = some (.map kt et)) (hk : P.underlying kt = some (.int q)) (hf : Instr.findNow (.int q) (.int q a) es.toList 0 = some none) :
  (Instr.mapUpdate t (.map (some w.heap.size)) (.int q a) v).run P (w.alloc (.map es c)) = .ok () (w.alloc (.map (es.push { key := .int q a, val := v, born := c }) (c + 1))) := by
 have hg : (getObj w.heap.size).run P (w.alloc (.map es c)) = .ok (.map es c) (w.alloc (.map es c)) := by
  simp only [getObj, Sem.run, heap_alloc_new]
 have hs : ∀ o, (setObj w.heap.size o).run P (w.alloc (.map es c)) = .ok () (w.alloc o) := by
  intro o
  simp only [setObj, Sem.run, heap_alloc_new]
  congr 1
  show { w.alloc (.map es c) with heap := (w.heap.push (.map es c)).setIfInBounds w.heap.size o } = _
  rw [zrf]
  rfl
 unfold Instr.mapUpdate
 simp [run_underlying ht, hg, zf0 false 9999 a hk, zfv a es.toList none hk hf, hs]
theorem zw5 (a : Int) (b : Nat) (r : Option (Nat × Value)) (z : Value) (hz : (zeroValue et).run P w = .ok z w) (ht : P.underlying t = some (.map kt et)) (hk : P.underlying kt = some (.int q))
  (hb : w.heap[b]? = some (.map es c)) (hf : Instr.findNow (.int q) (.int q a) es.toList 0 = some r) (ok : Bool) :
  (Instr.lookup t (.map (some b)) (.int q a) ok).run P w = .ok (if ok then .tuple #[(r.map (·.2)).getD z, .bool r.isSome] else (r.map (·.2)).getD z) w := by
 have hg : (getObj b).run P w = .ok (.map es c) w := by simp only [getObj, Sem.run, hb]
 unfold Instr.lookup
 cases r with
 | none => cases ok <;> simp [run_underlying ht, hg, zf0 _ 9999 a hk, zfv a es.toList _ hk hf, hz]
 | some x => cases ok <;> simp [run_underlying ht, hg, zf0 _ 9999 a hk, zfv a es.toList _ hk hf]
end
def kindsM (B : Nat) : Array MapEntry := #[{ key := .int .i64 1, val := .func (.func 121) #[.pointer (some ⟨B, 0, none⟩)] #[], born := 0 }, { key := .int .i64 2, val := .func (.func 122) #[.pointer (some ⟨B, 0, none⟩)] #[], born := 1 }, { key := .int .i64 3, val := .func (.func 123) #[.pointer (some ⟨B, 0, none⟩)] #[], born := 2 }, { key := .int .i64 4, val := .func (.func 124) #[.pointer (some ⟨B, 0, none⟩)] #[], born := 3 }, { key := .int .i64 5, val := .func (.func 125) #[.pointer (some ⟨B, 0, none⟩)] #[], born := 4 }, { key := .int .i64 6, val := .func (.func 126) #[.pointer (some ⟨B, 0, none⟩)] #[], born := 5 }, { key := .int .i64 7, val := .func (.func 127) #[.pointer (some ⟨B, 0, none⟩)] #[], born := 6 }, { key := .int .i64 8, val := .func (.func 128) #[.pointer (some ⟨B, 0, none⟩)] #[], born := 7 }, { key := .int .i64 9, val := .func (.func 129) #[.pointer (some ⟨B, 0, none⟩)] #[], born := 8 }, { key := .int .i64 10, val := .func (.func 130) #[.pointer (some ⟨B, 0, none⟩)] #[], born := 9 }, { key := .int .i64 11, val := .func (.func 131) #[.pointer (some ⟨B, 0, none⟩)] #[], born := 10 }]
theorem zia (B : Nat) (w : World) :
  Calls Tryz.prog 47 #[.pointer (some ⟨B, 0, none⟩)] w fun e w' => e = .returned (.map (some w.heap.size)) ∧ w' = w.alloc (.map (kindsM B) 11) := by
 have hmm := @run_makeMap Tryz.prog
 have hmf : ∀ (fn : Fn) (first cap : Array Value) (w : World), (Instr.makeFunc fn first cap).run Tryz.prog w = .ok (.func fn first cap) w := fun _ _ _ _ => rfl
 have h1 : (Instr.mapUpdate 102 (.map (some w.heap.size)) (.int .i64 1) (.func (.func 121) #[.pointer (some ⟨B, 0, none⟩)] #[])).run Tryz.prog (w.alloc (.map #[] 0)) = .ok () (w.alloc (.map #[{ key := .int .i64 1, val := .func (.func 121) #[.pointer (some ⟨B, 0, none⟩)] #[], born := 0 }] 1)) :=
  zbo 1 (.func (.func 121) #[.pointer (some ⟨B, 0, none⟩)] #[]) Tryz.underlying102 Tryz.underlying3 rfl
 have h2 : (Instr.mapUpdate 102 (.map (some w.heap.size)) (.int .i64 2) (.func (.func 122) #[.pointer (some ⟨B, 0, none⟩)] #[])).run Tryz.prog (w.alloc (.map #[{ key := .int .i64 1, val := .func (.func 121) #[.pointer (some ⟨B, 0, none⟩)] #[], born := 0 }] 1)) = .ok () (w.alloc (.map #[{ key := .int .i64 1, val := .func (.func 121) #[.pointer (some ⟨B, 0, none⟩)] #[], born := 0 }, { key := .int .i64 2, val := .func (.func 122) #[.pointer (some ⟨B, 0, none⟩)] #[], born := 1 }] 2)) :=
  zbo 2 (.func (.func 122) #[.pointer (some ⟨B, 0, none⟩)] #[]) Tryz.underlying102 Tryz.underlying3 rfl
 have h3 : (Instr.mapUpdate 102 (.map (some w.heap.size)) (.int .i64 3) (.func (.func 123) #[.pointer (some ⟨B, 0, none⟩)] #[])).run Tryz.prog (w.alloc (.map #[{ key := .int .i64 1, val := .func (.func 121) #[.pointer (some ⟨B, 0, none⟩)] #[], born := 0 }, { key := .int .i64 2, val := .func (.func 122) #[.pointer (some ⟨B, 0, none⟩)] #[], born := 1 }] 2)) = .ok () (w.alloc (.map #[{ key := .int .i64 1, val := .func (.func 121) #[.pointer (some ⟨B, 0, none⟩)] #[], born := 0 }, { key := .int .i64 2, val := .func (.func 122) #[.pointer (some ⟨B, 0, none⟩)] #[], born := 1 }, { key := .int .i64 3, val := .func (.func 123) #[.pointer (some ⟨B, 0, none⟩)] #[], born := 2 }] 3)) :=
  zbo 3 (.func (.func 123) #[.pointer (some ⟨B, 0, none⟩)] #[]) Tryz.underlying102 Tryz.underlying3 rfl
 have h4 : (Instr.mapUpdate 102 (.map (some w.heap.size)) (.int .i64 4) (.func (.func 124) #[.pointer (some ⟨B, 0, none⟩)] #[])).run Tryz.prog (w.alloc (.map #[{ key := .int .i64 1, val := .func (.func 121) #[.pointer (some ⟨B, 0, none⟩)] #[], born := 0 }, { key := .int .i64 2, val := .func (.func 122) #[.pointer (some ⟨B, 0, none⟩)] #[], born := 1 }, { key := .int .i64 3, val := .func (.func 123) #[.pointer (some ⟨B, 0, none⟩)] #[], born := 2 }] 3)) = .ok () (w.alloc (.map #[{ key := .int .i64 1, val := .func (.func 121) #[.pointer (some ⟨B, 0, none⟩)] #[], born := 0 }, { key := .int .i64 2, val := .func (.func 122) #[.pointer (some ⟨B, 0, none⟩)] #[], born := 1 }, { key := .int .i64 3, val := .func (.func 123) #[.pointer (some ⟨B, 0, none⟩)] #[], born := 2 }, { key := .int .i64 4, val := .func (.func 124) #[.pointer (some ⟨B, 0, none⟩)] #[], born := 3 }] 4)) :=
  zbo 4 (.func (.func 124) #[.pointer (some ⟨B, 0, none⟩)] #[]) Tryz.underlying102 Tryz.underlying3 rfl
 have h5 : (Instr.mapUpdate 102 (.map (some w.heap.size)) (.int .i64 5) (.func (.func 125) #[.pointer (some ⟨B, 0, none⟩)] #[])).run Tryz.prog (w.alloc (.map #[{ key := .int .i64 1, val := .func (.func 121) #[.pointer (some ⟨B, 0, none⟩)] #[], born := 0 }, { key := .int .i64 2, val := .func (.func 122) #[.pointer (some ⟨B, 0, none⟩)] #[], born := 1 }, { key := .int .i64 3, val := .func (.func 123) #[.pointer (some ⟨B, 0, none⟩)] #[], born := 2 }, { key := .int .i64 4, val := .func (.func 124) #[.pointer (some ⟨B, 0, none⟩)] #[], born := 3 }] 4)) = .ok () (w.alloc (.map #[{ key := .int .i64 1, val := .func (.func 121) #[.pointer (some ⟨B, 0, none⟩)] #[], born := 0 }, { key := .int .i64 2, val := .func (.func 122) #[.pointer (some ⟨B, 0, none⟩)] #[], born := 1 }, { key := .int .i64 3, val := .func (.func 123) #[.pointer (some ⟨B, 0, none⟩)] #[], born := 2 }, { key := .int .i64 4, val := .func (.func 124) #[.pointer (some ⟨B, 0, none⟩)] #[], born := 3 }, { key := .int .i64 5, val := .func (.func 125) #[.pointer (some ⟨B, 0, none⟩)] #[], born := 4 }] 5)) :=
  zbo 5 (.func (.func 125) #[.pointer (some ⟨B, 0, none⟩)] #[]) Tryz.underlying102 Tryz.underlying3 rfl
 have h6 : (Instr.mapUpdate 102 (.map (some w.heap.size)) (.int .i64 6) (.func (.func 126) #[.pointer (some ⟨B, 0, none⟩)] #[])).run Tryz.prog (w.alloc (.map #[{ key := .int .i64 1, val := .func (.func 121) #[.pointer (some ⟨B, 0, none⟩)] #[], born := 0 }, { key := .int .i64 2, val := .func (.func 122) #[.pointer (some ⟨B, 0, none⟩)] #[], born := 1 }, { key := .int .i64 3, val := .func (.func 123) #[.pointer (some ⟨B, 0, none⟩)] #[], born := 2 }, { key := .int .i64 4, val := .func (.func 124) #[.pointer (some ⟨B, 0, none⟩)] #[], born := 3 }, { key := .int .i64 5, val := .func (.func 125) #[.pointer (some ⟨B, 0, none⟩)] #[], born := 4 }] 5)) = .ok () (w.alloc (.map #[{ key := .int .i64 1, val := .func (.func 121) #[.pointer (some ⟨B, 0, none⟩)] #[], born := 0 }, { key := .int .i64 2, val := .func (.func 122) #[.pointer (some ⟨B, 0, none⟩)] #[], born := 1 }, { key := .int .i64 3, val := .func (.func 123) #[.pointer (some ⟨B, 0, none⟩)] #[], born := 2 }, { key := .int .i64 4, val := .func (.func 124) #[.pointer (some ⟨B, 0, none⟩)] #[], born := 3 }, { key := .int .i64 5, val := .func (.func 125) #[.pointer (some ⟨B, 0, none⟩)] #[], born := 4 }, { key := .int .i64 6, val := .func (.func 126) #[.pointer (some ⟨B, 0, none⟩)] #[], born := 5 }] 6)) :=
  zbo 6 (.func (.func 126) #[.pointer (some ⟨B, 0, none⟩)] #[]) Tryz.underlying102 Tryz.underlying3 rfl
 have h7 : (Instr.mapUpdate 102 (.map (some w.heap.size)) (.int .i64 7) (.func (.func 127) #[.pointer (some ⟨B, 0, none⟩)] #[])).run Tryz.prog (w.alloc (.map #[{ key := .int .i64 1, val := .func (.func 121) #[.pointer (some ⟨B, 0, none⟩)] #[], born := 0 }, { key := .int .i64 2, val := .func (.func 122) #[.pointer (some ⟨B, 0, none⟩)] #[], born := 1 }, { key := .int .i64 3, val := .func (.func 123) #[.pointer (some ⟨B, 0, none⟩)] #[], born := 2 }, { key := .int .i64 4, val := .func (.func 124) #[.pointer (some ⟨B, 0, none⟩)] #[], born := 3 }, { key := .int .i64 5, val := .func (.func 125) #[.pointer (some ⟨B, 0, none⟩)] #[], born := 4 }, { key := .int .i64 6, val := .func (.func 126) #[.pointer (some ⟨B, 0, none⟩)] #[], born := 5 }] 6)) = .ok () (w.alloc (.map #[{ key := .int .i64 1, val := .func (.func 121) #[.pointer (some ⟨B, 0, none⟩)] #[], born := 0 }, { key := .int .i64 2, val := .func (.func 122) #[.pointer (some ⟨B, 0, none⟩)] #[], born := 1 }, { key := .int .i64 3, val := .func (.func 123) #[.pointer (some ⟨B, 0, none⟩)] #[], born := 2 }, { key := .int .i64 4, val := .func (.func 124) #[.pointer (some ⟨B, 0, none⟩)] #[], born := 3 }, { key := .int .i64 5, val := .func (.func 125) #[.pointer (some ⟨B, 0, none⟩)] #[], born := 4 }, { key := .int .i64 6, val := .func (.func 126) #[.pointer (some ⟨B, 0, none⟩)] #[], born := 5 }, { key := .int .i64 7, val := .func (.func 127) #[.pointer (some ⟨B, 0, none⟩)] #[], born := 6 }] 7)) :=
  zbo 7 (.func (.func 127) #[.pointer (some ⟨B, 0, none⟩)] #[]) Tryz.underlying102 Tryz.underlying3 rfl
 have h8 : (Instr.mapUpdate 102 (.map (some w.heap.size)) (.int .i64 8) (.func (.func 128) #[.pointer (some ⟨B, 0, none⟩)] #[])).run Tryz.prog (w.alloc (.map #[{ key := .int .i64 1, val := .func (.func 121) #[.pointer (some ⟨B, 0, none⟩)] #[], born := 0 }, { key := .int .i64 2, val := .func (.func 122) #[.pointer (some ⟨B, 0, none⟩)] #[], born := 1 }, { key := .int .i64 3, val := .func (.func 123) #[.pointer (some ⟨B, 0, none⟩)] #[], born := 2 }, { key := .int .i64 4, val := .func (.func 124) #[.pointer (some ⟨B, 0, none⟩)] #[], born := 3 }, { key := .int .i64 5, val := .func (.func 125) #[.pointer (some ⟨B, 0, none⟩)] #[], born := 4 }, { key := .int .i64 6, val := .func (.func 126) #[.pointer (some ⟨B, 0, none⟩)] #[], born := 5 }, { key := .int .i64 7, val := .func (.func 127) #[.pointer (some ⟨B, 0, none⟩)] #[], born := 6 }] 7)) = .ok () (w.alloc (.map #[{ key := .int .i64 1, val := .func (.func 121) #[.pointer (some ⟨B, 0, none⟩)] #[], born := 0 }, { key := .int .i64 2, val := .func (.func 122) #[.pointer (some ⟨B, 0, none⟩)] #[], born := 1 }, { key := .int .i64 3, val := .func (.func 123) #[.pointer (some ⟨B, 0, none⟩)] #[], born := 2 }, { key := .int .i64 4, val := .func (.func 124) #[.pointer (some ⟨B, 0, none⟩)] #[], born := 3 }, { key := .int .i64 5, val := .func (.func 125) #[.pointer (some ⟨B, 0, none⟩)] #[], born := 4 }, { key := .int .i64 6, val := .func (.func 126) #[.pointer (some ⟨B, 0, none⟩)] #[], born := 5 }, { key := .int .i64 7, val := .func (.func 127) #[.pointer (some ⟨B, 0, none⟩)] #[], born := 6 }, { key := .int .i64 8, val := .func (.func 128) #[.pointer (some ⟨B, 0, none⟩)] #[], born := 7 }] 8)) :=
  zbo 8 (.func (.func 128) #[.pointer (some ⟨B, 0, none⟩)] #[]) Tryz.underlying102 Tryz.underlying3 rfl
 have h9 : (Instr.mapUpdate 102 (.map (some w.heap.size)) (.int .i64 9) (.func (.func 129) #[.pointer (some ⟨B, 0, none⟩)] #[])).run Tryz.prog (w.alloc (.map #[{ key := .int .i64 1, val := .func (.func 121) #[.pointer (some ⟨B, 0, none⟩)] #[], born := 0 }, { key := .int .i64 2, val := .func (.func 122) #[.pointer (some ⟨B, 0, none⟩)] #[], born := 1 }, { key := .int .i64 3, val := .func (.func 123) #[.pointer (some ⟨B, 0, none⟩)] #[], born := 2 }, { key := .int .i64 4, val := .func (.func 124) #[.pointer (some ⟨B, 0, none⟩)] #[], born := 3 }, { key := .int .i64 5, val := .func (.func 125) #[.pointer (some ⟨B, 0, none⟩)] #[], born := 4 }, { key := .int .i64 6, val := .func (.func 126) #[.pointer (some ⟨B, 0, none⟩)] #[], born := 5 }, { key := .int .i64 7, val := .func (.func 127) #[.pointer (some ⟨B, 0, none⟩)] #[], born := 6 }, { key := .int .i64 8, val := .func (.func 128) #[.pointer (some ⟨B, 0, none⟩)] #[], born := 7 }] 8)) = .ok () (w.alloc (.map #[{ key := .int .i64 1, val := .func (.func 121) #[.pointer (some ⟨B, 0, none⟩)] #[], born := 0 }, { key := .int .i64 2, val := .func (.func 122) #[.pointer (some ⟨B, 0, none⟩)] #[], born := 1 }, { key := .int .i64 3, val := .func (.func 123) #[.pointer (some ⟨B, 0, none⟩)] #[], born := 2 }, { key := .int .i64 4, val := .func (.func 124) #[.pointer (some ⟨B, 0, none⟩)] #[], born := 3 }, { key := .int .i64 5, val := .func (.func 125) #[.pointer (some ⟨B, 0, none⟩)] #[], born := 4 }, { key := .int .i64 6, val := .func (.func 126) #[.pointer (some ⟨B, 0, none⟩)] #[], born := 5 }, { key := .int .i64 7, val := .func (.func 127) #[.pointer (some ⟨B, 0, none⟩)] #[], born := 6 }, { key := .int .i64 8, val := .func (.func 128) #[.pointer (some ⟨B, 0, none⟩)] #[], born := 7 }, { key := .int .i64 9, val := .func (.func 129) #[.pointer (some ⟨B, 0, none⟩)] #[], born := 8 }] 9)) :=
  zbo 9 (.func (.func 129) #[.pointer (some ⟨B, 0, none⟩)] #[]) Tryz.underlying102 Tryz.underlying3 rfl
 have h10 : (Instr.mapUpdate 102 (.map (some w.heap.size)) (.int .i64 10) (.func (.func 130) #[.pointer (some ⟨B, 0, none⟩)] #[])).run Tryz.prog (w.alloc (.map #[{ key := .int .i64 1, val := .func (.func 121) #[.pointer (some ⟨B, 0, none⟩)] #[], born := 0 }, { key := .int .i64 2, val := .func (.func 122) #[.pointer (some ⟨B, 0, none⟩)] #[], born := 1 }, { key := .int .i64 3, val := .func (.func 123) #[.pointer (some ⟨B, 0, none⟩)] #[], born := 2 }, { key := .int .i64 4, val := .func (.func 124) #[.pointer (some ⟨B, 0, none⟩)] #[], born := 3 }, { key := .int .i64 5, val := .func (.func 125) #[.pointer (some ⟨B, 0, none⟩)] #[], born := 4 }, { key := .int .i64 6, val := .func (.func 126) #[.pointer (some ⟨B, 0, none⟩)] #[], born := 5 }, { key := .int .i64 7, val := .func (.func 127) #[.pointer (some ⟨B, 0, none⟩)] #[], born := 6 }, { key := .int .i64 8, val := .func (.func 128) #[.pointer (some ⟨B, 0, none⟩)] #[], born := 7 }, { key := .int .i64 9, val := .func (.func 129) #[.pointer (some ⟨B, 0, none⟩)] #[], born := 8 }] 9)) = .ok () (w.alloc (.map #[{ key := .int .i64 1, val := .func (.func 121) #[.pointer (some ⟨B, 0, none⟩)] #[], born := 0 }, { key := .int .i64 2, val := .func (.func 122) #[.pointer (some ⟨B, 0, none⟩)] #[], born := 1 }, { key := .int .i64 3, val := .func (.func 123) #[.pointer (some ⟨B, 0, none⟩)] #[], born := 2 }, { key := .int .i64 4, val := .func (.func 124) #[.pointer (some ⟨B, 0, none⟩)] #[], born := 3 }, { key := .int .i64 5, val := .func (.func 125) #[.pointer (some ⟨B, 0, none⟩)] #[], born := 4 }, { key := .int .i64 6, val := .func (.func 126) #[.pointer (some ⟨B, 0, none⟩)] #[], born := 5 }, { key := .int .i64 7, val := .func (.func 127) #[.pointer (some ⟨B, 0, none⟩)] #[], born := 6 }, { key := .int .i64 8, val := .func (.func 128) #[.pointer (some ⟨B, 0, none⟩)] #[], born := 7 }, { key := .int .i64 9, val := .func (.func 129) #[.pointer (some ⟨B, 0, none⟩)] #[], born := 8 }, { key := .int .i64 10, val := .func (.func 130) #[.pointer (some ⟨B, 0, none⟩)] #[], born := 9 }] 10)) :=
  zbo 10 (.func (.func 130) #[.pointer (some ⟨B, 0, none⟩)] #[]) Tryz.underlying102 Tryz.underlying3 rfl
 have h11 : (Instr.mapUpdate 102 (.map (some w.heap.size)) (.int .i64 11) (.func (.func 131) #[.pointer (some ⟨B, 0, none⟩)] #[])).run Tryz.prog (w.alloc (.map #[{ key := .int .i64 1, val := .func (.func 121) #[.pointer (some ⟨B, 0, none⟩)] #[], born := 0 }, { key := .int .i64 2, val := .func (.func 122) #[.pointer (some ⟨B, 0, none⟩)] #[], born := 1 }, { key := .int .i64 3, val := .func (.func 123) #[.pointer (some ⟨B, 0, none⟩)] #[], born := 2 }, { key := .int .i64 4, val := .func (.func 124) #[.pointer (some ⟨B, 0, none⟩)] #[], born := 3 }, { key := .int .i64 5, val := .func (.func 125) #[.pointer (some ⟨B, 0, none⟩)] #[], born := 4 }, { key := .int .i64 6, val := .func (.func 126) #[.pointer (some ⟨B, 0, none⟩)] #[], born := 5 }, { key := .int .i64 7, val := .func (.func 127) #[.pointer (some ⟨B, 0, none⟩)] #[], born := 6 }, { key := .int .i64 8, val := .func (.func 128) #[.pointer (some ⟨B, 0, none⟩)] #[], born := 7 }, { key := .int .i64 9, val := .func (.func 129) #[.pointer (some ⟨B, 0, none⟩)] #[], born := 8 }, { key := .int .i64 10, val := .func (.func 130) #[.pointer (some ⟨B, 0, none⟩)] #[], born := 9 }] 10)) = .ok () (w.alloc (.map #[{ key := .int .i64 1, val := .func (.func 121) #[.pointer (some ⟨B, 0, none⟩)] #[], born := 0 }, { key := .int .i64 2, val := .func (.func 122) #[.pointer (some ⟨B, 0, none⟩)] #[], born := 1 }, { key := .int .i64 3, val := .func (.func 123) #[.pointer (some ⟨B, 0, none⟩)] #[], born := 2 }, { key := .int .i64 4, val := .func (.func 124) #[.pointer (some ⟨B, 0, none⟩)] #[], born := 3 }, { key := .int .i64 5, val := .func (.func 125) #[.pointer (some ⟨B, 0, none⟩)] #[], born := 4 }, { key := .int .i64 6, val := .func (.func 126) #[.pointer (some ⟨B, 0, none⟩)] #[], born := 5 }, { key := .int .i64 7, val := .func (.func 127) #[.pointer (some ⟨B, 0, none⟩)] #[], born := 6 }, { key := .int .i64 8, val := .func (.func 128) #[.pointer (some ⟨B, 0, none⟩)] #[], born := 7 }, { key := .int .i64 9, val := .func (.func 129) #[.pointer (some ⟨B, 0, none⟩)] #[], born := 8 }, { key := .int .i64 10, val := .func (.func 130) #[.pointer (some ⟨B, 0, none⟩)] #[], born := 9 }, { key := .int .i64 11, val := .func (.func 131) #[.pointer (some ⟨B, 0, none⟩)] #[], born := 10 }] 11)) :=
  zbo 11 (.func (.func 131) #[.pointer (some ⟨B, 0, none⟩)] #[]) Tryz.underlying102 Tryz.underlying3 rfl
 go_enter Tryz.func47, Tryz.ntmps47
 go_wp2
 go_ret
 exact ⟨rfl, rfl⟩
def B1Post (B T : Nat) (s : ByteArray) (cs : Array Value) (r : Except Ending (ByteArray × Nat)) (w : World) (e : Ending) (w' : World) : Prop :=
 match r with
 | .ok (t, k) => e = (if k = s.size then .returned (.tuple #[]) else BadE) ∧ RowAt w' B T (cs.setIfInBounds 0 (.string t)) ∧ Upd B w w'
 | .error c => e = c ∧ Upd B w w'
theorem zww {s : ByteArray} {a : Nat} {c : Ending} (h : headR s a = .error c) : ∃ n, c = .panicked [{ v := .iface 200 (.agg #[.int .i64 n]), recovered := false }] := by
 unfold headR at h
 split at h
 · cases h; exact ⟨3, rfl⟩
 split at h
 · split at h
   · cases h; exact ⟨3, rfl⟩
   cases h
 cases h; exact ⟨18, rfl⟩
theorem zj2 {a w w' : World} {b t : Nat} (h : Below a.heap.size a w) (hu : Upd2 b t w w') (hb : a.heap.size ≤ b) : Upd t a w' :=
 ⟨hu.os.trans h.os, hu.tape.trans h.tape, hu.output.trans h.output, Nat.le_trans h.size hu.size, fun k hk hne => (hu.block k (by have := h.size; omega) (by omega) (fun e => hne (by simp [e]))).trans (h.block k hk)⟩
theorem zk5 (xb rb B T : Nat) (kd : Int) (d : ByteArray) (cs : Array Value) (w : World) (hx : RowAt w xb 77 #[.int .i64 kd, .string d]) (hr : RowAt w rb 104 #[.func (.func 121) #[.pointer (some ⟨B, 0, none⟩)] #[]]) (hB : RowAt w B T cs) (hcs : 0 < cs.size) (hd : d.size ≤ 1000000) :
   Calls Tryz.prog 50 #[.pointer (some ⟨xb, 0, none⟩), .pointer (some ⟨rb, 0, none⟩)] w fun e w' => B1Post B T d cs (headR d 0) w e w' := by
 have hBs := lt_of_block hB
 have hrs := lt_of_block hr
 have hxs := lt_of_block hx
 obtain ⟨W0, hW0⟩ : ∃ W, w.alloc (.cells #[.string d, .int .i64 0] 110) = W := ⟨_, rfl⟩
 have hp0 : PRd W0 w.heap.size d 0 := by rw [← hW0]; exact RowAt.new _ _ _
 have hB0 : RowAt W0 B T cs := by rw [← hW0]; exact RowAt.alloc hB _
 have hb0 : Below w.heap.size w W0 := by rw [← hW0]; exact bel
 have hr0 : RowAt W0 rb 104 #[.func (.func 121) #[.pointer (some ⟨B, 0, none⟩)] #[]] := by rw [← hW0]; exact RowAt.alloc hr _
 have C := hid (zmq w.heap.size B T d 0 cs W0 hp0 hB0 (by omega) hcs (Nat.zero_le _) hd)
 obtain ⟨x1, x2, x3, x4, x5, x6⟩ := zaa hx
 obtain ⟨y1, y2, y3, y4, y5, y6⟩ := zaa hr0
 have HB := hid hb0
 clear hx hr hB hb0 hr0 hcs
 go_enter Tryz.func50, Tryz.ntmps50
 go_wp2_with fail
 refine C.out.mono ?_
 intro e w1 hp
 cases hq : headR d 0 with
 | error c =>
   rw [hq] at hp
   obtain ⟨rfl, hu⟩ := hp
   obtain ⟨n, rfl⟩ := zww hq
   go_wp2
   refine ⟨rfl, ?_⟩
   show B1Post B T d cs (headR d 0) w _ _
   rw [hq]
   exact ⟨rfl, zj2 HB.out hu (Nat.le_refl _)⟩
 | ok y =>
   obtain ⟨t, k⟩ := y
   rw [hq] at hp
   obtain ⟨rfl, hp1, hB1, hu⟩ := hp
   have H1 := hid (And.intro hB1 (zj2 HB.out hu (Nat.le_refl _)))
   clear hu hB1
   go_wp2_with fail
   refine (zvf w.heap.size d k w1 hp1).mono ?_
   rintro e w2 ⟨hu2, rfl⟩
   have H2 := hid (And.intro (RowAt.upd H1.out.1 hu2 (by omega)) (zm0 H1.out.2 hu2 (Nat.le_refl _)))
   clear hu2 hp1
   by_cases hk : k = d.size
   · rw [if_pos hk]
     go_wp2
     (first | go_end0 | refine bodyPost_ret (results_none rfl _ _ _) rfl ?_)
     show B1Post B T d cs (headR d 0) w _ _
     rw [hq]
     exact ⟨(if_pos hk).symm, H2.out⟩
   rw [if_neg hk]
   simp only [BadE]
   go_wp2
   refine ⟨rfl, ?_⟩
   show B1Post B T d cs (headR d 0) w _ _
   rw [hq]
   exact ⟨(if_neg hk).symm, H2.out⟩
theorem zkg : ∀ args W, (callFunc 50 args).run Tryz.prog W = .ok (.enter 50 args) W := enters_of Tryz.func50 (by kernel_rfl) rfl
def exHead : ByteArray := ⟨#[6, 0]⟩
def exOld : ByteArray := ⟨#[8, 0]⟩
def exEnd : ByteArray := ⟨#[2]⟩
def exFile : ByteArray := ⟨#[1, 0, 2, 6, 0, 23, 9, 11, 0, 1, 2, 48, 14]⟩
theorem zgd : joinV [(1, exHead), (11, exEnd)] = .tuple #[.string exFile, .int .i64 0] := by kernel_rfl
theorem zep : headR exHead 0 = .ok (⟨#[]⟩, 2) := by kernel_rfl
theorem zs3 : headR exOld 0 = .error (BadN 18) := by kernel_rfl
theorem zsz : allR ⟨#[1, 0, 2, 6, 0, 23, 9]⟩ = ([(1, exHead)], 7, 0) := by kernel_rfl
theorem zse : joinV [(1, exHead)] = .tuple #[.string ⟨#[1, 0, 2, 6, 0, 23, 9]⟩, .int .i64 0] := by kernel_rfl
theorem zk0 : intB 3 ++ textB ⟨#[]⟩ = [6, 0] := by kernel_rfl
theorem zh7 : intB 1 = [2] := by kernel_rfl
theorem Tryz.info_rentry : (Tryz.prog.info? 98).map (fun i => (i.zero, i.size, i.bytes)) = some (some (.agg #[.int .i64 0, .string ⟨#[]⟩]), 2, 24) := by kernel_rfl
def RSt (w : World) (cells : Array Value) (es : List Ent) (v : Value) (W : World) : Prop :=
 W.ownsRow w.heap.size 98 2 v es.length (genL entA es) ∧ RowAt W w.heap.size 31 cells ∧ Below w.heap.size w W
theorem RSt.run {w W W' : World} {cells : Array Value} {es : List Ent} {v : Value} (h : RSt w cells es v W) (hb : Below W.heap.size W W') : RSt w cells es v W' :=
 ⟨zcw h.1 hb, h.2.1.run hb, h.2.2.trans (hb.mono h.2.2.size)⟩
theorem RSt.drew {w W : World} {cells : Array Value} {es : List Ent} {v : Value} (h : RSt w cells es v W) : RSt w cells es v W.drew := ⟨World.ownsRow.drew h.1, h.2.1.drew, h.2.2.drew⟩
theorem RSt.alloc {w W : World} {cells : Array Value} {es : List Ent} {v : Value} (h : RSt w cells es v W) (o : Obj) : RSt w cells es v (W.alloc o) := ⟨World.ownsRow.alloc h.1 o, h.2.1.alloc o, h.2.2.alloc h.2.2.size o⟩
theorem zbx {w W W' : World} {cells : Array Value} {es : List Ent} {v v' : Value} {kd : UInt8} {out : ByteArray} {n : Nat} (h : RSt w cells es v W) (hown : W'.ownsRow w.heap.size 98 2 v' n (genL entA es ++ [.int .i64 (kd.toNat : Int), .string out])) (hn : n = es.length + 1) (hgrow : W.grownBy W' v.ownBlock) : RSt w cells (es ++ [(kd, out)]) v' W' := by
 subst hn
 refine ⟨by rw [List.length_append, zdf]; exact hown, zdc h.1 h.2.1 (by decide) hgrow, zb9 h.2.2 h.1 (Nat.le_refl _) hgrow h.2.2.size⟩
theorem zu1 {w W : World} {cells : Array Value} {g : Nat} {kd : UInt8} {out : ByteArray} (hg : RowAt W g 98 #[.int .i64 (kd.toNat : Int), .string out]) (hr : RowAt W w.heap.size 31 cells) (hb : Below w.heap.size w W) (hgw : w.heap.size ≤ g) : RSt w cells [(kd, out)] (.slice (some ⟨g, 0, none⟩) 1 1) W :=
 ⟨⟨rfl, .inr ⟨g, 1, #[.int .i64 (kd.toNat : Int), .string out], rfl, hgw, hg, Nat.le_refl _, by decide, rfl, rfl⟩⟩, hr, hb⟩
theorem zbv {w : World} {kd : Int} {out : ByteArray} : ∀ (j : Nat) u, [Value.int .i64 kd, .string out][j]? = some u → (w.alloc (.cells #[.int .i64 kd, .string out] 98)).cell? ((⟨w.heap.size, 0, none⟩ : Addr).add j) = some u :=
 World.news_of_block (cs := #[.int .i64 kd, .string out]) (t := 98) (fr := (0, 0)) (heap_alloc_new w _)
theorem zbt (kd : Int) (out : ByteArray) : ∀ u ∈ [Value.int .i64 kd, .string out], u.oneCell' = true := by
 intro u hu
 simp at hu
 rcases hu with rfl | rfl <;> rfl
theorem zxg (v : Value) (ns : List Int) (w : World) (hv : ListAt 1 intC w v ns) (hi : Ints64 ns) (hn : ns.length ≤ 256) :
  Calls Tryz.prog 117 #[v] w fun e w' => e = .returned (.string (str (ns.flatMap intB))) ∧ Below w.heap.size w w' := by
 obtain ⟨a, cap, rfl⟩ := hv.shape
 have HV := hid hv
 have HI := hid hi
 have HL := hid (show (ns.flatMap intB).length ≤ 1000000 from by have := zi6 hi; omega)
 have h3 : (ns.length : Int) ≤ 256 := by omega
 clear hi hv
 go_enter Tryz.func117, Tryz.ntmps117
 go_wp2
 go_loopw [3, 4] (fun s3 i wr => ∃ k : Nat, k ≤ ns.length ∧ i = .int .i64 k ∧ s3 = .string (str ((ns.take k).flatMap intB)) ∧ Hid (Below w.heap.size w wr)) (fun _ i _ => ns.length - (intOf i).toNat)
 case atStart => exact ⟨0, Nat.zero_le _, rfl, rfl, hid (Below.refl _ _)⟩
 case round =>
  obtain ⟨k, hk, rfl, rfl, hh⟩ := hrel
  by_cases hlt : k < ns.length
  · have hlt3 : (k : Int) < (ns.length : Int) := by omega
    obtain ⟨d, hd⟩ : ∃ d, ns[k]? = some d := ⟨_, List.getElem?_eq_getElem hlt⟩
    obtain ⟨g, off, cap', he, hg0, hc⟩ := HV.out.at_ (by decide) hd
    cases he
    have e0 : wr.cell? ⟨g, off + k, none⟩ = some (.int .i64 d) := by simpa [intC] using hc wr hh.out 0 (by decide)
    obtain ⟨m1, m2⟩ := HI.out d (List.mem_of_getElem? hd)
    have C1 := hid (fun W => zb4 d W m1 m2)
    have HX := hid (show str ((ns.take k).flatMap intB) ++ str (intB d) = str ((ns.take (k + 1)).flatMap intB) from by rw [zas, zaf hd, List.flatMap_append]; simp)
    have hfl := zaq (f := intB) hd
    have hHL := HL.out
    have zx : ((str ((ns.take k).flatMap intB)).size : Int) ≤ 1000000000 := zae (by omega)
    have zy : ((str (intB d)).size : Int) ≤ 1000000000 := zae (by omega)
    generalize str ((ns.take k).flatMap intB) = x at zx HX ⊢
    generalize str (intB d) = y at zy C1 HX
    have hsum : ¬ 9223372036854775807 < (x.size : Int) + (y.size : Int) := by omega
    clear hd hc hfl hHL m1 m2 hk
    go_wp2_with fail
    refine (C1.out _).mono ?_
    rintro e w1 ⟨rfl, hb1⟩
    have H2 := hid (hh.out.trans (hb1.mono hh.out.size))
    clear hb1
    go_wp2
    go_roundw
    case rel => exact ⟨k + 1, by omega, by go_num, by rw [HX.out], H2⟩
    case measure => simp [intOf]; omega
  obtain rfl : k = ns.length := by omega
  have HT := hid (show ns.take ns.length = ns from List.take_length)
  go_wp2
  go_ret
  exact ⟨zbl (by rw [HT.out]), hh.out⟩
end Go.Proofs.YtjeigphhepngmaaGreatDoor

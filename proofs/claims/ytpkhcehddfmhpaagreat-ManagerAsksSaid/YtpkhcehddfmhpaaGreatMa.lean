/-
  The manager as plain functions: asking devices over a wire with faults. No program in sight.
-/
import Derived.Test.YtpkhcehddfmhpaaGreatSent
import Derived.Test.YtpkhcehddfmhpaaGreatDvs
import Derived.Test.YtpkhcehddfmhpaaGreatPl46
namespace Go.Proofs.YtpkhcehddfmhpaaGreat

/-- A manager, a wire, a request, a result. -/
structure Mgr where
  id : Int
  seq : Int
  tries : Int
structure Wre where
  devs : List Dev
  faults : List Int
  late : List ByteArray
structure Rqs where
  dst : Int
  kind : Int
  par : Int
  dat : ByteArray
structure Rsl where
  kind : Int
  dat : ByteArray
  reason : Int
  tries : Int
def zeroMgr : Mgr := ⟨0, 0, 0⟩
def zeroWre : Wre := ⟨[], [], []⟩
def zeroRsl : Rsl := ⟨0, ⟨#[]⟩, 0, 0⟩

/-- The errors of managers, wires and requests. -/
def mgrE (x : Mgr) : Int := if isId x.id = false ∨ x.seq < 0 ∨ 255 < x.seq ∨ x.tries < 1 ∨ 16 < x.tries then 2 else 0
def badFault (f : Int) : Bool := decide (f < 0 ∨ 4 < f)
def longText (s : ByteArray) : Bool := decide (4096 < s.size)
def wireE (w : Wre) : Int :=
  if devsE w.devs ≠ 0 then devsE w.devs
  else if 4096 < w.faults.length then 5
  else if w.faults.any badFault then 1
  else if 64 < w.late.length then 5
  else if w.late.any longText then 13 else 0
def ofM (x : Mgr) (r : Rqs) : Msg := ⟨r.dst, x.id, x.seq, r.kind, r.par, r.dat⟩
def givenE (x : Mgr) (w : Wre) (r : Rqs) : Int :=
  if mgrE x ≠ 0 then mgrE x else if wireE w ≠ 0 then wireE w else if chk (ofM x r) ≠ 0 then chk (ofM x r) else if r.kind = 6 ∨ r.kind = 7 then 16 else 0
def askE (x : Mgr) (w : Wre) (r : Rqs) : Int := if givenE x w r ≠ 0 then givenE x w r else if r.dst = 281474976710655 then 11 else 0

/-- A text whose last byte is increased by 1; the messages among texts. -/
def txtM (m : Msg) : ByteArray := str (madeL m)
def spoil (s : ByteArray) : ByteArray := str (s.data.toList.set (s.size - 1) (s.data.toList.getD (s.size - 1) 0 + 1))
def heardM (l : List ByteArray) : List Msg := l.filterMap fun s => if (decM s.data.toList).2 = 0 then some (decM s.data.toList).1 else none

/-- A request is sent once: the wire behind, what is heard, the manager behind. -/
def faultW (w : Wre) : Int := w.faults.headD 0
def textsW (x : Mgr) (r : Rqs) (w : Wre) : List ByteArray := if faultW w = 1 then [] else (sentA w.devs (ofM x r)).map txtM
def nowW (f : Int) (l : List ByteArray) : List ByteArray := if f = 0 then l else if f = 3 then l.map spoil else []
def lateW (f : Int) (l : List ByteArray) : List ByteArray := if f = 4 then l else []
def sendW (x : Mgr) (r : Rqs) (w : Wre) : Wre := ⟨if faultW w = 1 then w.devs else sentD w.devs (ofM x r), w.faults.tail, lateW (faultW w) (textsW x r w)⟩
def hearW (x : Mgr) (r : Rqs) (w : Wre) : List Msg := heardM (w.late ++ nowW (faultW w) (textsW x r w))
def nextM (x : Mgr) : Mgr := { x with seq := (x.seq + 1) % 256 }

/-- A device is asked. -/
def resM (t : Int) (a : Msg) : Rsl := if a.kind = 7 then ⟨1, ⟨#[]⟩, b0 a.dat, t⟩ else ⟨0, a.dat, 0, t⟩
def pickR (m : Msg) (t : Int) (l : List Msg) : Option Rsl := (l.find? (matchesM m)).map (resM t)
def silent (x : Mgr) : Rsl := ⟨2, ⟨#[]⟩, 0, x.tries⟩
def askF (r : Rqs) : Nat → Int → Mgr → Wre → Mgr × Wre × Rsl
  | 0, _, x, w => (x, w, silent x)
  | n + 1, t, x, w => match pickR (ofM x r) t (hearW x r w) with
    | some a => (nextM x, sendW x r w, a)
    | none => askF r n (t + 1) (nextM x) (sendW x r w)
def askM (x : Mgr) (w : Wre) (r : Rqs) : Mgr × Wre × Rsl := askF r x.tries.toNat 1 x w

/-- What Send, Ask and All return. -/
def sendU (x : Mgr) (w : Wre) (r : Rqs) : Mgr × Wre × List Msg := if givenE x w r = 0 then (nextM x, sendW x r w, hearW x r w) else (zeroMgr, zeroWre, [])
def askU (x : Mgr) (w : Wre) (r : Rqs) : Mgr × Wre × Rsl := if askE x w r = 0 then askM x w r else (zeroMgr, zeroWre, zeroRsl)
def toR (r : Rqs) (id : Int) : Rqs := { r with dst := id }
def allF (r : Rqs) : List Int → Mgr → Wre → List Rsl → Mgr × Wre × List Rsl × Int
  | [], x, w, out => (x, w, out, 0)
  | id :: ids, x, w, out =>
    if askE x w (toR r id) = 0 then allF r ids (askM x w (toR r id)).1 (askM x w (toR r id)).2.1 (out ++ [(askM x w (toR r id)).2.2])
    else (zeroMgr, zeroWre, [], askE x w (toR r id))
def allU (x : Mgr) (w : Wre) (ids : List Int) (r : Rqs) : Mgr × Wre × List Rsl × Int :=
  if mgrE x ≠ 0 then (zeroMgr, zeroWre, [], mgrE x) else if wireE w ≠ 0 then (zeroMgr, zeroWre, [], wireE w) else if 64 < ids.length then (zeroMgr, zeroWre, [], 5) else allF r ids x w []
def failedM : List Int → List Rsl → List Int
  | id :: ids, a :: l => if a.kind ≠ 0 then id :: failedM ids l else failedM ids l
  | _, _ => []
end Go.Proofs.YtpkhcehddfmhpaaGreat

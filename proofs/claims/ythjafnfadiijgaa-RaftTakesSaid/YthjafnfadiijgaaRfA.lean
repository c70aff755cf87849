/- A part of the proof of statements of this seat: lemmas, no statement of their own. -/
import Derived.Test.YthjafnfadiijgaaQZa
set_option linter.unusedVariables false
set_option linter.unusedSimpArgs false
/- A member of a replicated log, plainly: what the code computes, without memory. -/
namespace Go.Q.Rf
abbrev Ent := Int × List Int
def W (x : Int) : Int := IntKind.u64.wrap x
structure Msg where
  kind : Int
  term : Int
  index : Int
  logTerm : Int
  commit : Int
  yes : Bool
  ents : List Ent
  snap : List Int
deriving DecidableEq
structure Keep where
  kind : Int
  term : Int
  vote : Int
  index : Int
  ents : List Ent
  snap : List Int
deriving DecidableEq
abbrev Mail := Int × Msg
structure Lg where
  ix : Int
  tm : Int
  es : List Ent
deriving DecidableEq
namespace Lg
def lastT (l : Lg) : Int := match l.es.getLast? with | some e => e.1 | none => l.tm
def last (l : Lg) : Int := l.ix + l.es.length
def termOf (l : Lg) (p : Int) : Int × Int :=
  if p < l.ix then (0, 13) else if p > l.last then (0, 6) else if p = l.ix then (l.tm, 0) else ((l.es.getD (p - l.ix - 1).toNat (0, [])).1, 0)
def mat (l : Lg) (p t : Int) : Bool := ((l.termOf p).2 == 0) && ((l.termOf p).1 == t)
def frm (l : Lg) (p most : Int) : List Ent × Int :=
  if p = 0 then ([], 1) else if (l.termOf (p - 1)).2 ≠ 0 then ([], (l.termOf (p - 1)).2) else ((l.es.drop (p - 1 - l.ix).toNat).take most.toNat, 0)
def appStep (ix p : Int) (now : List Ent) (i : Nat) (x : Ent) : List Ent :=
  if W (p + i + 1) ≤ ix then now
  else if (W (p + i + 1) - ix - 1).toNat < now.length then (if (now.getD (W (p + i + 1) - ix - 1).toNat (0, [])).1 = x.1 then now else now.take (W (p + i + 1) - ix - 1).toNat ++ [x]) else now ++ [x]
def appN (ix p : Int) (es more : List Ent) : Nat → List Ent
  | 0 => es
  | i + 1 => match more[i]? with | some x => appStep ix p (appN ix p es more i) i x | none => appN ix p es more i
def append (l : Lg) (p t : Int) (more : List Ent) : Lg × Int × Int :=
  if p ≥ l.ix ∧ l.mat p t = false then (l, 0, 6)
  else if (appN l.ix p l.es more more.length).length > 64 then (l, 0, 8) else ({ l with es := appN l.ix p l.es more more.length }, W (p + more.length), 0)
def cut (l : Lg) (p : Int) : Lg × Int :=
  if (l.termOf p).2 ≠ 0 then (l, (l.termOf p).2) else (⟨p, (l.termOf p).1, l.es.drop (p - l.ix).toNat⟩, 0)
def newer (l : Lg) (p t : Int) : Bool := decide (t > l.lastT) || ((t == l.lastT) && decide (p ≥ l.last))
end Lg
/-- the greatest number that more than half are at least -/
def cnt (l : List Int) (v : Int) : Nat := l.countP fun x => decide (v ≤ x)
def cmt (l : List Int) : Int := (l.filter fun v => decide (l.length / 2 + 1 ≤ cnt l v)).foldl max 0
structure RS where
  me : Int
  n : Int
  term : Int
  vote : Int
  log : Lg
  snap : List Int
  commit : Int
  role : Int
  leader : Int
  ticks : Int
  ballot : Option (List Int)
  next : List Int
  has : List Int
  keeps : List Keep
deriving DecidableEq
namespace RS
def keepTerm (r : RS) : RS := { r with keeps := r.keeps ++ [⟨1, r.term, r.vote, 0, [], []⟩] }
def newTerm (r : RS) (term : Int) : RS := if term > r.term then keepTerm { r with term := term, vote := 0 } else r
def follow (r : RS) (term leader : Int) : RS := { r.newTerm term with role := 0, leader := leader, ballot := none }
def nodes (r : RS) : List Int := ((List.range r.n.toNat).map (fun (i : Nat) => (i : Int))).filter fun i => i != r.me
def others (r : RS) (f : Int → Msg) : List Mail := r.nodes.map fun i => (i, f i)
def due (r : RS) (node : Int) : Msg :=
  if r.next.getD node.toNat 0 ≤ r.log.ix then ⟨5, r.term, r.log.ix, r.log.tm, r.commit, false, [], r.snap⟩
  else ⟨3, r.term, W (r.next.getD node.toNat 0 - 1), (r.log.termOf (W (r.next.getD node.toNat 0 - 1))).1, r.commit, false, (r.log.frm (r.next.getD node.toNat 0) 4).1, []⟩
def settle (r : RS) : RS :=
  if cmt r.has > r.commit ∧ (r.log.termOf (cmt r.has)).2 = 0 ∧ (r.log.termOf (cmt r.has)).1 = r.term then { r with commit := cmt r.has } else r
def put (r : RS) (cmd : List Int) : RS × Int × Int :=
  if (r.log.append r.log.last r.log.lastT [(r.term, cmd)]).2.2 ≠ 0 then (r, 0, (r.log.append r.log.last r.log.lastT [(r.term, cmd)]).2.2)
  else (settle { r with log := (r.log.append r.log.last r.log.lastT [(r.term, cmd)]).1, keeps := r.keeps ++ [⟨2, r.log.lastT, 0, r.log.last, [(r.term, cmd)], []⟩], has := r.has.set r.me.toNat (r.log.append r.log.last r.log.lastT [(r.term, cmd)]).2.1 }, (r.log.append r.log.last r.log.lastT [(r.term, cmd)]).2.1, 0)
def won (r : RS) : Bool := match r.ballot with | some l => decide ((l.length : Int) ≥ r.n / 2 + 1) | none => false
def lead (r : RS) : RS := { r with role := 2, leader := r.me, ticks := 0, ballot := none, next := List.replicate r.n.toNat (W (r.log.last + 1)), has := (List.replicate r.n.toNat 0).set r.me.toNat r.log.last }
def win (r : RS) : RS × List Mail :=
  if r.role ≠ 1 ∨ r.won = false then (r, []) else ((put r.lead []).1, others (put r.lead []).1 (due (put r.lead []).1))
def asks (r : RS) : RS := { keepTerm { r with term := W (r.term + 1), role := 1, leader := -1, ticks := 0, vote := r.me + 1 } with ballot := some [r.me] }
def campaign (r : RS) : RS × List Mail :=
  if r.term ≥ 4611686018427387904 then (r, [])
  else (r.asks.win.1, r.asks.others (fun _ => ⟨1, r.asks.term, r.log.last, r.log.lastT, 0, false, [], []⟩) ++ r.asks.win.2)
def tick (r : RS) : RS × List Mail :=
  if r.role = 2 ∧ (r.ticks + 1) % 3 = 0 then ({ r with ticks := r.ticks + 1 }, others { r with ticks := r.ticks + 1 } (due { r with ticks := r.ticks + 1 }))
  else if r.role ≠ 2 ∧ r.ticks + 1 ≥ 10 + 7 * r.me then campaign { r with ticks := r.ticks + 1 } else ({ r with ticks := r.ticks + 1 }, [])
def answer (r : RS) (to kind : Int) (yes : Bool) (index : Int) : List Mail := [(to, ⟨kind, r.term, index, 0, 0, yes, [], []⟩)]
def votes (r : RS) (from' : Int) (m : Msg) : Bool := (r.vote == 0 || r.vote == from' + 1) && r.log.newer m.index m.logTerm
def voted (r : RS) (from' : Int) (m : Msg) : RS × List Mail :=
  if r.votes from' m then ((if r.vote = 0 then { keepTerm { r with vote := from' + 1 } with ticks := 0 } else { r with ticks := 0 }), r.answer from' 2 true 0) else (r, r.answer from' 2 false 0)
def freshK : Keep := ⟨0, 0, 0, 0, [], []⟩
def freshAt (r : RS) (m : Msg) : Nat → List Ent → Keep
  | _, [] => freshK
  | i, x :: xs =>
    if W (m.index + i + 1) ≤ r.log.ix ∨ r.log.mat (W (m.index + i + 1)) x.1 = true then freshAt r m (i + 1) xs
    else ⟨2, (if i > 0 ∧ W (W (m.index + i + 1) - 1) > r.log.ix then (m.ents.getD (i - 1) (0, [])).1 else (r.log.termOf (W (W (m.index + i + 1) - 1))).1), 0, W (W (m.index + i + 1) - 1), x :: xs, []⟩
def fresh (r : RS) (m : Msg) : Keep := freshAt r m 0 m.ents
/-- it follows who sent it -/
def foll (r : RS) (from' : Int) (m : Msg) : RS := { r.follow m.term from' with ticks := 0 }
def app2 (r1 : RS) (m : Msg) : RS :=
  { r1 with log := (r1.log.append m.index m.logTerm m.ents).1, keeps := if (r1.fresh m).ents.length > 0 then r1.keeps ++ [r1.fresh m] else r1.keeps, commit := max r1.commit (min m.commit (r1.log.append m.index m.logTerm m.ents).2.1) }
def appends2 (r1 : RS) (from' : Int) (m : Msg) : RS × List Mail :=
  if (r1.log.append m.index m.logTerm m.ents).2.2 ≠ 0 then (r1, r1.answer from' 4 false (min r1.log.last (max m.index 1 - 1)))
  else (r1.app2 m, (r1.app2 m).answer from' 4 true (r1.log.append m.index m.logTerm m.ents).2.1)
def appends (r : RS) (from' : Int) (m : Msg) : RS × List Mail := (r.foll from' m).appends2 from' m
def base (r : RS) (index term : Int) (snap : List Int) : RS :=
  { r with log := if r.log.mat index term then (r.log.cut index).1 else ⟨index, term, []⟩, snap := snap, keeps := r.keeps ++ [⟨3, term, 0, index, [], snap⟩] }
def snap2 (r1 : RS) (m : Msg) : RS := if m.index > r1.commit then { r1.base m.index m.logTerm m.snap with commit := m.index } else r1
def snapshot (r : RS) (from' : Int) (m : Msg) : RS × List Mail := ((r.foll from' m).snap2 m, ((r.foll from' m).snap2 m).answer from' 4 true ((r.foll from' m).snap2 m).commit)
def back (r : RS) (from' : Int) (m : Msg) : RS := { r with next := r.next.set from'.toNat (max 1 (min (W (r.next.getD from'.toNat 0 - 1)) (W (m.index + 1)))) }
def forth (r : RS) (from' : Int) (m : Msg) : RS :=
  settle { r with has := r.has.set from'.toNat (max (r.has.getD from'.toNat 0) m.index), next := r.next.set from'.toNat (max (r.next.getD from'.toNat 0) (W (m.index + 1))) }
def appended (r : RS) (from' : Int) (m : Msg) : RS × List Mail :=
  if r.role ≠ 2 then (r, [])
  else if m.yes = false then (r.back from' m, [(from', (r.back from' m).due from')])
  else if m.index > r.log.last then (r, [])
  else if (r.forth from' m).next.getD from'.toNat 0 ≤ r.log.last then (r.forth from' m, [(from', (r.forth from' m).due from')]) else (r.forth from' m, [])
def late (r : RS) (from' : Int) (m : Msg) : List Mail :=
  if m.kind = 1 then r.answer from' 2 false 0 else if m.kind = 3 ∨ m.kind = 5 then r.answer from' 4 false 0 else []
def say (l : List Int) (v n : Int) : List Int := if v < 0 ∨ v ≥ n ∨ v ∈ l then l else l ++ [v]
def counted (r : RS) (from' : Int) (m : Msg) : RS := if r.role = 1 ∧ m.yes = true then { r with ballot := r.ballot.map fun l => say l from' r.n } else r
def take2 (r : RS) (from' : Int) (m : Msg) : RS × List Mail :=
  if m.kind = 1 then r.voted from' m else if m.kind = 2 then (r.counted from' m).win else if m.kind = 3 then r.appends from' m else if m.kind = 4 then r.appended from' m else r.snapshot from' m
def take (r : RS) (from' : Int) (m : Msg) : RS × List Mail :=
  if from' < 0 ∨ from' ≥ r.n ∨ from' = r.me ∨ m.kind < 1 ∨ m.kind > 5 then (r, [])
  else if m.term < r.term then (r, r.late from' m)
  else if m.term > r.term then (r.follow m.term (-1)).take2 from' m
  else r.take2 from' m
def propose (r : RS) (cmd : List Int) : RS × Int × Int := if r.role ≠ 2 then (r, 0, 18) else r.put cmd
def entry (r : RS) (index : Int) : Ent × Int :=
  if (r.log.termOf index).2 ≠ 0 then ((0, []), (r.log.termOf index).2)
  else if (r.log.frm index 1).2 ≠ 0 then ((0, []), 13) else match (r.log.frm index 1).1 with | x :: _ => (x, 0) | [] => ((0, []), 13)
def cutTo (r : RS) (index : Int) (snap : List Int) : RS × Int :=
  if index > r.commit then (r, 14) else if (r.log.termOf index).2 ≠ 0 then (r, (r.log.termOf index).2) else (r.base index (r.log.termOf index).1 snap, 0)
def start (me n term vote : Int) (l : Lg) (snap : List Int) : RS := ⟨me, n, term, vote, l, snap, l.ix, 0, -1, 0, none, [], [], []⟩
end RS
end Go.Q.Rf

/- A part of the proof of statements of this seat: lemmas, no statement of their own. -/
import Derived.Test.YthjafnfadiijgaaYhRs
import Derived.Test.YthjafnfadiijgaaYhVt4
import Derived.Test.YthjafnfadiijgaaYhLh
import Derived.Test.YthjafnfadiijgaaYhLa
import Derived.Test.YthjafnfadiijgaaYhRt
set_option linter.unusedVariables false
set_option linter.unusedSimpArgs false
set_option maxRecDepth 100000
/- A member in memory. -/
namespace Go.Q.Yh
open Rf
theorem _root_.Go.Q.Row.bd' {B E w : Nat} {h : Heap} {s : Slc} {xs : List Value} (r : Row B h E w s xs) {g : Nat} (hg : s.blk = some g) : g < h.size := (r.bd hg).2
theorem _root_.Go.Q.Row.ne_r {B B' E E' w w' : Nat} {h : Heap} {s t : Slc} {xs ys : List Value} (R : Row B h E w s xs) (L : Row B' h E' w' t ys) (hE : E ≠ E') {g : Nat} (hs : s.blk = some g) (ht : t.blk = some g) : False := R.ne_row L hE hs ht
/-! ### ballots -/
def bits (l : List Int) : Nat := (l.map fun x => 2 ^ x.toNat).sum
theorem bits_snoc (l : List Int) (v : Int) : bits (l ++ [v]) = bits l + 2 ^ v.toNat := by simp [bits]
theorem bits_ok {n : Nat} (hn : n ≤ 32) : ∀ {l : List Int}, l.Nodup → (∀ x ∈ l, 0 ≤ x ∧ x < n) → bits l < 2 ^ n ∧ pcR 32 (bits l) = l.length ∧ ∀ i : Nat, bits l / 2 ^ i % 2 = if (i : Int) ∈ l then 1 else 0
  | [], _, _ => ⟨by simp [bits]; exact Nat.pos_of_ne_zero (by simp), by simp only [bits, List.map_nil, List.sum_nil, List.length_nil]; decide +kernel, fun i => by simp [bits]⟩
  | x :: l, hd, hb => by
    obtain ⟨h1, h2⟩ := List.nodup_cons.1 hd
    obtain ⟨a, b, c⟩ := bits_ok hn (l := l) h2 fun y hy => hb y (List.mem_cons_of_mem _ hy)
    obtain ⟨x0, x1⟩ := hb x List.mem_cons_self
    have ex : bits (x :: l) = bits l + 2 ^ x.toNat := by simp [bits, Nat.add_comm]
    have cx : bits l / 2 ^ x.toNat % 2 = 0 := by rw [c x.toNat, if_neg (by rw [Int.toNat_of_nonneg x0]; exact h1)]
    rw [ex]
    refine ⟨set_lt (by omega) a cx, by rw [pcR_set 32 _ _ (by omega) cx, b]; simp, fun i => ?_⟩
    rw [set_bit cx, c i]
    by_cases hi : i = x.toNat
    · rw [if_pos hi, if_pos (by rw [hi, Int.toNat_of_nonneg x0]; exact List.mem_cons_self)]
    · rw [if_neg hi]
      by_cases hm : (i : Int) ∈ l
      · rw [if_pos hm, if_pos (List.mem_cons_of_mem _ hm)]
      · rw [if_neg hm, if_neg (fun h => (List.mem_cons.1 h).elim (fun e => hi (by omega)) hm)]
/-! ### the greatest number that more than half have -/
theorem fold_max : ∀ (l : List Int) (a : Int), a ≤ l.foldl max a ∧ (∀ x ∈ l, x ≤ l.foldl max a) ∧ (l.foldl max a = a ∨ l.foldl max a ∈ l)
  | [], a => ⟨Int.le_refl _, by simp, .inl rfl⟩
  | y :: l, a => by
    obtain ⟨h1, h2, h3⟩ := fold_max l (max a y)
    refine ⟨by simp only [List.foldl_cons]; omega, fun x hx => ?_, ?_⟩
    · simp only [List.foldl_cons]
      rcases List.mem_cons.1 hx with rfl | hx
      · omega
      · exact h2 x hx
    · simp only [List.foldl_cons]
      rcases h3 with h3 | h3
      · rcases Int.le_total a y with h | h
        · right; rw [h3, Int.max_eq_right h]; exact List.mem_cons_self
        · left; rw [h3, Int.max_eq_left h]
      · exact .inr (List.mem_cons_of_mem _ h3)
theorem Cm.cmt {l : List Int} {c : Int} (h : Cm l c) (nn : ∀ x ∈ l, 0 ≤ x) : Rf.cmt l = c := by
  unfold Rf.cmt
  have ec : ∀ v, Rf.cnt l v = cnt l v := fun v => rfl
  rcases h with ⟨rfl, rfl⟩ | ⟨h1, h2, h3⟩
  · rfl
  · obtain ⟨a, b, d⟩ := fold_max (l.filter fun v => decide (l.length / 2 + 1 ≤ Rf.cnt l v)) 0
    have hc : c ∈ l.filter fun v => decide (l.length / 2 + 1 ≤ Rf.cnt l v) := List.mem_filter.2 ⟨h1, by rw [decide_eq_true_eq, ec]; exact h2⟩
    have k1 := b c hc
    rcases d with d | d
    · have := nn c h1; omega
    · have := List.mem_filter.1 d
      rw [decide_eq_true_eq, ec] at this
      have := h3 _ this.2
      omega
/-! ### messages, letters, what is to be kept -/
structure MsgV (h : Heap) (v : S_api_Msg) (x : Msg) : Prop where
  k : v.f_Kind = x.kind ∧ v.f_Term = x.term ∧ v.f_Index = x.index ∧ v.f_LogTerm = x.logTerm ∧ v.f_Commit = x.commit ∧ v.f_Yes = x.yes
  e : EntsAt h v.f_Entries x.ents
  s : SlcAt h v.f_Snap (b8 x.snap)
  sl : v.f_Snap.len = x.snap.length
theorem MsgV.ext {h h' : Heap} {v : S_api_Msg} {x : Msg} (m : MsgV h v x) (X : Ext h.size h h') : MsgV h' v x := ⟨m.k, m.e.ext X, m.s.ext X, m.sl⟩
structure KeepV (h : Heap) (v : S_api_Keep) (x : Keep) : Prop where
  k : v.f_Kind = x.kind ∧ v.f_Term = x.term ∧ v.f_Vote = x.vote ∧ v.f_Index = x.index
  e : EntsAt h v.f_Entries x.ents
  s : SlcAt h v.f_Snap (b8 x.snap)
  sl : v.f_Snap.len = x.snap.length
def Keeps (h : Heap) (vs : List S_api_Keep) (xs : List Keep) : Prop := vs.length = xs.length ∧ ∀ (i : Nat) v x, vs[i]? = some v → xs[i]? = some x → KeepV h v x
theorem Keeps.snoc {h : Heap} {vs : List S_api_Keep} {xs : List Keep} {v : S_api_Keep} {x : Keep} (a : Keeps h vs xs) (k : KeepV h v x) : Keeps h (vs ++ [v]) (xs ++ [x]) := by
  refine ⟨by simp [a.1], fun i w f hw hf => ?_⟩
  rcases Nat.lt_or_ge i vs.length with hi | hi
  · rw [List.getElem?_append_left hi] at hw
    rw [List.getElem?_append_left (by rw [← a.1]; exact hi)] at hf
    exact a.2 i w f hw hf
  · rw [List.getElem?_append_right hi] at hw
    rw [List.getElem?_append_right (by rw [← a.1]; exact hi), ← a.1] at hf
    have : i - vs.length = 0 := by have := (List.getElem?_eq_some_iff.1 hw).1; simp at this; omega
    rw [this] at hw hf
    simp at hw hf
    subst hw; subst hf; exact k
theorem kcs_len (vs : List S_api_Keep) : (vs.flatMap S_api_Keep.cs).length = vs.length * 6 := fm_len (w := 6) (fun _ => rfl) vs
theorem slc_nil (h : Heap) : SlcAt h ⟨none, 0, 0⟩ [] := ⟨fun _ => rfl, fun a ha => by cases ha⟩
/-! ### a member -/
structure RLy where
  b : Nat
  lb : Nat
  es : Slc
  snap : Slc
  next : Slc
  has : Slc
  keeps : Slc
  bal : Option Nat
def own (L : RLy) : BSet := fun g => g = L.b ∨ g = L.lb ∨ L.es.blk = some g ∨ L.next.blk = some g ∨ L.has.blk = some g ∨ L.keeps.blk = some g ∨ L.bal = some g
def rcs (L : RLy) (r : RS) : List Value := S_raft_Raft.cs ⟨r.me, r.n, r.term, r.vote, some ⟨L.lb, 0, none⟩, L.snap, r.commit, r.role, r.leader, r.ticks, L.bal.map fun c => ⟨c, 0, none⟩, L.next, L.has, L.keeps⟩
def BalP (h : Heap) (n : Int) : Option Nat → Option (List Int) → Prop
  | some c, some l => Blk h c (S_vote_Ballot.cs ⟨n, (bits l : Int)⟩) 123
  | none, none => True
  | _, _ => False
structure Parts (O : BSet) (h : Heap) (L : RLy) (log : Lg) (snap next has : List Int) (keeps : List Keep) (ballot : Option (List Int)) (n : Int) : Prop where
  l : LogAt O h L.lb L.es log
  sn : Imm O h fun h => SlcAt h L.snap (b8 snap)
  sl : L.snap.len = snap.length
  nx : Row 0 h 22 1 L.next (u8s next)
  hs : Row 0 h 22 1 L.has (u8s has)
  dj : ∀ g, L.next.blk = some g → L.has.blk = some g → False
  kp : ∃ ks, Row 0 h 107 6 L.keeps (ks.flatMap S_api_Keep.cs) ∧ Imm O h fun h => Keeps h ks keeps
  bl : BalP h n L.bal ballot
structure WFr (r : RS) : Prop where
  n : 1 ≤ r.n ∧ r.n ≤ 32
  me : 0 ≤ r.me ∧ r.me < r.n
  tm : 0 ≤ r.term ∧ r.term < 18446744073709551616
  vt : -9223372036854775808 ≤ r.vote ∧ r.vote < 9223372036854775808
  cm : 0 ≤ r.commit ∧ r.commit < 18446744073709551616
  tk : 0 ≤ r.ticks ∧ r.ticks ≤ 1000000000
  ld : r.role = 2 → r.next.length = r.n.toNat ∧ r.has.length = r.n.toNat
  nx : ∀ x ∈ r.next, 0 ≤ x ∧ x < 18446744073709551616
  hs : ∀ x ∈ r.has, 0 ≤ x ∧ x < 18446744073709551616
  bl : ∀ l, r.ballot = some l → l.Nodup ∧ ∀ x ∈ l, 0 ≤ x ∧ x < r.n
  sn : isB r.snap ∧ r.snap.length ≤ 1099511627776
  kp : r.keeps.length ≤ 1000000
structure RaftAt (O : BSet) (h : Heap) (L : RLy) (r : RS) : Prop where
  k : Blk h L.b (rcs L r) 94
  p : Parts O h L r.log r.snap r.next r.has r.keeps r.ballot r.n
  ow : ∀ g, own L g → O g
  ob : ∀ g, O g → g < h.size
  wf : WFr r
section
variable {O O' S : BSet} {h h' : Heap} {L : RLy} {r : RS} {log : Lg} {snap next has : List Int} {keeps : List Keep} {ballot : Option (List Int)} {n : Int}
theorem BalP.old {h h' : Heap} {n : Int} : ∀ {c : Option Nat} {b : Option (List Int)}, BalP h n c b → (∀ g, c = some g → h'[g]? = h[g]?) → BalP h' n c b
  | some c, some l, H, e => Blk.old H (e c rfl)
  | none, none, _, _ => trivial
  | some _, none, H, _ => H.elim
  | none, some _, H, _ => H.elim
theorem BalP.lt {h : Heap} {n : Int} : ∀ {c : Option Nat} {b : Option (List Int)}, BalP h n c b → ∀ g, c = some g → g < h.size
  | some c, some l, H, g, e => by cases e; exact Blk.lt H
  | some _, none, H, _, _ => H.elim
theorem BalP.blk {h : Heap} {n : Int} : ∀ {c : Option Nat} {b : Option (List Int)}, BalP h n c b → ∀ g, c = some g → ∃ cs, Blk h g cs 123
  | some c, some l, H, g, e => by cases e; exact ⟨_, H⟩
  | some _, none, H, _, _ => H.elim
/-- what was done elsewhere leaves the parts -/
theorem Parts.stp (P : Parts O h L log snap next has keeps ballot n) (p : Stp S h h') (hS : ∀ g, S g → O g ∨ h.size ≤ g)
    (h1 : ¬ S L.lb) (h2 : ∀ g, L.es.blk = some g → ¬ S g) (h3 : ∀ g, L.next.blk = some g → ¬ S g) (h4 : ∀ g, L.has.blk = some g → ¬ S g) (h5 : ∀ g, L.keeps.blk = some g → ¬ S g) (h6 : ∀ g, L.bal = some g → ¬ S g) : Parts O h' L log snap next has keeps ballot n := by
  obtain ⟨ks, K, I⟩ := P.kp
  exact ⟨P.l.stp p hS h1 h2, P.sn.stp (p.mono hS), P.sl, p.row P.nx h3, p.row P.hs h4, P.dj, ⟨ks, p.row K h5, I.stp (p.mono hS)⟩, P.bl.old fun g e => p.block g (P.bl.lt g e) (h6 g e)⟩
theorem Parts.sub (P : Parts O h L log snap next has keeps ballot n) (hO : ∀ g, O' g → O g ∨ h.size ≤ g) (h1 : O' L.lb) (h2 : ∀ g, L.es.blk = some g → O' g) : Parts O' h L log snap next has keeps ballot n := by
  obtain ⟨ks, K, I⟩ := P.kp
  exact ⟨P.l.sub hO h1 h2, P.sn.mono hO, P.sl, P.nx, P.hs, P.dj, ⟨ks, K, I.mono hO⟩, P.bl⟩
/-- what was done to a block of another type leaves the parts -/
theorem Parts.upd {b E : Nat} {cs : List Value} (P : Parts O h L log snap next has keeps ballot n) (K : Blk h b cs E) (U : Upd b h h') (hb : O b) (hE : E ≠ 117 ∧ E ≠ 65 ∧ E ≠ 22 ∧ E ≠ 107 ∧ E ≠ 123) : Parts O h' L log snap next has keeps ballot n := by
  obtain ⟨e1, e2, e3, e4, e5⟩ := hE
  obtain ⟨ks, Kr, I⟩ := P.kp
  obtain ⟨vs, R, _⟩ := P.l.r
  refine P.stp (S := fun g => g = b) (.of_upd U (.inl rfl)) (fun g hg => .inl (by subst hg; exact hb)) (fun e => ?_) (fun g hg e => ?_) (fun g hg e => ?_) (fun g hg e => ?_) (fun g hg e => ?_) fun g hg e => ?_
  · subst e; exact e1 (K.inj P.l.k).2
  · subst e; exact R.ne_blk K (Ne.symm e2) hg
  · subst e; exact P.nx.ne_blk K (Ne.symm e3) hg
  · subst e; exact P.hs.ne_blk K (Ne.symm e3) hg
  · subst e; exact Kr.ne_blk K (Ne.symm e4) hg
  · subst e
    obtain ⟨cs', K'⟩ := P.bl.blk _ hg
    exact e5 (K.inj K').2
theorem RaftAt.ob' (R : RaftAt O h L r) {g : Nat} (hg : own L g) : g < h.size := R.ob g (R.ow g hg)
theorem RaftAt.Ob (R : RaftAt O h L r) : O L.b := R.ow _ (.inl rfl)
/-- the same blocks, one field or more of the member's block written -/
theorem RaftAt.poke {r' : RS} (R : RaftAt O h L r) (K : Blk h' L.b (rcs L r') 94) (U : Upd L.b h h') (w : WFr r') (e : r'.log = r.log ∧ r'.snap = r.snap ∧ r'.next = r.next ∧ r'.has = r.has ∧ r'.keeps = r.keeps ∧ r'.ballot = r.ballot ∧ r'.n = r.n) : RaftAt O h' L r' := by
  obtain ⟨e1, e2, e3, e4, e5, e6, e7⟩ := e
  refine ⟨K, ?_, R.ow, fun g hg => Nat.lt_of_lt_of_le (R.ob g hg) U.size, w⟩
  rw [e1, e2, e3, e4, e5, e6, e7]
  exact R.p.upd R.k U R.Ob (by decide)
theorem RaftAt.ext (R : RaftAt O h L r) (X : Ext h.size h h') : RaftAt O h' L r :=
  ⟨R.k.ext X R.k.lt, R.p.stp (S := fun _ => False) (.of_ext X) (fun _ h => h.elim) (fun h => h) (fun _ _ h => h) (fun _ _ h => h) (fun _ _ h => h) (fun _ _ h => h) (fun _ _ h => h), R.ow, fun g hg => Nat.lt_of_lt_of_le (R.ob g hg) X.size, R.wf⟩
theorem RaftAt.sub (R : RaftAt O h L r) (hO : ∀ g, O' g → O g) (hw : ∀ g, own L g → O' g) : RaftAt O' h L r :=
  ⟨R.k, R.p.sub (fun g hg => .inl (hO g hg)) (hw _ (.inr (.inl rfl))) fun g hg => hw g (.inr (.inr (.inl hg))), hw, fun g hg => R.ob g (hO g hg), R.wf⟩
/-- what is done elsewhere leaves a member -/
theorem RaftAt.stp (R : RaftAt O h L r) (p : Stp S h h') (hS : ∀ g, S g → O g ∨ h.size ≤ g) (hd : ∀ g, own L g → ¬ S g) : RaftAt O h' L r :=
  ⟨p.blk R.k (hd _ (.inl rfl)), R.p.stp p hS (hd _ (.inr (.inl rfl))) (fun g hg => hd g (.inr (.inr (.inl hg)))) (fun g hg => hd g (.inr (.inr (.inr (.inl hg))))) (fun g hg => hd g (.inr (.inr (.inr (.inr (.inl hg)))))) (fun g hg => hd g (.inr (.inr (.inr (.inr (.inr (.inl hg))))))) fun g hg => hd g (.inr (.inr (.inr (.inr (.inr (.inr hg)))))), R.ow, fun g hg => Nat.lt_of_lt_of_le (R.ob g hg) p.size, R.wf⟩
def G (O : BSet) (L : RLy) : BSet := fun g => O g ∨ own L g
/-- what a call leaves of a member -/
structure Res (O : BSet) (h : Heap) (L : RLy) (r' : RS) (h' : Heap) (L' : RLy) : Prop where
  R : RaftAt (G O L') h' L' r'
  S : Stp (own L) h h'
  F : ∀ g, own L' g → own L g ∨ h.size ≤ g
  b : L'.b = L.b
theorem RaftAt.g (R : RaftAt O h L r) : RaftAt (G O L) h L r := R.sub (fun g hg => hg.elim (fun h => h) (R.ow g)) fun g hg => .inr hg
theorem Res.of {r' : RS} (R : RaftAt O h' L r') (S : Stp (own L) h h') : Res O h L r' h' L := ⟨R.g, S, fun g hg => .inl hg, rfl⟩
theorem Res.trans {r1 r2 : RS} {h1 h2 : Heap} {L1 L2 : RLy} (p : Res O h L r1 h1 L1) (q : Res (G O L1) h1 L1 r2 h2 L2) : Res O h L r2 h2 L2 :=
  ⟨q.R.sub (fun g hg => hg.elim (fun h => .inl (.inl h)) .inr) fun g hg => .inr hg, p.S.trans q.S p.F, fun g hg => (q.F g hg).elim (p.F g) fun h2 => .inr (Nat.le_trans p.S.size h2), q.b.trans p.b⟩
theorem Res.ext {r' : RS} {h2 : Heap} {L' : RLy} (p : Res O h L r' h' L') (X : Ext h'.size h' h2) : Res O h L r' h2 L' := ⟨p.R.ext X, p.S.trans (O' := fun _ => False) (.of_ext X) fun _ h => h.elim, p.F, p.b⟩
/-- behind new blocks -/
theorem Res.pre {r' : RS} {h0 : Heap} {L' : RLy} (p : Res O h L r' h' L') (X : Ext h0.size h0 h) (ow : ∀ g, own L g → g < h0.size) : Res O h0 L r' h' L' :=
  ⟨p.R, (Stp.of_ext (O := own L) X).trans' p.S, fun g hg => (p.F g hg).elim .inl fun h2 => .inr (Nat.le_trans X.size h2), p.b⟩
theorem Res.imm {r' : RS} {L' : RLy} {p : Heap → Prop} (q : Res O h L r' h' L') (R : RaftAt O h L r) (I : Imm O h p) : Imm (G O L') h' p :=
  I.step (q.S.mono fun g hg => .inl (R.ow g hg)) fun g hg => hg.elim .inl fun h2 => (q.F g h2).elim (fun h3 => .inl (R.ow g h3)) .inr
/-- a block of another type isn't a member's own -/
theorem RaftAt.ne_own {E b : Nat} {cs : List Value} (R : RaftAt O h L r) (K : Blk h b cs E) (hE : E ≠ 94 ∧ E ≠ 117 ∧ E ≠ 65 ∧ E ≠ 22 ∧ E ≠ 107 ∧ E ≠ 123) : ¬ own L b := by
  obtain ⟨e0, e1, e2, e3, e4, e5⟩ := hE
  obtain ⟨ks, Kr, I⟩ := R.p.kp
  obtain ⟨vs, Rr, _⟩ := R.p.l.r
  rintro (h | h | h | h | h | h | h)
  · subst h; exact e0 (K.inj R.k).2
  · subst h; exact e1 (K.inj R.p.l.k).2
  · exact Rr.ne_blk K (Ne.symm e2) h
  · exact R.p.nx.ne_blk K (Ne.symm e3) h
  · exact R.p.hs.ne_blk K (Ne.symm e3) h
  · exact Kr.ne_blk K (Ne.symm e4) h
  · obtain ⟨cs', K'⟩ := R.p.bl.blk _ h
    exact e5 (K.inj K').2
/-! fields -/
theorem RaftAt.c (R : RaftAt O h L r) (i : Nat) : cellH h ((⟨L.b, 0, none⟩ : Addr).add i) = (rcs L r)[i]? := R.k.get i
theorem RaftAt.c0 (R : RaftAt O h L r) : cellH h ⟨L.b, 0, none⟩ = some (.int .i64 r.me) := R.k.cell
end
end Go.Q.Yh
set_option linter.unusedVariables false
set_option linter.unusedSimpArgs false
set_option maxRecDepth 100000
/- A member's small calls. -/
namespace Go.Q.Yh
open Rf
section
variable {O : BSet} {h : Heap} {L : RLy} {r : RS}
theorem push_keep {v : S_api_Keep} {x : Keep} {k : Heap → Prop} (R : RaftAt O h L r) (hk : r.keeps.length < 1000000) (V : Imm O h fun h => KeepV h v x)
    (H : ∀ h' L', Res O h L { r with keeps := r.keeps ++ [x] } h' L' → k h') :
    App 107 6 80 [.int .i64 0, .int .u64 0, .int .i64 0, .int .u64 0, .slice none 0 0, .slice none 0 0] h L.keeps 1 (S_api_Keep.cs v) (fun s8 h9 => ∃ h10 : Heap, WrH h9 ((⟨L.b, 0, none⟩ : Addr).add 13) ∧ h10 = setH h9 ((⟨L.b, 0, none⟩ : Addr).add 13) (Slc.v s8) ∧ (k h10)) := by
  have P := R.p
  obtain ⟨ks, K, I⟩ := P.kp
  obtain ⟨vs, Re, _⟩ := P.l.r
  have kl := K.1
  rw [kcs_len, I.now.1] at kl
  refine App.row2 K (Nat.zero_le _) rfl rfl (oneC (by kernel_rfl)) (by omega) (by simp only [maxLen]; omega) fun s h1 R1 l1 z1 o1 b1 _ => ?_
  have S1 : Stp (fun g => L.keeps.blk = some g) h h1 := ⟨z1, fun g hg hn => o1 g hg hn⟩
  have nkb : ∀ {b E : Nat} {cs : List Value}, Blk h b cs E → E ≠ 107 → ¬ L.keeps.blk = some b := fun Kb hE e => K.ne_blk Kb (Ne.symm hE) e
  have K1 := S1.blk R.k (nkb R.k (by decide))
  obtain ⟨w, f⟩ := K1.put (i := 13) (v := Slc.v s) (by show 13 < 14; omega)
  refine ⟨_, w, rfl, ?_⟩
  obtain ⟨K2, U2⟩ := f _ rfl
  generalize setH h1 ((⟨L.b, 0, none⟩ : Addr).add 13) (Slc.v s) = h2 at *
  have sb : ∀ g, s.blk = some g → L.keeps.blk = some g ∨ h.size ≤ g := fun g hg => by
    rcases b1 with ⟨b1, _⟩ | b1
    · exact .inl (by rw [← b1]; exact hg)
    · rw [b1] at hg; cases hg; exact .inr (Nat.le_refl _)
  have hO' : ∀ g, G O { L with keeps := s } g → O g ∨ h.size ≤ g := fun g hg => by
    rcases hg with hg | hg | hg | hg | hg | hg | hg | hg
    · exact .inl hg
    · exact .inl (R.ow _ (.inl hg))
    · exact .inl (R.ow _ (.inr (.inl hg)))
    · exact .inl (R.ow _ (.inr (.inr (.inl hg))))
    · exact .inl (R.ow _ (.inr (.inr (.inr (.inl hg)))))
    · exact .inl (R.ow _ (.inr (.inr (.inr (.inr (.inl hg))))))
    · exact (sb g hg).elim (fun h3 => .inl (R.ow _ (.inr (.inr (.inr (.inr (.inr (.inl h3)))))))) .inr
    · exact .inl (R.ow _ (.inr (.inr (.inr (.inr (.inr (.inr hg)))))))
  have kO : ∀ g, L.keeps.blk = some g → O g := fun g hg => R.ow g (.inr (.inr (.inr (.inr (.inr (.inl hg))))))
  have SO : Stp O h h1 := S1.mono fun g hg => .inl (kO g hg)
  have P1 : Parts (G O { L with keeps := s }) h1 { L with keeps := s } r.log r.snap r.next r.has (r.keeps ++ [x]) r.ballot r.n := by
    refine ⟨?_, P.sn.step SO hO', P.sl, S1.row P.nx fun g hg e => P.nx.ne_r K (by decide) hg e, S1.row P.hs fun g hg e => P.hs.ne_r K (by decide) hg e, P.dj, ⟨ks ++ [v], ?_, fun h3 S3 => ((I.step SO hO') h3 S3).snoc ((V.step SO hO') h3 S3)⟩, P.bl.old fun g hg => ?_⟩
    · exact (P.l.sub hO' (.inr (.inr (.inl rfl))) fun g hg => .inr (.inr (.inr (.inl hg)))).stp S1 (fun g hg => .inl (.inl (kO g hg))) (nkb P.l.k (by decide)) fun g hg e => Re.ne_r K (by decide) hg e
    · have : (ks ++ [v]).flatMap S_api_Keep.cs = ks.flatMap S_api_Keep.cs ++ S_api_Keep.cs v := by simp
      rw [this]; exact R1
    · refine o1 g (P.bl.lt g hg) fun e => ?_
      obtain ⟨cs, Kb⟩ := P.bl.blk g hg
      exact nkb Kb (by decide) e
  have w0 := R.wf
  have ow : ∀ g, own { L with keeps := s } g → own L g ∨ h.size ≤ g := fun g hg => by
    rcases hg with hg | hg | hg | hg | hg | hg | hg
    · exact .inl (.inl hg)
    · exact .inl (.inr (.inl hg))
    · exact .inl (.inr (.inr (.inl hg)))
    · exact .inl (.inr (.inr (.inr (.inl hg))))
    · exact .inl (.inr (.inr (.inr (.inr (.inl hg)))))
    · exact (sb g hg).elim (fun h3 => .inl (.inr (.inr (.inr (.inr (.inr (.inl h3))))))) .inr
    · exact .inl (.inr (.inr (.inr (.inr (.inr (.inr hg))))))
  have P2 := P1.upd (L := { L with keeps := s }) K1 U2 (.inl R.Ob) (by decide)
  refine H h2 { L with keeps := s } ⟨⟨K2, P2, fun g hg => .inr hg, fun g hg => ?_, ?_⟩, ?_, ow, rfl⟩
  · rcases hO' g hg with h3 | h3
    · have := R.ob g h3; have := U2.size; omega
    · rcases hg with hg | hg | hg | hg | hg | hg | hg | hg
      · have := R.ob g hg; have := U2.size; omega
      · have := R.ob' (g := g) (.inl hg); have := U2.size; omega
      · have := R.ob' (g := g) (.inr (.inl hg)); have := U2.size; omega
      · have := R.ob' (g := g) (.inr (.inr (.inl hg))); have := U2.size; omega
      · have := R.ob' (g := g) (.inr (.inr (.inr (.inl hg)))); have := U2.size; omega
      · have := R.ob' (g := g) (.inr (.inr (.inr (.inr (.inl hg))))); have := U2.size; omega
      · have := (R1.bd hg).2; have := U2.size; omega
      · have := R.ob' (g := g) (.inr (.inr (.inr (.inr (.inr (.inr hg)))))); have := U2.size; omega
  · exact ⟨w0.n, w0.me, w0.tm, w0.vt, w0.cm, w0.tk, w0.ld, w0.nx, w0.hs, w0.bl, w0.sn, by simp; omega⟩
  · exact (S1.mono (O' := own L) fun g hg => .inl (.inr (.inr (.inr (.inr (.inr (.inl hg))))))).trans (Stp.of_upd (O := own L) U2 (.inl (.inl rfl))) fun g hg => .inl hg
theorem keepTerm_ok {k : Unit → Heap → Prop} (R : RaftAt O h L r) (hk : r.keeps.length < 1000000) (H : ∀ h' L', Res O h L r.keepTerm h' L' → k () h') : raft_Raft_keepTerm (some ⟨L.b, 0, none⟩) k h := by
  unfold raft_Raft_keepTerm
  refine ⟨_, rfl, L.keeps, R.c 13, _, R.c 2, _, R.c 3, _, _, rfl, rfl, ?_⟩
  have X := Ext.push h (.cells (S_api_Keep.cs ⟨1, r.term, r.vote, 0, ⟨none, 0, 0⟩, ⟨none, 0, 0⟩⟩).toArray 107) (Nat.le_refl _)
  have R1 := R.ext X
  generalize h.push (.cells (S_api_Keep.cs ⟨1, r.term, r.vote, 0, ⟨none, 0, 0⟩, ⟨none, 0, 0⟩⟩).toArray 107) = h1 at *
  refine ⟨R1.c 13, push_keep (x := ⟨1, r.term, r.vote, 0, [], []⟩) R1 hk (fun h' _ => ⟨⟨rfl, rfl, rfl, rfl⟩, EntsAt.nil h', slc_nil h', rfl⟩) fun h' L' q => H h' L' (q.pre X fun g hg => R.ob' hg)⟩
theorem follow_ok {term leader : Int} {k : Unit → Heap → Prop} (R : RaftAt O h L r) (hk : r.keeps.length < 1000000) (t0 : 0 ≤ term ∧ term < 18446744073709551616) (H : ∀ h' L', Res O h L (r.follow term leader) h' L' → k () h') : raft_Raft_follow (some ⟨L.b, 0, none⟩) term leader k h := by
  have w0 := R.wf
  have j1 : ∀ {h1 : Heap} {L1 : RLy}, Res O h L (r.newTerm term) h1 L1 → raft_Raft_follow_j1 (some ⟨L.b, 0, none⟩) leader k h1 := fun {h1 L1} q => by
    have R1 := q.R
    have w1 := R1.wf
    rw [← q.b]
    unfold raft_Raft_follow_j1
    obtain ⟨w, f⟩ := R1.k.put (i := 7) (v := .int .i64 0) (by show 7 < 14; omega)
    refine ⟨_, rfl, _, w, rfl, ?_⟩
    obtain ⟨K2, U2⟩ := f _ rfl
    generalize setH h1 ((⟨L1.b, 0, none⟩ : Addr).add 7) (.int .i64 0) = h2 at *
    obtain ⟨w, f⟩ := K2.put (i := 8) (v := .int .i64 leader) (by show 8 < 14; omega)
    refine ⟨_, w, rfl, ?_⟩
    obtain ⟨K3, U3⟩ := f _ rfl
    generalize setH h2 ((⟨L1.b, 0, none⟩ : Addr).add 8) (.int .i64 leader) = h3 at *
    obtain ⟨w, f⟩ := K3.put (i := 10) (v := .pointer none) (by show 10 < 14; omega)
    refine ⟨_, w, rfl, ?_⟩
    obtain ⟨K4, U4⟩ := f _ rfl
    generalize setH h3 ((⟨L1.b, 0, none⟩ : Addr).add 10) (.pointer none) = h4 at *
    have U := (U2.trans U3).trans U4
    have P4 := R1.p.upd R1.k U R1.Ob (by decide)
    have ow : ∀ g, own { L1 with bal := none } g → own L1 g := fun g hg => by
      rcases hg with hg | hg | hg | hg | hg | hg | hg
      · exact .inl hg
      · exact .inr (.inl hg)
      · exact .inr (.inr (.inl hg))
      · exact .inr (.inr (.inr (.inl hg)))
      · exact .inr (.inr (.inr (.inr (.inl hg))))
      · exact .inr (.inr (.inr (.inr (.inr (.inl hg)))))
      · cases hg
    have R4 : RaftAt (G O L1) h4 { L1 with bal := none } (r.follow term leader) :=
      ⟨K4, ⟨P4.l, P4.sn, P4.sl, P4.nx, P4.hs, P4.dj, P4.kp, trivial⟩, fun g hg => R1.ow g (ow g hg), fun g hg => Nat.lt_of_lt_of_le (R1.ob g hg) U.size,
        ⟨w1.n, w1.me, w1.tm, w1.vt, w1.cm, w1.tk, (fun e => by cases e), w1.nx, w1.hs, (fun l e => by cases e), w1.sn, w1.kp⟩⟩
    exact H h4 _ (q.trans ⟨R4.sub (fun g hg => hg.elim (fun h => h) fun h => R1.ow g (ow g h)) fun g hg => .inr hg, (Stp.of_upd U (.inl (.inl rfl))), fun g hg => .inl (ow g hg), rfl⟩)
  unfold raft_Raft_follow
  refine ⟨_, rfl, _, R.c 2, ?_⟩
  unfold RS.newTerm at j1
  by_cases ht : term > r.term
  · rw [if_pos (by simpa using ht)]
    rw [if_pos ht] at j1
    obtain ⟨w, f⟩ := R.k.put (i := 2) (v := .int .u64 term) (by show 2 < 14; omega)
    refine ⟨_, w, rfl, ?_⟩
    obtain ⟨K2, U2⟩ := f _ rfl
    generalize setH h ((⟨L.b, 0, none⟩ : Addr).add 2) (.int .u64 term) = h2 at *
    obtain ⟨w, f⟩ := K2.put (i := 3) (v := .int .i64 0) (by show 3 < 14; omega)
    refine ⟨_, w, rfl, ?_⟩
    obtain ⟨K3, U3⟩ := f _ rfl
    generalize setH h2 ((⟨L.b, 0, none⟩ : Addr).add 3) (.int .i64 0) = h3 at *
    have R3 : RaftAt O h3 L { r with term := term, vote := 0 } := R.poke K3 (U2.trans U3) ⟨w0.n, w0.me, t0, by simp, w0.cm, w0.tk, w0.ld, w0.nx, w0.hs, w0.bl, w0.sn, w0.kp⟩ ⟨rfl, rfl, rfl, rfl, rfl, rfl, rfl⟩
    have q0 : Res O h L { r with term := term, vote := 0 } h3 L := Res.of R3 (Stp.of_upd (U2.trans U3) (.inl (.inl rfl)))
    exact keepTerm_ok q0.R hk fun h' L' q => j1 (q0.trans q)
  · rw [if_neg (by simpa using ht)]
    rw [if_neg ht] at j1
    exact j1 (Res.of R (Stp.refl _ _))
end
end Go.Q.Yh
set_option linter.unusedVariables false
set_option linter.unusedSimpArgs false
set_option maxRecDepth 100000
/- Letters. -/
namespace Go.Q.Yh
open Rf
theorem mcs_len (vs : List S_api_Mail) : (vs.flatMap S_api_Mail.cs).length = vs.length * 9 := fm_len (w := 9) (fun _ => rfl) vs
structure MailsI (O : BSet) (h : Heap) (s : Slc) (l : List Mail) : Prop where
  m : ∃ ms : List S_api_Mail, Row 0 h 45 9 s (ms.flatMap S_api_Mail.cs) ∧ ms.length = l.length ∧ ∀ (i : Nat) m x, ms[i]? = some m → l[i]? = some x → m.f_Node = x.1 ∧ Imm (OB O s) h fun h => MsgV h m.f_M x.2
  n : ∀ g, s.blk = some g → ¬ O g
def DueI (O : BSet) (h : Heap) (v : S_api_Msg) (x : Msg) : Prop := ∀ S : BSet, (∀ g, S g → O g ∨ ∃ cs E, Blk h g cs E ∧ E ≠ 65 ∧ E ≠ 5) → Imm S h fun h => MsgV h v x
section
variable {O : BSet} {h : Heap} {L : RLy} {r : RS}
theorem MailsI.len {s : Slc} {l : List Mail} (M : MailsI O h s l) : s.len = l.length := by
  obtain ⟨ms, R, e, _⟩ := M.m
  have := R.1; rw [mcs_len, e] at this; omega
theorem MailsI.nil (O : BSet) (h : Heap) : MailsI O h ⟨none, 0, 0⟩ [] := ⟨⟨[], Row.nil _ _ _ _, rfl, by simp⟩, fun g hg => by simp [Slc.blk] at hg⟩
theorem MailsI.ext {s : Slc} {l : List Mail} {h' : Heap} (M : MailsI O h s l) (X : Ext h.size h h') : MailsI O h' s l := by
  obtain ⟨ms, R, e, I⟩ := M.m
  exact ⟨⟨ms, R.ext X fun g hg => (R.bd hg).2, e, fun i m x hm hx => ⟨(I i m x hm hx).1, (I i m x hm hx).2.ext X⟩⟩, M.n⟩
theorem MailsI.sub {O' : BSet} {s : Slc} {l : List Mail} (M : MailsI O h s l) (hO : ∀ g, O' g → O g) : MailsI O' h s l := by
  obtain ⟨ms, R, e, I⟩ := M.m
  exact ⟨⟨ms, R, e, fun i m x hm hx => ⟨(I i m x hm hx).1, (I i m x hm hx).2.mono fun g hg => .inl (hg.elim (fun h => .inl (hO g h)) .inr)⟩⟩, fun g hg h => M.n g hg (hO g h)⟩
/-- behind a step of a member -/
theorem MailsI.step {O' S : BSet} {s : Slc} {l : List Mail} {h' : Heap} (M : MailsI O h s l) (p : Stp S h h') (hS : ∀ g, S g → O g ∨ h.size ≤ g) (hO : ∀ g, O' g → O g ∨ h.size ≤ g) : MailsI O' h' s l := by
  obtain ⟨ms, R, e, I⟩ := M.m
  refine ⟨⟨ms, p.row R fun g hg h => (hS g h).elim (M.n g hg) fun h2 => by have := (R.bd hg).2; omega, e, fun i m x hm hx => ⟨(I i m x hm hx).1, (I i m x hm hx).2.step (p.mono fun g hg => (hS g hg).elim (fun h => .inl (.inl h)) .inr) fun g hg => ?_⟩⟩, fun g hg h => (hO g h).elim (M.n g hg) fun h2 => by have := (R.bd hg).2; omega⟩
  rcases hg with hg | hg
  · exact (hO g hg).elim (fun h => .inl (.inl h)) .inr
  · exact .inl (.inr hg)
theorem push_mail {out : Slc} {l : List Mail} {v : S_api_Msg} {x : Msg} {node : Int} {k : Slc → Heap → Prop} (M : MailsI O h out l) (D : DueI O h v x) (ob : ∀ g, O g → g < h.size) (hl : l.length < 100000)
    (H : ∀ s h', MailsI O h' s (l ++ [(node, x)]) → Stp (fun g => out.blk = some g) h h' → (∀ g, s.blk = some g → out.blk = some g ∨ h.size ≤ g) → k s h') :
    App 45 9 104 [.int .i64 0, .int .i64 0, .int .u64 0, .int .u64 0, .int .u64 0, .int .u64 0, .bool false, .slice none 0 0, .slice none 0 0] h out 1 (S_api_Mail.cs ⟨node, v⟩) k := by
  have ol := M.len
  obtain ⟨ms, R, e, I⟩ := M.m
  refine App.row2 R (Nat.zero_le _) rfl rfl (oneC (by kernel_rfl)) (by omega) (by simp only [maxLen]; omega) fun s h1 R1 l1 z1 o1 b1 _ => ?_
  have S1 : Stp (fun g => out.blk = some g) h h1 := ⟨z1, fun g hg hn => o1 g hg hn⟩
  have sb : ∀ g, s.blk = some g → out.blk = some g ∨ h.size ≤ g := fun g hg => by
    rcases b1 with ⟨b1, _⟩ | b1
    · exact .inl (by rw [← b1]; exact hg)
    · rw [b1] at hg; cases hg; exact .inr (Nat.le_refl _)
  refine H s h1 ⟨⟨ms ++ [⟨node, v⟩], ?_, by simp [e], fun i m y hm hy => ?_⟩, fun g hg h2 => ?_⟩ S1 sb
  · have : (ms ++ [(⟨node, v⟩ : S_api_Mail)]).flatMap S_api_Mail.cs = ms.flatMap S_api_Mail.cs ++ S_api_Mail.cs ⟨node, v⟩ := by simp
    rw [this]; exact R1
  · rcases Nat.lt_or_ge i ms.length with hi | hi
    · rw [List.getElem?_append_left hi] at hm
      rw [List.getElem?_append_left (by rw [← e]; exact hi)] at hy
      refine ⟨(I i m y hm hy).1, (I i m y hm hy).2.step (S1.mono fun g hg => .inl (.inr hg)) fun g hg => ?_⟩
      rcases hg with hg | hg
      · exact .inl (.inl hg)
      · exact (sb g hg).elim (fun h => .inl (.inr h)) .inr
    · rw [List.getElem?_append_right hi] at hm
      rw [List.getElem?_append_right (by rw [← e]; exact hi), ← e] at hy
      have : i - ms.length = 0 := by have := (List.getElem?_eq_some_iff.1 hm).1; simp at this; omega
      rw [this] at hm hy
      simp at hm hy
      subst hm; subst hy
      refine ⟨rfl, (D (OB O out) fun g hg => hg.elim .inl fun h => .inr (by obtain ⟨c, K⟩ := R.blkOf h; exact ⟨c, _, K, by decide⟩)).step (S1.mono fun g hg => .inl (.inr hg)) fun g hg => ?_⟩
      rcases hg with hg | hg
      · exact .inl (.inl hg)
      · exact (sb g hg).elim (fun h => .inl (.inr h)) .inr
  · exact (sb g hg).elim (fun h => M.n g h h2) fun h3 => by have := ob g h2; omega
theorem one_mail {v : S_api_Msg} {x : Msg} {node : Int} (D : DueI O h v x) (ob : ∀ g, O g → g < h.size) : MailsI O (h.push (.cells (S_api_Mail.cs ⟨node, v⟩).toArray 45)) ⟨some ⟨h.size, 0, none⟩, 1, 1⟩ [(node, x)] := by
  have X := Ext.push h (.cells (S_api_Mail.cs ⟨node, v⟩).toArray 45) (Nat.le_refl _)
  refine ⟨⟨[⟨node, v⟩], ?_, rfl, fun i m y hm hy => ?_⟩, fun g hg h2 => ?_⟩
  · exact (Row.of_pushE (E := 45) (w := 9) h (S_api_Mail.cs ⟨node, v⟩) 1 rfl (by decide)).mono (Nat.zero_le _)
  · have : i = 0 := by have := (List.getElem?_eq_some_iff.1 hm).1; simp at this; omega
    rw [this] at hm hy
    simp at hm hy
    subst hm; subst hy
    exact ⟨rfl, (D O fun g hg => .inl hg).step (.of_ext X) fun g hg => hg.elim .inl fun h => .inr (by simp [Slc.blk] at h; omega)⟩
  · simp [Slc.blk] at hg; have := ob g h2; omega
theorem plainI {v : S_api_Msg} {x : Msg} (k : v.f_Kind = x.kind ∧ v.f_Term = x.term ∧ v.f_Index = x.index ∧ v.f_LogTerm = x.logTerm ∧ v.f_Commit = x.commit ∧ v.f_Yes = x.yes) (e1 : v.f_Entries = ⟨none, 0, 0⟩) (e2 : v.f_Snap = ⟨none, 0, 0⟩) (e3 : x.ents = []) (e4 : x.snap = []) : DueI O h v x := fun S _ h' _ => ⟨k, by rw [e1, e3]; exact EntsAt.nil _, by rw [e2, e4]; exact slc_nil _, by rw [e2, e4]; rfl⟩
theorem u8s_get {B : Nat} {h : Heap} {s : Slc} {xs : List Int} (R : Row B h 22 1 s (u8s xs)) {i : Int} (i0 : 0 ≤ i) (i1 : i < xs.length) : ∃ a : Addr, s.a = some a ∧ (0 : Int) ≤ i ∧ i < (s.len : Int) ∧ cellH h (a.add (i.toNat * 1)) = some (.int .u64 (xs.getD i.toNat 0)) := by
  have hl := R.1
  have e : (u8s xs).length = xs.length := by simp [u8s]
  rw [e] at hl
  obtain ⟨v, hv⟩ : ∃ v, xs[i.toNat]? = some v := ⟨_, List.getElem?_eq_getElem (by omega)⟩
  obtain ⟨a, ha, _, h2, hc⟩ := n64_at (s := s) (zs := xs) R.slc (by omega) i0 hv
  exact ⟨a, ha, i0, h2, by rw [List.getD_eq_getElem?_getD, hv]; exact hc⟩
/-- what a node is to have -/
theorem due_ok {node : Int} {k : S_api_Msg → Heap → Prop} (R : RaftAt O h L r) (n0 : 0 ≤ node) (n1 : node < r.next.length) (H : ∀ v h', DueI O h' v (r.due node) → Ext h.size h h' → k v h') : raft_Raft_due (some ⟨L.b, 0, none⟩) node k h := by
  unfold raft_Raft_due
  refine ⟨_, _, rfl, rfl, ?_⟩
  have X := Ext.push h (.cells (S_api_Msg.cs ⟨0, 0, 0, 0, 0, false, ⟨none, 0, 0⟩, ⟨none, 0, 0⟩⟩).toArray 26) (Nat.le_refl _)
  have P0 := Blk.push h (S_api_Msg.cs ⟨0, 0, 0, 0, 0, false, ⟨none, 0, 0⟩, ⟨none, 0, 0⟩⟩) 26
  obtain ⟨b1, eb⟩ : ∃ y, y = h.size := ⟨_, rfl⟩
  obtain ⟨h2, e2⟩ : ∃ y, y = h.push (.cells (S_api_Msg.cs ⟨0, 0, 0, 0, 0, false, ⟨none, 0, 0⟩, ⟨none, 0, 0⟩⟩).toArray 26) := ⟨_, rfl⟩
  rw [← eb, ← e2] at P0 ⊢
  rw [← e2] at X
  have R2 := R.ext X
  have z2 := X.size
  have bl2 := P0.lt
  obtain ⟨a5, ha5, i0, i1, hc⟩ := u8s_get R2.p.nx n0 n1
  have nb := R.wf.nx
  have vb : 0 ≤ r.next.getD node.toNat 0 ∧ r.next.getD node.toNat 0 < 18446744073709551616 := by
    obtain ⟨v, hv⟩ : ∃ v, r.next[node.toNat]? = some v := ⟨_, List.getElem?_eq_getElem (by omega)⟩
    rw [List.getD_eq_getElem?_getD, hv]; exact nb v (List.mem_of_getElem? hv)
  refine ⟨_, rfl, L.next, R2.c 11, a5, ha5, i0, i1, _, hc, _, R2.c 4, Base_ok R2.p.l ?_⟩
  unfold RS.due at H
  generalize r.next.getD node.toNat 0 = v6 at *
  have tail : ∀ {v : S_api_Msg} {h5 : Heap}, Ext h2.size h2 h5 → DueI O h5 v (if v6 ≤ r.log.ix then ⟨5, r.term, r.log.ix, r.log.tm, r.commit, false, [], r.snap⟩ else ⟨3, r.term, W (v6 - 1), (r.log.termOf (W (v6 - 1))).1, r.commit, false, (r.log.frm v6 4).1, []⟩) →
      ∃ h27 : Heap, WrsAt h5 (⟨b1, 0, none⟩ : Addr) 8 ∧ h27 = setsH h5 (⟨b1, 0, none⟩ : Addr) 0 (S_api_Msg.cs v) ∧ (∃ v28 : S_api_Msg, CellsAt h27 (⟨b1, 0, none⟩ : Addr) (S_api_Msg.cs v28) ∧ k v28 h27) := fun {v h5} X5 D => by
    have P5 := P0.ext X5 bl2
    refine ⟨_, WrsAt.of_blk P5 (by show 8 ≤ 8; omega), rfl, ?_⟩
    have P6 := P5.sets_all (vs := S_api_Msg.cs v) rfl
    have z5 := X5.size
    have X6 : Ext h.size h5 (setsH h5 ⟨b1, 0, none⟩ 0 (S_api_Msg.cs v)) := Ext.sets _ _ _ (by show h.size ≤ b1; omega)
    have old : ∀ g, g ≠ b1 → (setsH h5 ⟨b1, 0, none⟩ 0 (S_api_Msg.cs v))[g]? = h5[g]? := fun g hg => setsH_other _ _ hg
    generalize setsH h5 ⟨b1, 0, none⟩ 0 (S_api_Msg.cs v) = h6 at *
    refine ⟨v, CellsAt.of_blk P6, H v h6 (fun S hS => ?_) (X.trans ((X5.mono z2).trans X6))⟩
    refine (D (fun g => S g ∨ g = b1) fun g hg => ?_).step ⟨X6.size, fun g hg hn => old g fun e => hn (.inr e)⟩ fun g hg => .inl (.inl hg)
    by_cases e : g = b1
    · subst e; exact .inr ⟨_, _, P5, by decide⟩
    · exact (hg.resolve_right e |> hS g).imp id fun ⟨cs, E, K, hE⟩ => ⟨cs, E, K.old (old g e).symm, hE⟩
  have ob2 := R2.ob
  by_cases hv : v6 ≤ r.log.ix
  · rw [if_pos (by simpa using hv)]
    simp only [if_pos hv] at H tail
    have wf := R.wf
    refine ⟨_, R2.c 2, _, R2.c 6, L.snap, R2.c 5, Clone_ok (l := r.snap) R2.p.sl R2.p.sn.now (by have := wf.sn.2; omega) fun s h3 R3 X3 => ?_⟩
    have R4 := R2.ext X3
    refine ⟨R4.c 6, R4.c 2, tail X3 fun S hS h' p => ?_⟩
    have R5 := p.row R3 fun g hg h5 => by
      rcases hS g h5 with h6 | ⟨cs, E, K, hE⟩
      · have := (R3.bd hg).1; have := ob2 g h6; omega
      · exact R3.ne_blk K hE.2.symm hg
    exact ⟨⟨rfl, rfl, rfl, rfl, rfl, rfl⟩, EntsAt.nil h', R5.slc, by simpa using R5.len⟩
  · rw [if_neg (by simpa using hv)]
    simp only [if_neg hv] at H tail
    have ln := R.p.l.x0
    refine ⟨_, R2.c 4, From_ok R2.p.l vb.1 vb.2 (by omega) (by omega) fun s h3 vs F3 X3 => ?_⟩
    have R3 := R2.ext X3
    have ew : IntKind.u64.wrap (v6 - 1) = W (v6 - 1) := rfl
    obtain ⟨w0, w1⟩ := W_bd (v6 - 1)
    refine ⟨_, R3.c 4, Term_ok R3.p.l w0 w1 ⟨_, R3.c 2, _, R3.c 6, tail X3 fun S hS h' p => ?_⟩⟩
    have hn : ∀ {B E w : Nat} {s : Slc} {xs : List Value}, Row B h3 E w s xs → (E = 65 ∨ E = 5) → h2.size ≤ B → ∀ g, s.blk = some g → ¬ S g := fun Rw hE hB g hg h5 => by
      rcases hS g h5 with h6 | ⟨cs, E', K, hE'⟩
      · have := (Rw.bd hg).1; have := ob2 g h6; omega
      · rcases hE with rfl | rfl
        · exact Rw.ne_blk K hE'.1.symm hg
        · exact Rw.ne_blk K hE'.2.symm hg
    have F5 : EntsF h2.size h' s (r.log.frm v6 4).1 vs := ⟨p.row F3.r (hn F3.r (.inl rfl) (Nat.le_refl _)), F3.l, fun i v e hv he => ⟨(F3.e i v e hv he).1, p.row (F3.e i v e hv he).2 (hn (F3.e i v e hv he).2 (.inr rfl) (Nat.le_refl _))⟩⟩
    exact ⟨⟨rfl, rfl, rfl, rfl, rfl, rfl⟩, F5.ents, slc_nil h', rfl⟩
/-! ### to all others -/
def nodesTo (me : Int) (i : Nat) : List Int := ((List.range i).map (fun (j : Nat) => (j : Int))).filter fun j => j != me
theorem nodesTo_succ (me : Int) (i : Nat) : nodesTo me (i + 1) = nodesTo me i ++ if (i : Int) = me then [] else [(i : Int)] := by
  unfold nodesTo
  rw [List.range_succ, List.map_append, List.filter_append]
  congr 1
  by_cases h : (i : Int) = me <;> simp [h]
theorem nodesTo_len (me : Int) (i : Nat) : (nodesTo me i).length ≤ i := by
  unfold nodesTo
  exact Nat.le_trans (List.length_filter_le _ _) (by simp)
theorem others_due_ok {k : Slc → Heap → Prop} (R : RaftAt O h L r) (hn : r.next.length = r.n.toNat) (H : ∀ s h', MailsI O h' s (r.others r.due) → Ext h.size h h' → (∀ g, s.blk = some g → h.size ≤ g) → k s h') : raft_Raft_others__raft_Raft_due (some ⟨L.b, 0, none⟩) (some ⟨L.b, 0, none⟩) k h := by
  have wf := R.wf
  have nb := wf.n
  unfold raft_Raft_others__raft_Raft_due
  refine ⟨_, rfl, _, R.c 1, ?_⟩
  unfold raft_Raft_others__raft_Raft_due_l1
  refine ⟨fun q h' => 0 ≤ q.2 ∧ q.2 ≤ r.n ∧ MailsI O h' q.1 ((nodesTo r.me q.2.toNat).map fun i => (i, r.due i)) ∧ Ext h.size h h' ∧ (∀ g, q.1.blk = some g → h.size ≤ g), fun q _ => (r.n - q.2).toNat, ⟨Int.le_refl _, by omega, MailsI.nil _ _, Ext.refl _ _, fun g hg => by simp [Slc.blk] at hg⟩, ?_⟩
  rintro out i h1 ⟨i0, i1, M, X, ob⟩
  dsimp only at i0 i1 M ob
  have R1 := R.ext X
  have z1 := X.size
  unfold raft_Raft_others__raft_Raft_due_l1b
  have nx : ∀ {s : Slc} {h2 : Heap}, i < r.n → MailsI O h2 s ((nodesTo r.me (i.toNat + 1)).map fun i => (i, r.due i)) → Ext h.size h h2 → (∀ g, s.blk = some g → h.size ≤ g) → raft_Raft_others__raft_Raft_due_j2 (some ⟨L.b, 0, none⟩) (some ⟨L.b, 0, none⟩) r.n i s k (fun q h' => (0 ≤ q.2 ∧ q.2 ≤ r.n ∧ MailsI O h' q.1 ((nodesTo r.me q.2.toNat).map fun i => (i, r.due i)) ∧ Ext h.size h h' ∧ (∀ g, q.1.blk = some g → h.size ≤ g)) ∧ (r.n - q.2).toNat < (r.n - i).toNat) h2 := fun {s h2} hi M2 X2 ob2 => by
    unfold raft_Raft_others__raft_Raft_due_j2
    rw [wrapI64 (by omega) (by omega)]
    exact ⟨⟨by dsimp only; omega, by dsimp only; omega, by dsimp only; rw [show (i + 1).toNat = i.toNat + 1 from by omega]; exact M2, X2, ob2⟩, by dsimp only; omega⟩
  by_cases hi : i < r.n
  · rw [if_pos (by simpa using hi)]
    refine ⟨_, rfl, _, R1.c0, ?_⟩
    have es := nodesTo_succ r.me i.toNat
    rw [Int.toNat_of_nonneg i0] at es
    by_cases hm : i = r.me
    · rw [if_neg (by simpa using hm)]
      rw [if_pos hm, List.append_nil] at es
      exact nx hi (by rw [es]; exact M) X ob
    · rw [if_pos (by simpa using hm)]
      rw [if_neg hm] at es
      refine due_ok R1 i0 (by omega) fun v h2 D X2 => ?_
      have z2 := X2.size
      refine ⟨_, _, rfl, rfl, ?_⟩
      have X3 := Ext.push h2 (.cells (S_api_Mail.cs ⟨i, v⟩).toArray 45) (Nat.le_refl _)
      have K3 := Blk.push h2 (S_api_Mail.cs ⟨i, v⟩) 45
      have D3 : DueI O (h2.push (.cells (S_api_Mail.cs ⟨i, v⟩).toArray 45)) v (r.due i) := fun S hS => by
        refine (D (fun g => S g ∧ g < h2.size) fun g hg => (hS g hg.1).imp id fun ⟨cs, E, K, hE⟩ => ⟨cs, E, K.old (X3.block g hg.2).symm, hE⟩).step (.of_ext X3) fun g hg => ?_
        by_cases hz : g < h2.size
        · exact .inl ⟨hg, hz⟩
        · exact .inr (by omega)
      have M3 := (M.ext X2).ext X3
      have R3 := (R1.ext X2).ext X3
      generalize h2.push (.cells (S_api_Mail.cs ⟨i, v⟩).toArray 45) = h3 at *
      have z3 := X3.size
      refine push_mail M3 D3 R3.ob (by rw [List.length_map]; have := nodesTo_len r.me i.toNat; omega) fun s h4 M4 S4 f4 => nx hi ?_ (X.trans ((X2.mono z1).trans ((X3.mono (by omega)).trans (S4.ext (fun g hg => ob g hg) (by omega))))) fun g hg => (f4 g hg).elim (ob g) fun h => by omega
      rw [es, List.map_append]; exact M4
  · rw [if_neg (by simpa using hi)]
    have : i.toNat = r.n.toNat := by omega
    rw [this] at M
    exact H out h1 M X ob
theorem ask_ok {c0 c1 c2 : Nat} {node ix tm : Int} {E0 : Nat} {k : S_api_Msg → Heap → Prop} (R : RaftAt O h L r) (K0 : Blk h c0 [.pointer (some ⟨L.b, 0, none⟩)] E0) (K1 : Blk h c1 [.int .u64 ix] 22) (K2 : Blk h c2 [.int .u64 tm] 22)
    (H : ∀ v h', DueI O h' v ⟨1, r.term, ix, tm, 0, false, [], []⟩ → Ext h.size h h' → k v h') : raft_Raft_campaign_1 node ⟨c0, 0, none⟩ ⟨c1, 0, none⟩ ⟨c2, 0, none⟩ k h := by
  unfold raft_Raft_campaign_1
  refine ⟨_, _, rfl, rfl, ?_⟩
  have X := Ext.push h (.cells (S_api_Msg.cs ⟨0, 0, 0, 0, 0, false, ⟨none, 0, 0⟩, ⟨none, 0, 0⟩⟩).toArray 26) (Nat.le_refl _)
  have P0 := Blk.push h (S_api_Msg.cs ⟨0, 0, 0, 0, 0, false, ⟨none, 0, 0⟩, ⟨none, 0, 0⟩⟩) 26
  have R2 := R.ext X
  have k0 := K0.ext X K0.lt
  have k1 := K1.ext X K1.lt
  have k2 := K2.ext X K2.lt
  generalize h.push (.cells (S_api_Msg.cs ⟨0, 0, 0, 0, 0, false, ⟨none, 0, 0⟩, ⟨none, 0, 0⟩⟩).toArray 26) = h2 at *
  refine ⟨_, by rw [k0.cell]; rfl, _, rfl, _, R2.c 2, _, by rw [k1.cell]; rfl, _, by rw [k2.cell]; rfl, _, WrsAt.of_blk P0 (by show 8 ≤ 8; omega), rfl, ?_⟩
  have P6 := P0.sets_all (vs := S_api_Msg.cs ⟨1, r.term, ix, tm, 0, false, ⟨none, 0, 0⟩, ⟨none, 0, 0⟩⟩) rfl
  have X6 : Ext h.size h2 (setsH h2 ⟨h.size, 0, none⟩ 0 (S_api_Msg.cs ⟨1, r.term, ix, tm, 0, false, ⟨none, 0, 0⟩, ⟨none, 0, 0⟩⟩)) := Ext.sets _ _ _ (Nat.le_refl _)
  exact ⟨_, CellsAt.of_blk P6, H _ _ (plainI ⟨rfl, rfl, rfl, rfl, rfl, rfl⟩ rfl rfl rfl rfl) (X.trans X6)⟩
theorem others_ask_ok {c0 c1 c2 : Nat} {ix tm : Int} {E0 : Nat} {k : Slc → Heap → Prop} (R : RaftAt O h L r) (K0 : Blk h c0 [.pointer (some ⟨L.b, 0, none⟩)] E0) (K1 : Blk h c1 [.int .u64 ix] 22) (K2 : Blk h c2 [.int .u64 tm] 22)
    (H : ∀ s h', MailsI O h' s (r.others fun _ => ⟨1, r.term, ix, tm, 0, false, [], []⟩) → Ext h.size h h' → (∀ g, s.blk = some g → h.size ≤ g) → k s h') : raft_Raft_others__raft_Raft_campaign_1 (some ⟨L.b, 0, none⟩) ⟨c0, 0, none⟩ ⟨c1, 0, none⟩ ⟨c2, 0, none⟩ k h := by
  have wf := R.wf
  have nb := wf.n
  obtain ⟨m, em⟩ : ∃ m : Msg, m = ⟨1, r.term, ix, tm, 0, false, [], []⟩ := ⟨_, rfl⟩
  unfold raft_Raft_others__raft_Raft_campaign_1
  refine ⟨_, rfl, _, R.c 1, ?_⟩
  unfold raft_Raft_others__raft_Raft_campaign_1_l1
  refine ⟨fun q h' => 0 ≤ q.2 ∧ q.2 ≤ r.n ∧ MailsI O h' q.1 ((nodesTo r.me q.2.toNat).map fun i => (i, m)) ∧ Ext h.size h h' ∧ (∀ g, q.1.blk = some g → h.size ≤ g), fun q _ => (r.n - q.2).toNat, ⟨Int.le_refl _, by omega, MailsI.nil _ _, Ext.refl _ _, fun g hg => by simp [Slc.blk] at hg⟩, ?_⟩
  rintro out i h1 ⟨i0, i1, M, X, ob⟩
  dsimp only at i0 i1 M ob
  have R1 := R.ext X
  have z1 := X.size
  unfold raft_Raft_others__raft_Raft_campaign_1_l1b
  have nx : ∀ {s : Slc} {h2 : Heap}, i < r.n → MailsI O h2 s ((nodesTo r.me (i.toNat + 1)).map fun i => (i, m)) → Ext h.size h h2 → (∀ g, s.blk = some g → h.size ≤ g) → raft_Raft_others__raft_Raft_campaign_1_j2 (some ⟨L.b, 0, none⟩) ⟨c0, 0, none⟩ ⟨c1, 0, none⟩ ⟨c2, 0, none⟩ r.n i s k (fun q h' => (0 ≤ q.2 ∧ q.2 ≤ r.n ∧ MailsI O h' q.1 ((nodesTo r.me q.2.toNat).map fun i => (i, m)) ∧ Ext h.size h h' ∧ (∀ g, q.1.blk = some g → h.size ≤ g)) ∧ (r.n - q.2).toNat < (r.n - i).toNat) h2 := fun {s h2} hi M2 X2 ob2 => by
    unfold raft_Raft_others__raft_Raft_campaign_1_j2
    rw [wrapI64 (by omega) (by omega)]
    exact ⟨⟨by dsimp only; omega, by dsimp only; omega, by dsimp only; rw [show (i + 1).toNat = i.toNat + 1 from by omega]; exact M2, X2, ob2⟩, by dsimp only; omega⟩
  by_cases hi : i < r.n
  · rw [if_pos (by simpa using hi)]
    refine ⟨_, rfl, _, R1.c0, ?_⟩
    have es := nodesTo_succ r.me i.toNat
    rw [Int.toNat_of_nonneg i0] at es
    by_cases hm : i = r.me
    · rw [if_neg (by simpa using hm)]
      rw [if_pos hm, List.append_nil] at es
      exact nx hi (by rw [es]; exact M) X ob
    · rw [if_pos (by simpa using hm)]
      rw [if_neg hm] at es
      refine ask_ok R1 (K0.ext X K0.lt) (K1.ext X K1.lt) (K2.ext X K2.lt) fun v h2 D X2 => ?_
      rw [← em] at D
      have z2 := X2.size
      refine ⟨_, _, rfl, rfl, ?_⟩
      have X3 := Ext.push h2 (.cells (S_api_Mail.cs ⟨i, v⟩).toArray 45) (Nat.le_refl _)
      have D3 : DueI O (h2.push (.cells (S_api_Mail.cs ⟨i, v⟩).toArray 45)) v m := fun S hS => by
        refine (D (fun g => S g ∧ g < h2.size) fun g hg => (hS g hg.1).imp id fun ⟨cs, E, K, hE⟩ => ⟨cs, E, K.old (X3.block g hg.2).symm, hE⟩).step (.of_ext X3) fun g hg => ?_
        by_cases hz : g < h2.size
        · exact .inl ⟨hg, hz⟩
        · exact .inr (by omega)
      have M3 := (M.ext X2).ext X3
      have R3 := (R1.ext X2).ext X3
      generalize h2.push (.cells (S_api_Mail.cs ⟨i, v⟩).toArray 45) = h3 at *
      have z3 := X3.size
      refine push_mail M3 D3 R3.ob (by rw [List.length_map]; have := nodesTo_len r.me i.toNat; omega) fun s h4 M4 S4 f4 => nx hi ?_ (X.trans ((X2.mono z1).trans ((X3.mono (by omega)).trans (S4.ext (fun g hg => ob g hg) (by omega))))) fun g hg => (f4 g hg).elim (ob g) fun h => by omega
      rw [es, List.map_append]; exact M4
  · rw [if_neg (by simpa using hi)]
    have : i.toNat = r.n.toNat := by omega
    rw [this, em] at M
    exact H out h1 M X ob
end
end Go.Q.Yh
set_option linter.unusedVariables false
set_option linter.unusedSimpArgs false
set_option maxRecDepth 100000
/- A member: what is committed, what is put, who wins. -/
namespace Go.Q.Yh
open Rf
/-! ### a number, again and again -/
theorem Mul1_ok {n : Int} {k : Int × Int → Heap → Prop} {h : Heap} (n0 : 0 ≤ n) (n1 : n ≤ 32) (H : k (0, n) h) : math_bits_Mul 1 n k h := by
  unfold math_bits_Mul
  rw [if_neg (by simp)]
  unfold math_bits_Mul64
  have key : (List.range 33).all (fun m : Nat => decide ((IntKind.u64.wrap ((IntKind.u64.wrap ((IntKind.u64.wrap ((shr .u64 1 (32 : Int).toNat) * (shr .u64 (m : Int) (32 : Int).toNat))) + (shr .u64 (IntKind.u64.wrap ((IntKind.u64.wrap ((shr .u64 1 (32 : Int).toNat) * (bwAnd .u64 (m : Int) 4294967295))) + (shr .u64 (IntKind.u64.wrap ((bwAnd .u64 1 4294967295) * (bwAnd .u64 (m : Int) 4294967295))) (32 : Int).toNat))) (32 : Int).toNat))) + (shr .u64 (IntKind.u64.wrap ((bwAnd .u64 (IntKind.u64.wrap ((IntKind.u64.wrap ((shr .u64 1 (32 : Int).toNat) * (bwAnd .u64 (m : Int) 4294967295))) + (shr .u64 (IntKind.u64.wrap ((bwAnd .u64 1 4294967295) * (bwAnd .u64 (m : Int) 4294967295))) (32 : Int).toNat))) 4294967295) + (IntKind.u64.wrap ((bwAnd .u64 1 4294967295) * (shr .u64 (m : Int) (32 : Int).toNat))))) (32 : Int).toNat))) = 0 ∧ IntKind.u64.wrap (1 * (m : Int)) = m)) = true := by decide +kernel
  have := List.all_eq_true.1 key n.toNat (by simp; omega)
  rw [decide_eq_true_eq, Int.toNat_of_nonneg n0] at this
  obtain ⟨e1, e2⟩ := this
  refine ⟨_, rfl, _, rfl, _, rfl, _, rfl, _, rfl, _, rfl, _, rfl, _, rfl, _, rfl, _, rfl, _, rfl, ?_⟩
  rw [e1, e2]; exact H
theorem Repeat_ok {b E : Nat} {x n : Int} {k : Slc → Heap → Prop} {h : Heap} (B : Blk h b [.int .u64 x] E) (n0 : 1 ≤ n) (n1 : n ≤ 32) (H : ∀ s' h', Row h.size h' 22 1 s' (u8s (List.replicate n.toNat x)) → Ext h.size h h' → k s' h') : slices_Repeat_uint64_uint64 ⟨some ⟨b, 0, none⟩, 1, 1⟩ n k h := by
  unfold slices_Repeat_uint64_uint64
  rw [if_neg (by simp; omega)]
  unfold slices_Repeat_uint64_uint64_j1
  rw [wrapU64 (x := n) (by omega) (by omega), show IntKind.u64.wrap ((1 : Nat) : Int) = 1 from by decide]
  refine Mul1_ok (by omega) n1 ?_
  rw [if_neg (by simp; omega)]
  unfold slices_Repeat_uint64_uint64_j2
  rw [wrapI64 (x := n) (by omega) (by omega)]
  refine ⟨_, _, by omega, Int.le_refl _, by omega, by omega, rfl, rfl, [.int .u64 x], ?_⟩
  have X := Ext.push h (.cells (zrow [.int .u64 0] n.toNat).toArray 22) (Nat.le_refl _)
  have zl : (zrow [.int .u64 0] n.toNat).length = n.toNat := by simp [zrow]
  have K := Blk.push h (zrow [.int .u64 0] n.toNat) 22
  have B2 := B.ext X B.lt
  generalize h.push (.cells (zrow [.int .u64 0] n.toNat).toArray 22) = h2 at *
  obtain ⟨b3, e3⟩ : ∃ y, y = h.size := ⟨_, rfl⟩
  rw [← e3] at K ⊢
  refine ⟨⟨[.int .u64 x], B2.slc (o := 0) (n := 1) rfl, rfl, by simp [show min 1 n.toNat = 1 from by omega]⟩, oneC (by kernel_rfl), (fun h => by cases h), fun a ha => by cases ha; exact WrsAt.of_blk K (by rw [zl]; simp; omega), ?_⟩
  dsimp only
  have K3 := K.sets [.int .u64 x] 0 0 (by rw [zl]; simp; omega)
  have X3 : Ext h.size h2 (setsH h2 ⟨b3, 0, none⟩ 0 [.int .u64 x]) := Ext.sets _ _ _ (by show h.size ≤ b3; omega)
  generalize setsH h2 ⟨b3, 0, none⟩ 0 [.int .u64 x] = h3 at *
  refine ⟨_, rfl, ?_⟩
  rw [show ((min 1 n.toNat : Nat) : Int) = ((1 : Nat) : Int) from by rw [show min 1 n.toNat = 1 from by omega]]
  unfold slices_Repeat_uint64_uint64_l3
  refine ⟨fun i h' => ∃ m : Nat, i = m ∧ 1 ≤ m ∧ m ≤ n.toNat ∧ (∃ cur, Blk h' b3 cur 22 ∧ cur.length = n.toNat ∧ cur.take m = u8s (List.replicate m x)) ∧ Ext h.size h h', fun i _ => (n - i).toNat, ⟨1, rfl, Nat.le_refl _, by omega, ⟨_, K3, by simp [zl]; omega, by simp [u8s]⟩, X.trans X3⟩, ?_⟩
  rintro i h4 ⟨m, rfl, m1, m2, ⟨cur, Kc, cl, ct⟩, X4⟩
  unfold slices_Repeat_uint64_uint64_l3b
  dsimp only
  by_cases hm : m < n.toNat
  · rw [if_pos (by simp; omega)]
    refine ⟨_, by omega, by omega, Int.le_refl _, Int.le_refl _, rfl, _, by omega, by omega, by omega, Int.le_refl _, rfl, ?_⟩
    have e1 : subS ⟨some ⟨b3, 0, none⟩, n.toNat, n.toNat⟩ 1 (m : Int).toNat ((n.toNat : Nat) : Int).toNat ((n.toNat : Nat) : Int).toNat = ⟨some ⟨b3, m, none⟩, n.toNat - m, n.toNat - m⟩ := by
      simp only [subS, Int.toNat_natCast]
      rw [if_neg (by omega)]
      simp
    have e2 : subS ⟨some ⟨b3, 0, none⟩, n.toNat, n.toNat⟩ 1 (0 : Int).toNat (m : Int).toNat ((n.toNat : Nat) : Int).toNat = ⟨some ⟨b3, 0, none⟩, m, n.toNat⟩ := by
      simp only [subS, Int.toNat_natCast, show (0 : Int).toNat = 0 from rfl]
      split <;> simp
    rw [e1, e2]
    have tk : ∀ j, j ≤ m → cur.take j = u8s (List.replicate j x) := fun j hj => by
      have := congrArg (List.take j) ct
      rw [List.take_take, Nat.min_eq_left hj] at this
      rw [this]; simp [u8s, Nat.min_eq_left hj]
    obtain ⟨q, eq⟩ : ∃ q, q = min m (n.toNat - m) := ⟨_, rfl⟩
    have wl : (cur.take q).length = q := by rw [List.length_take]; omega
    refine ⟨cur.take q, ⟨cur.take m, Kc.slc (o := 0) (n := m) rfl, (by rw [List.length_take]; show min m cur.length = m * 1; omega), by rw [List.take_take, Nat.mul_one, ← eq]; congr 1; omega⟩, ?_, (fun h => by cases h), fun a ha => ?_, ?_⟩
    · rw [tk q (by omega)]
      intro v hv
      simp [u8s] at hv
      rw [hv.2]; rfl
    · cases ha
      rw [wl]
      intro j hj
      rw [add_mk]
      exact Kc.wr (by omega)
    · dsimp only
      rw [← eq, wrapI64 (by omega) (by omega)]
      have K5 := Kc.sets (cur.take q) m 0 (by rw [wl]; omega)
      have X5 : Ext h.size h4 (setsH h4 ⟨b3, m, none⟩ 0 (cur.take q)) := Ext.sets _ _ _ (by show h.size ≤ b3; omega)
      generalize setsH h4 ⟨b3, m, none⟩ 0 (cur.take q) = h5 at *
      refine ⟨⟨m + q, by omega, by omega, by omega, ⟨_, K5, by simp only [List.length_append, List.length_take, List.length_drop, wl]; omega, ?_⟩, X4.trans X5⟩, by omega⟩
      have l1 : (cur.take (m + 0) ++ cur.take q).length = m + q := by rw [List.length_append, wl, List.length_take]; omega
      rw [List.take_append_of_le_length (by omega), List.take_of_length_le (by omega), Nat.add_zero, ct, tk q (by omega)]
      simp [u8s]
  · rw [if_neg (by simp; omega)]
    have em : m = n.toNat := by omega
    subst em
    exact H _ h4 ⟨by simp [u8s], by simp only [maxLen]; omega, .inr ⟨b3, cur, rfl, by omega, Kc, Nat.le_refl _, by rw [cl]; simp, by rw [Nat.mul_one]; exact ct⟩⟩ X4
section
variable {O : BSet} {h : Heap} {L : RLy} {r : RS}
theorem has_nn (R : RaftAt O h L r) : ∀ x ∈ r.has, 0 ≤ x := fun x hx => (R.wf.hs x hx).1
theorem cmt_bd (R : RaftAt O h L r) : 0 ≤ cmt r.has ∧ cmt r.has < 18446744073709551616 := by
  obtain ⟨a, b, c⟩ := fold_max (r.has.filter fun v => decide (r.has.length / 2 + 1 ≤ Rf.cnt r.has v)) 0
  have e : cmt r.has = (r.has.filter fun v => decide (r.has.length / 2 + 1 ≤ Rf.cnt r.has v)).foldl max 0 := rfl
  rw [← e] at a c
  refine ⟨a, ?_⟩
  rcases c with c | c
  · omega
  · exact (R.wf.hs _ (List.mem_filter.1 c).1).2
theorem settle_ok {k : Unit → Heap → Prop} (R : RaftAt O h L r) (hh : r.has.length = r.n.toNat) (H : ∀ h', RaftAt O h' L r.settle → Stp (own L) h h' → k () h') : raft_Raft_settle (some ⟨L.b, 0, none⟩) k h := by
  have wf := R.wf
  have nb := wf.n
  unfold raft_Raft_settle
  have hl : L.has.len = r.has.length := by have := R.p.hs.1; simp [u8s] at this; omega
  refine ⟨_, rfl, L.has, R.c 12, Commit_ok R.p.hs.slc hl (by omega) fun c h2 C X => ?_⟩
  have ec := C.cmt (has_nn R)
  subst ec
  obtain ⟨c0, c1⟩ := cmt_bd R
  have R2 := R.ext X
  have S2 : Stp (own L) h h2 := .of_ext X
  refine ⟨_, R2.c 4, Term_ok R2.p.l c0 c1 ⟨_, R2.c 6, ?_⟩⟩
  unfold RS.settle at H
  have no : ¬ (cmt r.has > r.commit ∧ (r.log.termOf (cmt r.has)).2 = 0 ∧ (r.log.termOf (cmt r.has)).1 = r.term) → raft_Raft_settle_g1 (some ⟨L.b, 0, none⟩) (cmt r.has) false k h2 := fun hn => by
    unfold raft_Raft_settle_g1
    rw [if_neg (by simp)]
    rw [if_neg hn] at H
    exact H h2 R2 S2
  by_cases h1 : cmt r.has > r.commit ∧ (r.log.termOf (cmt r.has)).2 = 0
  · rw [if_pos (by simp [h1.1, h1.2])]
    refine ⟨_, R2.c 2, ?_⟩
    by_cases h2 : (r.log.termOf (cmt r.has)).1 = r.term
    · rw [show ((r.log.termOf (cmt r.has)).1 == r.term) = true from by simpa using h2]
      unfold raft_Raft_settle_g1
      rw [if_pos rfl]
      rw [if_pos ⟨h1.1, h1.2, h2⟩] at H
      obtain ⟨w, f⟩ := R2.k.put (i := 6) (v := .int .u64 (cmt r.has)) (by show 6 < 14; omega)
      refine ⟨_, rfl, _, w, rfl, ?_⟩
      obtain ⟨K3, U3⟩ := f _ rfl
      exact H _ (R2.poke K3 U3 ⟨wf.n, wf.me, wf.tm, wf.vt, ⟨c0, c1⟩, wf.tk, wf.ld, wf.nx, wf.hs, wf.bl, wf.sn, wf.kp⟩ ⟨rfl, rfl, rfl, rfl, rfl, rfl, rfl⟩) (S2.trans' (.of_upd U3 (.inl (.inl rfl))))
    · rw [show ((r.log.termOf (cmt r.has)).1 == r.term) = false from by simpa using h2]
      exact no fun h => h2 h.2.2
  · rw [if_neg (by simpa using h1)]
    exact no fun h => h1 ⟨h.1, h.2.1⟩
theorem mem_setI {l : List Int} {i : Nat} {v x : Int} (h : x ∈ l.set i v) : x ∈ l ∨ x = v := (List.mem_or_eq_of_mem_set h)
theorem u8s_set (l : List Int) (i : Nat) (v : Int) : u8s (l.set i v) = (u8s l).set i (.int .u64 v) := by simp [u8s, List.map_set]
/-- a number of a row of a member's own is written -/
theorem poke_has {i v : Int} (R : RaftAt O h L r) (i0 : 0 ≤ i) (i1 : i < r.has.length) (v0 : 0 ≤ v ∧ v < 18446744073709551616) : ∃ a : Addr, L.has.a = some a ∧ (0 : Int) ≤ i ∧ i < (L.has.len : Int) ∧ WrH h (a.add (i.toNat * 1)) ∧ RaftAt O (setH h (a.add (i.toNat * 1)) (.int .u64 v)) L { r with has := r.has.set i.toNat v } ∧ Stp (own L) h (setH h (a.add (i.toNat * 1)) (.int .u64 v)) := by
  have P := R.p
  have wf := R.wf
  obtain ⟨a, ha, _, h1, _⟩ := u8s_get P.hs i0 i1
  have hb : L.has.blk = some a.block := by simp [Slc.blk, ha]
  obtain ⟨vs, Re, _⟩ := P.l.r
  obtain ⟨ks, Kk, Ik⟩ := P.kp
  have ag : a = ⟨a.block, 0, none⟩ := by
    rcases P.hs.2.2 with ⟨k, _⟩ | ⟨g, cur, a1, _⟩
    · rw [k] at ha; cases ha
    · rw [ha] at a1; cases a1; rfl
  generalize a.block = g at *
  subst ag
  refine ⟨_, ha, i0, h1, ?_⟩
  rw [add_mk, Nat.zero_add, Nat.mul_one]
  obtain ⟨w, R2, _⟩ := Rw.row_setc (v := .int .u64 v) P.hs ha (j := i.toNat) (by omega)
  have U : Upd g h (setH h ⟨g, i.toNat, none⟩ (.int .u64 v)) := ⟨by rw [setH_size]; exact Nat.le_refl _, fun j _ hne => setH_other hne⟩
  generalize setH h ⟨g, i.toNat, none⟩ (.int .u64 v) = h2 at *
  have og : own L g := .inr (.inr (.inr (.inr (.inl hb))))
  have S : Stp (fun x => x = g) h h2 := .of_upd U (.inl rfl)
  have SO : Stp O h h2 := S.mono fun x hx => .inl (by subst hx; exact R.ow _ og)
  refine ⟨w, ⟨S.blk R.k fun e => P.hs.ne_blk R.k (by decide) (by rw [hb, ← e]), ⟨P.l.stp S (fun x hx => .inl (by subst hx; exact R.ow _ og)) (fun e => P.hs.ne_blk P.l.k (by decide) (by rw [hb, ← e])) fun x hx e => by subst e; exact Re.ne_r P.hs (by decide) hx hb, P.sn.stp SO, P.sl, S.row P.nx fun x hx e => by subst e; exact P.dj _ hx hb, by rw [u8s_set]; exact R2, P.dj, ⟨ks, S.row Kk fun x hx e => by subst e; exact Kk.ne_r P.hs (by decide) hx hb, ?_⟩, P.bl.old fun x hx => S.block x (P.bl.lt x hx) fun e => ?_⟩, R.ow, fun x hx => Nat.lt_of_lt_of_le (R.ob x hx) S.size, ?_⟩, S.mono fun x hx => .inl (by subst hx; exact og)⟩
  · exact Ik.stp SO
  · subst e
    obtain ⟨cs, Kb⟩ := P.bl.blk _ hx
    exact P.hs.ne_blk Kb (by decide) hb
  · exact ⟨wf.n, wf.me, wf.tm, wf.vt, wf.cm, wf.tk, fun e => ⟨(wf.ld e).1, by simp; exact (wf.ld e).2⟩, wf.nx, fun x hx => (mem_setI hx).elim (wf.hs x) fun e => by subst e; exact v0, wf.bl, wf.sn, wf.kp⟩
/-- a number of a row of a member's own is written -/
theorem poke_next {i v : Int} (R : RaftAt O h L r) (i0 : 0 ≤ i) (i1 : i < r.next.length) (v0 : 0 ≤ v ∧ v < 18446744073709551616) : ∃ a : Addr, L.next.a = some a ∧ (0 : Int) ≤ i ∧ i < (L.next.len : Int) ∧ WrH h (a.add (i.toNat * 1)) ∧ RaftAt O (setH h (a.add (i.toNat * 1)) (.int .u64 v)) L { r with next := r.next.set i.toNat v } ∧ Stp (own L) h (setH h (a.add (i.toNat * 1)) (.int .u64 v)) := by
  have P := R.p
  have wf := R.wf
  obtain ⟨a, ha, _, h1, _⟩ := u8s_get P.nx i0 i1
  have hb : L.next.blk = some a.block := by simp [Slc.blk, ha]
  obtain ⟨vs, Re, _⟩ := P.l.r
  obtain ⟨ks, Kk, Ik⟩ := P.kp
  have ag : a = ⟨a.block, 0, none⟩ := by
    rcases P.nx.2.2 with ⟨k, _⟩ | ⟨g, cur, a1, _⟩
    · rw [k] at ha; cases ha
    · rw [ha] at a1; cases a1; rfl
  generalize a.block = g at *
  subst ag
  refine ⟨_, ha, i0, h1, ?_⟩
  rw [add_mk, Nat.zero_add, Nat.mul_one]
  obtain ⟨w, R2, _⟩ := Rw.row_setc (v := .int .u64 v) P.nx ha (j := i.toNat) (by omega)
  have U : Upd g h (setH h ⟨g, i.toNat, none⟩ (.int .u64 v)) := ⟨by rw [setH_size]; exact Nat.le_refl _, fun j _ hne => setH_other hne⟩
  generalize setH h ⟨g, i.toNat, none⟩ (.int .u64 v) = h2 at *
  have og : own L g := .inr (.inr (.inr (.inl hb)))
  have S : Stp (fun x => x = g) h h2 := .of_upd U (.inl rfl)
  have SO : Stp O h h2 := S.mono fun x hx => .inl (by subst hx; exact R.ow _ og)
  refine ⟨w, ⟨S.blk R.k fun e => P.nx.ne_blk R.k (by decide) (by rw [hb, ← e]), ⟨P.l.stp S (fun x hx => .inl (by subst hx; exact R.ow _ og)) (fun e => P.nx.ne_blk P.l.k (by decide) (by rw [hb, ← e])) fun x hx e => by subst e; exact Re.ne_r P.nx (by decide) hx hb, P.sn.stp SO, P.sl, (by rw [u8s_set]; exact R2), S.row P.hs (fun x hx e => by subst e; exact P.dj _ hb hx), P.dj, ⟨ks, S.row Kk fun x hx e => by subst e; exact Kk.ne_r P.nx (by decide) hx hb, ?_⟩, P.bl.old fun x hx => S.block x (P.bl.lt x hx) fun e => ?_⟩, R.ow, fun x hx => Nat.lt_of_lt_of_le (R.ob x hx) S.size, ?_⟩, S.mono fun x hx => .inl (by subst hx; exact og)⟩
  · exact Ik.stp SO
  · subst e
    obtain ⟨cs, Kb⟩ := P.bl.blk _ hx
    exact P.nx.ne_blk Kb (by decide) hb
  · exact ⟨wf.n, wf.me, wf.tm, wf.vt, wf.cm, wf.tk, fun e => ⟨by simp; exact (wf.ld e).1, (wf.ld e).2⟩, fun x hx => (mem_setI hx).elim (wf.nx x) fun e => by subst e; exact v0, wf.hs, wf.bl, wf.sn, wf.kp⟩
end
end Go.Q.Yh
set_option linter.unusedVariables false
set_option linter.unusedSimpArgs false
set_option maxRecDepth 100000
/- A member: what is put, who wins. -/
namespace Go.Q.Yh
open Rf
section
variable {O : BSet} {h : Heap} {L : RLy} {r : RS}
theorem own_es {s : Slc} {g : Nat} (hg : own { L with es := s } g) : own L g ∨ s.blk = some g := by
  rcases hg with hg | hg | hg | hg | hg | hg | hg
  · exact .inl (.inl hg)
  · exact .inl (.inr (.inl hg))
  · exact .inr hg
  · exact .inl (.inr (.inr (.inr (.inl hg))))
  · exact .inl (.inr (.inr (.inr (.inr (.inl hg)))))
  · exact .inl (.inr (.inr (.inr (.inr (.inr (.inl hg))))))
  · exact .inl (.inr (.inr (.inr (.inr (.inr (.inr hg))))))
/-- the log was turned -/
theorem relog {h' : Heap} {s' : Slc} {l' : Lg} (R : RaftAt O h L r) (A : LogAt (OB O s') h' L.lb s' l') (S : Stp (fun g => g = L.lb ∨ L.es.blk = some g) h h') (F : ∀ g, s'.blk = some g → L.es.blk = some g ∨ h.size ≤ g) :
    Res O h L { r with log := l' } h' { L with es := s' } := by
  have P := R.p
  have wf := R.wf
  obtain ⟨vs, Re, _⟩ := P.l.r
  obtain ⟨ks, Kk, Ik⟩ := P.kp
  have olb : own L L.lb := .inr (.inl rfl)
  have oes : ∀ g, L.es.blk = some g → own L g := fun g hg => .inr (.inr (.inl hg))
  have ow : ∀ g, own { L with es := s' } g → own L g ∨ h.size ≤ g := fun g hg => (own_es hg).elim .inl fun h1 => (F g h1).imp (oes g) id
  have hO : ∀ g, G O { L with es := s' } g → O g ∨ h.size ≤ g := fun g hg => hg.elim .inl fun h1 => (ow g h1).imp (R.ow g) id
  have So : Stp (own L) h h' := S.mono fun g hg => .inl (hg.elim (fun e => by rw [e]; exact olb) (oes g))
  have SO : Stp O h h' := So.mono fun g hg => .inl (R.ow g hg)
  have z := S.size
  have nS : ∀ {b E : Nat} {cs : List Value}, Blk h b cs E → E ≠ 117 → E ≠ 65 → ¬ (b = L.lb ∨ L.es.blk = some b) := fun K e1 e2 hb => hb.elim (fun e => by subst e; exact e1 (K.inj P.l.k).2) fun e => Re.ne_blk K (Ne.symm e2) e
  have nR : ∀ {B E w : Nat} {s : Slc} {xs : List Value}, Row B h E w s xs → E ≠ 117 → E ≠ 65 → ∀ g, s.blk = some g → ¬ (g = L.lb ∨ L.es.blk = some g) := fun Rw e1 e2 g hg => by
    obtain ⟨cs, K⟩ := Rw.blkOf hg
    exact nS K e1 e2
  refine ⟨⟨S.blk R.k (nS R.k (by decide) (by decide)), ⟨A.sub (fun g hg => .inl ?_) (.inr (.inr (.inl rfl))) fun g hg => .inr (.inr (.inr (.inl hg))), P.sn.step SO hO, P.sl, S.row P.nx (nR P.nx (by decide) (by decide)), S.row P.hs (nR P.hs (by decide) (by decide)), P.dj, ⟨ks, S.row Kk (nR Kk (by decide) (by decide)), Ik.step SO hO⟩, P.bl.old fun g hg => S.block g (P.bl.lt g hg) ?_⟩, fun g hg => .inr hg, fun g hg => ?_, ?_⟩, So, ow, rfl⟩
  · rcases hg with hg | hg
    · exact .inl hg
    · exact (own_es hg).imp (R.ow g) id
  · obtain ⟨cs, Kb⟩ := P.bl.blk g hg
    exact nS Kb (by decide) (by decide)
  · rcases hg with hg | hg
    · have := R.ob g hg; omega
    · rcases own_es hg with hg | hg
      · have := R.ob' hg; omega
      · obtain ⟨vs', Re', _⟩ := A.r
        exact (Re'.bd hg).2
  · exact ⟨wf.n, wf.me, wf.tm, wf.vt, wf.cm, wf.tk, wf.ld, wf.nx, wf.hs, wf.bl, wf.sn, wf.kp⟩
theorem append_bd {l : Lg} {p t : Int} {more : List Ent} : 0 ≤ (l.append p t more).2.1 ∧ (l.append p t more).2.1 < 18446744073709551616 := by
  unfold Lg.append
  split
  · simp
  · split
    · simp
    · exact W_bd _
theorem append_err {l : Lg} {p t : Int} {more : List Ent} (h : (l.append p t more).2.2 ≠ 0) : (l.append p t more).1 = l := by
  unfold Lg.append at h ⊢
  split
  · rfl
  · rename_i h1
    rw [if_neg h1] at h
    split
    · rfl
    · rename_i h2
      rw [if_neg h2] at h
      exact absurd rfl h
/-- an entry is put behind a member's own log -/
theorem put_ok {p1 : Slc} {cmd : List Int} {k : Int × Int → Heap → Prop} (R : RaftAt O h L r) (hh : r.has.length = r.n.toNat) (hk : r.keeps.length < 1000000) (hs : SlcAt h p1 (b8 cmd)) (hl : p1.len = cmd.length) (hB : isB cmd) (hz : cmd.length ≤ 1099511627776)
    (H : ∀ h' L', Res O h L (r.put cmd).1 h' L' → k (r.put cmd).2 h') : raft_Raft_put (some ⟨L.b, 0, none⟩) p1 k h := by
  have wf := R.wf
  have nb := wf.n
  have mb := wf.me
  have ob := R.ob
  unfold raft_Raft_put
  refine ⟨_, rfl, _, R.c 4, Last_ok R.p.l ⟨_, R.c 2, Clone_ok hl hs (by omega) fun s1 h1 R1 X1 => ?_⟩⟩
  have z1 := X1.size
  have M1 := R.ext X1
  refine ⟨M1.c 2, _, _, rfl, rfl, ?_⟩
  have X2 := Ext.push h1 (.cells (S_api_Entry.cs ⟨r.term, s1⟩).toArray 65) (Nat.le_refl _)
  have M2 := M1.ext X2
  have Rw2 := Row.of_pushE (E := 65) (w := 2) h1 (S_api_Entry.cs ⟨r.term, s1⟩) 1 rfl (by decide)
  have R2 := R1.ext X2 fun g hg => (R1.bd hg).2
  have F2 : EntsF h.size (h1.push (.cells (S_api_Entry.cs ⟨r.term, s1⟩).toArray 65)) ⟨some ⟨h1.size, 0, none⟩, 1, 1⟩ [(r.term, cmd)] [⟨r.term, s1⟩] := ⟨Rw2.mono z1, rfl, fun i v e hv he => by
    have : i = 0 := by have := (List.getElem?_eq_some_iff.1 hv).1; simp at this; omega
    rw [this] at hv he
    simp at hv he
    subst hv; subst he
    exact ⟨rfl, R2⟩⟩
  generalize h1.push (.cells (S_api_Entry.cs ⟨r.term, s1⟩).toArray 65) = h2 at *
  obtain ⟨b9, e9⟩ : ∃ y, y = h1.size := ⟨_, rfl⟩
  rw [← e9] at F2 ⊢
  have z2 := X2.size
  have X02 : Ext h.size h h2 := X1.trans (X2.mono z1)
  have I2 := F2.imm ob
  have okE : esOk [(r.term, cmd)] := fun e he => by simp at he; subst he; exact ⟨wf.tm, hB, hz⟩
  have lb := R.p.l.last_bd
  refine ⟨_, M2.c 4, Append_ok M2.p.l (fun g hg => by have := ob g hg; omega) I2 okE lb.1 lb.2 (by simp) fun h3 s3 A3 S3 f3 => ?_⟩
  have q3 := (relog M2 A3 S3 f3).pre X02 fun g hg => R.ob' hg
  have I3 : Imm (G O { L with es := s3 }) h3 fun h => EntsAt h ⟨some ⟨b9, 0, none⟩, 1, 1⟩ [(r.term, cmd)] := (relog M2 A3 S3 f3).imm M2 I2
  have ab := append_bd (l := r.log) (p := r.log.last) (t := r.log.lastT) (more := [(r.term, cmd)])
  unfold RS.put at H
  generalize hA : r.log.append r.log.last r.log.lastT [(r.term, cmd)] = A at *
  by_cases he : A.2.2 = 0
  · rw [if_neg (by simpa using he)]
    rw [if_neg (by simpa using he)] at H
    have M3 := q3.R
    refine ⟨_, M3.c 13, _, _, rfl, rfl, ?_⟩
    have X4 := Ext.push h3 (.cells (S_api_Keep.cs ⟨2, r.log.lastT, 0, r.log.last, ⟨some ⟨b9, 0, none⟩, 1, 1⟩, ⟨none, 0, 0⟩⟩).toArray 107) (Nat.le_refl _)
    have q4 := q3.ext X4
    have I4 := I3.ext X4
    generalize h3.push (.cells (S_api_Keep.cs ⟨2, r.log.lastT, 0, r.log.last, ⟨some ⟨b9, 0, none⟩, 1, 1⟩, ⟨none, 0, 0⟩⟩).toArray 107) = h4 at *
    refine push_keep (L := { L with es := s3 }) (r := { r with log := A.1 }) (x := ⟨2, r.log.lastT, 0, r.log.last, [(r.term, cmd)], []⟩) q4.R hk (I4.imp fun h' E => ⟨⟨rfl, rfl, rfl, rfl⟩, E, slc_nil h', rfl⟩) fun h5 L5 q5 => ?_
    have q5' := q4.trans q5
    have M5 := q5'.R
    rw [show L.b = L5.b from q5.b.symm]
    obtain ⟨a, ha, i0, i1, w6, M6, S6⟩ := poke_has (v := A.2.1) M5 mb.1 (by show r.me < r.has.length; omega) ab
    refine ⟨_, M5.c 12, _, M5.c0, a, ha, i0, i1, _, w6, rfl, ?_⟩
    refine settle_ok M6 (by simp; exact hh) fun h7 M7 S7 => ?_
    exact H h7 L5 (q5'.trans (Res.of M7 (S6.trans' S7)))
  · rw [if_pos (by simpa using he)]
    rw [if_pos (by simpa using he)] at H
    have e1 : A.1 = r.log := by rw [← hA]; exact append_err (by rw [hA]; exact he)
    rw [e1] at q3
    exact H h3 _ q3
theorem lead_rows {L' : RLy} {h2 : Heap} {nx hs : List Int} (R : RaftAt O h L r) (S : Stp (fun g => g = L.b) h h2) (e : L' = { L with next := L'.next, has := L'.has, bal := none })
    (K : Blk h2 L.b (rcs L' { r with role := 2, leader := r.me, ticks := 0, ballot := none, next := nx, has := hs }) 94) (N : Row h.size h2 22 1 L'.next (u8s nx)) (Hs : Row h.size h2 22 1 L'.has (u8s hs)) (dj : ∀ g, L'.next.blk = some g → L'.has.blk = some g → False)
    (nl : nx.length = r.n.toNat ∧ hs.length = r.n.toNat) (nb : ∀ x ∈ nx, 0 ≤ x ∧ x < 18446744073709551616) (hb : ∀ x ∈ hs, 0 ≤ x ∧ x < 18446744073709551616) :
    Res O h L { r with role := 2, leader := r.me, ticks := 0, ballot := none, next := nx, has := hs } h2 L' := by
  have P := R.p
  have wf := R.wf
  have z := S.size
  have ow : ∀ g, own L' g → own L g ∨ h.size ≤ g := fun g hg => by
    rw [e] at hg
    rcases hg with hg | hg | hg | hg | hg | hg | hg
    · exact .inl (.inl hg)
    · exact .inl (.inr (.inl hg))
    · exact .inl (.inr (.inr (.inl hg)))
    · exact .inr (N.bd hg).1
    · exact .inr (Hs.bd hg).1
    · exact .inl (.inr (.inr (.inr (.inr (.inr (.inl hg))))))
    · cases hg
  have hO : ∀ g, G O L' g → O g ∨ h.size ≤ g := fun g hg => hg.elim .inl fun h1 => (ow g h1).imp (R.ow g) id
  obtain ⟨vs, Re, _⟩ := P.l.r
  obtain ⟨ks, Kk, Ik⟩ := P.kp
  have e1 : L'.lb = L.lb := by rw [e]
  have e2 : L'.es = L.es := by rw [e]
  have e3 : L'.snap = L.snap := by rw [e]
  have e4 : L'.keeps = L.keeps := by rw [e]
  have e5 : L'.bal = none := by rw [e]
  have e6 : L'.b = L.b := by rw [e]
  have SO : Stp O h h2 := S.mono fun g hg => .inl (by rw [hg]; exact R.Ob)
  refine ⟨⟨by rw [e6]; exact K, ⟨?_, by rw [e3]; exact P.sn.step SO hO, by rw [e3]; exact P.sl, N.mono (Nat.zero_le _), Hs.mono (Nat.zero_le _), dj, ⟨ks, by rw [e4]; exact S.row Kk fun g hg e => by subst e; exact Kk.ne_blk R.k (by decide) hg, Ik.step SO hO⟩, by rw [e5]; trivial⟩, fun g hg => .inr hg, fun g hg => ?_, ?_⟩, S.mono fun g hg => .inl (.inl hg), ow, e6⟩
  · rw [e1, e2]
    exact (P.l.sub hO (.inl (R.ow _ (.inr (.inl rfl)))) fun g hg => .inl (R.ow _ (.inr (.inr (.inl hg))))).stp S (fun g hg => .inl (.inl (by rw [hg]; exact R.Ob))) (fun e => by have := R.k; rw [← e] at this; have := (this.inj P.l.k).2; revert this; decide) fun g hg e => by subst e; exact Re.ne_blk R.k (by decide) hg
  · rcases hg with hg | hg
    · have := R.ob g hg; omega
    · rw [e] at hg
      rcases hg with hg | hg | hg | hg | hg | hg | hg
      · have := R.ob' (g := g) (.inl hg); omega
      · have := R.ob' (g := g) (.inr (.inl hg)); omega
      · have := R.ob' (g := g) (.inr (.inr (.inl hg))); omega
      · exact (N.bd hg).2
      · exact (Hs.bd hg).2
      · have := R.ob' (g := g) (.inr (.inr (.inr (.inr (.inr (.inl hg)))))); omega
      · cases hg
  · exact ⟨wf.n, wf.me, wf.tm, wf.vt, wf.cm, ⟨Int.le_refl _, by show (0:Int) ≤ 1000000000; omega⟩, fun _ => nl, nb, hb, (fun l e => by cases e), wf.sn, wf.kp⟩
theorem Rw_set {r : RS} {i : Nat} {v : Int} : { { r with has := r.has } with has := r.has.set i v } = { r with has := r.has.set i v } := rfl
theorem isB_nil : isB [] := fun b hb => by cases hb
/-- it leads -/
theorem win_j2_ok {k : Slc → Heap → Prop} {h2 : Heap} {L' : RLy} (hk : r.keeps.length < 1000000) (q : Res O h L { r with role := 2, leader := r.me, ticks := 0, ballot := none, next := List.replicate r.n.toNat (W (r.log.last + 1)), has := List.replicate r.n.toNat 0 } h2 L')
    (H : ∀ s h' L', Res O h L (r.lead.put []).1 h' L' → MailsI (G O L') h' s ((r.lead.put []).1.others (r.lead.put []).1.due) → (∀ g, s.blk = some g → h.size ≤ g) → k s h') : raft_Raft_win_j2 (some ⟨L'.b, 0, none⟩) r.log.last k h2 := by
  have M := q.R
  have wf := M.wf
  have nb : 1 ≤ r.n ∧ r.n ≤ 32 := wf.n
  have mb : 0 ≤ r.me ∧ r.me < r.n := wf.me
  have lb := M.p.l.last_bd
  unfold raft_Raft_win_j2
  obtain ⟨a, ha, i0, i1, w6, M6, S6⟩ := poke_has (v := r.log.last) M mb.1 (by simp; omega) lb
  refine ⟨_, rfl, _, M.c 12, _, M.c0, a, ha, i0, i1, _, w6, rfl, ?_⟩
  have q6 := q.trans (Res.of M6 S6)
  generalize setH h2 (a.add (r.me.toNat * 1)) (.int .u64 r.log.last) = h3 at *
  change Res O h L r.lead h3 L' at q6
  have M7 := q6.R
  refine put_ok (cmd := []) M7 (by show (List.set _ _ _).length = _; simp [RS.lead]) hk (slc_nil h3) rfl isB_nil (by decide) fun h8 L8 q8 => ?_
  have q9 := q6.trans q8
  have z9 := q9.S.size
  have M9 := q9.R
  rw [← show L8.b = L'.b from q8.b]
  refine others_due_ok M9 (M9.wf.ld ?_).1 fun s h10 Ml X10 sb => H s h10 L8 (q9.ext X10) Ml fun g hg => by have := sb g hg; omega
  have : ∀ x : RS, x.settle.role = x.role := fun x => by unfold RS.settle; split <;> rfl
  show (r.lead.put []).1.role = 2
  unfold RS.put
  split
  · rfl
  · rw [this]; rfl
theorem put_role {cmd : List Int} : (r.put cmd).1.role = r.role := by
  have : ∀ x : RS, x.settle.role = x.role := fun x => by unfold RS.settle; split <;> rfl
  unfold RS.put
  split
  · rfl
  · rw [this]
theorem win_ok {k : Slc → Heap → Prop} (R : RaftAt O h L r) (ha : r.role = 1 → ∃ l, r.ballot = some l) (hk : r.keeps.length < 1000000)
    (H : ∀ s h' L', Res O h L r.win.1 h' L' → MailsI (G O L') h' s r.win.2 → (∀ g, s.blk = some g → h.size ≤ g) → k s h') : raft_Raft_win (some ⟨L.b, 0, none⟩) k h := by
  have wf := R.wf
  have nb := wf.n
  have lb := R.p.l.last_bd
  unfold RS.win at H
  have no : (r.role ≠ 1 ∨ r.won = false) → raft_Raft_win_g1 (some ⟨L.b, 0, none⟩) true k h := fun hn => by
    unfold raft_Raft_win_g1
    rw [if_pos rfl]
    rw [if_pos hn] at H
    exact H _ h L (Res.of R (Stp.refl _ _)) (MailsI.nil _ _) fun g hg => by simp [Slc.blk] at hg
  unfold raft_Raft_win
  refine ⟨_, rfl, _, R.c 7, ?_⟩
  by_cases hr : r.role = 1
  · rw [if_neg (by simpa using hr)]
    obtain ⟨l, el⟩ := ha hr
    obtain ⟨nd, lbd⟩ := wf.bl l el
    obtain ⟨y1, y2, _⟩ := bits_ok (n := r.n.toNat) (by omega) nd fun x hx => by have := lbd x hx; omega
    have B := R.p.bl
    rw [el] at B
    obtain ⟨c, ec⟩ : ∃ c, L.bal = some c := by
      cases hb : L.bal with
      | none => rw [hb] at B; exact B.elim
      | some c => exact ⟨c, rfl⟩
    rw [ec] at B
    have cc := R.c 10
    refine ⟨_, cc, ?_⟩
    have e10 : L.bal.map (fun c => (⟨c, 0, none⟩ : Addr)) = some ⟨c, 0, none⟩ := by rw [ec]; rfl
    rw [e10]
    refine Won_ok (n := r.n) (y := bits l) B (by omega) nb.2 y1 ?_
    rw [y2]
    have ew : r.won = decide ((l.length : Int) ≥ r.n / 2 + 1) := by unfold RS.won; rw [el]
    rw [← ew]
    cases hw : r.won with
    | false => exact no (.inr hw)
    | true =>
      rw [if_neg (by rw [hw]; simp [hr])] at H
      show raft_Raft_win_g1 _ false k h
      unfold raft_Raft_win_g1
      rw [if_neg (by simp)]
      refine ⟨_, rfl, _, R.c 4, Last_ok R.p.l ?_⟩
      obtain ⟨w, f⟩ := R.k.put (i := 7) (v := .int .i64 2) (by show 7 < 14; omega)
      refine ⟨_, R.c0, _, w, rfl, ?_⟩
      obtain ⟨K2, U2⟩ := f _ rfl
      generalize setH h ((⟨L.b, 0, none⟩ : Addr).add 7) (.int .i64 2) = h2 at *
      obtain ⟨w, f⟩ := K2.put (i := 8) (v := .int .i64 r.me) (by show 8 < 14; omega)
      refine ⟨_, w, rfl, ?_⟩
      obtain ⟨K3, U3⟩ := f _ rfl
      generalize setH h2 ((⟨L.b, 0, none⟩ : Addr).add 8) (.int .i64 r.me) = h3 at *
      obtain ⟨w, f⟩ := K3.put (i := 9) (v := .int .i64 0) (by show 9 < 14; omega)
      refine ⟨_, w, rfl, ?_⟩
      obtain ⟨K4, U4⟩ := f _ rfl
      generalize setH h3 ((⟨L.b, 0, none⟩ : Addr).add 9) (.int .i64 0) = h4 at *
      obtain ⟨w, f⟩ := K4.put (i := 10) (v := .pointer none) (by show 10 < 14; omega)
      refine ⟨_, w, rfl, ?_⟩
      obtain ⟨K5, U5⟩ := f _ rfl
      generalize setH h4 ((⟨L.b, 0, none⟩ : Addr).add 10) (.pointer none) = h5 at *
      have U := ((U2.trans U3).trans U4).trans U5
      have S5 : Stp (fun g => g = L.b) h h5 := .of_upd U (.inl rfl)
      have z5 := U.size
      have cn : ∀ {h' : Heap}, Blk h' L.b (rcs { L with bal := none } { r with role := 2, leader := r.me, ticks := 0, ballot := none }) 94 → cellH h' ((⟨L.b, 0, none⟩ : Addr).add 1) = some (.int .i64 r.n) := fun K => by rw [K.get]; rfl
      change Blk h5 L.b (rcs { L with bal := none } { r with role := 2, leader := r.me, ticks := 0, ballot := none }) 94 at K5
      have eW : IntKind.u64.wrap (r.log.last + 1) = W (r.log.last + 1) := rfl
      have zr : ∀ n : Int, zrow [.int .u64 0] n.toNat = u8s (List.replicate n.toNat 0) := fun n => by simp [zrow, u8s]
      -- the end of each way
      have fin : ∀ {h' : Heap} {sn sh : Slc}, Stp (fun g => g = L.b) h h' → Blk h' L.b (rcs { L with bal := none } { r with role := 2, leader := r.me, ticks := 0, ballot := none }) 94 → Row h.size h' 22 1 sn (u8s (List.replicate r.n.toNat (W (r.log.last + 1)))) → Row h.size h' 22 1 sh (u8s (List.replicate r.n.toNat 0)) → (∀ g, sn.blk = some g → sh.blk = some g → False) →
          ∃ h32 : Heap, WrH h' ((⟨L.b, 0, none⟩ : Addr).add 11) ∧ h32 = setH h' ((⟨L.b, 0, none⟩ : Addr).add 11) (Slc.v sn) ∧ (∃ h33 : Heap, WrH h32 ((⟨L.b, 0, none⟩ : Addr).add 12) ∧ h33 = setH h32 ((⟨L.b, 0, none⟩ : Addr).add 12) (Slc.v sh) ∧ (raft_Raft_win_j2 (some ⟨L.b, 0, none⟩) r.log.last k h33)) := fun {h' sn sh} S K N Hs dj => by
        obtain ⟨w, f⟩ := K.put (i := 11) (v := Slc.v sn) (by show 11 < 14; omega)
        refine ⟨_, w, rfl, ?_⟩
        obtain ⟨K6, U6⟩ := f _ rfl
        generalize setH h' ((⟨L.b, 0, none⟩ : Addr).add 11) (Slc.v sn) = h6 at *
        obtain ⟨w, f⟩ := K6.put (i := 12) (v := Slc.v sh) (by show 12 < 14; omega)
        refine ⟨_, w, rfl, ?_⟩
        obtain ⟨K7, U7⟩ := f _ rfl
        generalize setH h6 ((⟨L.b, 0, none⟩ : Addr).add 12) (Slc.v sh) = h7 at *
        have S7 : Stp (fun g => g = L.b) h' h7 := .of_upd (U6.trans U7) (.inl rfl)
        have bl := R.k.lt
        have q : Res O h L { r with role := 2, leader := r.me, ticks := 0, ballot := none, next := List.replicate r.n.toNat (W (r.log.last + 1)), has := List.replicate r.n.toNat 0 } h7 { L with next := sn, has := sh, bal := none } :=
          lead_rows R (S.trans' S7) rfl K7 (S7.row N fun g hg e => by have := (N.bd hg).1; omega) (S7.row Hs fun g hg e => by have := (Hs.bd hg).1; omega) dj (by simp) (fun x hx => by rw [List.eq_of_mem_replicate hx]; exact W_bd _) fun x hx => by rw [List.eq_of_mem_replicate hx]; omega
        exact win_j2_ok (L' := { L with next := sn, has := sh, bal := none }) hk q H
      refine ⟨_, cn K5, _, cn K5, ⟨_, _, rfl, rfl, ?_⟩, ?_⟩
      · have X6 := Ext.push h5 (.cells ([.int .u64 (IntKind.u64.wrap (r.log.last + 1))] : List Value).toArray 22) (Nat.le_refl _)
        have B6 := Blk.push h5 [.int .u64 (IntKind.u64.wrap (r.log.last + 1))] 22
        have K6 := K5.ext X6 K5.lt
        have S6 := S5.trans (Stp.of_ext (O := fun _ => False) X6) fun _ h => h.elim
        generalize h5.push (.cells ([.int .u64 (IntKind.u64.wrap (r.log.last + 1))] : List Value).toArray 22) = h6 at *
        have z6 := S6.size
        refine ⟨cn K6, cn K6, ?_, ?_⟩
        · refine Repeat_ok B6 (by omega) nb.2 fun s7 h7 R7 X7 => ?_
          have K7 := K6.ext X7 K6.lt
          have S7 := S6.trans (Stp.of_ext (O := fun _ => False) X7) fun _ h => h.elim
          have z7 := X7.size
          refine ⟨cn K7, ⟨_, _, by omega, Int.le_refl _, by omega, by omega, rfl, rfl, ?_⟩, ?_⟩
          · have X8 := Ext.push h7 (.cells (zrow [.int .u64 0] r.n.toNat).toArray 22) (Nat.le_refl _)
            have R8 := Row.of_pushE (E := 22) (w := 1) h7 (zrow [.int .u64 0] r.n.toNat) r.n.toNat (by simp [zrow]) (by simp only [maxLen]; omega)
            rw [zr] at R8 X8 ⊢
            have Rn := R7.ext X8 fun g hg => (R7.bd hg).2
            refine fin (S7.trans (Stp.of_ext (O := fun _ => False) X8) fun _ h => h.elim) (K7.ext X8 K7.lt) (Rn.mono (by omega)) (R8.mono (by omega)) fun g h1 h2 => ?_
            have := (R7.bd h1).2; have := (R8.bd h2).1; omega
          · obtain ⟨w, f⟩ := K7.put (i := 11) (v := Slc.v s7) (by show 11 < 14; omega)
            refine ⟨_, w, rfl, ?_⟩
            obtain ⟨K8, U8⟩ := f _ rfl
            have S8 : Stp (fun g => g = L.b) h7 (setH h7 ((⟨L.b, 0, none⟩ : Addr).add 11) (Slc.v s7)) := .of_upd U8 (.inl rfl)
            have bl := R.k.lt
            have Rn8 := S8.row R7 fun g hg e => by have := (R7.bd hg).1; omega
            generalize setH h7 ((⟨L.b, 0, none⟩ : Addr).add 11) (Slc.v s7) = h8 at *
            have z8 := S8.size
            refine ⟨_, _, by omega, Int.le_refl _, by omega, by omega, rfl, rfl, ?_⟩
            have X9 := Ext.push h8 (.cells (zrow [.int .u64 0] r.n.toNat).toArray 22) (Nat.le_refl _)
            have R9 := Row.of_pushE (E := 22) (w := 1) h8 (zrow [.int .u64 0] r.n.toNat) r.n.toNat (by simp [zrow]) (by simp only [maxLen]; omega)
            rw [zr] at R9 X9 ⊢
            have Rn9 := Rn8.ext X9 fun g hg => (Rn8.bd hg).2
            have K9 := K8.ext X9 K8.lt
            generalize h8.push (.cells (u8s (List.replicate r.n.toNat 0)).toArray 22) = h9 at *
            obtain ⟨w, f⟩ := K9.put (i := 12) (v := Slc.v ⟨some ⟨h8.size, 0, none⟩, r.n.toNat, r.n.toNat⟩) (by show 12 < 14; omega)
            refine ⟨_, w, rfl, ?_⟩
            obtain ⟨K10, U10⟩ := f _ rfl
            have S10 : Stp (fun g => g = L.b) h9 (setH h9 ((⟨L.b, 0, none⟩ : Addr).add 12) (Slc.v ⟨some ⟨h8.size, 0, none⟩, r.n.toNat, r.n.toNat⟩)) := .of_upd U10 (.inl rfl)
            generalize setH h9 ((⟨L.b, 0, none⟩ : Addr).add 12) (Slc.v ⟨some ⟨h8.size, 0, none⟩, r.n.toNat, r.n.toNat⟩) = h10 at *
            have z9 := X9.size
            have q : Res O h L { r with role := 2, leader := r.me, ticks := 0, ballot := none, next := List.replicate r.n.toNat (W (r.log.last + 1)), has := List.replicate r.n.toNat 0 } h10 { L with next := s7, has := ⟨some ⟨h8.size, 0, none⟩, r.n.toNat, r.n.toNat⟩, bal := none } :=
              lead_rows R (((S7.trans' S8).trans (Stp.of_ext (O := fun _ => False) X9) fun _ h => h.elim).trans' S10) rfl K10 ((S10.row Rn9 fun g hg e => by have := (Rn9.bd hg).1; omega).mono (by omega)) ((S10.row R9 fun g hg e => by have := (R9.bd hg).1; omega).mono (by omega)) (fun g h1 h2 => by have := (Rn8.bd h1).2; have := (R9.bd h2).1; omega) (by simp) (fun x hx => by rw [List.eq_of_mem_replicate hx]; exact W_bd _) fun x hx => by rw [List.eq_of_mem_replicate hx]; omega
            exact win_j2_ok (L' := { L with next := s7, has := ⟨some ⟨h8.size, 0, none⟩, r.n.toNat, r.n.toNat⟩, bal := none }) hk q H
        · refine ⟨_, _, by omega, Int.le_refl _, by omega, by omega, rfl, rfl, ?_⟩
          have X7 := Ext.push h6 (.cells (zrow [.int .u64 0] r.n.toNat).toArray 22) (Nat.le_refl _)
          have R7 := Row.of_pushE (E := 22) (w := 1) h6 (zrow [.int .u64 0] r.n.toNat) r.n.toNat (by simp [zrow]) (by simp only [maxLen]; omega)
          rw [zr] at R7 X7 ⊢
          have K7 := K6.ext X7 K6.lt
          have S7 := S6.trans (Stp.of_ext (O := fun _ => False) X7) fun _ h => h.elim
          have B7 := B6.ext X7 B6.lt
          generalize h6.push (.cells (u8s (List.replicate r.n.toNat 0)).toArray 22) = h7 at *
          have z7 := X7.size
          refine ⟨cn K7, Repeat_ok B7 (by omega) nb.2 fun s8 h8 R8 X8 => ?_⟩
          refine fin (S7.trans (Stp.of_ext (O := fun _ => False) X8) fun _ h => h.elim) (K7.ext X8 K7.lt) (R8.mono (by omega)) ((R7.ext X8 fun g hg => (R7.bd hg).2).mono (by omega)) fun g h1 h2 => ?_
          have := (R8.bd h1).1; have := (R7.bd h2).2; omega
      · refine ⟨_, _, by omega, Int.le_refl _, by omega, by omega, rfl, rfl, ?_⟩
        have X6 := Ext.push h5 (.cells (zrow [.int .u64 0] r.n.toNat).toArray 22) (Nat.le_refl _)
        have R6 := Row.of_pushE (E := 22) (w := 1) h5 (zrow [.int .u64 0] r.n.toNat) r.n.toNat (by simp [zrow]) (by simp only [maxLen]; omega)
        rw [zr] at R6 X6 ⊢
        have K6 := K5.ext X6 K5.lt
        have S6 := S5.trans (Stp.of_ext (O := fun _ => False) X6) fun _ h => h.elim
        generalize h5.push (.cells (u8s (List.replicate r.n.toNat 0)).toArray 22) = h6 at *
        have z6 := S6.size
        refine ⟨cn K6, _, _, rfl, rfl, ?_⟩
        have X7 := Ext.push h6 (.cells ([.int .u64 (IntKind.u64.wrap (r.log.last + 1))] : List Value).toArray 22) (Nat.le_refl _)
        have B7 := Blk.push h6 [.int .u64 (IntKind.u64.wrap (r.log.last + 1))] 22
        have K7 := K6.ext X7 K6.lt
        have S7 := S6.trans (Stp.of_ext (O := fun _ => False) X7) fun _ h => h.elim
        have R7 := R6.ext X7 fun g hg => (R6.bd hg).2
        generalize h6.push (.cells ([.int .u64 (IntKind.u64.wrap (r.log.last + 1))] : List Value).toArray 22) = h7 at *
        have z7 := X7.size
        refine ⟨cn K7, Repeat_ok B7 (by omega) nb.2 fun s8 h8 R8 X8 => ?_⟩
        refine fin (S7.trans (Stp.of_ext (O := fun _ => False) X8) fun _ h => h.elim) (K7.ext X8 K7.lt) (R8.mono (by omega)) ((R7.ext X8 fun g hg => (R7.bd hg).2).mono (by omega)) fun g h1 h2 => ?_
        have := (R8.bd h1).1; have := (R7.bd h2).2; omega
  · rw [if_pos (by simpa using hr)]
    exact no (.inl hr)
end
end Go.Q.Yh
set_option linter.unusedVariables false
set_option linter.unusedSimpArgs false
set_option maxRecDepth 100000
/- A member: campaigns, ticks, votes. -/
namespace Go.Q.Yh
open Rf
section
variable {O O' : BSet} {h h' : Heap} {L : RLy} {r : RS}
/-- new blocks may count as written -/
theorem RaftAt.grow (R : RaftAt O h L r) (X : Ext h.size h h') (h1 : ∀ g, O' g → O g ∨ (h.size ≤ g ∧ g < h'.size)) (h2 : ∀ g, O g → O' g) : RaftAt O' h' L r := by
  have P := R.p.sub (O' := O') (fun g hg => (h1 g hg).imp id fun h => h.1) (h2 _ (R.ow _ (.inr (.inl rfl)))) fun g hg => h2 _ (R.ow _ (.inr (.inr (.inl hg))))
  exact ⟨R.k.ext X R.k.lt, P.stp (S := fun _ => False) (.of_ext X) (fun _ h => h.elim) (fun h => h) (fun _ _ h => h) (fun _ _ h => h) (fun _ _ h => h) (fun _ _ h => h) (fun _ _ h => h), fun g hg => h2 g (R.ow g hg), fun g hg => (h1 g hg).elim (fun h3 => Nat.lt_of_lt_of_le (R.ob g h3) X.size) fun h3 => h3.2, R.wf⟩
theorem mc_one (ms : List S_api_Mail) : ∀ v ∈ ms.flatMap S_api_Mail.cs, v.oneCell' = true := by
  intro x hx
  obtain ⟨v, _, hv⟩ := List.mem_flatMap.1 hx
  exact oneC (l := S_api_Mail.cs v) (by simp [S_api_Mail.cs, S_api_Msg.cs, Value.oneCell']) x hv
theorem join_mails {O1 : BSet} {s1 s2 : Slc} {l1 l2 : List Mail} {k : Slc → Heap → Prop} (M1 : MailsI O h s1 l1) (M2 : MailsI O1 h s2 l2) (hO : ∀ g, O g → O1 g) (h1 : ∀ g, s1.blk = some g → O1 g) (ob : ∀ g, O g → g < h.size) (z : l1.length + l2.length ≤ 100000)
    (H : ∀ s h', MailsI O h' s (l1 ++ l2) → Stp (fun g => s1.blk = some g) h h' → (∀ g, s.blk = some g → s1.blk = some g ∨ h.size ≤ g) → k s h') :
    ∃ l70 : List Value, SlcAt h s2 l70 ∧ App 45 9 104 [.int .i64 0, .int .i64 0, .int .u64 0, .int .u64 0, .int .u64 0, .int .u64 0, .bool false, .slice none 0 0, .slice none 0 0] h s1 s2.len l70 (fun s68 h69 => k s68 h69) := by
  have e1 := M1.len
  have e2 := M2.len
  obtain ⟨m1, R1, n1, I1⟩ := M1.m
  obtain ⟨m2, R2, n2, I2⟩ := M2.m
  refine ⟨_, R2.slc, App.row2 R1 (Nat.zero_le _) rfl (by rw [mcs_len]; omega) (mc_one m2) (by omega) (by simp only [maxLen]; omega) fun s h1' Ra l1' z1 o1 b1 _ => ?_⟩
  have S1 : Stp (fun g => s1.blk = some g) h h1' := ⟨z1, fun g hg hn => o1 g hg hn⟩
  have sb : ∀ g, s.blk = some g → s1.blk = some g ∨ h.size ≤ g := fun g hg => by
    rcases b1 with ⟨b1, _⟩ | b1
    · exact .inl (by rw [← b1]; exact hg)
    · rw [b1] at hg; cases hg; exact .inr (Nat.le_refl _)
  refine H s h1' ⟨⟨m1 ++ m2, by simpa using Ra, by simp [n1, n2], fun i m y hm hy => ?_⟩, fun g hg h2 => (sb g hg).elim (fun h => M1.n g h h2) fun h3 => by have := ob g h2; omega⟩ S1 sb
  rcases Nat.lt_or_ge i m1.length with hi | hi
  · rw [List.getElem?_append_left hi] at hm
    rw [List.getElem?_append_left (by rw [← n1]; exact hi)] at hy
    refine ⟨(I1 i m y hm hy).1, (I1 i m y hm hy).2.step (S1.mono fun g hg => .inl (.inr hg)) fun g hg => ?_⟩
    rcases hg with hg | hg
    · exact .inl (.inl hg)
    · exact (sb g hg).elim (fun h => .inl (.inr h)) .inr
  · rw [List.getElem?_append_right hi] at hm
    rw [List.getElem?_append_right (by rw [← n1]; exact hi), ← n1] at hy
    refine ⟨(I2 _ m y hm hy).1, (I2 _ m y hm hy).2.step (S1.mono fun g hg => .inl (.inl (h1 g hg))) fun g hg => ?_⟩
    rcases hg with hg | hg
    · exact .inl (.inl (hO g hg))
    · exact (sb g hg).elim (fun h => .inl (.inl (h1 g h))) .inr
theorem others_len (r : RS) (f : Int → Msg) : (r.others f).length ≤ r.n.toNat := by
  unfold RS.others
  rw [List.length_map]
  exact nodesTo_len r.me r.n.toNat
theorem win_len : r.win.2.length ≤ r.n.toNat := by
  have : ∀ x : RS, x.settle.n = x.n := fun x => by unfold RS.settle; split <;> rfl
  unfold RS.win
  split
  · simp
  · refine Nat.le_trans (others_len _ _) (Nat.le_of_eq ?_)
    unfold RS.put
    split
    · rfl
    · rw [this]; rfl
theorem own_bal {c : Option Nat} {g : Nat} (hg : own { L with bal := c } g) : own L g ∨ c = some g := by
  rcases hg with hg | hg | hg | hg | hg | hg | hg
  · exact .inl (.inl hg)
  · exact .inl (.inr (.inl hg))
  · exact .inl (.inr (.inr (.inl hg)))
  · exact .inl (.inr (.inr (.inr (.inl hg))))
  · exact .inl (.inr (.inr (.inr (.inr (.inl hg)))))
  · exact .inl (.inr (.inr (.inr (.inr (.inr (.inl hg))))))
  · exact .inr hg
/-- a ballot is put in place -/
theorem reballot {c : Nat} {l : List Int} {h1 h2 : Heap} (R : RaftAt O h L r) (X : Ext h.size h h1) (B : Blk h1 c (S_vote_Ballot.cs ⟨r.n, (bits l : Int)⟩) 123) (hc : h.size ≤ c) (K : Blk h2 L.b (rcs { L with bal := some c } { r with ballot := some l }) 94) (U : Upd L.b h1 h2) (hl : l.Nodup ∧ ∀ x ∈ l, 0 ≤ x ∧ x < r.n) :
    Res O h L { r with ballot := some l } h2 { L with bal := some c } := by
  have wf := R.wf
  have K1 := R.k.ext X R.k.lt
  have z1 := X.size
  have z2 := U.size
  have ow : ∀ g, own { L with bal := some c } g → own L g ∨ h.size ≤ g := fun g hg => (own_bal hg).imp id fun e => by cases e; exact hc
  have hO : ∀ g, G O { L with bal := some c } g → O g ∨ h.size ≤ g := fun g hg => hg.elim .inl fun h1 => (ow g h1).imp (R.ow g) id
  have P1 := (R.p.sub hO (.inl (R.ow _ (.inr (.inl rfl)))) fun g hg => .inl (R.ow _ (.inr (.inr (.inl hg))))).stp (S := fun _ => False) (.of_ext X) (fun _ h => h.elim) (fun h => h) (fun _ _ h => h) (fun _ _ h => h) (fun _ _ h => h) (fun _ _ h => h) (fun _ _ h => h)
  have P2 := P1.upd K1 U (.inl R.Ob) (by decide)
  have bl := R.k.lt
  refine ⟨⟨K, ⟨P2.l, P2.sn, P2.sl, P2.nx, P2.hs, P2.dj, P2.kp, B.old (U.block c B.lt (by omega))⟩, fun g hg => .inr hg, fun g hg => ?_, ⟨wf.n, wf.me, wf.tm, wf.vt, wf.cm, wf.tk, wf.ld, wf.nx, wf.hs, (fun l' e => by cases e; exact hl), wf.sn, wf.kp⟩⟩, (Stp.of_ext (O := own L) X).trans' (.of_upd U (.inl (.inl rfl))), ow, rfl⟩
  rcases hg with hg | hg
  · have := R.ob g hg; omega
  · rcases own_bal hg with hg | hg
    · have := R.ob' hg; omega
    · cases hg; have := B.lt; omega
/-- the ballot's block is written -/
theorem reyes {c : Nat} {l : List Int} (R : RaftAt O h L r) (hb : L.bal = some c) (B : Blk h' c (S_vote_Ballot.cs ⟨r.n, (bits l : Int)⟩) 123) (U : Upd c h h') (hl : l.Nodup ∧ ∀ x ∈ l, 0 ≤ x ∧ x < r.n) : RaftAt O h' L { r with ballot := some l } ∧ Stp (own L) h h' := by
  have wf := R.wf
  have P := R.p
  obtain ⟨cs, Kb⟩ := P.bl.blk c hb
  obtain ⟨vs, Re, _⟩ := P.l.r
  obtain ⟨ks, Kk, Ik⟩ := P.kp
  have oc : own L c := .inr (.inr (.inr (.inr (.inr (.inr hb)))))
  have S : Stp (fun g => g = c) h h' := .of_upd U (.inl rfl)
  have SO : Stp O h h' := S.mono fun g hg => .inl (by rw [hg]; exact R.ow _ oc)
  have nR : ∀ {B E w : Nat} {s : Slc} {xs : List Value}, Row B h E w s xs → E ≠ 123 → ∀ g, s.blk = some g → ¬ g = c := fun Rw hE g hg e => by subst e; exact Rw.ne_blk Kb hE hg
  have nB : ∀ {b E : Nat} {ds : List Value}, Blk h b ds E → E ≠ 123 → ¬ b = c := fun K hE e => by subst e; exact hE (K.inj Kb).2
  refine ⟨⟨S.blk R.k (nB R.k (by decide)), ⟨P.l.stp S (fun g hg => .inl (by rw [hg]; exact R.ow _ oc)) (nB P.l.k (by decide)) (nR Re (by decide)), P.sn.stp SO, P.sl, S.row P.nx (nR P.nx (by decide)), S.row P.hs (nR P.hs (by decide)), P.dj, ⟨ks, S.row Kk (nR Kk (by decide)), Ik.stp SO⟩, by rw [hb]; exact B⟩, R.ow, fun g hg => Nat.lt_of_lt_of_le (R.ob g hg) U.size, ⟨wf.n, wf.me, wf.tm, wf.vt, wf.cm, wf.tk, wf.ld, wf.nx, wf.hs, (fun l' e => by cases e; exact hl), wf.sn, wf.kp⟩⟩, S.mono fun g hg => .inl (by rw [hg]; exact oc)⟩
theorem campaign_ok {k : Slc → Heap → Prop} (R : RaftAt O h L r) (hk : r.keeps.length < 999990)
    (H : ∀ s h' L', Res O h L r.campaign.1 h' L' → MailsI (G O L') h' s r.campaign.2 → (∀ g, s.blk = some g → h.size ≤ g) → k s h') : raft_Raft_campaign (some ⟨L.b, 0, none⟩) k h := by
  have wf := R.wf
  have nb := wf.n
  have mb := wf.me
  have tb := wf.tm
  unfold raft_Raft_campaign
  refine ⟨_, _, rfl, rfl, ?_⟩
  have X1 := Ext.push h (.cells ([.pointer (some ⟨L.b, 0, none⟩)] : List Value).toArray 37) (Nat.le_refl _)
  have C1 := Blk.push h [.pointer (some ⟨L.b, 0, none⟩)] 37
  have R1 := R.ext X1
  generalize h.push (.cells ([.pointer (some ⟨L.b, 0, none⟩)] : List Value).toArray 37) = h1 at *
  obtain ⟨b1, e1⟩ : ∃ y, y = h.size := ⟨_, rfl⟩
  rw [← e1] at C1 ⊢
  have z1 := X1.size
  have cp : ∀ {h' : Heap}, Blk h' b1 [.pointer (some ⟨L.b, 0, none⟩)] 37 → cellH h' ⟨b1, 0, none⟩ = some (.pointer (some ⟨L.b, 0, none⟩)) := fun K => by rw [K.cell]; rfl
  unfold RS.campaign at H
  refine ⟨_, cp C1, _, rfl, _, R1.c 2, ?_⟩
  by_cases ht : r.term ≥ 4611686018427387904
  · rw [if_pos (by simpa using ht)]
    rw [if_pos ht] at H
    exact H _ h1 L (Res.of R1 (.of_ext X1)) (MailsI.nil _ _) fun g hg => by simp [Slc.blk] at hg
  rw [if_neg (by simpa using ht)]
  rw [if_neg ht] at H
  have eW : IntKind.u64.wrap (r.term + 1) = W (r.term + 1) := rfl
  have wb := W_bd (r.term + 1)
  obtain ⟨w, f⟩ := R1.k.put (i := 2) (v := .int .u64 (W (r.term + 1))) (by show 2 < 14; omega)
  refine ⟨_, cp C1, _, rfl, _, R1.c 2, ?_⟩
  rw [eW]
  refine ⟨_, w, rfl, ?_⟩
  obtain ⟨K2, U2⟩ := f _ rfl
  generalize setH h1 ((⟨L.b, 0, none⟩ : Addr).add 2) (.int .u64 (W (r.term + 1))) = h2 at *
  have C2 := U2.blk C1 (by have := R.k.lt; omega)
  have me2 : cellH h2 ⟨L.b, 0, none⟩ = some (.int .i64 r.me) := by rw [K2.cell]; rfl
  obtain ⟨w, f⟩ := K2.put (i := 7) (v := .int .i64 1) (by show 7 < 14; omega)
  refine ⟨_, cp C2, _, cp C2, _, cp C2, _, cp C2, _, cp C2, _, rfl, _, me2, _, rfl, _, w, rfl, ?_⟩
  obtain ⟨K3, U3⟩ := f _ rfl
  generalize setH h2 ((⟨L.b, 0, none⟩ : Addr).add 7) (.int .i64 1) = h3 at *
  have C3 := U3.blk C2 (by have := R.k.lt; omega)
  obtain ⟨w, f⟩ := K3.put (i := 8) (v := .int .i64 (-1)) (by show 8 < 14; omega)
  refine ⟨cp C3, cp C3, cp C3, _, rfl, _, w, rfl, ?_⟩
  obtain ⟨K4, U4⟩ := f _ rfl
  generalize setH h3 ((⟨L.b, 0, none⟩ : Addr).add 8) (.int .i64 (-1)) = h4 at *
  have C4 := U4.blk C3 (by have := R.k.lt; omega)
  obtain ⟨w, f⟩ := K4.put (i := 9) (v := .int .i64 0) (by show 9 < 14; omega)
  refine ⟨cp C4, cp C4, _, rfl, _, w, rfl, ?_⟩
  obtain ⟨K5, U5⟩ := f _ rfl
  generalize setH h4 ((⟨L.b, 0, none⟩ : Addr).add 9) (.int .i64 0) = h5 at *
  have C5 := U5.blk C4 (by have := R.k.lt; omega)
  rw [wrapI64 (x := r.me + 1) (by omega) (by omega)]
  obtain ⟨w, f⟩ := K5.put (i := 3) (v := .int .i64 (r.me + 1)) (by show 3 < 14; omega)
  refine ⟨cp C5, _, rfl, _, w, rfl, ?_⟩
  obtain ⟨K6, U6⟩ := f _ rfl
  generalize setH h5 ((⟨L.b, 0, none⟩ : Addr).add 3) (.int .i64 (r.me + 1)) = h6 at *
  have C6 := U6.blk C5 (by have := R.k.lt; omega)
  have U := (((U2.trans U3).trans U4).trans U5).trans U6
  have M6 : RaftAt O h6 L { r with term := W (r.term + 1), role := 1, leader := -1, ticks := 0, vote := r.me + 1 } := R1.poke K6 U ⟨wf.n, wf.me, wb, by show _ ≤ r.me + 1 ∧ r.me + 1 < _; omega, wf.cm, ⟨Int.le_refl _, by show (0 : Int) ≤ 1000000000; omega⟩, (fun e => by cases e), wf.nx, wf.hs, wf.bl, wf.sn, wf.kp⟩ ⟨rfl, rfl, rfl, rfl, rfl, rfl, rfl⟩
  have q6 : Res O h1 L { r with term := W (r.term + 1), role := 1, leader := -1, ticks := 0, vote := r.me + 1 } h6 L := Res.of M6 (.of_upd U (.inl (.inl rfl)))
  refine ⟨_, cp C6, keepTerm_ok q6.R (by show r.keeps.length < _; omega) fun h7 L7 q7 => ?_⟩
  have C7 := q7.S.blk C6 (q6.R.ne_own C6 (by decide))
  have q17 := q6.trans q7
  have M7 := q17.R
  have b7 : L7.b = L.b := q17.b
  rw [← b7] at C7
  have cp : ∀ {h' : Heap}, Blk h' b1 [.pointer (some ⟨L7.b, 0, none⟩)] 37 → cellH h' ⟨b1, 0, none⟩ = some (.pointer (some ⟨L7.b, 0, none⟩)) := fun K => by rw [K.cell]; rfl
  refine ⟨_, cp C7, _, cp C7, _, rfl, _, M7.c 1, VNew_ok fun c h8 m em B8 hc X8 => ?_⟩
  change m = (if r.n < 0 then 0 else if r.n < 32 then r.n else 32) at em
  have em' : m = r.n := by rw [em, if_neg (by omega)]; split <;> omega
  rw [em'] at B8
  have C8 := C7.ext X8 C7.lt
  have K8 := M7.k.ext X8 M7.k.lt
  obtain ⟨w, f⟩ := K8.put (i := 10) (v := .pointer (some ⟨c, 0, none⟩)) (by show 10 < 14; omega)
  refine ⟨cp C8, _, rfl, _, w, rfl, ?_⟩
  obtain ⟨K9, U9⟩ := f _ rfl
  generalize setH h8 ((⟨L7.b, 0, none⟩ : Addr).add 10) (.pointer (some ⟨c, 0, none⟩)) = h9 at *
  have C9 := U9.blk C8 fun e => by have := M7.k.lt; rw [← e] at this; have h10 := C8.inj (by rw [e]; exact K8); revert h10; simp
  have q9 := reballot (l := []) M7 X8 B8 hc K9 U9 ⟨List.nodup_nil, by simp⟩
  have q19 := q17.trans q9
  have M9 := q19.R
  obtain ⟨L9, eL9⟩ : ∃ y, y = ({ L7 with bal := some c } : RLy) := ⟨_, rfl⟩
  rw [← eL9] at q9 q19 M9
  have hb9 : L9.bal = some c := by rw [eL9]
  have e9 : L9.b = L7.b := by rw [eL9]
  have cc := M9.c 10
  rw [e9] at cc
  have e10 : L9.bal.map (fun c => (⟨c, 0, none⟩ : Addr)) = some ⟨c, 0, none⟩ := by rw [hb9]; rfl
  have cc' : cellH h9 ((⟨L7.b, 0, none⟩ : Addr).add 10) = some (.pointer (some ⟨c, 0, none⟩)) := by rw [cc, ← e10]; rfl
  have cm := M9.c0
  rw [e9] at cm
  refine ⟨_, cp C9, _, rfl, _, cc', _, cp C9, _, rfl, _, cm, ?_⟩
  have B9 := M9.p.bl
  rw [hb9] at B9
  refine Yes_ok (n := r.n) (y := 0) (p := r.me) B9 (by omega) nb.2 (Nat.pos_of_ne_zero (by simp)) (by omega) (fun p0 p1 _ h10 B10 U10 => ?_) fun hn => by have := hn mb.1 mb.2; simp at this
  have eb : bits [r.me] = 0 + 2 ^ r.me.toNat := by simp [bits]
  rw [← eb] at B10
  obtain ⟨M10, S10⟩ := reyes (l := [r.me]) M9 hb9 B10 U10 ⟨by simp, fun x hx => by simp at hx; subst hx; exact mb⟩
  have q20 : Res O h1 L r.asks h10 L9 := q19.trans (Res.of M10 S10)
  have C10 := U10.blk C9 fun e => by have h10 := C9.inj (by rw [e]; exact B9); revert h10; simp
  have M10 := q20.R
  have c4 := M10.c 4
  rw [e9] at c4
  refine ⟨_, cp C10, _, rfl, _, c4, Last_ok M10.p.l ⟨_, _, rfl, rfl, _, _, rfl, rfl, ?_⟩⟩
  have X11 := Ext.push h10 (.cells ([.int .u64 0] : List Value).toArray 22) (Nat.le_refl _)
  have D11 := Blk.push h10 [.int .u64 0] 22
  generalize h10.push (.cells ([.int .u64 0] : List Value).toArray 22) = h11 at *
  have z11 := X11.size
  have X12 := Ext.push h11 (.cells ([.int .u64 0] : List Value).toArray 22) (Nat.le_refl _)
  have E12 := Blk.push h11 [.int .u64 0] 22
  have D12 := D11.ext X12 D11.lt
  have hd := D11.lt
  generalize h11.push (.cells ([.int .u64 0] : List Value).toArray 22) = h12 at *
  have z12 := X12.size
  obtain ⟨d, ed⟩ : ∃ y, y = h10.size := ⟨_, rfl⟩
  obtain ⟨e, ee⟩ : ∃ y, y = h11.size := ⟨_, rfl⟩
  rw [← ed] at D12 hd ⊢
  rw [← ee] at E12 ⊢
  obtain ⟨w, f⟩ := D12.put (i := 0) (v := .int .u64 r.asks.log.last) (by show 0 < 1; omega)
  rw [show (⟨d, 0, none⟩ : Addr).add 0 = ⟨d, 0, none⟩ from rfl] at w f
  refine ⟨_, w, rfl, ?_⟩
  obtain ⟨D13, U13⟩ := f _ rfl
  have E13 := U13.blk E12 (by omega)
  have X13 : Ext h10.size h12 (setH h12 (⟨d, 0, none⟩ : Addr) (.int .u64 r.asks.log.last)) := Ext.set _ _ (by show h10.size ≤ d; omega)
  generalize setH h12 (⟨d, 0, none⟩ : Addr) (.int .u64 r.asks.log.last) = h13 at *
  obtain ⟨w, f⟩ := E13.put (i := 0) (v := .int .u64 r.asks.log.lastT) (by show 0 < 1; omega)
  rw [show (⟨e, 0, none⟩ : Addr).add 0 = ⟨e, 0, none⟩ from rfl] at w f
  refine ⟨_, w, rfl, ?_⟩
  obtain ⟨E14, U14⟩ := f _ rfl
  have D14 := U14.blk D13 (by omega)
  have X14 : Ext h10.size h13 (setH h13 (⟨e, 0, none⟩ : Addr) (.int .u64 r.asks.log.lastT)) := Ext.set _ _ (by show h10.size ≤ e; omega)
  generalize setH h13 (⟨e, 0, none⟩ : Addr) (.int .u64 r.asks.log.lastT) = h14 at *
  have X10_14 : Ext h10.size h10 h14 := X11.trans ((X12.mono z11).trans (X13.trans X14))
  have q14 := q20.ext X10_14
  have M14 := q14.R
  have C14 := C10.ext X10_14 C10.lt
  refine ⟨_, cp C14, ?_⟩
  rw [← e9] at C14 ⊢
  refine others_ask_ok M14 C14 D14 E14 fun s15 h15 Ml15 X15 sb15 => ?_
  have C15 := C14.ext X15 C14.lt
  have z15 := X15.size
  refine ⟨_, by rw [C15.cell]; rfl, ?_⟩
  -- from here on what was sent counts as written
  have M15 : RaftAt (OB (G O L9) s15) h15 L9 r.asks := M14.grow X15 (fun g hg => hg.imp id fun h => ⟨sb15 g h, by obtain ⟨ms, Rm, _⟩ := Ml15.m; exact (Rm.bd h).2⟩) fun g hg => .inl hg
  refine win_ok M15 (fun _ => ⟨_, rfl⟩) (by simp [RS.asks, RS.keepTerm]; omega) fun s16 h16 L16 q16 Ml16 sb16 => ?_
  have z16 := q16.S.size
  have Ml15' : MailsI (G O L16) h16 s15 (r.asks.others fun _ => ⟨1, r.asks.term, r.asks.log.last, r.asks.log.lastT, 0, false, [], []⟩) := Ml15.step q16.S (fun g hg => .inl (.inr hg)) fun g hg => by
    rcases hg with hg | hg
    · exact .inl (.inl hg)
    · exact (q16.F g hg).imp .inr id
  have hO : ∀ g, G O L16 g → G (OB (G O L9) s15) L16 g := fun g hg => hg.imp (fun h => .inl (.inl h)) id
  refine join_mails Ml15' Ml16 hO (fun g hg => .inl (.inr hg)) (fun g hg => q16.R.ob g (hO g hg)) (Nat.le_trans (Nat.add_le_add (others_len r.asks _) (win_len (r := r.asks))) (by show r.n.toNat + r.n.toNat ≤ 100000; omega)) fun s17 h17 Ml17 S17 sb17 => ?_
  obtain ⟨ms, Rm, _⟩ := Ml15'.m
  have M17 : RaftAt (G (OB (G O L9) s15) L16) h17 L16 r.asks.win.1 := q16.R.stp S17 (fun g hg => .inl (.inl (.inr hg))) fun g hg hs => by
    obtain ⟨cs, Kc⟩ := Rm.blkOf hs
    exact q16.R.ne_own Kc (by decide) hg
  have M17' : RaftAt (G O L16) h17 L16 r.asks.win.1 := M17.sub hO fun g hg => .inr hg
  have z14 := q14.S.size
  have hF : ∀ g, own L16 g → own L g ∨ h.size ≤ g := fun g hg => (q16.F g hg).elim (fun h2 => (q14.F g h2).imp id fun h3 => by omega) fun h3 => .inr (by omega)
  have hS : Stp (own L) h h17 := by
    have s1 : Stp (own L) h h15 := (Stp.of_ext (O := own L) X1).trans' (q14.S.trans (Stp.of_ext (O := fun _ => False) X15) fun _ h => h.elim)
    have s2 := s1.trans q16.S fun g hg => (q14.F g hg).imp id fun h3 => by omega
    exact s2.trans S17 fun g hg => .inr (by have := sb15 g hg; omega)
  refine H s17 h17 L16 ⟨M17', hS, hF, q16.b.trans q14.b⟩ Ml17 fun g hg => (sb17 g hg).elim (fun h => by have := sb15 g h; omega) fun h => by omega
end
end Go.Q.Yh
set_option linter.unusedVariables false
set_option linter.unusedSimpArgs false
set_option maxRecDepth 100000
/- A member: ticks, and what it tells. -/
namespace Go.Q.Yh
open Rf
section
variable {O O' : BSet} {h h' : Heap} {L : RLy} {r : RS}
theorem Tick_ok {k : Slc → Heap → Prop} (R : RaftAt O h L r) (hk : r.keeps.length < 999990) (ht : r.ticks < 1000000000)
    (H : ∀ s h' L', Res O h L r.tick.1 h' L' → MailsI (G O L') h' s r.tick.2 → (∀ g, s.blk = some g → h.size ≤ g) → k s h') : raft_Raft_Tick (some ⟨L.b, 0, none⟩) k h := by
  have wf := R.wf
  have nb := wf.n
  have mb := wf.me
  have tk := wf.tk
  unfold raft_Raft_Tick
  rw [if_neg (by simp)]
  obtain ⟨w, f⟩ := R.k.put (i := 9) (v := .int .i64 (r.ticks + 1)) (by show 9 < 14; omega)
  refine ⟨_, rfl, _, R.c 9, ?_⟩
  rw [wrapI64 (x := r.ticks + 1) (by omega) (by omega)]
  refine ⟨_, w, rfl, ?_⟩
  obtain ⟨K2, U2⟩ := f _ rfl
  generalize setH h ((⟨L.b, 0, none⟩ : Addr).add 9) (.int .i64 (r.ticks + 1)) = h2 at *
  have M2 : RaftAt O h2 L { r with ticks := r.ticks + 1 } := R.poke K2 U2 ⟨wf.n, wf.me, wf.tm, wf.vt, wf.cm, ⟨by show 0 ≤ r.ticks + 1; omega, by show r.ticks + 1 ≤ 1000000000; omega⟩, wf.ld, wf.nx, wf.hs, wf.bl, wf.sn, wf.kp⟩ ⟨rfl, rfl, rfl, rfl, rfl, rfl, rfl⟩
  have q2 : Res O h L { r with ticks := r.ticks + 1 } h2 L := Res.of M2 (.of_upd U2 (.inl (.inl rfl)))
  have M3 := q2.R
  have z2 := q2.S.size
  have em : Int.tmod (r.ticks + 1) 3 = (r.ticks + 1) % 3 := Int.tmod_eq_emod_of_nonneg (by omega)
  refine ⟨_, M2.c 7, ?_⟩
  show if (r.role == 2) = true then _ else _
  unfold RS.tick at H
  have j2f : ¬ (r.role = 2 ∧ (r.ticks + 1) % 3 = 0) → ¬ (r.role ≠ 2 ∧ r.ticks + 1 ≥ 10 + 7 * r.me) → raft_Raft_Tick_j2 (some ⟨L.b, 0, none⟩) false k h2 := fun n1 n2 => by
    unfold raft_Raft_Tick_j2
    rw [if_neg (by simp)]
    rw [if_neg n1, if_neg n2] at H
    exact H _ h2 L q2 (MailsI.nil _ _) fun g hg => by simp [Slc.blk] at hg
  have g1f : ¬ (r.role = 2 ∧ (r.ticks + 1) % 3 = 0) → raft_Raft_Tick_g1 (some ⟨L.b, 0, none⟩) false k h2 := fun n1 => by
    unfold raft_Raft_Tick_g1
    rw [if_neg (by simp)]
    refine ⟨_, rfl, _, M2.c 7, ?_⟩
    show if (r.role != 2) = true then _ else _
    by_cases hr : r.role = 2
    · rw [if_neg (by simpa using hr)]
      exact j2f n1 fun h => h.1 hr
    · rw [if_pos (by simpa using hr)]
      refine ⟨_, M2.c 9, ?_⟩
      unfold raft_Raft_patience
      refine ⟨_, rfl, _, M2.c0, _, rfl, ?_⟩
      rw [wrapI64 (x := 7 * _) (by show _ ≤ 7 * r.me; omega) (by show 7 * r.me < _; omega), wrapI64 (by show _ ≤ 10 + 7 * r.me; omega) (by show 10 + 7 * r.me < _; omega)]
      refine ⟨M2.c 9, ?_⟩
      by_cases hp : r.ticks + 1 ≥ 10 + 7 * r.me
      · show raft_Raft_Tick_j2 _ (decide (r.ticks + 1 ≥ 10 + 7 * r.me)) k h2
        rw [decide_eq_true hp]
        unfold raft_Raft_Tick_j2
        rw [if_pos rfl]
        rw [if_neg n1, if_pos ⟨hr, hp⟩] at H
        exact campaign_ok M3 hk fun s h' L' q M sb => H s h' L' (q2.trans q) (M.sub fun g hg => hg.elim (fun h => .inl (.inl h)) .inr) fun g hg => by have := sb g hg; omega
      · show raft_Raft_Tick_j2 _ (decide (r.ticks + 1 ≥ 10 + 7 * r.me)) k h2
        rw [decide_eq_false hp]
        exact j2f n1 fun h => hp h.2
  by_cases hr : r.role = 2
  · rw [if_pos (by simpa using hr)]
    refine ⟨_, M2.c 9, ?_⟩
    show raft_Raft_Tick_g1 _ (Int.tmod (r.ticks + 1) 3 == 0) k h2
    rw [em]
    by_cases h3 : (r.ticks + 1) % 3 = 0
    · rw [show ((r.ticks + 1) % 3 == 0) = true from by simpa using h3]
      unfold raft_Raft_Tick_g1
      rw [if_pos rfl]
      rw [if_pos ⟨hr, h3⟩] at H
      exact others_due_ok M3 (wf.ld hr).1 fun s h' M X sb => H s h' L (q2.ext X) M fun g hg => by have := sb g hg; omega
    · rw [show ((r.ticks + 1) % 3 == 0) = false from by simpa using h3]
      exact g1f fun h => h3 h.2
  · rw [if_neg (by simpa using hr)]
    exact g1f fun h => hr h.1
/-! ### the rest -/
theorem Propose_ok {p1 : Slc} {cmd : List Int} {k : Int × Int → Heap → Prop} (R : RaftAt O h L r) (hk : r.keeps.length < 1000000) (hs : SlcAt h p1 (b8 cmd)) (hl : p1.len = cmd.length) (hB : isB cmd) (hz : cmd.length ≤ 1099511627776)
    (H : ∀ h' L', Res O h L (r.propose cmd).1 h' L' → k (r.propose cmd).2 h') : raft_Raft_Propose (some ⟨L.b, 0, none⟩) p1 k h := by
  unfold raft_Raft_Propose
  rw [if_neg (by simp)]
  refine ⟨_, rfl, _, R.c 7, ?_⟩
  unfold RS.propose at H
  by_cases hr : r.role = 2
  · rw [if_neg (by simpa using hr)] at H
    show raft_Raft_Propose_g1 _ _ (r.role != 2) _ _
    rw [show (r.role != 2) = false from by simpa using hr]
    unfold raft_Raft_Propose_g1
    rw [if_neg (by simp)]
    exact put_ok R (R.wf.ld hr).2 hk hs hl hB hz H
  · rw [if_pos (by simpa using hr)] at H
    show raft_Raft_Propose_g1 _ _ (r.role != 2) _ _
    rw [show (r.role != 2) = true from by simpa using hr]
    unfold raft_Raft_Propose_g1
    rw [if_pos rfl]
    exact H h L (Res.of R (Stp.refl _ _))
theorem Committed_ok {k : Int → Heap → Prop} (R : RaftAt O h L r) (H : k r.commit h) : raft_Raft_Committed (some ⟨L.b, 0, none⟩) k h := by
  unfold raft_Raft_Committed
  rw [if_neg (by simp)]
  exact ⟨_, rfl, _, R.c 6, H⟩
theorem Leads_ok {k : Bool → Heap → Prop} (R : RaftAt O h L r) (H : k (r.role == 2) h) : raft_Raft_Leads (some ⟨L.b, 0, none⟩) k h := by
  unfold raft_Raft_Leads raft_Raft_Leads_g1
  rw [if_pos (by simp)]
  exact ⟨_, rfl, _, R.c 7, H⟩
theorem Leader_ok {k : Int → Heap → Prop} (R : RaftAt O h L r) (H : k r.leader h) : raft_Raft_Leader (some ⟨L.b, 0, none⟩) k h := by
  unfold raft_Raft_Leader
  rw [if_neg (by simp)]
  exact ⟨_, rfl, _, R.c 8, H⟩
theorem Term_get {k : Int → Heap → Prop} (R : RaftAt O h L r) (H : k r.term h) : raft_Raft_Term (some ⟨L.b, 0, none⟩) k h := by
  unfold raft_Raft_Term
  rw [if_neg (by simp)]
  exact ⟨_, rfl, _, R.c 2, H⟩
/-- an entry -/
theorem Entry_ok {p : Int} {k : S_api_Entry × Int → Heap → Prop} (R : RaftAt O h L r) (p0 : 0 ≤ p ∧ p < 18446744073709551616)
    (H : ∀ v h', v.f_Term = (r.entry p).1.1 → Row h.size h' 5 1 v.f_Cmd (b8 (r.entry p).1.2) → Ext h.size h h' → k (v, (r.entry p).2) h') : raft_Raft_Entry (some ⟨L.b, 0, none⟩) p k h := by
  unfold raft_Raft_Entry
  refine ⟨_, _, rfl, rfl, ?_⟩
  have X := Ext.push h (.cells (S_api_Entry.cs ⟨0, ⟨none, 0, 0⟩⟩).toArray 65) (Nat.le_refl _)
  have P0 := Blk.push h (S_api_Entry.cs ⟨0, ⟨none, 0, 0⟩⟩) 65
  have R2 := R.ext X
  generalize h.push (.cells (S_api_Entry.cs ⟨0, ⟨none, 0, 0⟩⟩).toArray 65) = h2 at *
  obtain ⟨b1, eb⟩ : ∃ y, y = h.size := ⟨_, rfl⟩
  rw [← eb] at P0 ⊢
  have z2 := X.size
  have bl := P0.lt
  rw [if_neg (by simp)]
  -- what is told at the end
  have tail : ∀ {h5 : Heap} {v : S_api_Entry} {e : Int} {x : Ent}, r.entry p = (x, e) → Ext h2.size h2 h5 → v.f_Term = x.1 → Row h2.size h5 5 1 v.f_Cmd (b8 x.2) → ∃ h14 : Heap, WrsAt h5 (⟨b1, 0, none⟩ : Addr) 2 ∧ h14 = setsH h5 (⟨b1, 0, none⟩ : Addr) 0 (S_api_Entry.cs v) ∧ (∃ v15 : S_api_Entry, CellsAt h14 (⟨b1, 0, none⟩ : Addr) (S_api_Entry.cs v15) ∧ k (v15, e) h14) := fun {h5 v e x} ee X5 ht hc => by
    rw [ee] at H
    have P5 := P0.ext X5 bl
    refine ⟨_, WrsAt.of_blk P5 (by show 2 ≤ 2; omega), rfl, ?_⟩
    have P6 := P5.sets_all (vs := S_api_Entry.cs v) rfl
    have z5 := X5.size
    have X6 : Ext h.size h5 (setsH h5 ⟨b1, 0, none⟩ 0 (S_api_Entry.cs v)) := Ext.sets _ _ _ (by show h.size ≤ b1; omega)
    have old : ∀ g, g ≠ b1 → (setsH h5 ⟨b1, 0, none⟩ 0 (S_api_Entry.cs v))[g]? = h5[g]? := fun g hg => setsH_other _ _ hg
    generalize setsH h5 ⟨b1, 0, none⟩ 0 (S_api_Entry.cs v) = h6 at *
    exact ⟨v, CellsAt.of_blk P6, H v h6 ht ((hc.keep fun g hg => old g (by have := (hc.bd hg).1; omega)).mono z2) (X.trans ((X5.mono z2).trans X6))⟩
  refine ⟨_, rfl, _, R2.c 4, Term_ok R2.p.l p0.1 p0.2 ?_⟩
  by_cases ht : (r.log.termOf p).2 = 0
  · rw [if_neg (by simpa using ht)]
    refine ⟨_, R2.c 4, From_ok R2.p.l p0.1 p0.2 (by omega) (by omega) fun s h3 vs F3 X3 => ?_⟩
    have ee : r.entry p = if (r.log.frm p 1).2 ≠ 0 then (((0, []), 13) : Ent × Int) else match (r.log.frm p 1).1 with | x :: _ => (x, 0) | [] => ((0, []), 13) := by unfold RS.entry; rw [if_neg (by simpa using ht)]; rfl
    have sl := F3.len
    by_cases hf : (r.log.frm p 1).2 = 0 ∧ (r.log.frm p 1).1 ≠ []
    · have hl : (r.log.frm p 1).1.length ≠ 0 := fun h => hf.2 (List.eq_nil_of_length_eq_zero h)
      rw [if_neg (by simp; exact ⟨hf.1, by omega⟩)]
      obtain ⟨x, rest, ex⟩ : ∃ x rest, (r.log.frm p 1).1 = x :: rest := by
        cases hx : (r.log.frm p 1).1 with
        | nil => exact absurd hx hf.2
        | cons x rest => exact ⟨x, rest, rfl⟩
      have hx0 : (r.log.frm p 1).1[0]? = some x := by rw [ex]; rfl
      have vl := F3.l
      obtain ⟨v, hv⟩ : ∃ v, vs[0]? = some v := ⟨_, List.getElem?_eq_getElem (by rw [vl]; omega)⟩
      obtain ⟨f1, f2⟩ := F3.e 0 v x hv hx0
      obtain ⟨a, u, ha, c1, c2⟩ := F3.ents.get hx0
      have sv : s.len = vs.length := by rw [sl, vl]
      have hL := LsAt.of_slc (w := 2) (fun x => rfl) F3.r.slc sv (by decide)
      obtain ⟨a', ha', C⟩ := hL.at' 0 v hv
      refine ⟨a', ha', by omega, by rw [sl]; omega, v, C, tail (e := 0) ?_ X3 f1 f2⟩
      rw [ee, if_neg (by simpa using hf.1), ex]
    · rw [if_pos (by
        rw [Bool.or_eq_true]
        by_cases h1 : (r.log.frm p 1).2 = 0
        · right
          have h2 : (r.log.frm p 1).1 = [] := Classical.byContradiction fun h => hf ⟨h1, h⟩
          have : (r.log.frm p 1).1.length = 0 := by rw [h2]; rfl
          simp; omega
        · left; simpa using h1)]
      refine tail (e := 13) (x := (0, [])) ?_ X3 rfl (Row.nil _ _ _ _)
      rw [ee]
      by_cases h1 : (r.log.frm p 1).2 = 0
      · have h2 : (r.log.frm p 1).1 = [] := Classical.byContradiction fun h => hf ⟨h1, h⟩
        rw [if_neg (by simpa using h1), h2]
      · rw [if_pos h1]
  · rw [if_pos (by simpa using ht)]
    exact tail (x := (0, [])) (by unfold RS.entry; rw [if_pos ht]) (Ext.refl _ _) rfl (Row.nil _ _ _ _)
end
theorem RaftNew_bad {me n term vote : Int} {p4 : Option Addr} {p5 : Slc} {k : Option Addr → Heap → Prop} {h : Heap} (hb : n < 1 ∨ n > 32 ∨ me < 0 ∨ me ≥ n) (H : k none h) : raft_New me n term vote p4 p5 k h := by
  unfold raft_New
  rw [if_pos (by simp; omega)]
  exact H
theorem RaftNew_ok {me n term vote : Int} {l : Lg} {p4 : Option Addr} {p5 : Slc} {snap : List Int} {k : Option Addr → Heap → Prop} {h : Heap} (n0 : 1 ≤ n ∧ n ≤ 32) (m0 : 0 ≤ me ∧ me < n) (t0 : 0 ≤ term ∧ term < 18446744073709551616) (v0 : -9223372036854775808 ≤ vote ∧ vote < 9223372036854775808)
    (hl : (p4 = none ∧ l = ⟨0, 0, []⟩) ∨ ∃ b s O, p4 = some ⟨b, 0, none⟩ ∧ LogAt O h b s l) (hs : SlcAt h p5 (b8 snap)) (sl : p5.len = snap.length) (hB : isB snap) (hz : snap.length ≤ 1099511627776)
    (H : ∀ L h', (∀ X : BSet, (∀ g, X g → g < h.size) → RaftAt (fun g => X g ∨ own L g) h' L (RS.start me n term vote l snap)) → (∀ g, own L g → h.size ≤ g) → Ext h.size h h' → k (some ⟨L.b, 0, none⟩) h') : raft_New me n term vote p4 p5 k h := by
  unfold raft_New
  rw [if_neg (by simp; omega)]
  have bd : 0 ≤ l.ix ∧ l.ix + l.es.length < 18446744073709551616 ∧ (0 ≤ l.tm ∧ l.tm < 18446744073709551616) ∧ esOk l.es ∧ l.es.length ≤ 1000 := by
    rcases hl with ⟨_, rfl⟩ | ⟨b, s, O, _, A⟩
    · exact ⟨by simp, by simp, by simp, (fun e he => by cases he), by simp⟩
    · exact ⟨A.x0, A.x1, A.t0, A.ok, A.sz⟩
  have base : ∀ {K : Int × Int → Heap → Prop}, K (l.ix, l.tm) h → rlog_Log_Base p4 K h := fun {K} hK => by
    rcases hl with ⟨rfl, rfl⟩ | ⟨b, s, O, rfl, A⟩
    · unfold rlog_Log_Base; rw [if_pos (by simp)]; exact hK
    · exact Base_ok A hK
  refine base (Clone_ok sl hs (by omega) fun s3 h4 R3 X3 => ?_)
  have z3 := X3.size
  refine ⟨_, _, rfl, rfl, ?_⟩
  obtain ⟨S, eS⟩ : ∃ S : S_raft_Raft, S = ⟨me, n, term, vote, none, s3, l.ix, 0, -1, 0, none, ⟨none, 0, 0⟩, ⟨none, 0, 0⟩, ⟨none, 0, 0⟩⟩ := ⟨_, rfl⟩
  show rlog_Log_Entries p4 _ (h4.push (.cells (S_raft_Raft.cs ⟨me, n, term, vote, none, s3, l.ix, 0, -1, 0, none, ⟨none, 0, 0⟩, ⟨none, 0, 0⟩, ⟨none, 0, 0⟩⟩).toArray 94))
  have X5 := Ext.push h4 (.cells (S_raft_Raft.cs ⟨me, n, term, vote, none, s3, l.ix, 0, -1, 0, none, ⟨none, 0, 0⟩, ⟨none, 0, 0⟩, ⟨none, 0, 0⟩⟩).toArray 94) (Nat.le_refl _)
  have K5 := Blk.push h4 (S_raft_Raft.cs ⟨me, n, term, vote, none, s3, l.ix, 0, -1, 0, none, ⟨none, 0, 0⟩, ⟨none, 0, 0⟩, ⟨none, 0, 0⟩⟩) 94
  have R5 := R3.ext X5 fun g hg => (R3.bd hg).2
  generalize h4.push (.cells (S_raft_Raft.cs ⟨me, n, term, vote, none, s3, l.ix, 0, -1, 0, none, ⟨none, 0, 0⟩, ⟨none, 0, 0⟩, ⟨none, 0, 0⟩⟩).toArray 94) = h5 at *
  obtain ⟨b5, eb⟩ : ∃ y, y = h4.size := ⟨_, rfl⟩
  rw [← eb] at K5 ⊢
  have z5 := X5.size
  have X05 : Ext h.size h h5 := X3.trans (X5.mono z3)
  have ents : ∀ {K : Slc → Heap → Prop}, (∀ s' h', EntsAt h' s' l.es → Ext h5.size h5 h' → K s' h') → rlog_Log_Entries p4 K h5 := fun {K} hK => by
    rcases hl with ⟨rfl, rfl⟩ | ⟨b, s, O, rfl, A⟩
    · unfold rlog_Log_Entries; rw [if_pos (by simp)]; exact hK _ _ (EntsAt.nil _) (Ext.refl _ _)
    · exact Entries_ok (A.ext X05) fun s' h' vs F X => hK s' h' F.ents X
  refine ents fun s7 h7 A7 X7 => ?_
  have z7 := X7.size
  refine New_ok A7 bd.2.2.2.1 bd.2.2.2.2 bd.1 bd.2.1 bd.2.2.1 fun lb s9 h9 A9 hlb hs9 X9 => ?_
  have z9 := X9.size
  have bl := K5.lt
  have K9 := (K5.ext X7 K5.lt).ext X9 (by omega)
  have R9 := (R5.ext X7 fun g hg => (R5.bd hg).2).ext X9 fun g hg => by have := (R5.bd hg).2; omega
  obtain ⟨w, f⟩ := K9.put (i := 4) (v := .pointer (some ⟨lb, 0, none⟩)) (by show 4 < 14; omega)
  refine ⟨_, w, rfl, ?_⟩
  obtain ⟨K10, U10⟩ := f _ rfl
  have S10 : Stp (fun g => g = b5) h9 (setH h9 ((⟨b5, 0, none⟩ : Addr).add 4) (.pointer (some ⟨lb, 0, none⟩))) := .of_upd U10 (.inl rfl)
  have X10 : Ext h.size h9 (setH h9 ((⟨b5, 0, none⟩ : Addr).add 4) (.pointer (some ⟨lb, 0, none⟩))) := ⟨U10.size, fun i hi => U10.block i (by omega) (by omega)⟩
  generalize setH h9 ((⟨b5, 0, none⟩ : Addr).add 4) (.pointer (some ⟨lb, 0, none⟩)) = h10 at *
  have ow : ∀ g, own ⟨b5, lb, s9, s3, ⟨none, 0, 0⟩, ⟨none, 0, 0⟩, ⟨none, 0, 0⟩, none⟩ g → g = b5 ∨ g = lb ∨ s9.blk = some g := fun g hg => by
    rcases hg with hg | hg | hg | hg | hg | hg | hg
    · exact .inl hg
    · exact .inr (.inl hg)
    · exact .inr (.inr hg)
    · simp [Slc.blk] at hg
    · simp [Slc.blk] at hg
    · simp [Slc.blk] at hg
    · cases hg
  refine H ⟨b5, lb, s9, s3, ⟨none, 0, 0⟩, ⟨none, 0, 0⟩, ⟨none, 0, 0⟩, none⟩ h10 (fun X hX => ?_) (fun g hg => ?_) (X05.trans ((X7.mono (by omega)).trans ((X9.mono (by omega)).trans X10)))
  · have A' := A9 (fun g => X g ∨ g = b5) (fun g hg => by rcases hg with hg | hg; (have := hX g hg; omega); omega)
    obtain ⟨vs, Re, _⟩ := A'.r
    have R10 := S10.row R9 fun g hg e => by subst e; exact R9.ne_blk K9 (by decide) hg
    refine ⟨K10, ⟨?_, fun h' p => ?_, by simpa using R10.len.trans (by simp [RS.start]), Row.nil _ _ _ _, Row.nil _ _ _ _, (fun g hg => by simp [Slc.blk] at hg), ⟨[], Row.nil _ _ _ _, fun h' _ => ⟨rfl, by simp⟩⟩, trivial⟩, fun g hg => .inr hg, fun g hg => ?_, ?_⟩
    · exact (A'.sub (O' := fun g => X g ∨ own ⟨b5, lb, s9, s3, ⟨none, 0, 0⟩, ⟨none, 0, 0⟩, ⟨none, 0, 0⟩, none⟩ g) (fun g hg => .inl (hg.elim (fun h => .inl (.inl h)) fun h => (ow g h).elim (fun h => .inl (.inr h)) .inr)) (.inr (.inr (.inl rfl))) fun g hg => .inr (.inr (.inr (.inl hg)))).stp S10 (fun g hg => .inl (.inr (.inl hg))) (by omega) fun g hg e => by have := hs9 g hg; omega
    · refine (p.row R10 fun g hg h3 => ?_).slc
      have h4 := (R10.bd hg).1
      rcases h3 with h3 | h3
      · have := hX g h3; omega
      · rcases ow g h3 with h3 | h3 | h3
        · subst h3; exact R10.ne_blk K10 (by decide) hg
        · have := (R5.bd hg).2; omega
        · have := (R5.bd hg).2; have := hs9 g h3; omega
    · rcases hg with hg | hg
      · have := hX g hg; have := U10.size; omega
      · have := U10.size
        rcases ow g hg with h3 | h3 | h3
        · omega
        · have := A'.k.lt; omega
        · have := (Re.bd h3).2; omega
    · exact ⟨n0, m0, t0, v0, ⟨bd.1, by have := bd.2.1; show l.ix < _; omega⟩, ⟨Int.le_refl _, by show (0 : Int) ≤ 1000000000; omega⟩, (fun e => by cases e), (fun x hx => by cases hx), (fun x hx => by cases hx), (fun l e => by cases e), ⟨hB, hz⟩, by show 0 ≤ 1000000; omega⟩
  · rcases ow g hg with h3 | h3 | h3
    · omega
    · omega
    · have := hs9 g h3; omega
end Go.Q.Yh
set_option linter.unusedVariables false
set_option linter.unusedSimpArgs false
set_option maxRecDepth 100000
/- The document's example: a node alone. -/
namespace Go.Q.Yh
open Rf
def tickN : Nat → RS
  | 0 => RS.start 0 1 0 0 ⟨0, 0, []⟩ []
  | n + 1 => (tickN n).tick.1
def aloneR : RS := ((tickN 10).propose [120]).1
theorem tickN_facts : (List.range 10).all (fun n => (tickN n).role != 2 && (tickN n).role != 1 && decide ((tickN n).keeps.length < 100) && decide ((tickN n).ticks < 1000)) = true := by decide +kernel
theorem tickN_ten : (tickN 10).role = 2 ∧ (tickN 10).keeps.length < 100 ∧ ((tickN 10).propose [120]).2 = (2, 0) ∧ aloneR.entry 2 = ((1, [120]), 0) ∧ aloneR.role = 2 ∧ aloneR.leader = 0 ∧ aloneR.commit = 2 ∧ aloneR.term = 1 := by decide +kernel
theorem Res.ge {O : BSet} {h0 h h' : Heap} {L L' : RLy} {r r' : RS} (q : Res O h L r' h' L') (R : RaftAt O h L r) (hO : ∀ g, O g → h0.size ≤ g) (hz : h0.size ≤ h.size) : ∀ g, G O L' g → h0.size ≤ g := fun g hg => hg.elim (hO g) fun h1 => (q.F g h1).elim (fun h2 => hO g (R.ow g h2)) fun h2 => by omega
theorem Res.X {O : BSet} {h0 h h' : Heap} {L L' : RLy} {r r' : RS} (q : Res O h L r' h' L') (R : RaftAt O h L r) (hO : ∀ g, O g → h0.size ≤ g) (hz : h0.size ≤ h.size) : Ext h0.size h h' := q.S.ext (fun g hg => hO g (R.ow g hg)) hz
theorem alone_ok {k : Option Addr → Heap → Prop} {h : Heap} (H : ∀ O L h', RaftAt O h' L (tickN 10) → (∀ g, O g → h.size ≤ g) → Ext h.size h h' → k (some ⟨L.b, 0, none⟩) h') : law26_alone k h := by
  unfold law26_alone
  refine RaftNew_ok (l := ⟨0, 0, []⟩) (snap := []) (by omega) (by omega) (by omega) (by omega) (.inl ⟨rfl, rfl⟩) (slc_nil h) rfl isB_nil (by simp) fun L0 h1 M1 o1 X1 => ?_
  have M1 := M1 (fun _ => False) fun _ h => h.elim
  unfold law26_alone_l1
  refine ⟨fun i h' => ∃ n : Nat, i = n ∧ n ≤ 10 ∧ ∃ O L, L.b = L0.b ∧ RaftAt O h' L (tickN n) ∧ (∀ g, O g → h.size ≤ g) ∧ Ext h.size h h', fun i _ => (20 - i).toNat, ⟨0, rfl, by omega, _, L0, rfl, M1, fun g hg => hg.elim (fun h => h.elim) (o1 g), X1⟩, ?_⟩
  rintro i h2 ⟨n, rfl, hn, O, L, eb, M, oO, X⟩
  have z := X.size
  unfold law26_alone_l1b
  rw [if_pos (by simp; omega), ← eb]
  refine Leads_ok M ?_
  by_cases h10 : n = 10
  · subst h10
    rw [tickN_ten.1]
    show law26_alone_g2 _ _ false _ _ _
    unfold law26_alone_g2
    rw [if_neg (by simp)]
    exact H O L h2 M oO X
  · have f := List.all_eq_true.1 tickN_facts n (by simp; omega)
    simp only [Bool.and_eq_true, bne_iff_ne, ne_eq, decide_eq_true_eq] at f
    obtain ⟨⟨⟨f1, f2⟩, f3⟩, f4⟩ := f
    show law26_alone_g2 _ _ (!((tickN n).role == 2)) _ _ _
    rw [show (!((tickN n).role == 2)) = true from by simpa using f1]
    unfold law26_alone_g2
    rw [if_pos rfl]
    refine Tick_ok M (by omega) (by omega) fun s h3 L3 q Ml sb => ?_
    rw [wrapI64 (by omega) (by omega)]
    have z3 := q.S.size
    exact ⟨_, rfl, ⟨n + 1, by omega, by omega, _, L3, q.b, q.R, q.ge M oO z, X.trans (q.X M oO z)⟩, by dsimp only; omega⟩
theorem awake26_ok {k : Bool → Heap → Prop} {h : Heap} (H : ∀ h', Ext h.size h h' → k true h') : law26_awake k h := by
  obtain ⟨f1, f2, f3, f4, f5, f6, f7, f8⟩ := tickN_ten
  unfold law26_awake
  refine alone_ok fun O L h2 M oO X => ?_
  have z2 := X.size
  refine ⟨_, _, rfl, rfl, _, rfl, ?_⟩
  have X3 := Ext.push h2 (.cells ([.int .u8 120] : List Value).toArray 5 (1, 2)) (Nat.le_refl _)
  have B3 := Blk.pushM h2 [.int .u8 120] 5 (lo := 1) (hi := 2) (Nat.le_refl _)
  have M3 := M.ext X3
  generalize h2.push (.cells ([.int .u8 120] : List Value).toArray 5 (1, 2)) = h3 at *
  have z3 := X3.size
  refine Propose_ok (cmd := [120]) M3 (by omega) (B3.slc (o := 0) (n := 1) rfl) rfl (fun b hb => by simp at hb; omega) (by simp) fun h4 L4 q4 => ?_
  have M4 := q4.R
  change RaftAt (G O L4) h4 L4 aloneR at M4
  rw [f3]
  have o4 := q4.ge M3 oO (by omega)
  have X4 := q4.X M3 oO (by omega)
  have z4 := X4.size
  rw [← q4.b]
  refine Entry_ok (p := 2) M4 (by omega) fun v h5 v1 v2 X5 => ?_
  rw [f4] at v1 v2 ⊢
  have M5 := M4.ext X5
  have z5 := X5.size
  refine ⟨_, _, rfl, rfl, ?_⟩
  have P0 := Blk.push h5 (S_api_Entry.cs ⟨0, ⟨none, 0, 0⟩⟩) 65
  have P1 := P0.sets_all (vs := S_api_Entry.cs v) rfl
  have X6 : Ext h5.size h5 (setsH (h5.push (.cells (S_api_Entry.cs ⟨0, ⟨none, 0, 0⟩⟩).toArray 65)) ⟨h5.size, 0, none⟩ 0 (S_api_Entry.cs v)) := (Ext.push h5 _ (Nat.le_refl _)).trans (Ext.sets _ _ _ (Nat.le_refl _))
  refine ⟨_, WrsAt.of_blk P0 (by show 2 ≤ 2; omega), rfl, ?_⟩
  generalize setsH (h5.push (.cells (S_api_Entry.cs ⟨0, ⟨none, 0, 0⟩⟩).toArray 65)) ⟨h5.size, 0, none⟩ 0 (S_api_Entry.cs v) = h6 at *
  have M6 := M5.ext X6
  have R6 := v2.ext X6 fun g hg => (v2.bd hg).2
  have z6 := X6.size
  refine Leads_ok M6 ?_
  rw [f5, if_pos (by simp)]
  refine Leader_ok M6 ?_
  rw [f6]
  unfold law26_awake_g1
  rw [if_pos (by simp)]
  refine Committed_ok M6 ?_
  rw [f7]
  unfold law26_awake_g2
  rw [if_pos (by simp)]
  refine ⟨v.f_Cmd, by rw [P1.get]; rfl, [120], by have := R6.len; simp at this; simp; omega, R6.slc, ?_⟩
  unfold law26_awake_g3
  rw [if_pos (by decide +kernel)]
  refine Term_get M6 ?_
  rw [f8]
  unfold law26_awake_g4
  exact H h6 (X.trans ((X3.mono z2).trans (X4.trans ((X5.mono (by omega)).trans (X6.mono (by omega))))))
end Go.Q.Yh
set_option linter.unusedVariables false
set_option linter.unusedSimpArgs false
set_option maxRecDepth 100000
/- A member: ticks, votes, snapshots. -/
namespace Go.Q.Yh
open Rf
section
variable {O O' : BSet} {h h' : Heap} {L : RLy} {r : RS}
theorem answer_ok {to kind index : Int} {yes : Bool} {k : Slc → Heap → Prop} (R : RaftAt O h L r) (H : ∀ s h', MailsI O h' s (r.answer to kind yes index) → Ext h.size h h' → (∀ g, s.blk = some g → h.size ≤ g) → k s h') : raft_Raft_answer (some ⟨L.b, 0, none⟩) to kind yes index k h := by
  unfold raft_Raft_answer
  refine ⟨_, rfl, _, R.c 2, _, _, rfl, rfl, ?_⟩
  exact H _ _ (one_mail (x := ⟨kind, r.term, index, 0, 0, yes, [], []⟩) (plainI ⟨rfl, rfl, rfl, rfl, rfl, rfl⟩ rfl rfl rfl rfl) R.ob) (Ext.push h _ (Nat.le_refl _)) fun g hg => by simp [Slc.blk] at hg; omega
/-- a wish for a vote -/
theorem voted_ok {from' : Int} {v : S_api_Msg} {m : Msg} {k : Slc → Heap → Prop} (R : RaftAt O h L r) (hk : r.keeps.length < 999990) (V : v.f_Kind = m.kind ∧ v.f_Term = m.term ∧ v.f_Index = m.index ∧ v.f_LogTerm = m.logTerm ∧ v.f_Commit = m.commit ∧ v.f_Yes = m.yes) (f0 : 0 ≤ from') (f1 : from' < r.n)
    (H : ∀ s h' L', Res O h L (r.voted from' m).1 h' L' → MailsI (G O L') h' s (r.voted from' m).2 → (∀ g, s.blk = some g → h.size ≤ g) → k s h') : raft_Raft_voted (some ⟨L.b, 0, none⟩) from' v k h := by
  have wf := R.wf
  have nb := wf.n
  unfold raft_Raft_voted
  refine ⟨_, _, rfl, rfl, ?_⟩
  have X := Ext.push h (.cells (S_api_Msg.cs v).toArray 26) (Nat.le_refl _)
  have C := Blk.push h (S_api_Msg.cs v) 26
  have R2 := R.ext X
  generalize h.push (.cells (S_api_Msg.cs v).toArray 26) = h2 at *
  have z2 := X.size
  have q2 : Res O h L r h2 L := Res.of R2 (.of_ext X)
  have c2 : cellH h2 ((⟨h.size, 0, none⟩ : Addr).add 2) = some (.int .u64 m.index) := by rw [C.get, ← V.2.2.1]; rfl
  have c3 : cellH h2 ((⟨h.size, 0, none⟩ : Addr).add 3) = some (.int .u64 m.logTerm) := by rw [C.get, ← V.2.2.2.1]; rfl
  rw [wrapI64 (x := from' + 1) (by omega) (by omega)]
  have no : r.votes from' m = false → raft_Raft_voted_j1 (some ⟨L.b, 0, none⟩) from' false k h2 := fun hv => by
    unfold raft_Raft_voted_j1 raft_Raft_voted_j2
    rw [if_neg (by simp)]
    unfold RS.voted at H
    rw [if_neg (by simp [hv])] at H
    exact answer_ok q2.R fun s h' M X' sb => H s h' L (q2.ext X') M fun g hg => by have := sb g hg; omega
  have ends : ∀ {h5 : Heap} {L5 : RLy} {r5 : RS}, Res O h L r5 h5 L5 → r.voted from' m = ({ r5 with ticks := 0 }, r.answer from' 2 true 0) → r5.term = r.term → raft_Raft_voted_j3 (some ⟨L.b, 0, none⟩) from' true k h5 := fun {h5 L5 r5} q ev et => by
    have M5 := q.R
    have w5 := M5.wf
    rw [← q.b]
    unfold raft_Raft_voted_j3
    obtain ⟨w, f⟩ := M5.k.put (i := 9) (v := .int .i64 0) (by show 9 < 14; omega)
    refine ⟨_, rfl, _, w, rfl, ?_⟩
    obtain ⟨K6, U6⟩ := f _ rfl
    generalize setH h5 ((⟨L5.b, 0, none⟩ : Addr).add 9) (.int .i64 0) = h6 at *
    have M6 : RaftAt (G O L5) h6 L5 { r5 with ticks := 0 } := M5.poke K6 U6 ⟨w5.n, w5.me, w5.tm, w5.vt, w5.cm, ⟨Int.le_refl _, by show (0 : Int) ≤ 1000000000; omega⟩, w5.ld, w5.nx, w5.hs, w5.bl, w5.sn, w5.kp⟩ ⟨rfl, rfl, rfl, rfl, rfl, rfl, rfl⟩
    have q6 := q.trans (Res.of M6 (.of_upd U6 (.inl (.inl rfl))))
    have z6 := q6.S.size
    unfold raft_Raft_voted_j2
    refine answer_ok q6.R fun s h' M X' sb => H s h' L5 (by rw [ev]; exact q6.ext X') ?_ fun g hg => by have := sb g hg; omega
    rw [ev]
    unfold RS.answer at M ⊢
    dsimp only at M
    rw [et] at M
    exact M
  have yes : r.votes from' m = true → raft_Raft_voted_j1 (some ⟨L.b, 0, none⟩) from' true k h2 := fun hv => by
    unfold raft_Raft_voted_j1
    rw [if_pos rfl]
    refine ⟨_, rfl, _, R2.c 3, ?_⟩
    show if (r.vote == 0) = true then _ else _
    by_cases h0 : r.vote = 0
    · rw [if_pos (by simpa using h0)]
      rw [wrapI64 (x := from' + 1) (by omega) (by omega)]
      obtain ⟨w, f⟩ := R2.k.put (i := 3) (v := .int .i64 (from' + 1)) (by show 3 < 14; omega)
      refine ⟨_, w, rfl, ?_⟩
      obtain ⟨K3, U3⟩ := f _ rfl
      generalize setH h2 ((⟨L.b, 0, none⟩ : Addr).add 3) (.int .i64 (from' + 1)) = h3 at *
      have M3 : RaftAt O h3 L { r with vote := from' + 1 } := R2.poke K3 U3 ⟨wf.n, wf.me, wf.tm, by show _ ≤ from' + 1 ∧ from' + 1 < _; omega, wf.cm, wf.tk, wf.ld, wf.nx, wf.hs, wf.bl, wf.sn, wf.kp⟩ ⟨rfl, rfl, rfl, rfl, rfl, rfl, rfl⟩
      have q3 : Res O h L { r with vote := from' + 1 } h3 L := q2.trans (Res.of (M3.g) (.of_upd U3 (.inl (.inl rfl))))
      refine keepTerm_ok q3.R (by show r.keeps.length < _; omega) fun h' L' q => ends (q3.trans q) ?_ rfl
      unfold RS.voted
      rw [if_pos hv, if_pos h0]
    · rw [if_neg (by simpa using h0)]
      refine ends q2 ?_ rfl
      unfold RS.voted
      rw [if_pos hv, if_neg h0]
  have any : ∀ b : Bool, r.votes from' m = b → raft_Raft_voted_j1 (some ⟨L.b, 0, none⟩) from' b k h2 := fun b hb => by
    cases b with
    | true => exact yes hb
    | false => exact no hb
  refine ⟨_, rfl, _, R2.c 3, ?_⟩
  show if (r.vote == 0) = true then _ else _
  by_cases h0 : r.vote = 0
  · rw [if_pos (by simpa using h0), if_pos rfl]
    refine ⟨_, R2.c 4, _, c2, _, c3, Newer_ok R2.p.l (any _ ?_)⟩
    unfold RS.votes; rw [show (r.vote == 0) = true from by simpa using h0]; simp
  · rw [if_neg (by simpa using h0)]
    refine ⟨_, R2.c 3, ?_⟩
    show if (r.vote == from' + 1) = true then _ else _
    by_cases h1 : r.vote = from' + 1
    · rw [if_pos (by simpa using h1)]
      refine ⟨_, R2.c 4, _, c2, _, c3, Newer_ok R2.p.l (any _ ?_)⟩
      unfold RS.votes; rw [show (r.vote == from' + 1) = true from by simpa using h1]; simp
    · rw [if_neg (by simpa using h1)]
      refine no ?_
      unfold RS.votes
      rw [show (r.vote == 0) = false from by simpa using h0, show (r.vote == from' + 1) = false from by simpa using h1]; rfl
/-- an answer to what is late -/
theorem late_ok {from' : Int} {v : S_api_Msg} {m : Msg} {k : Slc → Heap → Prop} (R : RaftAt O h L r) (V : v.f_Kind = m.kind)
    (H : ∀ s h', MailsI O h' s (r.late from' m) → Ext h.size h h' → (∀ g, s.blk = some g → h.size ≤ g) → k s h') : raft_Raft_late (some ⟨L.b, 0, none⟩) from' v k h := by
  unfold raft_Raft_late
  refine ⟨_, _, rfl, rfl, ?_⟩
  have X := Ext.push h (.cells (S_api_Msg.cs v).toArray 26) (Nat.le_refl _)
  have C := Blk.push h (S_api_Msg.cs v) 26
  have R2 := R.ext X
  generalize h.push (.cells (S_api_Msg.cs v).toArray 26) = h2 at *
  have z2 := X.size
  refine ⟨m.kind, by rw [C.cell, ← V]; rfl, ?_⟩
  unfold RS.late at H
  have j1 : ∀ b : Bool, m.kind ≠ 1 → (b = true ↔ m.kind = 3 ∨ m.kind = 5) → raft_Raft_late_j1 (some ⟨L.b, 0, none⟩) from' b k h2 := fun b h1 hb => by
    unfold raft_Raft_late_j1
    rw [if_neg h1] at H
    cases b with
    | true =>
      rw [if_pos rfl]
      rw [if_pos (hb.1 rfl)] at H
      exact answer_ok R2 fun s h' M X' sb => H s h' M (X.trans (X'.mono z2)) fun g hg => by have := sb g hg; omega
    | false =>
      rw [if_neg (by simp)]
      rw [if_neg fun h => by have := hb.2 h; cases this] at H
      exact H _ h2 (MailsI.nil _ _) X fun g hg => by simp [Slc.blk] at hg
  by_cases h1 : m.kind = 1
  · rw [if_pos (by simpa using h1)]
    rw [if_pos h1] at H
    exact answer_ok R2 fun s h' M X' sb => H s h' M (X.trans (X'.mono z2)) fun g hg => by have := sb g hg; omega
  · rw [if_neg (by simpa using h1)]
    by_cases h3 : m.kind = 3
    · rw [if_pos (by simpa using h3)]
      exact j1 _ h1 (by simp [h3])
    · rw [if_neg (by simpa using h3)]
      exact j1 _ h1 (by simp [h3])
theorem own_lb {b : Nat} {s : Slc} {g : Nat} (hg : own { L with lb := b, es := s } g) : own L g ∨ g = b ∨ s.blk = some g := by
  rcases hg with hg | hg | hg | hg | hg | hg | hg
  · exact .inl (.inl hg)
  · exact .inr (.inl hg)
  · exact .inr (.inr hg)
  · exact .inl (.inr (.inr (.inr (.inl hg))))
  · exact .inl (.inr (.inr (.inr (.inr (.inl hg)))))
  · exact .inl (.inr (.inr (.inr (.inr (.inr (.inl hg))))))
  · exact .inl (.inr (.inr (.inr (.inr (.inr (.inr hg))))))
/-- another log is put in place -/
theorem newlog {b : Nat} {s : Slc} {l : Lg} {h1 h2 : Heap} (R : RaftAt O h L r) (X : Ext h.size h h1) (A : LogAt (fun g => O g ∨ g = b ∨ s.blk = some g) h1 b s l) (hb : h.size ≤ b) (hs : ∀ g, s.blk = some g → h.size ≤ g) (K : Blk h2 L.b (rcs { L with lb := b, es := s } { r with log := l }) 94) (U : Upd L.b h1 h2) :
    Res O h L { r with log := l } h2 { L with lb := b, es := s } := by
  have wf := R.wf
  have z1 := X.size
  have z2 := U.size
  have P := R.p
  have ow : ∀ g, own { L with lb := b, es := s } g → own L g ∨ h.size ≤ g := fun g hg => (own_lb hg).imp id fun h3 => h3.elim (fun e => by omega) (hs g)
  have hO : ∀ g, G O { L with lb := b, es := s } g → O g ∨ h.size ≤ g := fun g hg => hg.elim .inl fun h1 => (ow g h1).imp (R.ow g) id
  have K1 := R.k.ext X R.k.lt
  have S : Stp (fun g => g = L.b) h1 h2 := .of_upd U (.inl rfl)
  have S0 : Stp (own L) h h2 := (Stp.of_ext (O := own L) X).trans' (S.mono fun g hg => .inl (.inl hg))
  have SO : Stp O h h2 := S0.mono fun g hg => .inl (R.ow g hg)
  have bl := R.k.lt
  obtain ⟨ks, Kk, Ik⟩ := P.kp
  obtain ⟨vs, Re, _⟩ := A.r
  have nR : ∀ {B E w : Nat} {s : Slc} {xs : List Value}, Row B h E w s xs → E ≠ 94 → Row B h2 E w s xs := fun Rw hE => S.row (Rw.ext X fun g hg => (Rw.bd hg).2) fun g hg e => by subst e; exact Rw.ne_blk R.k hE hg
  refine ⟨⟨K, ⟨?_, P.sn.step SO hO, P.sl, nR P.nx (by decide), nR P.hs (by decide), P.dj, ⟨ks, nR Kk (by decide), Ik.step SO hO⟩, P.bl.old fun g hg => ?_⟩, fun g hg => .inr hg, fun g hg => ?_, ⟨wf.n, wf.me, wf.tm, wf.vt, wf.cm, wf.tk, wf.ld, wf.nx, wf.hs, wf.bl, wf.sn, wf.kp⟩⟩, S0, ow, rfl⟩
  · exact (A.sub (O' := G O { L with lb := b, es := s }) (fun g hg => by
      rcases hg with hg | hg
      · exact .inl (.inl hg)
      · rcases own_lb hg with h3 | h3 | h3
        · exact .inl (.inl (R.ow g h3))
        · exact .inl (.inr (.inl h3))
        · exact .inl (.inr (.inr h3))) (.inr (.inr (.inl rfl))) fun g hg => .inr (.inr (.inr (.inl hg)))).stp S (fun g hg => .inl (.inl (by rw [hg]; exact R.Ob))) (by omega) fun g hg e => by have := hs g hg; omega
  · obtain ⟨cs, Kb⟩ := P.bl.blk g hg
    have hlt := P.bl.lt g hg
    rw [U.block g (by omega) fun e => by subst e; have := (Kb.inj R.k).2; revert this; decide, X.block g hlt]
  · rcases hg with hg | hg
    · have := R.ob g hg; omega
    · rcases own_lb hg with h3 | h3 | h3
      · have := R.ob' h3; omega
      · have := A.k.lt; omega
      · have := (Re.bd h3).2; omega
/-- the snapshot is put in place, and to be kept -/
theorem base_j1_ok {index term : Int} {p3 : Slc} {snap : List Int} {k : Unit → Heap → Prop} (R : RaftAt O h L r) (hk : r.keeps.length < 1000000) (I : Imm O h fun h => SlcAt h p3 (b8 snap)) (hl : p3.len = snap.length) (hB : isB snap) (hz : snap.length ≤ 1099511627776)
    (H : ∀ h' L', Res O h L { r with snap := snap, keeps := r.keeps ++ [⟨3, term, 0, index, [], snap⟩] } h' L' → k () h') : raft_Raft_base_j1 (some ⟨L.b, 0, none⟩) index term p3 k h := by
  have wf := R.wf
  have ob := R.ob
  unfold raft_Raft_base_j1
  refine Clone_ok hl I.now (by omega) fun s1 h1 R1 X1 => ?_
  have M1 := R.ext X1
  have z1 := X1.size
  obtain ⟨w, f⟩ := M1.k.put (i := 5) (v := Slc.v s1) (by show 5 < 14; omega)
  refine ⟨_, rfl, _, w, rfl, ?_⟩
  obtain ⟨K2, U2⟩ := f _ rfl
  generalize setH h1 ((⟨L.b, 0, none⟩ : Addr).add 5) (Slc.v s1) = h2 at *
  have S2 : Stp (fun g => g = L.b) h1 h2 := .of_upd U2 (.inl rfl)
  have P2 := M1.p.upd M1.k U2 R.Ob (by decide)
  have bl := R.k.lt
  have R2 := S2.row R1 fun g hg e => by have := (R1.bd hg).1; omega
  have M2 : RaftAt O h2 { L with snap := s1 } { r with snap := snap } := ⟨K2, ⟨P2.l, SlcAt.imm_row R2 fun g hg h3 => by have := (R2.bd hg).1; have := ob g h3; omega, by simpa using R2.len, P2.nx, P2.hs, P2.dj, P2.kp, P2.bl⟩, R.ow, fun g hg => Nat.lt_of_lt_of_le (M1.ob g hg) U2.size, ⟨wf.n, wf.me, wf.tm, wf.vt, wf.cm, wf.tk, wf.ld, wf.nx, wf.hs, wf.bl, ⟨hB, hz⟩, wf.kp⟩⟩
  have q2 : Res O h L { r with snap := snap } h2 { L with snap := s1 } := ⟨M2.g, (Stp.of_ext (O := own L) X1).trans' (S2.mono fun g hg => .inl (.inl hg)), fun g hg => .inl hg, rfl⟩
  have I2 : Imm O h2 fun h => SlcAt h p3 (b8 snap) := (I.ext X1).stp (S2.mono fun g hg => .inl (by rw [hg]; exact R.Ob))
  refine ⟨_, M2.c 13, Clone_ok hl I2.now (by omega) fun s3 h3 R3 X3 => ?_⟩
  have M3 := M2.ext X3
  refine ⟨M3.c 13, _, _, rfl, rfl, ?_⟩
  have X4 := Ext.push h3 (.cells (S_api_Keep.cs ⟨3, term, 0, index, ⟨none, 0, 0⟩, s3⟩).toArray 107) (Nat.le_refl _)
  have q4 := (q2.ext X3).ext X4
  have R4 := R3.ext X4 fun g hg => (R3.bd hg).2
  generalize h3.push (.cells (S_api_Keep.cs ⟨3, term, 0, index, ⟨none, 0, 0⟩, s3⟩).toArray 107) = h4 at *
  have M4 := q4.R
  have z2 := q2.S.size
  refine ⟨M4.c 13, push_keep (L := { L with snap := s1 }) (x := ⟨3, term, 0, index, [], snap⟩) M4 hk (fun h' p => ?_) fun h5 L5 q5 => H h5 L5 (q4.trans q5)⟩
  have R5 := p.row R4 fun g hg h6 => by
    have h7 := (R4.bd hg).1
    have : O g := h6.elim id fun h8 => R.ow g h8
    have := ob g this
    have := U2.size
    omega
  exact ⟨⟨rfl, rfl, rfl, rfl⟩, EntsAt.nil h', R5.slc, by simpa using R5.len⟩
theorem base_ok {index term : Int} {p3 : Slc} {snap : List Int} {k : Unit → Heap → Prop} (R : RaftAt O h L r) (hk : r.keeps.length < 1000000) (I : Imm O h fun h => SlcAt h p3 (b8 snap)) (hl : p3.len = snap.length) (hB : isB snap) (hz : snap.length ≤ 1099511627776)
    (i0 : 0 ≤ index ∧ index < 18446744073709551616) (t0 : 0 ≤ term ∧ term < 18446744073709551616) (H : ∀ h' L', Res O h L (r.base index term snap) h' L' → k () h') : raft_Raft_base (some ⟨L.b, 0, none⟩) index term p3 k h := by
  unfold raft_Raft_base
  refine ⟨_, rfl, _, R.c 4, Match_ok R.p.l i0.1 i0.2 ?_⟩
  unfold RS.base at H
  cases hm : r.log.mat index term with
  | true =>
    rw [if_pos rfl]
    rw [hm, if_pos rfl] at H
    refine ⟨_, R.c 4, Cut_ok R.p.l R.ob i0.1 i0.2 fun h1 s1 A1 S1 f1 => ?_⟩
    have q1 := relog R A1 (S1.mono fun g hg => .inl (.inl hg)) f1
    exact base_j1_ok (L := { L with es := s1 }) (r := { r with log := (r.log.cut index).1 }) q1.R hk (q1.imm R I) hl hB hz fun h' L' q => H h' L' (q1.trans q)
  | false =>
    rw [if_neg (by simp)]
    rw [hm, if_neg (by simp)] at H
    refine New_ok (es := []) (EntsAt.nil h) (fun e he => by cases he) (by simp) i0.1 (by simpa using i0.2) t0 fun b s h1 A hb hs X1 => ?_
    have K1 := R.k.ext X1 R.k.lt
    obtain ⟨w, f⟩ := K1.put (i := 4) (v := .pointer (some ⟨b, 0, none⟩)) (by show 4 < 14; omega)
    refine ⟨_, w, rfl, ?_⟩
    obtain ⟨K2, U2⟩ := f _ rfl
    generalize setH h1 ((⟨L.b, 0, none⟩ : Addr).add 4) (.pointer (some ⟨b, 0, none⟩)) = h2 at *
    have q1 := newlog R X1 (A O R.ob) hb hs K2 U2
    exact base_j1_ok (L := { L with lb := b, es := s }) (r := { r with log := ⟨index, term, []⟩ }) q1.R hk (q1.imm R I) hl hB hz fun h' L' q => H h' L' (q1.trans q)
end
end Go.Q.Yh
set_option linter.unusedVariables false
set_option linter.unusedSimpArgs false
set_option maxRecDepth 100000
/- A member takes entries. -/
namespace Go.Q.Yh
open Rf
structure WFm (m : Msg) : Prop where
  t : 0 ≤ m.term ∧ m.term < 18446744073709551616
  i : 0 ≤ m.index ∧ m.index < 18446744073709551616
  l : 0 ≤ m.logTerm ∧ m.logTerm < 18446744073709551616
  c : 0 ≤ m.commit ∧ m.commit < 18446744073709551616
  e : esOk m.ents
  z : m.ents.length ≤ 1000
  s : isB m.snap ∧ m.snap.length ≤ 1099511627776
def FreshI (O : BSet) (h : Heap) (v : S_api_Keep) (x : Keep) : Prop := ∀ S : BSet, (∀ g, S g → O g ∨ ∃ cs E, Blk h g cs E ∧ E ≠ 65 ∧ E ≠ 5) → Imm S h fun h => KeepV h v x
section
variable {O O' : BSet} {h h' : Heap} {L : RLy} {r : RS}
theorem freshAt_step (r : RS) (m : Msg) {i : Nat} {x : Ent} (hx : m.ents[i]? = some x) : r.freshAt m i (m.ents.drop i) = if W (m.index + i + 1) ≤ r.log.ix ∨ r.log.mat (W (m.index + i + 1)) x.1 = true then r.freshAt m (i + 1) (m.ents.drop (i + 1))
    else ⟨2, (if i > 0 ∧ W (W (m.index + i + 1) - 1) > r.log.ix then (m.ents.getD (i - 1) (0, [])).1 else (r.log.termOf (W (W (m.index + i + 1) - 1))).1), 0, W (W (m.index + i + 1) - 1), m.ents.drop i, []⟩ := by
  have hi := (List.getElem?_eq_some_iff.1 hx).1
  have e : m.ents.drop i = x :: m.ents.drop (i + 1) := by
    rw [List.drop_eq_getElem_cons hi]
    rw [List.getElem?_eq_getElem hi] at hx
    cases hx; rfl
  rw [e]
  rfl
theorem wrap_at {p i : Int} : IntKind.u64.wrap (IntKind.u64.wrap (p + i) + 1) = W (p + i + 1) := by
  unfold W IntKind.wrap
  simp [IntKind.signed, IntKind.bits]
theorem fresh_ok {v : S_api_Msg} {m : Msg} {k : S_api_Keep → Heap → Prop} (R : RaftAt O h L r) (MV : MsgV h v m) (wm : WFm m)
    (H : ∀ v' h', FreshI O h' v' (r.fresh m) → Ext h.size h h' → k v' h') : raft_Raft_fresh (some ⟨L.b, 0, none⟩) v k h := by
  unfold raft_Raft_fresh
  refine ⟨_, _, rfl, rfl, ?_⟩
  have X1 := Ext.push h (.cells (S_api_Msg.cs v).toArray 26) (Nat.le_refl _)
  have C1 := Blk.push h (S_api_Msg.cs v) 26
  generalize h.push (.cells (S_api_Msg.cs v).toArray 26) = h1 at *
  have z1 := X1.size
  refine ⟨_, _, rfl, rfl, ?_⟩
  have X2 := Ext.push h1 (.cells (S_api_Keep.cs ⟨0, 0, 0, 0, ⟨none, 0, 0⟩, ⟨none, 0, 0⟩⟩).toArray 107) (Nat.le_refl _)
  have D2 := Blk.push h1 (S_api_Keep.cs ⟨0, 0, 0, 0, ⟨none, 0, 0⟩, ⟨none, 0, 0⟩⟩) 107
  have C2 := C1.ext X2 C1.lt
  have cl := C1.lt
  generalize h1.push (.cells (S_api_Keep.cs ⟨0, 0, 0, 0, ⟨none, 0, 0⟩, ⟨none, 0, 0⟩⟩).toArray 107) = h2 at *
  have z2 := X2.size
  have X02 : Ext h.size h h2 := X1.trans (X2.mono z1)
  have R2 := R.ext X02
  obtain ⟨b1, e1⟩ : ∃ y, y = h.size := ⟨_, rfl⟩
  obtain ⟨b3, e3⟩ : ∃ y, y = h1.size := ⟨_, rfl⟩
  rw [← e1] at C2 cl ⊢
  rw [← e3] at D2 ⊢
  have dl := D2.lt
  refine ⟨_, rfl, _, R2.c 4, Base_ok R2.p.l ⟨v.f_Entries, by rw [C2.get]; rfl, ?_⟩⟩
  have vl := MV.e.l
  have mz := wm.z
  have x0 := R.p.l.x0
  rw [vl]
  have ob := R.ob
  -- what is written at the end
  have wr : ∀ {h5 : Heap} {x : S_api_Keep}, Ext h2.size h2 h5 → FreshI O h5 x (r.fresh m) → ∃ h37 : Heap, WrsAt h5 (⟨b3, 0, none⟩ : Addr) 6 ∧ h37 = setsH h5 (⟨b3, 0, none⟩ : Addr) 0 (S_api_Keep.cs x) ∧ (∃ v38 : S_api_Keep, CellsAt h37 (⟨b3, 0, none⟩ : Addr) (S_api_Keep.cs v38) ∧ k v38 h37) := fun {h5 x} X5 F => by
    have P5 := D2.ext X5 dl
    refine ⟨_, WrsAt.of_blk P5 (by show 6 ≤ 6; omega), rfl, ?_⟩
    have P6 := P5.sets_all (vs := S_api_Keep.cs x) rfl
    have z5 := X5.size
    have X6 : Ext h.size h5 (setsH h5 ⟨b3, 0, none⟩ 0 (S_api_Keep.cs x)) := Ext.sets _ _ _ (by show h.size ≤ b3; omega)
    have old : ∀ g, g ≠ b3 → (setsH h5 ⟨b3, 0, none⟩ 0 (S_api_Keep.cs x))[g]? = h5[g]? := fun g hg => setsH_other _ _ hg
    generalize setsH h5 ⟨b3, 0, none⟩ 0 (S_api_Keep.cs x) = h6 at *
    refine ⟨x, CellsAt.of_blk P6, H x h6 (fun S hS => ?_) (X02.trans ((X5.mono (by omega)).trans X6))⟩
    refine (F (fun g => S g ∨ g = b3) fun g hg => ?_).step ⟨X6.size, fun g hg hn => old g fun e => hn (.inr e)⟩ fun g hg => .inl (.inl hg)
    by_cases e : g = b3
    · subst e; exact .inr ⟨_, _, P5, by decide⟩
    · exact (hg.resolve_right e |> hS g).imp id fun ⟨cs, E, K, hE⟩ => ⟨cs, E, K.old (old g e).symm, hE⟩
  unfold raft_Raft_fresh_l1
  refine ⟨fun i h' => ∃ n : Nat, i = n ∧ n ≤ m.ents.length ∧ r.fresh m = r.freshAt m n (m.ents.drop n) ∧ Ext h2.size h2 h', fun i _ => (m.ents.length - i).toNat, ⟨0, rfl, Nat.zero_le _, rfl, Ext.refl _ _⟩, ?_⟩
  rintro i h3 ⟨n, rfl, n1, en, X3⟩
  have z3 := X3.size
  have R3 := R2.ext X3
  have C3 := C2.ext X3 (by omega)
  have V3 := (MV.ext X02).ext X3
  unfold raft_Raft_fresh_l1b
  by_cases hn : n < m.ents.length
  · rw [if_pos (by simp; omega)]
    obtain ⟨x, hx⟩ : ∃ x, m.ents[n]? = some x := ⟨_, List.getElem?_eq_getElem hn⟩
    have okx := wm.e x (List.mem_of_getElem? hx)
    obtain ⟨a, u, ha, c1, c2⟩ := V3.e.get hx
    refine ⟨a, ha, by omega, by omega, u, by rw [Int.toNat_natCast]; exact c1, _, _, rfl, rfl, ?_⟩
    have P0 := Blk.push h3 (S_api_Entry.cs ⟨0, ⟨none, 0, 0⟩⟩) 65
    have P1 := P0.sets_all (vs := S_api_Entry.cs u) (by simp [S_api_Entry.cs])
    have X4 : Ext h3.size h3 (setsH (h3.push (.cells (S_api_Entry.cs ⟨0, ⟨none, 0, 0⟩⟩).toArray 65)) ⟨h3.size, 0, none⟩ 0 (S_api_Entry.cs u)) := (Ext.push h3 _ (Nat.le_refl _)).trans (Ext.sets _ _ _ (Nat.le_refl _))
    refine ⟨_, WrsAt.of_blk P0 (by simp [S_api_Entry.cs]), rfl, ?_⟩
    generalize setsH (h3.push (.cells (S_api_Entry.cs ⟨0, ⟨none, 0, 0⟩⟩).toArray 65)) ⟨h3.size, 0, none⟩ 0 (S_api_Entry.cs u) = h4 at *
    have z4 := X4.size
    have X24 : Ext h2.size h2 h4 := X3.trans (X4.mono z3)
    have R4 := R3.ext X4
    have C4 := C3.ext X4 (by omega)
    have V4 := V3.ext X4
    have ci : cellH h4 ((⟨b1, 0, none⟩ : Addr).add 2) = some (.int .u64 m.index) := by rw [C4.get, ← MV.k.2.2.1]; rfl
    have ce : cellH h4 ((⟨b1, 0, none⟩ : Addr).add 6) = some (Slc.v v.f_Entries) := by rw [C4.get]; rfl
    refine ⟨_, ci, _, rfl, ?_⟩
    rw [wrapU64 (x := (n : Int)) (by omega) (by omega), wrap_at]
    have step := freshAt_step r m hx
    rw [← en] at step
    obtain ⟨w0, w1⟩ := W_bd (m.index + n + 1)
    obtain ⟨w2, w3⟩ := W_bd (W (m.index + n + 1) - 1)
    have skip : (W (m.index + n + 1) ≤ r.log.ix ∨ r.log.mat (W (m.index + n + 1)) x.1 = true) → raft_Raft_fresh_j2 (some ⟨L.b, 0, none⟩) ⟨b1, 0, none⟩ ⟨b3, 0, none⟩ r.log.ix n (W (m.index + n + 1)) v.f_Entries (m.ents.length : Int) n true k (fun i h' => (∃ n : Nat, i = n ∧ n ≤ m.ents.length ∧ r.fresh m = r.freshAt m n (m.ents.drop n) ∧ Ext h2.size h2 h') ∧ (m.ents.length - i).toNat < ((m.ents.length : Int) - n).toNat) h4 := fun hs => by
      unfold raft_Raft_fresh_j2
      rw [if_pos rfl, wrapI64 (by omega) (by omega)]
      rw [if_pos hs] at step
      exact ⟨⟨n + 1, by omega, by omega, step, X24⟩, by omega⟩
    have take : ¬ (W (m.index + n + 1) ≤ r.log.ix ∨ r.log.mat (W (m.index + n + 1)) x.1 = true) → raft_Raft_fresh_j2 (some ⟨L.b, 0, none⟩) ⟨b1, 0, none⟩ ⟨b3, 0, none⟩ r.log.ix n (W (m.index + n + 1)) v.f_Entries (m.ents.length : Int) n false k (fun i h' => (∃ n : Nat, i = n ∧ n ≤ m.ents.length ∧ r.fresh m = r.freshAt m n (m.ents.drop n) ∧ Ext h2.size h2 h') ∧ (m.ents.length - i).toNat < ((m.ents.length : Int) - n).toNat) h4 := fun hs => by
      rw [if_neg hs] at step
      unfold raft_Raft_fresh_j2
      rw [if_neg (by simp)]
      have eW : IntKind.u64.wrap (W (m.index + n + 1) - 1) = W (W (m.index + n + 1) - 1) := rfl
      rw [eW]
      have j3 : ∀ T : Int, r.fresh m = ⟨2, T, 0, W (W (m.index + n + 1) - 1), m.ents.drop n, []⟩ → raft_Raft_fresh_j3 ⟨b1, 0, none⟩ ⟨b3, 0, none⟩ n (W (m.index + n + 1)) T k (fun i h' => (∃ n : Nat, i = n ∧ n ≤ m.ents.length ∧ r.fresh m = r.freshAt m n (m.ents.drop n) ∧ Ext h2.size h2 h') ∧ (m.ents.length - i).toNat < ((m.ents.length : Int) - n).toNat) h4 := fun T eT => by
        unfold raft_Raft_fresh_j3
        have cc := V4.e.c
        refine ⟨_, ce, _, by omega, by omega, by omega, Int.le_refl _, rfl, ?_⟩
        have A := V4.e.sub (l := (n : Int).toNat) (u := (v.f_Entries.len : Int).toNat) (m := (v.f_Entries.cap : Int).toNat) (by omega) (by omega) (by omega) (by omega)
        rw [Int.toNat_natCast, List.take_of_length_le (by simp; omega)] at A
        rw [Int.toNat_natCast]
        generalize subS v.f_Entries 2 n (v.f_Entries.len : Int).toNat (v.f_Entries.cap : Int).toNat = s6 at A ⊢
        refine New_ok A (wm.e.drop n) (by simp; omega) (Int.le_refl _) (by simp; omega) ⟨Int.le_refl _, by decide⟩ fun b5 s5 h5 Lg5 hb5 hs5 X5 => ?_
        have L5 := Lg5 (fun _ => False) (fun _ h => h.elim)
        have z5 := X5.size
        refine Entries_ok L5 fun s7 h7 vs F7 X7 => ?_
        have z7 := X7.size
        have X27 : Ext h2.size h2 h7 := X24.trans ((X5.mono (by omega)).trans (X7.mono (by omega)))
        refine wr X27 fun S hS h' p => ?_
        rw [eT]
        have hS' : ∀ {B E w : Nat} {s : Slc} {xs : List Value}, Row B h7 E w s xs → (E = 65 ∨ E = 5) → h5.size ≤ B → ∀ g, s.blk = some g → ¬ S g := fun Rw hE hB g hg h8 => by
          rcases hS g h8 with h6 | ⟨cs, E', K, hE'⟩
          · have := (Rw.bd hg).1; have := ob g h6; omega
          · rcases hE with rfl | rfl
            · exact Rw.ne_blk K hE'.1.symm hg
            · exact Rw.ne_blk K hE'.2.symm hg
        have F8 : EntsF h5.size h' s7 (m.ents.drop n) vs := ⟨p.row F7.r (hS' F7.r (.inl rfl) (Nat.le_refl _)), F7.l, fun i v e hv he => ⟨(F7.e i v e hv he).1, p.row (F7.e i v e hv he).2 (hS' (F7.e i v e hv he).2 (.inr rfl) (Nat.le_refl _))⟩⟩
        exact ⟨⟨rfl, rfl, rfl, rfl⟩, F8.ents, slc_nil h', rfl⟩
      refine ⟨_, rfl, _, R4.c 4, Term_ok R4.p.l w2 w3 ?_⟩
      by_cases hc : n > 0 ∧ W (W (m.index + n + 1) - 1) > r.log.ix
      · rw [if_pos (by simp; omega)]
        rw [if_pos hc] at step
        obtain ⟨y, hy⟩ : ∃ y, m.ents[n - 1]? = some y := ⟨_, List.getElem?_eq_getElem (by omega)⟩
        obtain ⟨a2, u2, ha2, d1, d2⟩ := V4.e.get hy
        have := d1 0 (.int .u64 u2.f_Term) rfl
        rw [add_add2, Nat.add_zero, d2.t] at this
        rw [wrapI64 (by omega) (by omega), show ((n : Int) - 1).toNat = n - 1 from by omega]
        refine ⟨_, ce, a2, ha2, by omega, by omega, _, this, j3 _ ?_⟩
        rw [step, List.getD_eq_getElem?_getD, hy]; rfl
      · rw [if_neg (by simp; omega)]
        rw [if_neg hc] at step
        exact j3 _ step
    by_cases hle : W (m.index + n + 1) ≤ r.log.ix
    · rw [if_pos (by simpa using hle)]
      exact skip (.inl hle)
    · rw [if_neg (by simpa using hle)]
      refine ⟨_, rfl, _, R4.c 4, x.1, by rw [P1.cell, ← c2.t]; rfl, Match_ok R4.p.l w0 w1 ?_⟩
      cases hm : r.log.mat (W (m.index + n + 1)) x.1 with
      | true => exact skip (.inr hm)
      | false => exact take fun h => h.elim hle fun h2 => by rw [hm] at h2; cases h2
  · rw [if_neg (by simp; omega)]
    have : m.ents.drop n = [] := List.drop_of_length_le (by omega)
    rw [this] at en
    exact wr X3 (by rw [en]; exact fun S _ h' _ => ⟨⟨rfl, rfl, rfl, rfl⟩, EntsAt.nil h', slc_nil h', rfl⟩)
end
end Go.Q.Yh
set_option linter.unusedVariables false
set_option linter.unusedSimpArgs false
set_option maxRecDepth 100000
/- A member takes what comes. -/
namespace Go.Q.Yh
open Rf
section
variable {O O' : BSet} {h h' : Heap} {L : RLy} {r : RS}
theorem ticks0 {r5 : RS} {h5 : Heap} {L5 : RLy} (q : Res O h L r5 h5 L5) : WrH h5 ((⟨L.b, 0, none⟩ : Addr).add 9) ∧ Res O h L { r5 with ticks := 0 } (setH h5 ((⟨L.b, 0, none⟩ : Addr).add 9) (.int .i64 0)) L5 ∧ Stp (own L5) h5 (setH h5 ((⟨L.b, 0, none⟩ : Addr).add 9) (.int .i64 0)) := by
  have M5 := q.R
  have w5 := M5.wf
  rw [← q.b]
  obtain ⟨w, f⟩ := M5.k.put (i := 9) (v := .int .i64 0) (by show 9 < 14; omega)
  obtain ⟨K6, U6⟩ := f _ rfl
  have S6 : Stp (own L5) h5 (setH h5 ((⟨L5.b, 0, none⟩ : Addr).add 9) (.int .i64 0)) := .of_upd U6 (.inl (.inl rfl))
  exact ⟨w, q.trans (Res.of (M5.poke K6 U6 ⟨w5.n, w5.me, w5.tm, w5.vt, w5.cm, ⟨Int.le_refl _, by show (0 : Int) ≤ 1000000000; omega⟩, w5.ld, w5.nx, w5.hs, w5.bl, w5.sn, w5.kp⟩ ⟨rfl, rfl, rfl, rfl, rfl, rfl, rfl⟩) S6), S6⟩
theorem setcommit {r5 : RS} {h5 : Heap} {L5 : RLy} {c : Int} (q : Res O h L r5 h5 L5) (hc : 0 ≤ c ∧ c < 18446744073709551616) : WrH h5 ((⟨L.b, 0, none⟩ : Addr).add 6) ∧ Res O h L { r5 with commit := c } (setH h5 ((⟨L.b, 0, none⟩ : Addr).add 6) (.int .u64 c)) L5 ∧ Stp (own L5) h5 (setH h5 ((⟨L.b, 0, none⟩ : Addr).add 6) (.int .u64 c)) := by
  have M5 := q.R
  have w5 := M5.wf
  rw [← q.b]
  obtain ⟨w, f⟩ := M5.k.put (i := 6) (v := .int .u64 c) (by show 6 < 14; omega)
  obtain ⟨K6, U6⟩ := f _ rfl
  have S6 : Stp (own L5) h5 (setH h5 ((⟨L5.b, 0, none⟩ : Addr).add 6) (.int .u64 c)) := .of_upd U6 (.inl (.inl rfl))
  exact ⟨w, q.trans (Res.of (M5.poke K6 U6 ⟨w5.n, w5.me, w5.tm, w5.vt, hc, w5.tk, w5.ld, w5.nx, w5.hs, w5.bl, w5.sn, w5.kp⟩ ⟨rfl, rfl, rfl, rfl, rfl, rfl, rfl⟩) S6), S6⟩
theorem Res.c {r5 : RS} {h5 : Heap} {L5 : RLy} (q : Res O h L r5 h5 L5) (i : Nat) : cellH h5 ((⟨L.b, 0, none⟩ : Addr).add i) = (rcs L5 r5)[i]? := by rw [← q.b]; exact q.R.c i
theorem newTerm_keeps {t : Int} : (r.newTerm t).keeps.length ≤ r.keeps.length + 1 := by
  unfold RS.newTerm RS.keepTerm
  split <;> simp
theorem newTerm_n {t : Int} : (r.newTerm t).n = r.n ∧ (r.newTerm t).me = r.me ∧ (r.newTerm t).log = r.log ∧ (r.newTerm t).commit = r.commit ∧ (r.newTerm t).snap = r.snap := by
  unfold RS.newTerm RS.keepTerm
  split <;> exact ⟨rfl, rfl, rfl, rfl, rfl⟩
theorem snapshot_ok {from' : Int} {v : S_api_Msg} {m : Msg} {k : Slc → Heap → Prop} (R : RaftAt O h L r) (hk : r.keeps.length < 999990) (MV : Imm O h fun h => MsgV h v m) (wm : WFm m)
    (H : ∀ s h' L', Res O h L (r.snapshot from' m).1 h' L' → MailsI (G O L') h' s (r.snapshot from' m).2 → (∀ g, s.blk = some g → h.size ≤ g) → k s h') : raft_Raft_snapshot (some ⟨L.b, 0, none⟩) from' v k h := by
  have V := MV.now
  unfold raft_Raft_snapshot
  refine ⟨_, _, rfl, rfl, ?_⟩
  have X := Ext.push h (.cells (S_api_Msg.cs v).toArray 26) (Nat.le_refl _)
  have C := Blk.push h (S_api_Msg.cs v) 26
  have R2 := R.ext X
  have I2 := MV.ext X
  generalize h.push (.cells (S_api_Msg.cs v).toArray 26) = h2 at *
  obtain ⟨b1, eb⟩ : ∃ y, y = h.size := ⟨_, rfl⟩
  rw [← eb] at C ⊢
  have z2 := X.size
  have q2 : Res O h L r h2 L := Res.of R2 (.of_ext X)
  unfold RS.snapshot at H
  refine ⟨m.term, by rw [C.get, ← V.k.2.1]; rfl, follow_ok R2 (by omega) wm.t fun h5 L5 q5 => ?_⟩
  have C5 := q5.S.blk C (R2.ne_own C (by decide))
  have q25 := q2.trans ⟨q5.R.sub (fun g hg => hg.elim (fun h => h.elim .inl (fun h => .inl (R.ow g h))) .inr) fun g hg => .inr hg, q5.S, q5.F, q5.b⟩
  have I5 : Imm (G O L5) h5 fun h => MsgV h v m := q5.imm R2 I2
  obtain ⟨w, q7, S7⟩ := ticks0 q25
  refine ⟨_, rfl, _, w, rfl, ?_⟩
  have C7 := S7.blk C5 (q25.R.ne_own C5 (by decide))
  have I7 := I5.stp (S7.mono fun g hg => .inl (.inr hg))
  generalize setH h5 ((⟨L.b, 0, none⟩ : Addr).add 9) (.int .i64 0) = h7 at *
  change Res O h L (r.foll from' m) h7 L5 at q7
  have k1 : (r.foll from' m).keeps.length < 999995 := by show (r.newTerm m.term).keeps.length < _; have := newTerm_keeps (r := r) (t := m.term); omega
  generalize r.foll from' m = r1 at *
  refine ⟨m.index, by rw [C7.get, ← V.k.2.2.1]; rfl, _, q7.c 6, ?_⟩
  have j1 : ∀ {h8 : Heap} {L8 : RLy} {r8 : RS}, Res O h L r8 h8 L8 → r1.snap2 m = r8 → raft_Raft_snapshot_j1 (some ⟨L.b, 0, none⟩) from' k h8 := fun {h8 L8 r8} q e => by
    rw [e] at H
    unfold raft_Raft_snapshot_j1
    refine ⟨_, rfl, _, q.c 6, ?_⟩
    rw [← q.b]
    have z8 := q.S.size
    exact answer_ok q.R fun s h' M X' sb => H s h' L8 (q.ext X') M fun g hg => by have := sb g hg; omega
  show if (decide (m.index > r1.commit)) = true then _ else _
  by_cases hc : m.index > r1.commit
  · rw [if_pos (decide_eq_true hc)]
    refine ⟨m.index, by rw [C7.get, ← V.k.2.2.1]; rfl, m.logTerm, by rw [C7.get, ← V.k.2.2.2.1]; rfl, v.f_Snap, by rw [C7.get]; rfl, ?_⟩
    have R7 := q7.R
    rw [← q7.b]
    refine base_ok R7 (by omega) (I7.imp fun _ V => V.s) V.sl wm.s.1 wm.s.2 wm.i wm.l fun h8 L8 q8 => ?_
    have C8 := q8.S.blk C7 (R7.ne_own C7 (by decide))
    have q78 := q7.trans q8
    obtain ⟨w, q9, _⟩ := setcommit q78 wm.i
    refine ⟨m.index, by rw [C8.get, ← V.k.2.2.1]; rfl, _, by rw [q7.b]; exact w, rfl, ?_⟩
    rw [q7.b]
    exact j1 q9 (by unfold RS.snap2; rw [if_pos hc])
  · rw [if_neg (by rw [decide_eq_false hc]; simp)]
    exact j1 q7 (by unfold RS.snap2; rw [if_neg hc])
theorem append_j1_ok {from' last : Int} {b1 : Nat} {v : S_api_Msg} {m : Msg} {r5 : RS} {h5 : Heap} {L5 : RLy} {k : Slc → Heap → Prop} (q : Res O h L r5 h5 L5) (C : Blk h5 b1 (S_api_Msg.cs v) 26) (V : v.f_Commit = m.commit) (mc : 0 ≤ m.commit ∧ m.commit < 18446744073709551616) (lb : 0 ≤ last ∧ last < 18446744073709551616)
    (H : ∀ s h' L', Res O h L { r5 with commit := max r5.commit (min m.commit last) } h' L' → MailsI (G O L') h' s (r5.answer from' 4 true last) → (∀ g, s.blk = some g → h.size ≤ g) → k s h') : raft_Raft_append_j1 (some ⟨L.b, 0, none⟩) from' ⟨b1, 0, none⟩ last k h5 := by
  have cb := q.R.wf.cm
  unfold raft_Raft_append_j1
  refine ⟨_, rfl, _, q.c 6, m.commit, by rw [C.get, ← V]; rfl, ?_⟩
  have e : (if (if last < m.commit then last else m.commit) > r5.commit then (if last < m.commit then last else m.commit) else r5.commit) = max r5.commit (min m.commit last) := by
    split <;> split <;> omega
  show ∃ h29 : Heap, _ ∧ h29 = setH h5 _ (.int .u64 (if (if last < m.commit then last else m.commit) > r5.commit then (if last < m.commit then last else m.commit) else r5.commit)) ∧ _
  rw [e]
  obtain ⟨w, q6, _⟩ := setcommit (c := max r5.commit (min m.commit last)) q (by omega)
  refine ⟨_, w, rfl, ?_⟩
  generalize setH h5 ((⟨L.b, 0, none⟩ : Addr).add 6) (.int .u64 (max r5.commit (min m.commit last))) = h6 at *
  have z6 := q6.S.size
  rw [← q6.b]
  exact answer_ok (r := { r5 with commit := max r5.commit (min m.commit last) }) q6.R fun s h' M X' sb => H s h' L5 (q6.ext X') M fun g hg => by have := sb g hg; omega
theorem appends_ok {from' : Int} {v : S_api_Msg} {m : Msg} {k : Slc → Heap → Prop} (R : RaftAt O h L r) (hk : r.keeps.length < 999990) (MV : Imm O h fun h => MsgV h v m) (wm : WFm m)
    (H : ∀ s h' L', Res O h L (r.appends from' m).1 h' L' → MailsI (G O L') h' s (r.appends from' m).2 → (∀ g, s.blk = some g → h.size ≤ g) → k s h') : raft_Raft_append (some ⟨L.b, 0, none⟩) from' v k h := by
  have V := MV.now
  unfold raft_Raft_append
  refine ⟨_, _, rfl, rfl, ?_⟩
  have X := Ext.push h (.cells (S_api_Msg.cs v).toArray 26) (Nat.le_refl _)
  have C := Blk.push h (S_api_Msg.cs v) 26
  have R2 := R.ext X
  have I2 := MV.ext X
  generalize h.push (.cells (S_api_Msg.cs v).toArray 26) = h2 at *
  obtain ⟨b1, eb⟩ : ∃ y, y = h.size := ⟨_, rfl⟩
  rw [← eb] at C ⊢
  have z2 := X.size
  have q2 : Res O h L r h2 L := Res.of R2 (.of_ext X)
  unfold RS.appends RS.appends2 at H
  refine ⟨m.term, by rw [C.get, ← V.k.2.1]; rfl, follow_ok R2 (by omega) wm.t fun h5 L5 q5 => ?_⟩
  have C5 := q5.S.blk C (R2.ne_own C (by decide))
  have q25 := q2.trans ⟨q5.R.sub (fun g hg => hg.elim (fun h => h.elim .inl (fun h => .inl (R.ow g h))) .inr) fun g hg => .inr hg, q5.S, q5.F, q5.b⟩
  have I5 : Imm (G O L5) h5 fun h => MsgV h v m := q5.imm R2 I2
  obtain ⟨w, q7, S7⟩ := ticks0 q25
  refine ⟨_, rfl, _, w, rfl, ?_⟩
  have C7 := S7.blk C5 (q25.R.ne_own C5 (by decide))
  have I7 := I5.stp (S7.mono fun g hg => .inl (.inr hg))
  generalize setH h5 ((⟨L.b, 0, none⟩ : Addr).add 9) (.int .i64 0) = h7 at *
  change Res O h L (r.foll from' m) h7 L5 at q7
  have k1 : (r.foll from' m).keeps.length < 999995 := by show (r.newTerm m.term).keeps.length < _; have := newTerm_keeps (r := r) (t := m.term); omega
  generalize r.foll from' m = r1 at *
  have R7 := q7.R
  refine ⟨v, CellsAt.of_blk C7, ?_⟩
  rw [← q7.b]
  refine fresh_ok R7 I7.now wm fun v9 h10 F10 X10 => ?_
  have q10 := q7.ext X10
  have R10 := q10.R
  have z10 := X10.size
  have C10 := C7.ext X10 C7.lt
  refine ⟨_, _, rfl, rfl, ?_⟩
  have D11 := Blk.push h10 (S_api_Keep.cs ⟨0, 0, 0, 0, ⟨none, 0, 0⟩, ⟨none, 0, 0⟩⟩) 107
  have D12 := D11.sets_all (vs := S_api_Keep.cs v9) rfl
  have X12 : Ext h10.size h10 (setsH (h10.push (.cells (S_api_Keep.cs ⟨0, 0, 0, 0, ⟨none, 0, 0⟩, ⟨none, 0, 0⟩⟩).toArray 107)) ⟨h10.size, 0, none⟩ 0 (S_api_Keep.cs v9)) := (Ext.push h10 _ (Nat.le_refl _)).trans (Ext.sets _ _ _ (Nat.le_refl _))
  refine ⟨_, WrsAt.of_blk D11 (by show 6 ≤ 6; omega), rfl, ?_⟩
  generalize setsH (h10.push (.cells (S_api_Keep.cs ⟨0, 0, 0, 0, ⟨none, 0, 0⟩, ⟨none, 0, 0⟩⟩).toArray 107)) ⟨h10.size, 0, none⟩ 0 (S_api_Keep.cs v9) = h12 at *
  obtain ⟨b11, e11⟩ : ∃ y, y = h10.size := ⟨_, rfl⟩
  rw [← e11] at D12 ⊢
  have z12 := X12.size
  have q12 := q10.ext X12
  have R12 := q12.R
  have C12 := C10.ext X12 C10.lt
  have I12 := (I7.ext X10).ext X12
  have F12 : Imm (G O L5) h12 fun h => KeepV h v9 (r1.fresh m) := (F10 (G O L5) fun g hg => .inl hg).ext X12
  have n11 : ¬ own L5 b11 := fun h => by have := R10.ob' h; omega
  refine ⟨_, R12.c 4, m.index, by rw [C12.get, ← V.k.2.2.1]; rfl, m.logTerm, by rw [C12.get, ← V.k.2.2.2.1]; rfl, v.f_Entries, by rw [C12.get]; rfl, ?_⟩
  refine Append_ok R12.p.l R12.ob (I12.imp fun _ V => V.e) wm.e wm.i.1 wm.i.2 wm.z fun h19 s19 A19 S19 f19 => ?_
  have q19 := relog R12 A19 S19 f19
  have q119 := q12.trans q19
  have C19 := q19.S.blk C12 (R12.ne_own C12 (by decide))
  have D19 := q19.S.blk D12 n11
  have F19 := q19.imm R12 F12
  have ab := append_bd (l := r1.log) (p := m.index) (t := m.logTerm) (more := m.ents)
  obtain ⟨L6, eL6⟩ : ∃ y, y = ({ L5 with es := s19 } : RLy) := ⟨_, rfl⟩
  rw [← eL6] at q19 q119 F19
  have h2 : r1.app2 m = { r1 with log := (r1.log.append m.index m.logTerm m.ents).1, keeps := if (r1.fresh m).ents.length > 0 then r1.keeps ++ [r1.fresh m] else r1.keeps, commit := max r1.commit (min m.commit (r1.log.append m.index m.logTerm m.ents).2.1) } := rfl
  have hE := append_err (l := r1.log) (p := m.index) (t := m.logTerm) (more := m.ents)
  generalize r1.log.append m.index m.logTerm m.ents = A at *
  by_cases he : A.2.2 = 0
  · rw [if_neg (by simpa using he)]
    rw [if_neg (show ¬ A.2.2 ≠ 0 by simpa using he), h2] at H
    have n6 : ¬ own L6 b11 := fun h => (q19.F b11 h).elim n11 fun h => by have := D12.lt; omega
    have fl : v9.f_Entries.len = (r1.fresh m).ents.length := F19.now.e.l
    refine ⟨v9.f_Entries, by rw [D19.get]; rfl, ?_⟩
    have ends : ∀ {h40 : Heap} {L7 : RLy} {r7 : RS}, Res O h L r7 h40 L7 → Blk h40 b1 (S_api_Msg.cs v) 26 → r7 = { r1 with log := A.1, keeps := if (r1.fresh m).ents.length > 0 then r1.keeps ++ [r1.fresh m] else r1.keeps } → raft_Raft_append_j1 (some ⟨L5.b, 0, none⟩) from' ⟨b1, 0, none⟩ A.2.1 k h40 := fun {h40 L7 r7} q Cb e => by
      rw [q7.b]
      refine append_j1_ok (m := m) q Cb V.k.2.2.2.2.1 wm.c ab fun s h' L' q' M sb => H s h' L' ?_ ?_ sb
      · subst e; exact q'
      · subst e; exact M
    by_cases hf : (r1.fresh m).ents.length > 0
    · rw [if_pos (by simp; omega)]
      have e5 : L5.b = L6.b := by rw [eL6]
      have R19 := q119.R
      rw [e5]
      refine ⟨_, R19.c 13, v9, CellsAt.of_blk D19, _, _, rfl, rfl, ?_⟩
      have X36 := Ext.push h19 (.cells (S_api_Keep.cs v9).toArray 107) (Nat.le_refl _)
      have q36 := q119.ext X36
      have C36 := C19.ext X36 C19.lt
      have F36 := F19.ext X36
      generalize h19.push (.cells (S_api_Keep.cs v9).toArray 107) = h36 at *
      have R36 := q36.R
      refine ⟨R36.c 13, push_keep (x := r1.fresh m) R36 (by show r1.keeps.length < _; omega) (F36.mono fun g hg => .inl (hg.elim (fun h => .inl (.inl h)) .inr)) fun h40 L7 q40 => ?_⟩
      have C40 := q40.S.blk C36 (R36.ne_own C36 (by decide))
      rw [← e5]
      exact ends (q36.trans q40) C40 (by rw [if_pos hf])
    · rw [if_neg (by simp; omega)]
      exact ends q119 C19 (by rw [if_neg hf])
  · rw [if_pos (by simpa using he)]
    rw [if_pos he] at H
    have e5 : L5.b = L6.b := by rw [eL6]
    have e1 := hE he
    have q6 : Res O h L r1 h19 L6 := by have := q119; rw [e1] at this; exact this
    have R6 := q6.R
    have c19 : cellH h19 ((⟨L5.b, 0, none⟩ : Addr).add 4) = some (.pointer (some ⟨L6.lb, 0, none⟩)) := by rw [e5, R6.c 4]; rfl
    refine ⟨_, c19, Last_ok R6.p.l ⟨m.index, by rw [C19.get, ← V.k.2.2.1]; rfl, ?_⟩⟩
    have ib := wm.i
    have e : (if IntKind.u64.wrap ((if 1 > m.index then 1 else m.index) - 1) < r1.log.last then IntKind.u64.wrap ((if 1 > m.index then 1 else m.index) - 1) else r1.log.last) = min r1.log.last (max m.index 1 - 1) := by
      have : (if 1 > m.index then 1 else m.index) = max m.index 1 := by split <;> omega
      rw [this, wrapU64 (by omega) (by omega)]
      split <;> omega
    rw [e, e5]
    have z6 := q6.S.size
    exact answer_ok R6 fun s h' M X' sb => H s h' L6 (q6.ext X') M fun g hg => by have := sb g hg; omega
end
end Go.Q.Yh
set_option linter.unusedVariables false
set_option linter.unusedSimpArgs false
set_option maxRecDepth 100000
/- A member takes whatever comes. -/
namespace Go.Q.Yh
open Rf
section
variable {O O' : BSet} {h h' : Heap} {L : RLy} {r : RS}
theorem Res.step {r1 r2 : RS} {h1 h2 : Heap} {L1 : RLy} (q : Res O h L r1 h1 L1) (M : RaftAt (G O L1) h2 L1 r2) (S : Stp (own L1) h1 h2) : Res O h L r2 h2 L1 := q.trans (Res.of M S)
theorem settle_next (x : RS) : x.settle.next = x.next := by unfold RS.settle; split <;> rfl
theorem appended_ok {from' : Int} {v : S_api_Msg} {m : Msg} {k : Slc → Heap → Prop} (R : RaftAt O h L r) (V : v.f_Kind = m.kind ∧ v.f_Term = m.term ∧ v.f_Index = m.index ∧ v.f_LogTerm = m.logTerm ∧ v.f_Commit = m.commit ∧ v.f_Yes = m.yes) (ib : 0 ≤ m.index ∧ m.index < 18446744073709551616) (f0 : 0 ≤ from') (f1 : from' < r.n)
    (H : ∀ s h' L', Res O h L (r.appended from' m).1 h' L' → MailsI (G O L') h' s (r.appended from' m).2 → (∀ g, s.blk = some g → h.size ≤ g) → k s h') : raft_Raft_appended (some ⟨L.b, 0, none⟩) from' v k h := by
  have wf := R.wf
  have nb := wf.n
  unfold raft_Raft_appended
  refine ⟨_, _, rfl, rfl, ?_⟩
  have X := Ext.push h (.cells (S_api_Msg.cs v).toArray 26) (Nat.le_refl _)
  have C := Blk.push h (S_api_Msg.cs v) 26
  have R2 := R.ext X
  generalize h.push (.cells (S_api_Msg.cs v).toArray 26) = h2 at *
  obtain ⟨b1, eb⟩ : ∃ y, y = h.size := ⟨_, rfl⟩
  rw [← eb] at C ⊢
  have z2 := X.size
  have q2 : Res O h L r h2 L := Res.of R2 (.of_ext X)
  have M2 := q2.R
  have ci : ∀ {h' : Heap}, Blk h' b1 (S_api_Msg.cs v) 26 → cellH h' ((⟨b1, 0, none⟩ : Addr).add 2) = some (.int .u64 m.index) := fun C => by rw [C.get, ← V.2.2.1]; rfl
  unfold RS.appended at H
  have none' : (r.appended from' m) = (r, []) → k ⟨none, 0, 0⟩ h2 := fun e => H _ h2 L (by unfold RS.appended at e; rw [e]; exact q2) (by unfold RS.appended at e; rw [e]; exact MailsI.nil _ _) fun g hg => by simp [Slc.blk] at hg
  refine ⟨_, rfl, _, R2.c 7, ?_⟩
  by_cases hr : r.role = 2
  · rw [if_neg (by simpa using hr)]
    have ld := wf.ld hr
    rw [if_neg (by simpa using hr)] at H
    have W1 : ∀ x, IntKind.u64.wrap x = W x := fun _ => rfl
    refine ⟨m.yes, by rw [C.get, ← V.2.2.2.2.2]; rfl, ?_⟩
    -- a letter of its own
    have mail : ∀ {r5 : RS} {h5 : Heap}, Res O h L r5 h5 L → from' < r5.next.length → ((∀ s h' L', Res O h L r5 h' L' → MailsI (G O L') h' s [(from', r5.due from')] → (∀ g, s.blk = some g → h.size ≤ g) → k s h')) → raft_Raft_due (some ⟨L.b, 0, none⟩) from' (fun (r13 : S_api_Msg) h14 => ∃ (b15 : Nat) (h16 : Heap), b15 = h14.size ∧ h16 = h14.push (.cells ((S_api_Mail.cs (⟨from', r13⟩ : S_api_Mail))).toArray 45) ∧ (k (⟨some ⟨b15, 0, none⟩, 1, 1⟩ : Slc) h16)) h5 := fun {r5 h5} q hl K => by
      have R5 := q.R
      refine due_ok R5 f0 hl fun w h6 D X6 => ⟨_, _, rfl, rfl, ?_⟩
      have z5 := q.S.size
      have z6 := X6.size
      exact K _ _ L ((q.ext X6).ext (Ext.push h6 _ (Nat.le_refl _))) (one_mail D (fun g hg => by have := R5.ob g hg; omega)) fun g hg => by simp [Slc.blk] at hg; omega
    cases hy : m.yes with
    | false =>
      rw [if_pos (by simp)]
      rw [hy, if_pos rfl] at H
      unfold RS.back at H
      have nbd : 0 ≤ W (r.next.getD from'.toNat 0 - 1) ∧ W (r.next.getD from'.toNat 0 - 1) < 18446744073709551616 := W_bd _
      have ibd := W_bd (m.index + 1)
      obtain ⟨a, ha, i0, i1, w6, M6, S6⟩ := poke_next (i := from') (v := max 1 (min (W (r.next.getD from'.toNat 0 - 1)) (W (m.index + 1)))) M2 f0 (by omega) (by omega)
      obtain ⟨a2, ha2, _, _, c2⟩ := u8s_get M2.p.nx f0 (by omega)
      rw [ha] at ha2; cases ha2
      refine ⟨_, R2.c 11, _, R2.c 11, a, ha, i0, i1, _, c2, _, ci C, a, ha, i0, i1, ?_⟩
      have e : (if (if IntKind.u64.wrap (m.index + 1) < IntKind.u64.wrap (r.next.getD from'.toNat 0 - 1) then IntKind.u64.wrap (m.index + 1) else IntKind.u64.wrap (r.next.getD from'.toNat 0 - 1)) > 1 then (if IntKind.u64.wrap (m.index + 1) < IntKind.u64.wrap (r.next.getD from'.toNat 0 - 1) then IntKind.u64.wrap (m.index + 1) else IntKind.u64.wrap (r.next.getD from'.toNat 0 - 1)) else 1) = max 1 (min (W (r.next.getD from'.toNat 0 - 1)) (W (m.index + 1))) := by
        rw [W1, W1]; split <;> split <;> omega
      rw [e]
      refine ⟨_, w6, rfl, mail (q2.step M6 S6) (by simp; omega) H⟩
    | true =>
      rw [if_neg (by simp)]
      rw [hy, if_neg (by simp)] at H
      refine ⟨_, R2.c 4, Last_ok R2.p.l ⟨_, ci C, ?_⟩⟩
      by_cases hm : m.index > r.log.last
      · rw [if_pos (by simpa using hm)]
        exact none' (by unfold RS.appended; rw [if_neg (by simpa using hr), hy, if_neg (by simp), if_pos hm])
      · rw [if_neg (by simpa using hm)]
        rw [if_neg hm] at H
        unfold RS.forth at H
        have hb := fun x (hx : x ∈ r.has) => wf.hs x hx
        have nb' := fun x (hx : x ∈ r.next) => wf.nx x hx
        have gd : ∀ {l : List Int}, from' < l.length → (∀ x ∈ l, 0 ≤ x ∧ x < 18446744073709551616) → 0 ≤ l.getD from'.toNat 0 ∧ l.getD from'.toNat 0 < 18446744073709551616 := fun {l} hl hx => by
          obtain ⟨y, hy⟩ : ∃ y, l[from'.toNat]? = some y := ⟨_, List.getElem?_eq_getElem (by omega)⟩
          rw [List.getD_eq_getElem?_getD, hy]; exact hx y (List.mem_of_getElem? hy)
        have hg := gd (l := r.has) (by omega) hb
        have ng := gd (l := r.next) (by omega) nb'
        have ibd := W_bd (m.index + 1)
        obtain ⟨a, ha, i0, i1, w6, M6, S6⟩ := poke_has (i := from') (v := max (r.has.getD from'.toNat 0) m.index) M2 f0 (by omega) (by omega)
        obtain ⟨a2, ha2, _, _, c2⟩ := u8s_get M2.p.hs f0 (by omega)
        rw [ha] at ha2; cases ha2
        refine ⟨_, R2.c 12, _, R2.c 12, a, ha, i0, i1, _, c2, _, ci C, a, ha, i0, i1, ?_⟩
        have e : (if m.index > r.has.getD from'.toNat 0 then m.index else r.has.getD from'.toNat 0) = max (r.has.getD from'.toNat 0) m.index := by split <;> omega
        rw [e]
        refine ⟨_, w6, rfl, ?_⟩
        have q6 := q2.step M6 S6
        have C6 := S6.blk C (M2.ne_own C (by decide))
        have R6 := q6.R
        generalize setH h2 (a.add (from'.toNat * 1)) (.int .u64 (max (r.has.getD from'.toNat 0) m.index)) = h6 at *
        obtain ⟨a3, ha3, i0, i1, w7, M7, S7⟩ := poke_next (i := from') (v := max (r.next.getD from'.toNat 0) (W (m.index + 1))) R6 f0 (by show from' < r.next.length; omega) (by omega)
        obtain ⟨a4, ha4, _, _, c4⟩ := u8s_get R6.p.nx f0 (by show from' < r.next.length; omega)
        rw [ha3] at ha4; cases ha4
        refine ⟨_, R6.c 11, _, R6.c 11, a3, ha3, i0, i1, _, c4, _, ci C6, a3, ha3, i0, i1, ?_⟩
        have e : (if IntKind.u64.wrap (m.index + 1) > r.next.getD from'.toNat 0 then IntKind.u64.wrap (m.index + 1) else r.next.getD from'.toNat 0) = max (r.next.getD from'.toNat 0) (W (m.index + 1)) := by rw [W1]; split <;> omega
        rw [e]
        refine ⟨_, w7, rfl, ?_⟩
        have q7 := q6.step M7 S7
        have R7 := q7.R
        generalize setH h6 (a3.add (from'.toNat * 1)) (.int .u64 (max (r.next.getD from'.toNat 0) (W (m.index + 1)))) = h7 at *
        refine settle_ok R7 (by simp; exact ld.2) fun h8 M8 S8 => ?_
        have q8 := q7.step M8 S8
        have R8 := q8.R
        have nl := settle_next { r with has := r.has.set from'.toNat (max (r.has.getD from'.toNat 0) m.index), next := r.next.set from'.toNat (max (r.next.getD from'.toNat 0) (W (m.index + 1))) }
        obtain ⟨a5, ha5, i0, i1, c5⟩ := u8s_get R8.p.nx f0 (by rw [nl]; simp; omega)
        refine ⟨_, R8.c 11, a5, ha5, i0, i1, _, c5, ?_⟩
        by_cases hl : (RS.settle { r with has := r.has.set from'.toNat (max (r.has.getD from'.toNat 0) m.index), next := r.next.set from'.toNat (max (r.next.getD from'.toNat 0) (W (m.index + 1))) }).next.getD from'.toNat 0 ≤ r.log.last
        · rw [if_pos (by simpa using hl)]
          rw [if_pos hl] at H
          exact mail q8 (by rw [nl]; simp; omega) H
        · rw [if_neg (by simpa using hl)]
          rw [if_neg hl] at H
          exact H _ h8 L q8 (MailsI.nil _ _) fun g hg => by simp [Slc.blk] at hg
  · rw [if_pos (by simpa using hr)]
    exact none' (by unfold RS.appended; rw [if_pos (by simpa using hr)])
theorem say_ok {l : List Int} {v n : Int} (hl : l.Nodup ∧ ∀ x ∈ l, 0 ≤ x ∧ x < n) : (RS.say l v n).Nodup ∧ ∀ x ∈ RS.say l v n, 0 ≤ x ∧ x < n := by
  unfold RS.say
  split
  · exact hl
  · rename_i h
    refine ⟨List.nodup_append.2 ⟨hl.1, by simp, fun a ha b hb => by simp at hb; subst hb; intro e; subst e; exact h (.inr (.inr ha))⟩, fun x hx => ?_⟩
    rcases List.mem_append.1 hx with hx | hx
    · exact hl.2 x hx
    · simp at hx; subst hx; omega
/-- one that asks, or another, counts a vote -/
theorem counted_ok {from' : Int} {m : Msg} {b : Bool} {k : Slc → Heap → Prop} (R : RaftAt O h L r) (ha : r.role = 1 → ∃ l, r.ballot = some l) (hk : r.keeps.length < 999990) (f0 : 0 ≤ from') (f1 : from' < r.n) (hb : b = true ↔ (r.role = 1 ∧ m.yes = true))
    (H : ∀ s h' L', Res O h L (r.counted from' m).win.1 h' L' → MailsI (G O L') h' s (r.counted from' m).win.2 → (∀ g, s.blk = some g → h.size ≤ g) → k s h') : raft_Raft_Take_g3 (some ⟨L.b, 0, none⟩) from' b k h := by
  have wf := R.wf
  have nb := wf.n
  unfold raft_Raft_Take_g3
  unfold RS.counted at H
  have j2 : ∀ {r5 : RS} {h5 : Heap}, Res O h L r5 h5 L → (r5.role = 1 → ∃ l, r5.ballot = some l) → r5.keeps.length < 999990 → (∀ s h' L', Res O h L r5.win.1 h' L' → MailsI (G O L') h' s r5.win.2 → (∀ g, s.blk = some g → h.size ≤ g) → k s h') → raft_Raft_Take_j2 (some ⟨L.b, 0, none⟩) k h5 := fun {r5 h5} q hA hK K => by
    unfold raft_Raft_Take_j2
    have R5 := q.R
    have z5 := q.S.size
    exact win_ok R5 hA (by omega) fun s h' L' q' M sb => K s h' L' (q.trans q') (M.sub fun g hg => hg.elim (fun h => .inl (.inl h)) .inr) fun g hg => by have := sb g hg; omega
  have q0 : Res O h L r h L := Res.of R (Stp.refl _ _)
  cases b with
  | false =>
    rw [if_neg (by simp)]
    rw [if_neg fun h => by have := hb.2 h; cases this] at H
    exact j2 q0 ha hk H
  | true =>
    rw [if_pos rfl]
    have hc := hb.1 rfl
    rw [if_pos hc] at H
    obtain ⟨l, el⟩ := ha hc.1
    obtain ⟨nd, lbd⟩ := wf.bl l el
    obtain ⟨y1, y2, y3⟩ := bits_ok (n := r.n.toNat) (by omega) nd fun x hx => by have := lbd x hx; omega
    have B := R.p.bl
    rw [el] at B
    obtain ⟨c, ec⟩ : ∃ c, L.bal = some c := by
      cases hb : L.bal with
      | none => rw [hb] at B; exact B.elim
      | some c => exact ⟨c, rfl⟩
    rw [ec] at B
    have cc := R.c 10
    have e10 : L.bal.map (fun c => (⟨c, 0, none⟩ : Addr)) = some ⟨c, 0, none⟩ := by rw [ec]; rfl
    refine ⟨_, rfl, _, cc, ?_⟩
    rw [e10]
    have ei : ((from'.toNat : Nat) : Int) = from' := Int.toNat_of_nonneg f0
    have e3 := y3 from'.toNat
    rw [ei] at e3
    refine Yes_ok (n := r.n) (y := bits l) (p := from') B (by omega) nb.2 y1 (by omega) (fun p0 p1 hz h5 B5 U5 => ?_) fun hn => ?_
    · rw [hz] at e3
      have hm : from' ∉ l := fun hm => by rw [if_pos hm] at e3; cases e3
      rw [← bits_snoc] at B5
      have es : RS.say l from' r.n = l ++ [from'] := by unfold RS.say; rw [if_neg (by rintro (h | h | h); omega; omega; exact hm h)]
      have eM : r.ballot.map (fun l => RS.say l from' r.n) = some (l ++ [from']) := by rw [el]; simp [es]
      rw [eM] at H
      have hs := say_ok (v := from') (n := r.n) ⟨nd, lbd⟩
      rw [es] at hs
      obtain ⟨M5, S5⟩ := reyes (l := l ++ [from']) R ec B5 U5 hs
      exact j2 (Res.of M5 S5) (fun _ => ⟨_, rfl⟩) hk H
    · have hm : from' ∈ l := by
        by_cases hm : from' ∈ l
        · exact hm
        · rw [if_neg hm] at e3; have := hn f0 f1; omega
      have es : RS.say l from' r.n = l := by unfold RS.say; rw [if_pos (.inr (.inr hm))]
      have eM : r.ballot.map (fun l => RS.say l from' r.n) = r.ballot := by rw [el]; simp [es]
      rw [eM] at H
      exact j2 q0 ha hk H
/-- a member takes a message -/
theorem Take_ok {from' : Int} {v : S_api_Msg} {m : Msg} {k : Slc → Heap → Prop} (R : RaftAt O h L r) (ha : r.role = 1 → ∃ l, r.ballot = some l) (hk : r.keeps.length < 999900) (MV : Imm O h fun h => MsgV h v m) (wm : WFm m)
    (H : ∀ s h' L', Res O h L (r.take from' m).1 h' L' → MailsI (G O L') h' s (r.take from' m).2 → (∀ g, s.blk = some g → h.size ≤ g) → k s h') : raft_Raft_Take (some ⟨L.b, 0, none⟩) from' v k h := by
  have wf := R.wf
  have nb := wf.n
  have V := MV.now
  unfold raft_Raft_Take
  refine ⟨_, _, rfl, rfl, ?_⟩
  have X := Ext.push h (.cells (S_api_Msg.cs v).toArray 26) (Nat.le_refl _)
  have C := Blk.push h (S_api_Msg.cs v) 26
  have R2 := R.ext X
  have I2 := MV.ext X
  generalize h.push (.cells (S_api_Msg.cs v).toArray 26) = h2 at *
  obtain ⟨b1, eb⟩ : ∃ y, y = h.size := ⟨_, rfl⟩
  rw [← eb] at C ⊢
  have z2 := X.size
  have q2 : Res O h L r h2 L := Res.of R2 (.of_ext X)
  have ck : ∀ {h' : Heap}, Blk h' b1 (S_api_Msg.cs v) 26 → cellH h' (⟨b1, 0, none⟩ : Addr) = some (.int .i64 m.kind) := fun C => by rw [C.cell, ← V.k.1]; rfl
  have ct : ∀ {h' : Heap}, Blk h' b1 (S_api_Msg.cs v) 26 → cellH h' ((⟨b1, 0, none⟩ : Addr).add 1) = some (.int .u64 m.term) := fun C => by rw [C.get, ← V.k.2.1]; rfl
  have cy : ∀ {h' : Heap}, Blk h' b1 (S_api_Msg.cs v) 26 → cellH h' ((⟨b1, 0, none⟩ : Addr).add 5) = some (.bool m.yes) := fun C => by rw [C.get, ← V.k.2.2.2.2.2]; rfl
  unfold RS.take at H
  -- what is taken, of a term that is its own
  have j1 : ∀ {r5 : RS} {h5 : Heap} {L5 : RLy}, Res O h L r5 h5 L5 → Blk h5 b1 (S_api_Msg.cs v) 26 → Imm (G O L5) h5 (fun h => MsgV h v m) → (r5.role = 1 → ∃ l, r5.ballot = some l) → r5.keeps.length < 999990 → r5.n = r.n → 0 ≤ from' → from' < r.n →
      (∀ s h' L', Res O h L (r5.take2 from' m).1 h' L' → MailsI (G O L') h' s (r5.take2 from' m).2 → (∀ g, s.blk = some g → h.size ≤ g) → k s h') → raft_Raft_Take_j1 (some ⟨L.b, 0, none⟩) from' ⟨b1, 0, none⟩ k h5 := fun {r5 h5 L5} q C5 I5 hA hK hn f0 f1 K => by
    have R5 := q.R
    have z5 := q.S.size
    have up : ∀ {a : RS × List Mail}, r5.take2 from' m = a → ∀ s h' L', Res (G O L5) h5 L5 a.1 h' L' → MailsI (G (G O L5) L') h' s a.2 → (∀ g, s.blk = some g → h5.size ≤ g) → k s h' := fun {a} e s h' L' q' M sb => K s h' L' (by rw [e]; exact q.trans q') (by rw [e]; exact M.sub fun g hg => hg.elim (fun h => .inl (.inl h)) .inr) fun g hg => by have := sb g hg; omega
    have et : r5.take2 from' m = if m.kind = 1 then r5.voted from' m else if m.kind = 2 then (r5.counted from' m).win else if m.kind = 3 then r5.appends from' m else if m.kind = 4 then r5.appended from' m else r5.snapshot from' m := rfl
    unfold raft_Raft_Take_j1
    refine ⟨_, ck C5, ?_⟩
    rw [← q.b]
    by_cases h1 : m.kind = 1
    · rw [if_pos (by simpa using h1)]
      rw [if_pos h1] at et
      exact ⟨v, CellsAt.of_blk C5, voted_ok R5 hK V.k f0 (by omega) (up et)⟩
    rw [if_neg (by simpa using h1)]
    rw [if_neg h1] at et
    by_cases h2 : m.kind = 2
    · rw [if_pos (by simpa using h2)]
      rw [if_pos h2] at et
      refine ⟨_, rfl, _, R5.c 7, ?_⟩
      by_cases hr : r5.role = 1
      · rw [if_pos (by simpa using hr)]
        exact ⟨_, cy C5, counted_ok R5 hA hK f0 (by omega) ⟨fun h => ⟨hr, h⟩, fun h => h.2⟩ (up et)⟩
      · rw [if_neg (by simpa using hr)]
        exact counted_ok R5 hA hK f0 (by omega) ⟨(fun h => by cases h), fun h => absurd h.1 hr⟩ (up et)
    rw [if_neg (by simpa using h2)]
    rw [if_neg h2] at et
    by_cases h3 : m.kind = 3
    · rw [if_pos (by simpa using h3)]
      rw [if_pos h3] at et
      exact ⟨v, CellsAt.of_blk C5, appends_ok R5 hK I5 wm (up et)⟩
    rw [if_neg (by simpa using h3)]
    rw [if_neg h3] at et
    by_cases h4 : m.kind = 4
    · rw [if_pos (by simpa using h4)]
      rw [if_pos h4] at et
      exact ⟨v, CellsAt.of_blk C5, appended_ok R5 V.k wm.i f0 (by omega) (up et)⟩
    rw [if_neg (by simpa using h4)]
    rw [if_neg h4] at et
    exact ⟨v, CellsAt.of_blk C5, snapshot_ok R5 hK I5 wm (up et)⟩
  have bad : (from' < 0 ∨ from' ≥ r.n ∨ from' = r.me ∨ m.kind < 1 ∨ m.kind > 5) → k ⟨none, 0, 0⟩ h2 := fun hb => by
    rw [if_pos hb] at H
    exact H _ h2 L q2 (MailsI.nil _ _) fun g hg => by simp [Slc.blk] at hg
  have g7 : ∀ b : Bool, (b = true ↔ (from' < 0 ∨ from' ≥ r.n ∨ from' = r.me ∨ m.kind < 1 ∨ m.kind > 5)) → raft_Raft_Take_g7 (some ⟨L.b, 0, none⟩) from' ⟨b1, 0, none⟩ b k h2 := fun b hb => by
    unfold raft_Raft_Take_g7
    cases b with
    | true => rw [if_pos rfl]; exact bad (hb.1 rfl)
    | false =>
      rw [if_neg (by simp)]
      have hg : ¬ (from' < 0 ∨ from' ≥ r.n ∨ from' = r.me ∨ m.kind < 1 ∨ m.kind > 5) := fun h => by have := hb.2 h; cases this
      rw [if_neg hg] at H
      refine ⟨_, ct C, _, rfl, _, R2.c 2, ?_⟩
      show if (decide (m.term < r.term)) = true then _ else _
      by_cases h1 : m.term < r.term
      · rw [if_pos (decide_eq_true h1)]
        rw [if_pos h1] at H
        exact ⟨v, CellsAt.of_blk C, late_ok q2.R V.k.1 fun s h' M X' sb => H s h' L (q2.ext X') M fun g hg => by have := sb g hg; omega⟩
      rw [if_neg (by rw [decide_eq_false h1]; simp)]
      rw [if_neg h1] at H
      refine ⟨_, ct C, _, R2.c 2, ?_⟩
      show if (decide (m.term > r.term)) = true then _ else _
      by_cases h2 : m.term > r.term
      · rw [if_pos (decide_eq_true h2)]
        rw [if_pos h2] at H
        refine ⟨_, ct C, follow_ok R2 (by omega) wm.t fun h5 L5 q5 => ?_⟩
        have q25 := q2.trans ⟨q5.R.sub (fun g hg => hg.elim (fun h => h.elim .inl (fun h => .inl (R.ow g h))) .inr) fun g hg => .inr hg, q5.S, q5.F, q5.b⟩
        refine j1 q25 (q5.S.blk C (R2.ne_own C (by decide))) (q5.imm R2 I2) (fun e => by cases e) ?_ ?_ (by omega) (by omega) H
        · show (r.newTerm m.term).keeps.length < _; have := newTerm_keeps (r := r) (t := m.term); omega
        · exact (newTerm_n (r := r) (t := m.term)).1
      · rw [if_neg (by rw [decide_eq_false h2]; simp)]
        rw [if_neg h2] at H
        exact j1 q2 C (I2.mono fun g hg => .inl (hg.elim id (R.ow g))) ha (by omega) rfl (by omega) (by omega) H
  have g6 : ∀ b : Bool, (b = true ↔ (from' < 0 ∨ from' ≥ r.n ∨ from' = r.me ∨ m.kind < 1)) → raft_Raft_Take_g6 (some ⟨L.b, 0, none⟩) from' ⟨b1, 0, none⟩ b k h2 := fun b hb => by
    unfold raft_Raft_Take_g6
    cases b with
    | true => rw [if_pos rfl]; exact g7 _ ⟨fun _ => by have := hb.1 rfl; omega, fun _ => rfl⟩
    | false =>
      rw [if_neg (by simp)]
      have hg : ¬ (from' < 0 ∨ from' ≥ r.n ∨ from' = r.me ∨ m.kind < 1) := fun h => by have := hb.2 h; cases this
      exact ⟨_, ck C, g7 _ (by rw [decide_eq_true_eq]; omega)⟩
  have g5 : ∀ b : Bool, (b = true ↔ (from' < 0 ∨ from' ≥ r.n ∨ from' = r.me)) → raft_Raft_Take_g5 (some ⟨L.b, 0, none⟩) from' ⟨b1, 0, none⟩ b k h2 := fun b hb => by
    unfold raft_Raft_Take_g5
    cases b with
    | true => rw [if_pos rfl]; exact g6 _ ⟨fun _ => by have := hb.1 rfl; omega, fun _ => rfl⟩
    | false =>
      rw [if_neg (by simp)]
      have hg : ¬ (from' < 0 ∨ from' ≥ r.n ∨ from' = r.me) := fun h => by have := hb.2 h; cases this
      exact ⟨_, ck C, g6 _ (by rw [decide_eq_true_eq]; omega)⟩
  have g4 : ∀ b : Bool, (b = true ↔ (from' < 0 ∨ from' ≥ r.n)) → raft_Raft_Take_g4 (some ⟨L.b, 0, none⟩) from' ⟨b1, 0, none⟩ b k h2 := fun b hb => by
    unfold raft_Raft_Take_g4
    cases b with
    | true => rw [if_pos rfl]; exact g5 _ ⟨fun _ => by have := hb.1 rfl; omega, fun _ => rfl⟩
    | false =>
      rw [if_neg (by simp)]
      have hg : ¬ (from' < 0 ∨ from' ≥ r.n) := fun h => by have := hb.2 h; cases this
      refine ⟨_, rfl, _, R2.c0, g5 _ ?_⟩
      rw [beq_iff_eq]; omega
  by_cases hf : from' < 0
  · rw [if_pos (by simpa using hf)]
    exact g4 true ⟨fun _ => .inl hf, fun _ => rfl⟩
  · rw [if_neg (by simpa using hf)]
    refine ⟨_, rfl, _, R2.c 1, g4 _ ?_⟩
    show decide (from' ≥ r.n) = true ↔ _
    rw [decide_eq_true_eq]; omega
theorem RBase_ok {k : Int × Slc → Heap → Prop} (R : RaftAt O h L r) (H : ∀ s h', Row h.size h' 5 1 s (b8 r.snap) → Ext h.size h h' → k (r.log.ix, s) h') : raft_Raft_Base (some ⟨L.b, 0, none⟩) k h := by
  unfold raft_Raft_Base
  rw [if_neg (by simp)]
  have wf := R.wf
  exact ⟨_, rfl, _, R.c 4, Base_ok R.p.l ⟨_, R.c 5, Clone_ok R.p.sl R.p.sn.now (by have := wf.sn.2; omega) H⟩⟩
theorem RCut_ok {p : Int} {p2 : Slc} {snap : List Int} {k : Int → Heap → Prop} (R : RaftAt O h L r) (hk : r.keeps.length < 1000000) (I : Imm O h fun h => SlcAt h p2 (b8 snap)) (hl : p2.len = snap.length) (hB : isB snap) (hz : snap.length ≤ 1099511627776) (p0 : 0 ≤ p ∧ p < 18446744073709551616)
    (H : ∀ h' L', Res O h L (r.cutTo p snap).1 h' L' → k (r.cutTo p snap).2 h') : raft_Raft_Cut (some ⟨L.b, 0, none⟩) p p2 k h := by
  unfold raft_Raft_Cut
  rw [if_neg (by simp)]
  unfold RS.cutTo at H
  refine ⟨_, rfl, _, R.c 6, ?_⟩
  show if (decide (p > r.commit)) = true then _ else _
  by_cases h1 : p > r.commit
  · rw [if_pos (decide_eq_true h1)]
    rw [if_pos h1] at H
    exact H h L (Res.of R (Stp.refl _ _))
  rw [if_neg (by rw [decide_eq_false h1]; simp)]
  rw [if_neg h1] at H
  refine ⟨_, R.c 4, Term_ok R.p.l p0.1 p0.2 ?_⟩
  by_cases h2 : (r.log.termOf p).2 = 0
  · rw [if_neg (by simpa using h2)]
    rw [if_neg (by simpa using h2)] at H
    have tb : 0 ≤ (r.log.termOf p).1 ∧ (r.log.termOf p).1 < 18446744073709551616 := by
      have := R.p.l.t0
      unfold Lg.termOf
      split
      · simp
      · split
        · simp
        · split
          · exact this
          · rename_i h5 h6 h7
            have hlast : r.log.last = r.log.ix + r.log.es.length := rfl
            obtain ⟨e, he⟩ : ∃ e, r.log.es[(p - r.log.ix - 1).toNat]? = some e := ⟨_, List.getElem?_eq_getElem (by omega)⟩
            rw [List.getD_eq_getElem?_getD, he]
            exact (R.p.l.ok _ (List.mem_of_getElem? he)).1
    exact base_ok R hk I hl hB hz p0 tb H
  · rw [if_pos (by simpa using h2)]
    rw [if_pos (by simpa using h2)] at H
    exact H h L (Res.of R (Stp.refl _ _))
end
end Go.Q.Yh

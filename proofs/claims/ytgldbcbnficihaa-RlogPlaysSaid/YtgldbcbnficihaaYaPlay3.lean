/- A part of the proof of statements of this seat: lemmas, no statement of their own. -/
import Derived.Test.YtgldbcbnficihaaYaPlay2
set_option linter.unusedVariables false
set_option linter.unusedSimpArgs false
namespace Go.Q.Ya
abbrev Act := S_quaestorlaw23_Act × List Ent
def actOk (x : Act) : Prop := (0 ≤ x.1.f_Index ∧ x.1.f_Index < 18446744073709551616) ∧ (0 ≤ x.1.f_Term ∧ x.1.f_Term < 18446744073709551616)
/-- acts that came in -/
structure ArgA (B : Nat) (h : Heap) (s : Slc) (acts : List Act) : Prop where
  l : s.len = acts.length
  n : s.a = none → acts = []
  at' : ∀ a, s.a = some a → ∀ (i : Nat) x, acts[i]? = some x → ∀ h', Ext B h h' → CellsAt h' (a.add (i * 4)) (S_quaestorlaw23_Act.cs x.1)
  e : ∀ (i : Nat) x, acts[i]? = some x → actOk x ∧ (∀ h', Ext B h h' → EntsAt h' x.1.f_L x.2) ∧ (small x.2 → esOk x.2) ∧ x.2.length ≤ 9223372036854775807 ∧ ∃ vm, ∀ h', Ext B h h' → RE B h' x.1.f_L x.2 vm
theorem ArgA.ext {B : Nat} {h h' : Heap} {s : Slc} {acts : List Act} (A : ArgA B h s acts) (X : Ext B h h') : ArgA B h' s acts :=
  ⟨A.l, A.n, fun a ha i x hx h2 Y => A.at' a ha i x hx h2 (X.trans Y), fun i x hx => by
    obtain ⟨a, b, c, d, vm, e⟩ := A.e i x hx
    exact ⟨a, fun h2 Y => b h2 (X.trans Y), c, d, vm, fun h2 Y => e h2 (X.trans Y)⟩⟩
theorem ArgA.get {B : Nat} {h : Heap} {s : Slc} {acts : List Act} (A : ArgA B h s acts) {i : Nat} {x : Act} (hx : acts[i]? = some x) : ∃ a, s.a = some a ∧ ∀ h', Ext B h h' → CellsAt h' (a.add (i * 4)) (S_quaestorlaw23_Act.cs x.1) := by
  cases ha : s.a with
  | none => have := A.n ha; subst this; simp at hx
  | some a => exact ⟨a, rfl, A.at' a ha i x hx⟩
/-- both logs -/
def PS (B : Nat) (h : Heap) (bg bx : Nat) (ix tm : Int) (es : List Ent) : Prop := ∃ sg vg sx vx, LogAt B h bg ix tm es sg vg ∧ RL B h bx ix tm es sx vx ∧ (0 < sx.len → ∀ g, sx.blk = some g → sg.blk ≠ some g)
variable {B bg bx : Nat} {h h' : Heap} {ix tm : Int} {es : List Ent}
theorem PS.ext (P : PS B h bg bx ix tm es) (hB : B ≤ h.size) (X : Ext h.size h h') : PS B h' bg bx ix tm es := by
  obtain ⟨sg, vg, sx, vx, L, R, d⟩ := P
  exact ⟨sg, vg, sx, vx, L.ext X, R.ext hB X, d⟩
theorem LogAt.upd {b c : Nat} {s : Slc} {vs : List S_api_Entry} {cs : List Value} (L : LogAt B h b ix tm es s vs) (K : Blk h c cs 73) (U : Upd c h h') : LogAt B h' b ix tm es s vs := by
  have ne : ∀ g cs E, Blk h g cs E → E ≠ 73 → h'[g]? = h[g]? := fun g cs E G hE => U.block g G.lt fun e => by
    subst e
    have := (G.inj K).2; omega
  refine ⟨L.k.old (ne _ _ _ L.k (by omega)), L.o.keep (fun g hg => ?_) (fun g cs G => ne _ _ _ G (by omega)), L.hb⟩
  obtain ⟨cur, G⟩ := Row.blk_of L.o.r hg
  exact ne _ _ _ G (by omega)
theorem RL.lfr {b c : Nat} {ix' tm' : Int} {es' : List Ent} {s sx : Slc} {vs vx : List S_api_Entry} (R : RL B h c ix tm es sx vx) (L : LogAt B h b ix' tm' es' s vs) (hB : B ≤ h.size) (F : LFr b s h h') (d : 0 < sx.len → ∀ g, sx.blk = some g → s.blk ≠ some g) : RL B h' c ix tm es sx vx := by
  have X := F.below hB L.hb fun g hg => (L.o.r.bd hg).1
  have nb : ∀ g cs E, Blk h g cs E → E ≠ 88 → g ≠ b := fun g cs E K hE e => by
    subst e
    have := (K.inj L.k).2; omega
  have ns : ∀ g cs E, Blk h g cs E → E ≠ 64 → s.blk ≠ some g := fun g cs E K hE e => by
    obtain ⟨cur, K'⟩ := Row.blk_of L.o.r e
    have := (K.inj K').2; omega
  exact ⟨R.k.old (F.old _ R.k.lt (nb _ _ _ R.k (by omega)) (ns _ _ _ R.k (by omega))), R.e.to X fun hl g cur hg hb K => F.old _ K.lt (nb _ _ _ K (by omega)) (d hl g hg), R.hb⟩
theorem PS.append {p t : Int} {p3 : Slc} {more : List Ent} {vm : List S_api_Entry} {K1 : Int × Int → Heap → Prop} (P : PS B h bg bx ix tm es) (hB : B ≤ h.size) (M : ∀ h', Ext B h h' → EntsAt h' p3 more) (okm : esOk more) (ME : ∀ h', Ext B h h' → RE B h' p3 more vm) (oke : esOk es)
    (x0 : 0 ≤ ix) (x1 : ix ≤ 4611686018427387904) (p0 : 0 ≤ p) (p1 : p ≤ 4611686018427387904) (hl : es.length ≤ 10000) (hm : more.length ≤ 10000)
    (H : ∀ h1, Ext B h h1 → (∀ c cs, Blk h c cs 70 → Blk h1 c cs 70) → (∀ {k2 : Int × Int → Heap → Prop}, (∀ h2, PS B h2 bg bx ix tm (appRes ix tm es p t more).1 → Ext B h h2 → k2 (appRes ix tm es p t more).2 h2) → ref23_Log_Append (some ⟨bx, 0, none⟩) p t p3 k2 h1) → K1 (appRes ix tm es p t more).2 h1) :
    rlog_Log_Append (some ⟨bg, 0, none⟩) p t p3 K1 h := by
  obtain ⟨sg, vg, sx, vx, L, R, d⟩ := P
  have gb : ∀ g, sg.blk = some g → B ≤ g := fun g hg => (L.o.r.bd hg).1
  refine Append_ok L hB (fun h' F => M h' (F.below hB L.hb gb)) oke okm x0 x1 p0 p1 (by omega) (by omega) fun h1 s1 v1 L1 F1 b1 => ?_
  have X1 := F1.below hB L.hb gb
  refine H h1 X1 (fun c cs K => K.old (F1.old _ K.lt (fun e => ?_) fun e => ?_)) fun {k2} H2 => ?_
  · subst e
    have := (K.inj L.k).2; omega
  · obtain ⟨cur, K'⟩ := Row.blk_of L.o.r e
    have := (K.inj K').2; omega
  have R1 := R.lfr L hB F1 d
  have z1 := X1.size
  refine rAppend_ok R1 (by omega) (fun h' X => ME h' (X1.trans X)) x0 x1 p0 p1 hl hm fun h2 s2 v2 L2 U2 b2 => ?_
  refine H2 h2 ⟨s1, v1, s2, v2, L1.upd R1.k U2, L2, fun h0 g hg hh => ?_⟩ (X1.trans (U2.ext R1.hb (by omega)))
  rcases b2 with rfl | b2
  · rcases b1 with b1 | ⟨g2, b1, b1'⟩
    · rw [b1] at hh; exact d h0 g hg hh
    · rw [b1] at hh; cases hh
      by_cases hb : B ≤ g
      · obtain ⟨cur, K⟩ := R.e.bl h0 g hg hb
        have := K.lt; omega
      · omega
  · have := b2 g hg
    have := (L1.o.r.bd hh).2; omega
theorem PS.cut {p : Int} {K1 : Int → Heap → Prop} (P : PS B h bg bx ix tm es) (hB : B ≤ h.size)
    (x0 : 0 ≤ ix) (x1 : ix ≤ 4611686018427387904) (p0 : 0 ≤ p) (p1 : p < 18446744073709551616) (hl : es.length ≤ 10000)
    (H : ∀ h1, Ext B h h1 → (∀ c cs, Blk h c cs 70 → Blk h1 c cs 70) → (∀ {k2 : Int → Heap → Prop}, (∀ h2, PS B h2 bg bx (cutRes ix tm es p).1 (cutRes ix tm es p).2.1 (cutRes ix tm es p).2.2.1 → Ext B h h2 → k2 (cutRes ix tm es p).2.2.2 h2) → ref23_Log_Cut (some ⟨bx, 0, none⟩) p k2 h1) → K1 (cutRes ix tm es p).2.2.2 h1) :
    rlog_Log_Cut (some ⟨bg, 0, none⟩) p K1 h := by
  obtain ⟨sg, vg, sx, vx, L, R, d⟩ := P
  have gb : ∀ g, sg.blk = some g → B ≤ g := fun g hg => (L.o.r.bd hg).1
  refine Cut_ok L hB x0 x1 p0 p1 (by omega) fun h1 s1 v1 L1 F1 b1 => ?_
  have X1 := F1.below hB L.hb gb
  refine H h1 X1 (fun c cs K => K.old (F1.old _ K.lt (fun e => ?_) fun e => ?_)) fun {k2} H2 => ?_
  · subst e
    have := (K.inj L.k).2; omega
  · obtain ⟨cur, K'⟩ := Row.blk_of L.o.r e
    have := (K.inj K').2; omega
  have R1 := R.lfr L hB F1 d
  have z1 := X1.size
  refine rCut_ok R1 (by omega) x0 x1 p0 p1 (by omega) fun h2 s2 v2 L2 U2 b2 => ?_
  refine H2 h2 ⟨s1, v1, s2, v2, L1.upd R1.k U2, L2, fun h0 g hg hh => ?_⟩ (X1.trans (U2.ext R1.hb (by omega)))
  rcases b2 with rfl | b2
  · rcases b1 g hh with b1 | b1
    · exact d h0 g hg b1
    · by_cases hb : B ≤ g
      · obtain ⟨cur, K⟩ := R.e.bl h0 g hg hb
        have := K.lt; omega
      · omega
  · have := b2 g hg
    have := (L1.o.r.bd hh).2; omega
end Go.Q.Ya

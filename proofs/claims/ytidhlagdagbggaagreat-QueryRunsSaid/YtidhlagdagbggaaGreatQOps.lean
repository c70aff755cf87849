/- A part of the proof of statements of this seat: lemmas, no statement of their own. -/
import Derived.Test.YtidhlagdagbggaaGreatQBase
import Derived.WalkSpells
import Derived.WalkLawsBesides
/- The operations of a walk. -/
namespace Go.Q
set_option linter.unusedVariables false
set_option linter.unusedSimpArgs false

/-! ### a table of types -/
inductive Ty where
  | bool | int (k : IntKind) | string | pointer (e : Nat) | slice (e : Nat) | array (n e : Nat) | map (k e : Nat) | struct (fs : List (Nat × Nat)) | func | iface | other
structure TI where
  d : Ty
  n : Nat
  b : Nat
  z : List Value
abbrev Tab := List (Nat × TI)
def tlk : Tab → Nat → Option TI
  | [], _ => none
  | (s, v) :: r, t => match Nat.beq s t with | true => some v | false => tlk r t
def tyb : Ty → TypeDesc → Bool
  | .bool, .bool => true
  | .int k, .int k' => decide (k = k')
  | .string, .string => true
  | .pointer e, .pointer e' => Nat.beq e e'
  | .slice e, .slice e' => Nat.beq e e'
  | .array n e, .array n' e' => Nat.beq n n' && Nat.beq e e'
  | .map k e, .map k' e' => Nat.beq k k' && Nat.beq e e'
  | .struct fs, .struct gs => decide (gs.toList.map (fun f => (f.type, f.offset)) = fs)
  | .func, .func .. => true
  | .iface, .interface _ => true
  | .other, d => match d with | .struct _ => false | .array .. => false | _ => true
  | _, _ => false
def zb : Value → Value → Bool
  | .bool a, .bool b => a == b
  | .int k a, .int k' b => decide (k = k') && decide (a = b)
  | .string s, .string t => Nat.beq s.size 0 && Nat.beq t.size 0
  | .pointer none, .pointer none => true
  | .slice none 0 0, .slice none 0 0 => true
  | .map none, .map none => true
  | .nilFunc, .nilFunc => true
  | .nilIface, .nilIface => true
  | _, _ => false
theorem zb_eq {u v : Value} (h : zb u v = true) : u = v := by
  unfold zb at h
  split at h <;> first | rfl | (simp at h; done) | skip
  · simpa using h
  · simp at h; rw [h.1, h.2]
  · rename_i s t
    simp only [Bool.and_eq_true] at h
    have h1 := Nat.eq_of_beq_eq_true h.1
    have h2 := Nat.eq_of_beq_eq_true h.2
    have e1 : s = ByteArray.empty := ByteArray.ext (Array.eq_empty_of_size_eq_zero h1)
    have e2 : t = ByteArray.empty := ByteArray.ext (Array.eq_empty_of_size_eq_zero h2)
    rw [e1, e2]
def zsb : List Value → List Value → Bool
  | [], [] => true
  | u :: r, v :: s => zb u v && zsb r s
  | _, _ => false
theorem zsb_eq : ∀ {u v : List Value}, zsb u v = true → u = v
  | [], [], _ => rfl
  | u :: r, v :: s, h => by
    simp only [zsb, Bool.and_eq_true] at h
    rw [zb_eq h.1, zsb_eq h.2]
def isA : Ty → Bool | .struct _ => true | .array .. => true | _ => false
def zob (a : Bool) (zs : List Value) : Option Value → Bool
  | some (.agg cs) => a && zsb cs.toList zs
  | some v => !a && zsb [v] zs
  | none => false
def tiOk (P : Program) (t : Nat) (i : TI) : Bool :=
  match P.underlying t, P.info? t with
  | some d, some ti => tyb i.d d && Nat.beq ti.size i.n && Nat.beq ti.bytes i.b && zob (isA i.d) i.z ti.zero
  | _, _ => false
def tabOk (P : Program) : Tab → Bool
  | [] => true
  | (t, i) :: r => tiOk P t i && tabOk P r
def TOk (P : Program) (T : Tab) : Prop := ∀ t i, tlk T t = some i → tiOk P t i = true
theorem TOk_of {P : Program} : ∀ {T : Tab}, tabOk P T = true → TOk P T
  | [], _, t, i, h => by simp [tlk] at h
  | (s, j) :: r, hb, t, i, h => by
    simp only [tabOk, Bool.and_eq_true] at hb
    simp only [tlk] at h
    cases hst : Nat.beq s t with
    | true =>
      simp only [hst, Option.some.injEq] at h
      have := Nat.eq_of_beq_eq_true hst
      subst this; subst h
      exact hb.1
    | false =>
      simp only [hst] at h
      exact TOk_of hb.2 t i h
theorem tiOk_spec {P : Program} {t : Nat} {i : TI} (h : tiOk P t i = true) : ∃ d ti, P.underlying t = some d ∧ P.info? t = some ti ∧ tyb i.d d = true ∧ ti.size = i.n ∧ ti.bytes = i.b ∧
    ∃ v, ti.zero = some v ∧ v.cells.toList = i.z ∧ (isA i.d = true → v = .agg i.z.toArray) := by
  unfold tiOk at h
  split at h
  · rename_i d ti h1 h2
    simp only [Bool.and_eq_true] at h
    obtain ⟨⟨⟨a, b⟩, c⟩, dd⟩ := h
    refine ⟨d, ti, h1, h2, a, Nat.eq_of_beq_eq_true b, Nat.eq_of_beq_eq_true c, ?_⟩
    unfold zob at dd
    split at dd
    · rename_i cs hz
      simp only [Bool.and_eq_true] at dd
      have := zsb_eq dd.2
      exact ⟨_, hz, by simpa [Value.cells] using this, fun _ => by rw [← this]⟩
    · rename_i v hn hz
      simp only [Bool.and_eq_true, Bool.not_eq_true'] at dd
      have := zsb_eq dd.2
      refine ⟨_, hz, ?_, fun h => by rw [dd.1] at h; cases h⟩
      rw [← this]
      cases v <;> simp_all [Value.cells]
    · cases dd
  · cases h
theorem tyb_agg {d : Ty} {td : TypeDesc} (h : tyb d td = true) : (match td with | .struct _ => true | .array .. => true | _ => false) = isA d := by
  cases d <;> cases td <;> first | rfl | cases h
theorem run_isAgg {P : Program} {t : Nat} {i : TI} (h : tiOk P t i = true) (w : World) : (isAgg t).run P w = .ok (isA i.d) w := by
  obtain ⟨d, ti, h1, h2, h3, _⟩ := tiOk_spec h
  rw [← tyb_agg h3]
  cases d <;> simp [isAgg, run_underlying h1]
theorem run_sizeOf' {P : Program} {t : Nat} {i : TI} (h : tiOk P t i = true) (w : World) : (sizeOf t).run P w = .ok i.n w := by
  obtain ⟨d, ti, h1, h2, h3, h4, _⟩ := tiOk_spec h
  simp [sizeOf, typeInfo, h2, h4]

/-! ### values that are reckoned -/
def pbinI : BinOp → IntKind → Int → Int → Option Value
  | .add, k, a, b => some (.int k (k.wrap (a + b)))
  | .sub, k, a, b => some (.int k (k.wrap (a - b)))
  | .mul, k, a, b => some (.int k (k.wrap (a * b)))
  | .eql, _, a, b => some (.bool (a == b))
  | .neq, _, a, b => some (.bool (a != b))
  | .lss, _, a, b => some (.bool (decide (a < b)))
  | .leq, _, a, b => some (.bool (decide (a ≤ b)))
  | .gtr, _, a, b => some (.bool (decide (a > b)))
  | .geq, _, a, b => some (.bool (decide (a ≥ b)))
  | .and, k, a, b => some (.int k (k.wrap (BitVec.ofInt k.bits a &&& BitVec.ofInt k.bits b).toNat))
  | .or, k, a, b => some (.int k (k.wrap (BitVec.ofInt k.bits a ||| BitVec.ofInt k.bits b).toNat))
  | .xor, k, a, b => some (.int k (k.wrap (BitVec.ofInt k.bits a ^^^ BitVec.ofInt k.bits b).toNat))
  | .andNot, k, a, b => some (.int k (k.wrap (BitVec.ofInt k.bits a &&& ~~~BitVec.ofInt k.bits b).toNat))
  | _, _, _, _ => none
def pbinS : BinOp → ByteArray → ByteArray → Option Value
  | .eql, a, b => some (.bool (a.toList == b.toList))
  | .neq, a, b => some (.bool !(a.toList == b.toList))
  | .lss, a, b => some (.bool (Op.bytesLess a.toList b.toList))
  | .leq, a, b => some (.bool (Op.bytesLess a.toList b.toList || a.toList == b.toList))
  | .gtr, a, b => some (.bool !(Op.bytesLess a.toList b.toList || a.toList == b.toList))
  | .geq, a, b => some (.bool !(Op.bytesLess a.toList b.toList))
  | _, _, _ => none
def peq (T : Tab) (t : Nat) : Value → Value → Option Bool
  | .bool a, .bool b => match tlk T t with | some ⟨.bool, _, _, _⟩ => some (a == b) | _ => none
  | .pointer a, .pointer none => match tlk T t with | some ⟨.pointer _, _, _, _⟩ => some a.isNone | _ => none
  | .slice a _ _, .slice none 0 0 => match tlk T t with | some ⟨.slice _, _, _, _⟩ => some a.isNone | _ => none
  | .map a, .map none => match tlk T t with | some ⟨.map .., _, _, _⟩ => some a.isNone | _ => none
  | _, _ => none
def pbin (T : Tab) (op : BinOp) (t : Nat) (a b : Value) : Option Value :=
  match a, b with
  | .int k x, .int k' y => if k = k' then pbinI op k x y else none
  | .string x, .string y => pbinS op x y
  | a, b => match op with
    | .eql => match peq T t a b with | some r => some (.bool r) | none => none
    | .neq => match peq T t a b with | some r => some (.bool !r) | none => none
    | _ => none
theorem pbinI_run {P : Program} {w : World} {op : BinOp} {t : Nat} {k : IntKind} {a b : Int} {v : Value} (h : pbinI op k a b = some v) : (binOp op t (.int k a) (.int k b)).run P w = .ok v w := by
  cases op <;> simp only [pbinI, Option.some.injEq, reduceCtorEq] at h <;> subst h <;> simp [go_sem, Op.intArith, Op.intBits]
theorem pbinS_run {P : Program} {w : World} {op : BinOp} {t : Nat} {a b : ByteArray} {v : Value} (h : pbinS op a b = some v) : (binOp op t (.string a) (.string b)).run P w = .ok v w := by
  cases op <;> simp only [pbinS, Option.some.injEq, reduceCtorEq] at h <;> subst h <;> simp [go_sem]
theorem tk_spec {P : Program} {T : Tab} (hT : TOk P T) {t : Nat} {d : Ty} {n b : Nat} {z : List Value} (h : tlk T t = some ⟨d, n, b, z⟩) : ∃ td, P.underlying t = some td ∧ tyb d td = true := by
  obtain ⟨td, _, h1, _, h3, _⟩ := tiOk_spec (hT t _ h)
  exact ⟨td, h1, h3⟩
theorem peq_run {P : Program} {T : Tab} (hT : TOk P T) {w : World} {t : Nat} {a b : Value} {r : Bool} (h : peq T t a b = some r) :
    (binOp .eql t a b).run P w = .ok (.bool r) w ∧ (binOp .neq t a b).run P w = .ok (.bool !r) w := by
  unfold peq at h
  split at h
  · split at h
    · rename_i hk
      simp only [Option.some.injEq] at h; subst h
      obtain ⟨td, h1, h3⟩ := tk_spec hT hk
      cases td <;> try (cases h3; done)
      exact ⟨run_eql_bool w _ _ _ h1, run_neq_bool w _ _ _ h1⟩
    · cases h
  · split at h
    · rename_i hk
      simp only [Option.some.injEq] at h; subst h
      obtain ⟨td, h1, h3⟩ := tk_spec hT hk
      cases td <;> try (cases h3; done)
      have h1' : P.underlying t = some (.pointer (P.pointee t)) := by simp [Program.pointee, h1]
      exact ⟨run_eql_pointer_nil w _ _ h1', run_neq_pointer_nil w _ _ h1'⟩
    · cases h
  · split at h
    · rename_i hk
      simp only [Option.some.injEq] at h; subst h
      obtain ⟨td, h1, h3⟩ := tk_spec hT hk
      cases td <;> try (cases h3; done)
      exact ⟨Lib.run_eql_slice_nil w _ _ _ _ _ 0 0 h1, run_neq_slice_nil w _ _ _ _ _ h1⟩
    · cases h
  · split at h
    · rename_i hk
      simp only [Option.some.injEq] at h; subst h
      obtain ⟨td, h1, h3⟩ := tk_spec hT hk
      cases td <;> try (cases h3; done)
      exact ⟨run_eql_map_nil w _ _ _ _ h1, run_neq_map_nil w _ _ _ _ h1⟩
    · cases h
  · cases h
theorem pbin_run {P : Program} {T : Tab} (hT : TOk P T) {w : World} {op : BinOp} {t : Nat} {a b v : Value} (h : pbin T op t a b = some v) : (binOp op t a b).run P w = .ok v w := by
  unfold pbin at h
  split at h
  · split at h
    · rename_i hk; subst hk; exact pbinI_run h
    · cases h
  · exact pbinS_run h
  · split at h
    · split at h
      · rename_i hr; simp only [Option.some.injEq] at h; subst h; exact (peq_run hT hr).1
      · cases h
    · split at h
      · rename_i hr; simp only [Option.some.injEq] at h; subst h; exact (peq_run hT hr).2
      · cases h
    · cases h

def shl (k : IntKind) (a : Int) (n : Nat) : Int := k.wrap (a * 2 ^ (min n k.bits))
def shr (k : IntKind) (a : Int) (n : Nat) : Int := a.fdiv (2 ^ (min n k.bits))
def pev (T : Tab) (e : Env) (op : Op) : Option Value :=
  match op with
  | .move x => evO e x
  | .assign x => evO e x
  | .pick c x y => match evO e c with | some (.bool true) => evO e x | some (.bool false) => evO e y | _ => none
  | .binOp .quo _ x y _ => match evO e x, evO e y with | some (.int k a), some (.int k' b) => if k = k' then (if b = 0 then none else some (.int k (k.wrap (a.tdiv b)))) else none | _, _ => none
  | .binOp .rem _ x y _ => match evO e x, evO e y with | some (.int k a), some (.int k' b) => if k = k' then (if b = 0 then none else some (.int k (a.tmod b))) else none | _, _ => none
  | .binOp .shl _ x y _ => match evO e x, evO e y with | some (.int k a), some (.int _ b) => if b < 0 then none else some (.int k (shl k a b.toNat)) | _, _ => none
  | .binOp .shr _ x y _ => match evO e x, evO e y with | some (.int k a), some (.int _ b) => if b < 0 then none else some (.int k (shr k a b.toNat)) | _, _ => none
  | .binOp op t x y _ => match evO e x, evO e y with | some a, some b => pbin T op t a b | _, _ => none
  | .unOp .not _ x => match evO e x with | some (.bool b) => some (.bool !b) | _ => none
  | .unOp .neg _ x => match evO e x with | some (.int k n) => some (.int k (k.wrap (0 - n))) | _ => none
  | .convert s d x => match tlk T s, tlk T d, evO e x with
    | some _, some ⟨.int k, _, _, _⟩, some (.int _ n) => some (.int k (k.wrap n))
    | some _, some ⟨.string, _, _, _⟩, some (.string s) => some (.string s)
    | _, _, _ => none
  | .extract x i => match evO e x with | some (.tuple vs) => vs.toList[i]? | _ => none
  | .fieldAddr t x f => match tlk T t, evO e x with
    | some ⟨.struct fs, _, _, _⟩, some (.pointer (some a)) => match fs[f]? with
      | some (ft, off) => match tlk T ft with | some ⟨_, _ + 1, _, _⟩ => some (.pointer (some (a.add off))) | _ => none
      | none => none
    | _, _ => none
  | .field t x f => match tlk T t, evO e x with
    | some ⟨.struct fs, _, _, _⟩, some (.agg cs) => match fs[f]? with
      | some (ft, off) => match tlk T ft with
        | some ⟨d, n, _, _⟩ => match isA d with | true => some (.agg ((cs.toList.drop off).take n).toArray) | false => cs.toList[off]?
        | none => none
      | none => none
    | _, _ => none
  | .call { callee := .builtin .len, args := as, argTypes := ts } => match as.toList, ts.toList with
    | [x], [t] => match tlk T t, evO e x with
      | some ⟨.slice _, _, _, _⟩, some (.slice _ n _) => some (.int .i64 n)
      | some ⟨.string, _, _, _⟩, some (.string s) => some (.int .i64 s.size)
      | some ⟨.array n _, _, _, _⟩, some _ => some (.int .i64 n)
      | _, _ => none
    | _, _ => none
  | .call { callee := .builtin .min, args := as, argTypes := _ } => match as.toList with
    | [x, y] => match evO e x, evO e y with
      | some (.int k a), some (.int _ b) => some (.int k (if b < a then b else a))
      | _, _ => none
    | _ => none
  | .call { callee := .builtin .max, args := as, argTypes := _ } => match as.toList with
    | [x, y] => match evO e x, evO e y with
      | some (.int k a), some (.int _ b) => some (.int k (if b > a then b else a))
      | _, _ => none
    | _ => none
  | _ => none

theorem run_eqGuard_ok {P : Program} {w : World} (op : BinOp) (t : Nat) (x y : Operand) (a b : Value) (h : (op ≠ .eql ∧ op ≠ .neq) ∨ ((∀ cs, a ≠ .agg cs) ∧ a ≠ .nilIface)) : (eqGuard op t x y a b).run P w = .ok () w := by
  unfold eqGuard
  cases op <;> simp at h ⊢
  all_goals
    obtain ⟨h1, h2⟩ := h
    cases a <;> simp_all
theorem pbin_guard {T : Tab} {op : BinOp} {t : Nat} {a b v : Value} (h : pbin T op t a b = some v) : ((∀ cs, a ≠ .agg cs) ∧ a ≠ .nilIface) := by
  unfold pbin at h
  split at h
  · simp
  · simp
  · split at h
    · split at h
      · rename_i hr
        unfold peq at hr
        split at hr <;> first | (simp; done) | (cases hr; done)
      · cases h
    · split at h
      · rename_i hr
        unfold peq at hr
        split at hr <;> first | (simp; done) | (cases hr; done)
      · cases h
    · cases h
theorem ty_int {k : IntKind} {td : TypeDesc} (h : tyb (.int k) td = true) : td = .int k := by
  cases td <;> try (cases h; done)
  simp only [tyb, decide_eq_true_eq] at h; rw [h]
theorem ty_string {td : TypeDesc} (h : tyb .string td = true) : td = .string := by
  cases td <;> try (cases h; done)
  rfl
theorem ty_slice {e : Nat} {td : TypeDesc} (h : tyb (.slice e) td = true) : td = .slice e := by
  cases td <;> try (cases h; done)
  rw [Nat.eq_of_beq_eq_true h]
theorem ty_array {n e : Nat} {td : TypeDesc} (h : tyb (.array n e) td = true) : td = .array n e := by
  cases td <;> try (cases h; done)
  simp only [tyb, Bool.and_eq_true] at h
  rw [Nat.eq_of_beq_eq_true h.1, Nat.eq_of_beq_eq_true h.2]
theorem ty_struct {fs : List (Nat × Nat)} {td : TypeDesc} (h : tyb (.struct fs) td = true) : ∃ gs, td = .struct gs ∧ gs.toList.map (fun f => (f.type, f.offset)) = fs := by
  cases td <;> try (cases h; done)
  exact ⟨_, rfl, of_decide_eq_true h⟩
theorem struct_field {fs : List (Nat × Nat)} {gs : Array Field} (h : gs.toList.map (fun f => (f.type, f.offset)) = fs) {i ft off : Nat} (hf : fs[i]? = some (ft, off)) : ∃ f, gs[i]? = some f ∧ f.type = ft ∧ f.offset = off := by
  subst h
  simp only [List.getElem?_map, Option.map_eq_some_iff, Prod.mk.injEq, Array.getElem?_toList] at hf
  obtain ⟨f, h1, h2, h3⟩ := hf
  exact ⟨f, h1, h2, h3⟩
theorem pev_run {P : Program} {T : Tab} (hT : TOk P T) {e : Env} {h : Heap} {o : Oper} {v : Value} (hp : pev T e o.op = some v) : Yl P e h o v := by
  intro ρ w hA hw
  unfold execOp
  generalize o.op = op at hp
  unfold pev at hp
  split at hp
  · simp [hA _ _ hp]
  · simp [hA _ _ hp]
  · split at hp
    · rename_i hc; simp [hA _ _ hc, hA _ _ hp, asBool]
    · rename_i hc; simp [hA _ _ hc, hA _ _ hp, asBool]
    · cases hp
  · split at hp
    · rename_i h1 h2
      split at hp
      · rename_i hk; subst hk
        split at hp
        · cases hp
        · rename_i hb; simp only [Option.some.injEq] at hp; subst hp
          simp [hA _ _ h1, hA _ _ h2, binOp, Op.intDiv, hb, run_eqGuard_ok]
      · cases hp
    · cases hp
  · split at hp
    · rename_i h1 h2
      split at hp
      · rename_i hk; subst hk
        split at hp
        · cases hp
        · rename_i hb; simp only [Option.some.injEq] at hp; subst hp
          simp [hA _ _ h1, hA _ _ h2, binOp, Op.intDiv, hb, run_eqGuard_ok]
      · cases hp
    · cases hp
  · split at hp
    · rename_i h1 h2
      split at hp
      · cases hp
      · rename_i hb; simp only [Option.some.injEq] at hp; subst hp
        simp [hA _ _ h1, hA _ _ h2, binOp_shl, Op.shift, hb, shl, run_eqGuard_ok]
    · cases hp
  · split at hp
    · rename_i h1 h2
      split at hp
      · cases hp
      · rename_i hb; simp only [Option.some.injEq] at hp; subst hp
        simp [hA _ _ h1, hA _ _ h2, binOp_shr, Op.shift, hb, shr, run_eqGuard_ok]
    · cases hp
  · split at hp
    · rename_i h1 h2
      simp [hA _ _ h1, hA _ _ h2, pbin_run hT hp, run_eqGuard_ok _ _ _ _ _ _ (.inr (pbin_guard hp))]
    · cases hp
  · split at hp
    · rename_i h1
      simp only [Option.some.injEq] at hp; subst hp
      simp [hA _ _ h1, Op.unary]
    · cases hp
  · split at hp
    · rename_i h1
      simp only [Option.some.injEq] at hp; subst hp
      simp [hA _ _ h1, Op.unary, Op.intArith]
    · cases hp
  · split at hp
    · rename_i h0 h1 h2
      simp only [Option.some.injEq] at hp; subst hp
      obtain ⟨sd, _, s1, _⟩ := tiOk_spec (hT _ _ h0)
      obtain ⟨td, k1, k3⟩ := tk_spec hT h1
      rw [ty_int k3] at k1
      simp [hA _ _ h2, convert, run_underlying s1, run_underlying k1, Conv.intToInt]
    · rename_i h0 h1 h2
      simp only [Option.some.injEq] at hp; subst hp
      obtain ⟨sd, _, s1, _⟩ := tiOk_spec (hT _ _ h0)
      obtain ⟨td, k1, k3⟩ := tk_spec hT h1
      rw [ty_string k3] at k1
      simp [hA _ _ h2, convert, run_underlying s1, run_underlying k1]
    · cases hp
  · split at hp
    · rename_i h1
      simp [hA _ _ h1, Instr.extract]
      simp at hp
      simp [hp]
    · cases hp
  · split at hp
    · rename_i h1 h2
      split at hp
      · rename_i ft off hf
        split at hp
        · rename_i hn
          simp only [Option.some.injEq] at hp; subst hp
          obtain ⟨td, k1, k3⟩ := tk_spec hT h1
          obtain ⟨gs, rfl, hgs⟩ := ty_struct k3
          obtain ⟨f, f1, f2, f3⟩ := struct_field hgs hf
          subst f2; subst f3
          simp [hA _ _ h2, Instr.fieldAt, run_underlying k1, f1, Instr.sureAddr, fieldPlace, run_sizeOf' (hT _ _ hn)]
        · cases hp
      · cases hp
    · cases hp
  · split at hp
    · rename_i h1 h2
      split at hp
      · rename_i ft off hf
        split at hp
        · rename_i d n _ _ hn
          obtain ⟨td, k1, k3⟩ := tk_spec hT h1
          obtain ⟨gs, rfl, hgs⟩ := ty_struct k3
          obtain ⟨f, f1, f2, f3⟩ := struct_field hgs hf
          subst f2; subst f3
          cases hd : isA d with
          | true =>
            simp only [hd, Option.some.injEq] at hp; subst hp
            simp [hA _ _ h2, Instr.field, run_underlying k1, f1, part, asAgg, run_isAgg (hT _ _ hn), hd, run_sizeOf' (hT _ _ hn)]
            apply Array.toList_inj.1
            simp [List.drop_take]
          | false =>
            simp only [hd] at hp
            simp at hp
            simp [hA _ _ h2, Instr.field, run_underlying k1, f1, part, asAgg, run_isAgg (hT _ _ hn), hd, hp]
        · cases hp
      · cases hp
    · cases hp
  · rename_i as ts
    split at hp
    · rename_i x t ha ht
      have ha' : as = #[x] := Array.toList_inj.1 (by simpa using ha)
      have ht' : ts = #[t] := Array.toList_inj.1 (by simpa using ht)
      subst ha'; subst ht'
      split at hp
      · rename_i h1 h2
        simp only [Option.some.injEq] at hp; subst hp
        obtain ⟨td, k1, k3⟩ := tk_spec hT h1
        rw [ty_slice k3] at k1
        simp [resolve, invoke, builtin, hA _ _ h2, Builtin.len_, run_underlying k1, goInt]
      · rename_i h1 h2
        simp only [Option.some.injEq] at hp; subst hp
        obtain ⟨td, k1, k3⟩ := tk_spec hT h1
        rw [ty_string k3] at k1
        simp [resolve, invoke, builtin, hA _ _ h2, Builtin.len_, run_underlying k1, goInt]
      · rename_i h1 h2
        simp only [Option.some.injEq] at hp; subst hp
        obtain ⟨td, k1, k3⟩ := tk_spec hT h1
        rw [ty_array k3] at k1
        simp [resolve, invoke, builtin, hA _ _ h2, Builtin.len_, run_underlying k1, goInt]
      · cases hp
    · cases hp
  · rename_i as ts
    split at hp
    · rename_i x y ha
      have ha' : as = #[x, y] := Array.toList_inj.1 (by simpa using ha)
      subst ha'
      split at hp
      · rename_i h1 h2
        simp only [Option.some.injEq] at hp; subst hp
        simp [resolve, invoke, builtin, hA _ _ h1, hA _ _ h2, Builtin.min_, Builtin.min2]
      · cases hp
    · cases hp
  · rename_i as ts
    split at hp
    · rename_i x y ha
      have ha' : as = #[x, y] := Array.toList_inj.1 (by simpa using ha)
      subst ha'
      split at hp
      · rename_i h1 h2
        simp only [Option.some.injEq] at hp; subst hp
        simp [resolve, invoke, builtin, hA _ _ h1, hA _ _ h2, Builtin.max_, Builtin.max2]
      · cases hp
    · cases hp
  · cases hp
end Go.Q

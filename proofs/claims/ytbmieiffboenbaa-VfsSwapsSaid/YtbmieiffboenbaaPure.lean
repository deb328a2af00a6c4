/- Operations that look at no memory, worked out on known operands; each agrees with the model's run in every world. No condition. -/
import Derived.Test.YtbmieiffboenbaaCore
import Derived.Laws.Sem
import Derived.Laws.Small
namespace Go.Sw

def binV (P : Program) (op : BinOp) (t : TypeId) : Value → Value → Option Value
  | .int k a, .int k' b =>
    match op with
    | .shl => if b < 0 then none else some (.int k (k.wrap (a * 2 ^ (min b.toNat k.bits))))
    | .shr => if b < 0 then none else some (.int k (a.fdiv (2 ^ (min b.toNat k.bits))))
    | .add => if k = k' then some (.int k (k.wrap (a + b))) else none
    | .sub => if k = k' then some (.int k (k.wrap (a - b))) else none
    | .mul => if k = k' then some (.int k (k.wrap (a * b))) else none
    | .quo => if k = k' then (if b = 0 then none else some (.int k (k.wrap (a.tdiv b)))) else none
    | .rem => if k = k' then (if b = 0 then none else some (.int k (a.tmod b))) else none
    | .and => if k = k' then some (.int k (k.wrap (BitVec.ofInt k.bits a &&& BitVec.ofInt k.bits b).toNat)) else none
    | .or => if k = k' then some (.int k (k.wrap (BitVec.ofInt k.bits a ||| BitVec.ofInt k.bits b).toNat)) else none
    | .xor => if k = k' then some (.int k (k.wrap (BitVec.ofInt k.bits a ^^^ BitVec.ofInt k.bits b).toNat)) else none
    | .andNot => if k = k' then some (.int k (k.wrap (BitVec.ofInt k.bits a &&& ~~~BitVec.ofInt k.bits b).toNat)) else none
    | .eql => if k = k' then some (.bool (a == b)) else none
    | .neq => if k = k' then some (.bool (a != b)) else none
    | .lss => if k = k' then some (.bool (decide (a < b))) else none
    | .leq => if k = k' then some (.bool (decide (a ≤ b))) else none
    | .gtr => if k = k' then some (.bool (decide (a > b))) else none
    | .geq => if k = k' then some (.bool (decide (a ≥ b))) else none
  | .string a, .string b =>
    match op with
    | .eql => some (.bool (a.toList == b.toList))
    | .neq => some (.bool !(a.toList == b.toList))
    | .lss => some (.bool (Op.bytesLess a.toList b.toList))
    | .leq => some (.bool (Op.bytesLess a.toList b.toList || a.toList == b.toList))
    | .gtr => some (.bool !(Op.bytesLess a.toList b.toList || a.toList == b.toList))
    | .geq => some (.bool !(Op.bytesLess a.toList b.toList))
    | _ => none
  | .bool a, .bool b =>
    match op, P.underlying t with
    | .eql, some .bool => some (.bool (a == b))
    | .neq, some .bool => some (.bool !(a == b))
    | _, _ => none
  | .pointer none, .pointer b =>
    match op, P.underlying t with
    | .eql, some (.pointer _) => some (.bool b.isNone)
    | .neq, some (.pointer _) => some (.bool !b.isNone)
    | _, _ => none
  | .pointer (some _), .pointer none =>
    match op, P.underlying t with
    | .eql, some (.pointer _) => some (.bool false)
    | .neq, some (.pointer _) => some (.bool true)
    | _, _ => none
  | .slice none _ _, .slice b _ _ =>
    match op, P.underlying t with
    | .eql, some (.slice _) => some (.bool b.isNone)
    | .neq, some (.slice _) => some (.bool !b.isNone)
    | _, _ => none
  | .slice (some _) _ _, .slice none _ _ =>
    match op, P.underlying t with
    | .eql, some (.slice _) => some (.bool false)
    | .neq, some (.slice _) => some (.bool true)
    | _, _ => none
  | .map none, .map b =>
    match op, P.underlying t with
    | .eql, some (.map _ _) => some (.bool b.isNone)
    | .neq, some (.map _ _) => some (.bool !b.isNone)
    | _, _ => none
  | .map (some _), .map none =>
    match op, P.underlying t with
    | .eql, some (.map _ _) => some (.bool false)
    | .neq, some (.map _ _) => some (.bool true)
    | _, _ => none
  | _, _ => none

theorem equal_bool' {P : Program} {t : TypeId} (h : P.underlying t = some .bool) (a b : Bool) (d : Nat) (w : World) : (Op.equalIn (d + 1) t (.bool a) (.bool b)).run P w = .ok (a == b) w := by
  simp [Op.equalIn, run_underlying h]
theorem equal_bool {P : Program} {t : TypeId} (h : P.underlying t = some .bool) (a b : Bool) (w : World) : (Op.equal t (.bool a) (.bool b)).run P w = .ok (a == b) w := equal_bool' h a b 9999 w
theorem equal_ptr' {P : Program} {t e : TypeId} (h : P.underlying t = some (.pointer e)) (b : Option Addr) (d : Nat) (w : World) : (Op.equalIn (d + 1) t (.pointer none) (.pointer b)).run P w = .ok b.isNone w := by
  simp [Op.equalIn, run_underlying h]
theorem equal_ptr {P : Program} {t e : TypeId} (h : P.underlying t = some (.pointer e)) (b : Option Addr) (w : World) : (Op.equal t (.pointer none) (.pointer b)).run P w = .ok b.isNone w := equal_ptr' h b 9999 w
theorem equal_ptr2' {P : Program} {t e : TypeId} (h : P.underlying t = some (.pointer e)) (a : Addr) (d : Nat) (w : World) : (Op.equalIn (d + 1) t (.pointer (some a)) (.pointer none)).run P w = .ok false w := by
  simp [Op.equalIn, run_underlying h]
theorem equal_ptr2 {P : Program} {t e : TypeId} (h : P.underlying t = some (.pointer e)) (a : Addr) (w : World) : (Op.equal t (.pointer (some a)) (.pointer none)).run P w = .ok false w := equal_ptr2' h a 9999 w
theorem equal_slice' {P : Program} {t e : TypeId} (h : P.underlying t = some (.slice e)) (n c n' c' : Nat) (b : Option Addr) (d : Nat) (w : World) : (Op.equalIn (d + 1) t (.slice none n c) (.slice b n' c')).run P w = .ok b.isNone w := by
  simp [Op.equalIn, run_underlying h]
theorem equal_slice {P : Program} {t e : TypeId} (h : P.underlying t = some (.slice e)) (n c n' c' : Nat) (b : Option Addr) (w : World) : (Op.equal t (.slice none n c) (.slice b n' c')).run P w = .ok b.isNone w := equal_slice' h n c n' c' b 9999 w
theorem equal_slice2' {P : Program} {t e : TypeId} (h : P.underlying t = some (.slice e)) (n c n' c' : Nat) (a : Addr) (d : Nat) (w : World) : (Op.equalIn (d + 1) t (.slice (some a) n c) (.slice none n' c')).run P w = .ok false w := by
  simp [Op.equalIn, run_underlying h]
theorem equal_slice2 {P : Program} {t e : TypeId} (h : P.underlying t = some (.slice e)) (n c n' c' : Nat) (a : Addr) (w : World) : (Op.equal t (.slice (some a) n c) (.slice none n' c')).run P w = .ok false w := equal_slice2' h n c n' c' a 9999 w
theorem equal_map' {P : Program} {t e k : TypeId} (h : P.underlying t = some (.map k e)) (b : Option Nat) (d : Nat) (w : World) : (Op.equalIn (d + 1) t (.map none) (.map b)).run P w = .ok b.isNone w := by
  simp [Op.equalIn, run_underlying h]
theorem equal_map {P : Program} {t e k : TypeId} (h : P.underlying t = some (.map k e)) (b : Option Nat) (w : World) : (Op.equal t (.map none) (.map b)).run P w = .ok b.isNone w := equal_map' h b 9999 w
theorem equal_map2' {P : Program} {t e k : TypeId} (h : P.underlying t = some (.map k e)) (a : Nat) (d : Nat) (w : World) : (Op.equalIn (d + 1) t (.map (some a)) (.map none)).run P w = .ok false w := by
  simp [Op.equalIn, run_underlying h]
theorem equal_map2 {P : Program} {t e k : TypeId} (h : P.underlying t = some (.map k e)) (a : Nat) (w : World) : (Op.equal t (.map (some a)) (.map none)).run P w = .ok false w := equal_map2' h a 9999 w

theorem binV_sound {P : Program} {op : BinOp} {t : TypeId} {x y v : Value} (h : binV P op t x y = some v) (w : World) : (binOp op t x y).run P w = .ok v w := by
  cases x <;> cases y <;> (try (simp [binV] at h; done))
  case int.int k a k' b =>
    cases op <;> simp only [binV] at h
    case shl => (split at h); (simp at h); (rename_i hb; injection h with h; subst h; simp only [binOp, Op.shift, if_neg hb]; rfl)
    case shr => (split at h); (simp at h); (rename_i hb; injection h with h; subst h; simp only [binOp, Op.shift, if_neg hb]; rfl)
    case quo => (split at h; split at h) <;> simp_all [binOp, Op.intDiv]
    case rem => (split at h; split at h) <;> simp_all [binOp, Op.intDiv]
    all_goals
      split at h
      · simp_all [binOp, Op.intArith, Op.intBits, Op.intCmp]
      · simp at h
  case string.string a b => cases op <;> simp only [binV, Option.some.injEq, reduceCtorEq] at h <;> (subst h; simp [binOp, Op.stringOp])
  case bool.bool a b =>
    simp only [binV] at h
    split at h <;> simp_all [binOp, equal_bool]
  case pointer.pointer a b =>
    cases a
    · simp only [binV] at h
      split at h
      · rename_i hu; simp only [Option.some.injEq] at h; subst h; cases b <;> simp [binOp, equal_ptr hu]
      · rename_i hu; simp only [Option.some.injEq] at h; subst h; cases b <;> simp [binOp, equal_ptr hu]
      · simp at h
    · cases b
      · simp only [binV] at h
        split at h
        · rename_i hu; simp only [Option.some.injEq] at h; subst h; simp [binOp, equal_ptr2 hu]
        · rename_i hu; simp only [Option.some.injEq] at h; subst h; simp [binOp, equal_ptr2 hu]
        · simp at h
      · simp [binV] at h
  case slice.slice a n c b n' c' =>
    cases a
    · simp only [binV] at h
      split at h
      · rename_i hu; simp only [Option.some.injEq] at h; subst h; simp [binOp, equal_slice hu]
      · rename_i hu; simp only [Option.some.injEq] at h; subst h; simp [binOp, equal_slice hu]
      · simp at h
    · cases b
      · simp only [binV] at h
        split at h
        · rename_i hu; simp only [Option.some.injEq] at h; subst h; simp [binOp, equal_slice2 hu]
        · rename_i hu; simp only [Option.some.injEq] at h; subst h; simp [binOp, equal_slice2 hu]
        · simp at h
      · simp [binV] at h
  case map.map a b =>
    cases a
    · simp only [binV] at h
      split at h
      · rename_i hu; simp only [Option.some.injEq] at h; subst h; simp [binOp, equal_map hu]
      · rename_i hu; simp only [Option.some.injEq] at h; subst h; simp [binOp, equal_map hu]
      · simp at h
    · cases b
      · simp only [binV] at h
        split at h
        · rename_i hu; simp only [Option.some.injEq] at h; subst h; simp [binOp, equal_map2 hu]
        · rename_i hu; simp only [Option.some.injEq] at h; subst h; simp [binOp, equal_map2 hu]
        · simp at h
      · simp [binV] at h

def unV : UnOp → Value → Option Value
  | .neg, .int k n => some (.int k (k.wrap (0 - n)))
  | .xor, .int k n => some (.int k (k.wrap (BitVec.ofInt k.bits (if k.signed then -1 else k.max) ^^^ BitVec.ofInt k.bits n).toNat))
  | .not, .bool b => some (.bool !b)
  | _, _ => none

theorem unV_sound {P : Program} {op : UnOp} {x v : Value} (h : unV op x = some v) (w : World) : (Op.unary op x).run P w = .ok v w := by
  cases op <;> cases x <;> simp only [unV, Option.some.injEq, reduceCtorEq] at h <;> (subst h; simp [Op.unary, Op.intArith, Op.intBits])

def convV (P : Program) (s d : TypeId) (x : Value) : Option Value :=
  match P.underlying s, P.underlying d, x with
  | some _, some (.int k), .int _ n => some (.int k (k.wrap n))
  | some _, some .string, .int _ n => some (.string (Utf8.encode n))
  | some .string, some .string, .string b => some (.string b)
  | _, _, _ => none

theorem convV_sound {P : Program} {s d : TypeId} {x v : Value} (h : convV P s d x = some v) (w : World) : (convert s d x).run P w = .ok v w := by
  unfold convV at h
  split at h
  · rename_i h1 h2; injection h with h; subst h; simp [convert, run_underlying h1, run_underlying h2, Conv.intToInt]
  · rename_i h1 h2; injection h with h; subst h; simp [convert, run_underlying h1, run_underlying h2, Conv.intToString]
  · rename_i h1 h2; injection h with h; subst h; simp [convert, run_underlying h1, run_underlying h2]
  · simp at h

def aggB (P : Program) (t : TypeId) : Option Bool :=
  match P.underlying t with
  | some (.struct _) => some true
  | some (.array _ _) => some true
  | some _ => some false
  | none => none
theorem aggB_sound {P : Program} {t : TypeId} {b : Bool} (h : aggB P t = some b) (w : World) : (isAgg t).run P w = .ok b w := by
  unfold aggB at h
  split at h
  · rename_i h1; injection h with h; subst h; simp [isAgg, run_underlying h1]
  · rename_i h1; injection h with h; subst h; simp [isAgg, run_underlying h1]
  · rename_i d hs ha h1
    injection h with h; subst h
    have hs' := hs
    simp only [isAgg, Sem.run_bind, run_underlying h1, Result.andThen_ok]
    cases d <;> first | rfl | exact (ha _ _ h1).elim | exact (hs _ h1).elim
  · simp at h
def sizeV (P : Program) (t : TypeId) : Option Nat := (P.info? t).map (·.size)
theorem sizeV_sound {P : Program} {t : TypeId} {n : Nat} (h : sizeV P t = some n) (w : World) : (sizeOf t).run P w = .ok n w := by
  unfold sizeV at h
  cases hi : P.info? t with
  | none => rw [hi] at h; simp at h
  | some i => rw [hi] at h; simp at h; subst h; simp [sizeOf, typeInfo, hi]

def partV (P : Program) (t : TypeId) (cs : Array Value) (off : Nat) : Option Value :=
  match aggB P t with
  | some true => (match sizeV P t with | some n => some (.agg (cs.extract off (off + n))) | none => none)
  | some false => cs[off]?
  | none => none
theorem partV_sound {P : Program} {t : TypeId} {cs : Array Value} {off : Nat} {v : Value} (h : partV P t cs off = some v) (w : World) : (part t cs off).run P w = .ok v w := by
  unfold partV at h
  split at h
  · rename_i h1
    split at h
    · rename_i n h2; injection h with h; subst h; simp [part, aggB_sound h1, sizeV_sound h2]
    · simp at h
  · rename_i h1; simp [part, aggB_sound h1, h]
  · simp at h

def fieldV (P : Program) (t : TypeId) (x : Value) (f : Nat) : Option Value :=
  match P.underlying t, x with
  | some (.struct fs), .agg cs => (match fs[f]? with | some fd => partV P fd.type cs fd.offset | none => none)
  | _, _ => none
theorem fieldV_sound {P : Program} {t : TypeId} {x : Value} {f : Nat} {v : Value} (h : fieldV P t x f = some v) (w : World) : (Instr.field t x f).run P w = .ok v w := by
  unfold fieldV at h
  split at h
  · rename_i fs cs h1
    split at h
    · rename_i fd h2; simp [Instr.field, run_underlying h1, h2, asAgg, partV_sound h]
    · simp at h
  · simp at h

def fieldAddrV (P : Program) (t : TypeId) (x : Value) (f : Nat) : Option Value :=
  match P.underlying t, x with
  | some (.struct fs), .pointer (some a) =>
    (match fs[f]? with
     | some fd => (match sizeV P fd.type with | some (_ + 1) => some (.pointer (some (a.add fd.offset))) | _ => none)
     | none => none)
  | _, _ => none
theorem fieldAddrV_sound {P : Program} {t : TypeId} {x : Value} {f : Nat} {v : Value} (h : fieldAddrV P t x f = some v) (w : World) : (Instr.fieldAt t x f).run P w = .ok v w := by
  unfold fieldAddrV at h
  split at h
  · rename_i fs a h1
    split at h
    · rename_i fd h2
      split at h
      · rename_i h3; injection h with h; subst h
        simp [Instr.fieldAt, run_underlying h1, h2, Instr.sureAddr, fieldPlace, sizeV_sound h3]
      · simp at h
    · simp at h
  · simp at h

def lenV (P : Program) (t : Option TypeId) (x : Option Value) : Option Value :=
  match t, x with
  | some t, some x =>
    (match P.underlying t, x with
     | some .string, .string s => some (.int .i64 ((s.size : Nat) : Int))
     | some (.slice _), .slice _ n _ => some (.int .i64 ((n : Nat) : Int))
     | some (.array n _), _ => some (.int .i64 ((n : Nat) : Int))
     | _, _ => none)
  | _, _ => none
theorem lenV_sound {P : Program} {ts : Array TypeId} {as : Array Value} {t : TypeId} {v : Value} (h : lenV P ts[0]? as[0]? = some v) (w : World) : (Builtin.len_ ts t as).run P w = .ok v w := by
  unfold lenV at h
  split at h
  · rename_i t' x h1 h2
    split at h
    · rename_i h3; injection h with h; subst h; simp [Builtin.len_, h1, h2, run_underlying h3, goInt]
    · rename_i h3; injection h with h; subst h; simp [Builtin.len_, h1, h2, run_underlying h3, goInt]
    · rename_i h3; injection h with h; subst h; simp [Builtin.len_, h1, h2, run_underlying h3, goInt]
    · simp at h
  · simp at h

def capV (P : Program) (t : Option TypeId) (x : Option Value) : Option Value :=
  match t, x with
  | some t, some x =>
    (match P.underlying t, x with
     | some (.slice _), .slice _ _ n => some (.int .i64 ((n : Nat) : Int))
     | _, _ => none)
  | _, _ => none

theorem capV_sound {P : Program} {ts : Array TypeId} {as : Array Value} {t : TypeId} {v : Value} (h : capV P ts[0]? as[0]? = some v) (w : World) : (Builtin.cap_ ts t as).run P w = .ok v w := by
  unfold capV at h
  split at h
  · rename_i t' x h1 h2
    split at h
    · rename_i h3; injection h with h; subst h; simp [Builtin.cap_, h1, h2, run_underlying h3, goInt]
    · simp at h
  · simp at h

def maxV : List Value → Option Value
  | [.int k a, .int _ b] => some (.int k (if b > a then b else a))
  | _ => none
theorem maxV_sound {P : Program} {ts : Array TypeId} {as : List Value} {t : TypeId} {v : Value} (h : maxV as = some v) (w : World) : (Builtin.max_ ts t as.toArray).run P w = .ok v w := by
  unfold maxV at h
  split at h
  · injection h with h; subst h; simp [Builtin.max_, Builtin.max2]
  · simp at h
def minV : List Value → Option Value
  | [.int k a, .int _ b] => some (.int k (if b < a then b else a))
  | _ => none
theorem minV_sound {P : Program} {ts : Array TypeId} {as : List Value} {t : TypeId} {v : Value} (h : minV as = some v) (w : World) : (Builtin.min_ ts t as.toArray).run P w = .ok v w := by
  unfold minV at h
  split at h
  · injection h with h; subst h; simp [Builtin.min_, Builtin.min2]
  · simp at h

/-- operands in a list -/
def evL (ρ : Operand → Option Value) : List Operand → Option (List Value)
  | [] => some []
  | x :: r => (match ρ x with | some v => (match evL ρ r with | some l => some (v :: l) | none => none) | none => none)
theorem evL_map {ρ : Operand → Option Value} {r : Operand → Value} (hρ : ∀ x v, ρ x = some v → r x = v) : ∀ (xs : List Operand) {vs : List Value}, evL ρ xs = some vs → xs.map r = vs
  | [], vs, h => by simp [evL] at h; subst h; rfl
  | x :: xs, vs, h => by
    simp only [evL] at h
    split at h
    · rename_i v hv
      split at h
      · rename_i l hl; injection h with h; subst h
        simp [hρ _ _ hv, evL_map hρ xs hl]
      · simp at h
    · simp at h

/-- parts of a literal -/
def evP (ρ : Operand → Option Value) : List (Nat × Operand) → Option (List (Nat × Value))
  | [] => some []
  | (i, x) :: r => (match ρ x with | some v => (match evP ρ r with | some l => some ((i, v) :: l) | none => none) | none => none)
theorem evP_map {ρ : Operand → Option Value} {r : Operand → Value} (hρ : ∀ x v, ρ x = some v → r x = v) : ∀ (xs : List (Nat × Operand)) {vs : List (Nat × Value)}, evP ρ xs = some vs → xs.map (fun p => (p.1, r p.2)) = vs
  | [], vs, h => by simp [evP] at h; subst h; rfl
  | (i, x) :: xs, vs, h => by
    simp only [evP] at h
    split at h
    · rename_i v hv
      split at h
      · rename_i l hl; injection h with h; subst h
        simp [hρ _ _ hv, evP_map hρ xs hl]
      · simp at h
    · simp at h

def placesV (P : Program) : List Field → Option (List (Nat × Nat))
  | [] => some []
  | f :: r => (match sizeV P f.type with | some n => (match placesV P r with | some l => some ((f.offset, n) :: l) | none => none) | none => none)
def zeroV (P : Program) (t : TypeId) : Option Value := (P.info? t).bind (·.zero)
theorem zeroV_sound {P : Program} {t : TypeId} {v : Value} (h : zeroV P t = some v) (w : World) : (zeroValue t).run P w = .ok v w := by
  unfold zeroV at h
  cases hi : P.info? t with
  | none => rw [hi] at h; simp at h
  | some i => rw [hi] at h; simp at h; simp [zeroValue, typeInfo, hi, h]

def fpl (f : Field) : Sem (Nat × Nat) := do pure (f.offset, ← sizeOf f.type)
theorem run_fpl {P : Program} {f : Field} {n : Nat} (h : sizeV P f.type = some n) (w : World) : (fpl f).run P w = .ok (f.offset, n) w := by
  simp [fpl, sizeV_sound h]
theorem places_run {P : Program} (w : World) : ∀ (fs : List Field) {l : List (Nat × Nat)}, placesV P fs = some l → (fs.mapM fpl).run P w = .ok l w
  | [], l, h => by simp [placesV] at h; subst h; simp
  | f :: r, l, h => by
    simp only [placesV] at h
    split at h
    · rename_i n hn
      split at h
      · rename_i l' hl; injection h with h; subst h
        have ih := places_run (P := P) w r hl
        simp only [List.mapM_cons, Sem.run_bind, run_fpl hn, Result.andThen_ok, ih]
        rfl
      · simp at h
    · simp at h

def buildV (P : Program) (t : TypeId) (parts : List (Nat × Value)) : Option Value :=
  match zeroV P t, P.underlying t with
  | some z, some (.struct fs) =>
    (match placesV P fs.toList with
     | some pl => (match Instr.fill (pl.toArray[·]?) z.cells parts with | some c => some (.agg c) | none => none)
     | none => none)
  | some z, some (.array _ e) =>
    (match sizeV P e with
     | some n => (match Instr.fill (fun i => some (i * n, n)) z.cells parts with | some c => some (.agg c) | none => none)
     | none => none)
  | _, _ => none
theorem buildV_sound {P : Program} {t : TypeId} {parts : List (Nat × Value)} {v : Value} (h : buildV P t parts = some v) (w : World) : (Instr.build t parts.toArray).run P w = .ok v w := by
  unfold buildV at h
  split at h
  · rename_i z fs hz hu
    split at h
    · rename_i pl hp
      split at h
      · rename_i c hc; injection h with h; subst h
        have e := places_run (P := P) w fs.toList hp
        have e2 : (fs.mapM fpl).run P w = .ok pl.toArray w := by
          rw [Array.mapM_eq_mapM_toList, Sem.run_map, e]
          rfl
        have e3 : (fun f : Field => (do let s ← sizeOf f.type; pure (f.offset, s) : Sem (Nat × Nat))) = fpl := rfl
        simp only [Instr.build, Sem.run_bind, zeroV_sound hz, Result.andThen_ok, run_underlying hu, e3, e2, hc]
        rfl
      · simp at h
    · simp at h
  · rename_i z n e hz hu
    split at h
    · rename_i k hk
      split at h
      · rename_i c hc; injection h with h; subst h
        simp only [Instr.build, Sem.run_bind, zeroV_sound hz, Result.andThen_ok, run_underlying hu, sizeV_sound hk, hc]
        rfl
      · simp at h
    · simp at h
  · simp at h

def callV (P : Program) (ρ : Operand → Option Value) (c : Call) : Option Value :=
  match c.callee with
  | .builtin .len => (match evL ρ c.args.toList with | some l => lenV P c.argTypes[0]? l.toArray[0]? | none => none)
  | .builtin .cap => (match evL ρ c.args.toList with | some l => capV P c.argTypes[0]? l.toArray[0]? | none => none)
  | .builtin .max => (match evL ρ c.args.toList with | some l => maxV l | none => none)
  | .builtin .min => (match evL ρ c.args.toList with | some l => minV l | none => none)
  | _ => none

def nilV : Value → Option Value
  | .pointer (some a) => some (.pointer (some a))
  | .func (.func f) x y => some (.func (.func f) x y)
  | .iface t v => some (.iface t v)
  | _ => none

def ifaceV (P : Program) (t : TypeId) (x : Value) : Option Value :=
  match P.underlying t with
  | some (.interface _) => none
  | some _ => some (.iface t x)
  | none => none

def pev (P : Program) (ρ : Operand → Option Value) : Go.Op → Option Value
  | .move x | .assign x => ρ x
  | .binOp op t x y _ => (match ρ x, ρ y with | some a, some b => binV P op t a b | _, _ => none)
  | .unOp op _ x => (match ρ x with | some a => unV op a | none => none)
  | .convert s d x => (match ρ x with | some a => convV P s d a | none => none)
  | .extract x i => (match ρ x with | some (.tuple vs) => vs[i]? | _ => none)
  | .field t x f => (match ρ x with | some a => fieldV P t a f | none => none)
  | .fieldAddr t x f => (match ρ x with | some a => fieldAddrV P t a f | none => none)
  | .nilCheck x => (match ρ x with | some a => nilV a | none => none)
  | .makeFunc fn first captured => (match evL ρ first.toList, evL ρ captured.toList with | some a, some b => some (.func fn a.toArray b.toArray) | _, _ => none)
  | .makeInterface t x => (match ρ x with | some a => ifaceV P t a | none => none)
  | .build t parts => (match evP ρ parts.toList with | some l => buildV P t l | none => none)
  | .call c => callV P ρ c
  | _ => none

theorem arr_map {ρ : Operand → Option Value} {r : Operand → Value} (hρ : ∀ x v, ρ x = some v → r x = v) {xs : Array Operand} {l : List Value} (h : evL ρ xs.toList = some l) : xs.map r = l.toArray := by
  rw [← evL_map hρ _ h]; apply Array.ext'; rw [Array.toList_map]

theorem pev_sound {P : Program} {ρ : Operand → Option Value} {r : Operand → Value} (hρ : ∀ x v, ρ x = some v → r x = v) {o : Oper} {v : Value}
    (h : pev P ρ o.op = some v) (w : World) : (execOp r o).run P w = .ok (.value v) w := by
  unfold pev at h
  unfold execOp
  split at h <;> rename_i ho
  · simp only [ho]; rw [hρ _ _ h]; rfl
  · simp only [ho]; rw [hρ _ _ h]; rfl
  · simp only [ho]
    split at h
    · rename_i a b ha hb
      rw [hρ _ _ ha, hρ _ _ hb]
      have hg : ∀ {op t v}, binV P op t a b = some v → ∀ (x y : Operand), (eqGuard op t x y a b).run P w = .ok () w := by
        intro op t v hv x y
        unfold eqGuard
        cases a <;> cases b <;> (first | (simp [binV] at hv; done) | (split <;> rfl))
      simp [hg h, binV_sound h]
    · simp at h
  · simp only [ho]
    split at h
    · rename_i a ha; rw [hρ _ _ ha]; simp [unV_sound h]
    · simp at h
  · simp only [ho]
    split at h
    · rename_i a ha; rw [hρ _ _ ha]; simp [convV_sound h]
    · simp at h
  · simp only [ho]
    split at h
    · rename_i vs ha; rw [hρ _ _ ha]; simp [Instr.extract, h]
    · simp at h
  · simp only [ho]
    split at h
    · rename_i a ha; rw [hρ _ _ ha]; simp [fieldV_sound h]
    · simp at h
  · simp only [ho]
    split at h
    · rename_i a ha; rw [hρ _ _ ha]; simp [fieldAddrV_sound h]
    · simp at h
  · simp only [ho]
    split at h
    · rename_i a ha; rw [hρ _ _ ha]
      unfold nilV at h
      split at h <;> first | (injection h with h; subst h; rfl) | (simp at h)
    · simp at h
  · simp only [ho]
    split at h
    · rename_i a b ha hb; injection h with h; subst h
      rw [arr_map hρ ha, arr_map hρ hb]; rfl
    · simp at h
  · simp only [ho]
    split at h
    · rename_i a ha; rw [hρ _ _ ha]
      unfold ifaceV at h
      split at h
      · simp at h
      · rename_i d hn hu; injection h with h; subst h
        simp only [Instr.makeInterface, Sem.run_bind, run_underlying hu, Result.andThen_ok]
        cases d <;> first | rfl | exact (hn _ hu).elim | exact (hn _ rfl).elim
      · simp at h
    · simp at h
  · simp only [ho]
    split at h
    · rename_i l hl
      have e : (Array.map (fun x => (x.fst, r x.snd)) ‹Array (Nat × Operand)›) = l.toArray := by
        rw [← evP_map hρ _ hl]; apply Array.ext'; rw [Array.toList_map]
      simp [e, buildV_sound h]
    · simp at h
  · simp only [ho]
    unfold callV at h
    split at h <;> rename_i hc
    · split at h
      · rename_i l hl
        simp [resolve, hc, invoke, Go.builtin, arr_map hρ hl, lenV_sound (as := l.toArray) h]
      · simp at h
    · split at h
      · rename_i l hl
        simp [resolve, hc, invoke, Go.builtin, arr_map hρ hl, capV_sound (as := l.toArray) h]
      · simp at h
    · split at h
      · rename_i l hl
        simp [resolve, hc, invoke, Go.builtin, arr_map hρ hl, maxV_sound h]
      · simp at h
    · split at h
      · rename_i l hl
        simp [resolve, hc, invoke, Go.builtin, arr_map hρ hl, minV_sound h]
      · simp at h
    · simp at h
  · simp at h

end Go.Sw

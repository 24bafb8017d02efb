/- The calculus, part 4: the operations of a region over abstract values: what each gives and which blocks it turns ('stepA'), and how the model's operations are read as such ('comp'). Definitions alone. -/
import Derived.Test.YtjmmompbmjhkpaaCalc3
namespace Go.Proofs.Ytjmmompbmjhkpaa.Calc
open Go

/-- The kinds of plain cells. -/
inductive CK where
  | b
  | i (k : IntKind)
  | s
  deriving Inhabited
def eqC : CK → Value → Value → Option Bool
  | .b, .bool a, .bool b => some (a == b)
  | .i k, .int k1 a, .int k2 b => if k1 = k ∧ k2 = k then some (decide (a = b)) else none
  | .s, .string a, .string b => some (decide (a = b))
  | _, _, _ => none
def eqLv : List CK → List Value → List Value → Option Bool
  | [], [], [] => some true
  | k :: ks, x :: xs, y :: ys => match eqC k x y, eqLv ks xs ys with
    | some a, some b => some (a && b)
    | _, _ => none
  | _, _, _ => none
def plainL : List V → Option (List Value)
  | [] => some []
  | .c v :: r => (plainL r).map (v :: ·)
  | _ => none
/-- The cells of an aggregate all of whose cells are plain. -/
def plainA : V → Option (List Value)
  | .agg cs => plainL cs
  | .c (.agg cs) => some cs.toList
  | _ => none
/-- The kinds of a type's cells, if these stand one behind the other and are plain. -/
def shpF (P : Program) (g : TypeId → Option (List CK)) : List Field → Nat → Option (List CK)
  | [], _ => some []
  | f :: r, o => match g f.type with
    | some l => if f.name ≠ "_" ∧ f.offset = o ∧ P.cellsOf f.type = l.length ∧ 0 < l.length then (shpF P g r (o + l.length)).map (l ++ ·) else none
    | none => none
def shp (P : Program) : Nat → TypeId → Option (List CK)
  | 0, _ => none
  | d + 1, t => match P.underlying t with
    | some .bool => some [.b]
    | some (.int k) => some [.i k]
    | some .string => some [.s]
    | some (.array n e) => match shp P d e with
      | some l => if P.cellsOf e = l.length ∧ 0 < l.length then some ((List.replicate n l).flatten) else none
      | none => none
    | some (.struct fs) => if P.stoodInHeld t = true then none else shpF P (shp P d) fs.toList 0
    | _ => none

inductive AOp where
  | mv (x : AO)
  | pick (c a b : AO)
  | nilc (x : AO)
  | bin (op : BinOp) (x y : AO)
  | eqb (ne : Bool) (x y : AO)
  | eqn (ne : Bool) (x : AO)
  | not (x : AO)
  | neg (x : AO)
  | xorn (x : AO)
  | cvt (k : IntKind) (x : AO)
  | new (esz : Nat) (x : AO)
  | zero (cells : List Value)
  | build (zero : List Value) (parts : List (Nat × Nat × AO))
  | bsl (zero : List Value) (len : Nat) (parts : List (Nat × AO))
  | ld (n : Option Nat) (a : AO)
  | st (n : Nat) (a v : AO)
  | mksl (zero : List Value) (bytes : Nat) (l c : AO)
  | slc (esz : Nat) (x : AO) (lo hi : Option AO)
  | fad (off : Nat) (x : AO)
  | idx (esz : Nat) (arr : Option Nat) (x i : AO)
  | fld (off : Nat) (n : Option Nat) (x : AO)
  | ixa (len esz : Nat) (n : Option Nat) (x i : AO)
  | ixs (x i : AO)
  | ext (x : AO) (i : Nat)
  | len (x : AO)
  | lens (x : AO)
  | lenc (n : Nat)
  | capx (x : AO)
  | copy (esz : Nat) (d s : AO)
  | app (esz bytes : Nat) (s x : AO)
  | mnx (mx : Bool) (xs : List AO)
  | mkf (f : FuncId) (caps : List AO)
  | mki (t : TypeId) (x : AO)
  | call (f : FuncId) (args : List AO)
  | callc (x : AO) (args : List AO)
  | inv (tab : List (TypeId × FuncId)) (x : AO) (args : List AO)
  | eqs (ks : List CK) (ne : Bool) (x y : AO)
  | i2s (x : AO)
  | s2b (x : AO)
  | slcs (x : AO) (lo hi : Option AO)
  | clr (zero : List Value) (x : AO)
  | xcall (f : FuncId) (args : List AO)
  | bad
  deriving Inhabited

/-- The cells of a value that is stored; of a value that is no aggregate it must be known that it is none. -/
def vcells (bl : Nat → Option Blk) : V → Option (List V)
  | .agg cs => some cs
  | .c v => if scal v then some [.c v] else none
  | .sl e r => some [.sl e r]
  | .dp r k => some [.dp r k]
  | .fn f cs => some [.fn f cs]
  | .ifc t v => some [.ifc t v]
  | .bit => some [.bit]
  | .psl b ver o l => match bl b with
    | some k => if k.ver = ver then some [.psl b ver o l] else none
    | none => none
  | .ptr b ver r k => match bl b with
    | some B => if B.ver = ver then some [.ptr b ver r k] else none
    | none => none
  | _ => none
/-- The block that 'vcells' has looked at. -/
def vlook : V → List Nat
  | .psl b _ _ _ => [b]
  | .ptr b _ _ _ => [b]
  | _ => []

def spl (l : List V) (o : Nat) : List V → List V
  | [] => l
  | v :: vs => spl (l.set o v) (o + 1) vs

def ofInt : V → Option Int
  | .c (.int _ n) => some n
  | _ => none

/-- A slice's elements: a tree's, or those of a block that is current; (esz, rows). -/
def rowsOf (bl : Nat → Option Blk) : V → Option (Nat × List (List V))
  | .sl e r => some (e, r)
  | .psl b ver off len => match bl b with
    | some k => if k.ver = ver then some (k.esz, (k.rows.drop off).take len) else none
    | none => none
  | _ => none

/-- What is appended: nil, or a slice's elements. -/
def srcOf (bl : Nat → Option Blk) (esz : Nat) : V → Option (Nat × List (List V))
  | .c (.slice none 0 0) => some (esz, [])
  | v => rowsOf bl v

abbrev Step := Option (V × List (Nat × Blk) × List Blk × List Nat)
def pureS (x : Option V) : Step := x.map fun x => (x, [], [], [])

def fillP (bl : Nat → Option Blk) (ev : AO → V) (cs : List V) : List (Nat × Nat × AO) → Option (List V × List Nat)
  | [] => some (cs, [])
  | (off, size, x) :: rest => match vcells bl (ev x) with
    | none => none
    | some l => if l.length = size ∧ off + size ≤ cs.length then (fillP bl ev (spl cs off l) rest).map fun (r, k) => (r, vlook (ev x) ++ k) else none
def fillR (bl : Nat → Option Blk) (ev : AO → V) (esz : Nat) (rows : List (List V)) : List (Nat × AO) → Option (List (List V) × List Nat)
  | [] => some (rows, [])
  | (i, x) :: rest => match vcells bl (ev x) with
    | none => none
    | some l => if l.length = esz ∧ i < rows.length then (fillR bl ev esz (rows.set i l) rest).map fun (r, k) => (r, vlook (ev x) ++ k) else none

/-- A part of an aggregate. -/
def partL (n : Option Nat) (cs : List V) (off : Nat) : Option V :=
  match n with
  | none => cs[off]?
  | some n => some (.agg ((cs.drop off).take n))

def mnxF (mx : Bool) (ev : AO → V) (acc : Option V) (y : AO) : Option V :=
  match acc, ev y with
  | some (.c (.int k a)), .c (.int k' b) => if k = k' then some (.c (.int k (if mx then (if b > a then b else a) else (if b < a then b else a)))) else none
  | _, _ => none

def stepA (op : AOp) (ev : AO → V) (bl : Nat → Option Blk) (c : Nat) : Step :=
  match op with
  | .mv x => pureS (some (ev x))
  | .pick c a b => pureS (match ev c with
    | .c (.bool t) => some (if t then ev a else ev b)
    | _ => none)
  | .nilc x => match ev x with
    | .ptr b ver r k => match bl b with
      | some B => if B.ver = ver then some (.ptr b ver r k, [], [], [b]) else none
      | none => none
    | .dp r k => some (.dp r k, [], [], [])
    | .fn f cs => some (.fn f cs, [], [], [])
    | .ifc t v => some (.ifc t v, [], [], [])
    | _ => none
  | .bin op x y => pureS (match ev x, ev y with
    | .c u, .c v => (binV op u v).map .c
    | _, _ => none)
  | .eqb ne x y => pureS (match ev x, ev y with
    | .c (.bool u), .c (.bool v) => some (.c (.bool (xor ne (u == v))))
    | _, _ => none)
  | .eqn ne x => match ev x with
    | .c (.slice none _ _) => some (.c (.bool (!ne)), [], [], [])
    | .psl b ver _ len => match bl b with
      | some B => if B.ver = ver ∧ 0 < len then some (.c (.bool ne), [], [], [b]) else none
      | none => none
    | .sl _ rows => if 0 < rows.length then some (.c (.bool ne), [], [], []) else some (.bit, [], [], [])
    | _ => none
  | .not x => pureS (match ev x with
    | .c (.bool b) => some (.c (.bool (!b)))
    | _ => none)
  | .neg x => pureS (match ev x with
    | .c (.int k n) => some (.c (.int k (k.wrap (0 - n))))
    | _ => none)
  | .xorn x => pureS (match ev x with
    | .c (.int k n) => some (.c (.int k (bits .xor k (if k.signed then -1 else k.max) n)))
    | _ => none)
  | .cvt k x => pureS (match ev x with
    | .c (.int _ n) => some (.c (.int k (k.wrap n)))
    | _ => none)
  | .new esz x => match vcells bl (ev x) with
    | some cs => if cs.length = esz ∧ 0 < esz then some (.ptr c 1 0 0, [], [⟨1, esz, [cs]⟩], vlook (ev x)) else none
    | none => none
  | .zero cells => if 0 < cells.length then some (.ptr c 1 0 0, [], [⟨1, cells.length, [cells.map .c]⟩], []) else none
  | .build zero parts => match fillP bl ev (zero.map .c) parts with
    | some (cs, r) => some (.agg cs, [], [], r)
    | none => none
  | .bsl zero len parts => if 0 < zero.length ∧ len * zero.length ≤ 2 ^ 24 then match fillR bl ev zero.length (List.replicate len (zero.map .c)) parts with
    | some (rows, r) => some (.psl c 1 0 len, [], [⟨1, zero.length, rows⟩], r)
    | none => none else none
  | .ld n a => match ev a with
    | .ptr b ver r k => match bl b with
      | some B => if B.ver = ver then match B.rows[r]? with
        | some row => match n with
          | none => (row[k]?).map fun x => (x, [], [], [b])
          | some n => if k + n ≤ row.length then some (.agg ((row.drop k).take n), [], [], [b]) else none
        | none => none else none
      | none => none
    | .dp row k => match n with
      | none => (row[k]?).map fun x => (x, [], [], [])
      | some n => if k + n ≤ row.length then some (.agg ((row.drop k).take n), [], [], []) else none
    | _ => none
  | .st n a v => match ev a with
    | .ptr b ver r k => match bl b, vcells bl (ev v) with
      | some B, some cs => if B.ver = ver ∧ cs.length = n then match B.rows[r]? with
        | some row => if k + n ≤ row.length then some (.any, [(b, { B with rows := B.rows.set r (spl row k cs) })], [], b :: vlook (ev v)) else none
        | none => none else none
      | _, _ => none
    | _ => none
  | .mksl zero bytes l c' => match ofInt (ev l), ofInt (ev c') with
    | some n, some m => if 0 < zero.length ∧ 0 < bytes ∧ 0 ≤ n ∧ n ≤ m ∧ bytes * m ≤ 2 ^ 48 then
        some (.psl c 1 0 n.toNat, [], [⟨1, zero.length, List.replicate n.toNat (zero.map .c)⟩], []) else none
    | _, _ => none
  | .slc esz x lo hi => match ev x with
    | .psl b ver off len => match bl b, (lo.map fun l => ofInt (ev l)).getD (some 0), (hi.map fun l => ofInt (ev l)).getD (some len) with
      | some B, some l, some h => if B.ver = ver ∧ B.esz = esz ∧ 0 ≤ l ∧ l ≤ h ∧ h ≤ len then some (.psl b ver (off + l.toNat) (h.toNat - l.toNat), [], [], [b]) else none
      | _, _, _ => none
    | .sl e rows => match (lo.map fun l => ofInt (ev l)).getD (some 0), (hi.map fun l => ofInt (ev l)).getD (some rows.length) with
      | some l, some h => if e = esz ∧ 0 ≤ l ∧ l ≤ h ∧ h ≤ rows.length then some (.sl e ((rows.drop l.toNat).take (h.toNat - l.toNat)), [], [], []) else none
      | _, _ => none
    | .c (.slice none 0 0) => match (lo.map fun l => ofInt (ev l)).getD (some 0), (hi.map fun l => ofInt (ev l)).getD (some 0) with
      | some l, some h => if l = 0 ∧ h = 0 then some (.c (.slice none 0 0), [], [], []) else none
      | _, _ => none
    | _ => none
  | .fad off x => match ev x with
    | .ptr b ver r k => match bl b with
      | some B => if B.ver = ver then some (.ptr b ver r (k + off), [], [], [b]) else none
      | none => none
    | .dp r k => some (.dp r (k + off), [], [], [])
    | _ => none
  | .idx esz arr x i => match ofInt (ev i), arr, ev x with
    | some n, none, .psl b ver off len => match bl b with
      | some B => if B.ver = ver ∧ B.esz = esz ∧ 0 ≤ n ∧ n < len then some (.ptr b ver (off + n.toNat) 0, [], [], [b]) else none
      | none => none
    | some n, none, .sl e rows => if e = esz ∧ 0 ≤ n then match rows[n.toNat]? with
      | some row => some (.dp row 0, [], [], [])
      | none => none else none
    | some n, some len, .ptr b ver r k => match bl b with
      | some B => if B.ver = ver ∧ 0 ≤ n ∧ n < len then some (.ptr b ver r (k + n.toNat * esz), [], [], [b]) else none
      | none => none
    | some n, some len, .dp r k => if 0 ≤ n ∧ n < len then some (.dp r (k + n.toNat * esz), [], [], []) else none
    | _, _, _ => none
  | .fld off n x => pureS (match ev x with
    | .agg cs => partL n cs off
    | _ => none)
  | .ixa len esz n x i => pureS (match ofInt (ev i), ev x with
    | some j, .agg cs => if 0 ≤ j ∧ j < len then partL n cs (j.toNat * esz) else none
    | _, _ => none)
  | .ixs x i => pureS (match ofInt (ev i), ev x with
    | some j, .c (.string s) => if 0 ≤ j then (s[j.toNat]?).map fun b => .c (.int .u8 b.toNat) else none
    | _, _ => none)
  | .ext x i => pureS (match ev x with
    | .tup vs => vs[i]?
    | _ => none)
  | .len x => match ev x with
    | .psl b ver _ len => match bl b with
      | some B => if B.ver = ver then some (.c (.int .i64 len), [], [], [b]) else none
      | none => none
    | .sl _ rows => some (.c (.int .i64 rows.length), [], [], [])
    | .c (.slice none 0 0) => some (.c (.int .i64 0), [], [], [])
    | _ => none
  | .lens x => pureS (match ev x with
    | .c (.string s) => some (.c (.int .i64 s.size))
    | _ => none)
  | .lenc n => some (.c (.int .i64 n), [], [], [])
  | .capx x => match ev x with
    | .psl b ver _ _ => match bl b with
      | some B => if B.ver = ver then some (.any, [], [], [b]) else none
      | none => none
    | .sl _ _ => some (.any, [], [], [])
    | .c (.slice none 0 0) => some (.c (.int .i64 0), [], [], [])
    | _ => none
  | .copy esz d s => match ev d with
    | .psl b ver off len => match bl b, rowsOf bl (ev s) with
      | some B, some (e, rows) => if B.ver = ver ∧ B.esz = esz ∧ e = esz then
          some (.c (.int .i64 (min rows.length len : Nat)), [(b, { B with rows := B.rows.take off ++ rows.take len ++ B.rows.drop (off + min rows.length len) })], [], b :: vlook (ev s)) else none
      | some B, none => match ev s with
        | .c (.slice none 0 0) => if B.ver = ver then some (.c (.int .i64 0), [], [], [b]) else none
        | _ => none
      | _, _ => none
    | _ => none
  | .app esz bytes s x => match srcOf bl esz (ev x) with
    | some (e, new) => if e = esz ∧ 0 < esz ∧ 0 < bytes then match ev s with
      | .c (.slice none 0 0) => if new.length = 0 then some (.c (.slice none 0 0), [], [], vlook (ev x))
          else if bytes * (new.length + new.length / 4 + 1024) ≤ 2 ^ 48 then some (.psl c 1 0 new.length, [], [⟨1, esz, new⟩], vlook (ev x)) else none
      | .psl b ver off len => match bl b with
        | some B => if B.ver = ver ∧ B.esz = esz ∧ off + len ≤ B.rows.length ∧ bytes * (len + new.length + (len + new.length) / 4 + 1024) ≤ 2 ^ 48 then
            some (.psl b (ver + 1) 0 (len + new.length), [(b, ⟨ver + 1, esz, (B.rows.drop off).take len ++ new⟩)], [], b :: vlook (ev x)) else none
        | none => none
      | _ => none else none
    | none => none
  | .mnx mx xs => pureS (match xs with
    | [] => none
    | x :: rest => rest.foldl (mnxF mx ev) (some (ev x)))
  | .mkf f caps => some (.fn f (caps.map ev), [], [], [])
  | .mki t x => some (.ifc t (ev x), [], [], [])
  | .eqs ks ne x y => pureS (match plainA (ev x), plainA (ev y) with
    | some us, some vs => (eqLv ks us vs).map fun b => .c (.bool (xor ne b))
    | _, _ => none)
  | .i2s x => pureS (match ev x with
    | .c (.int _ n) => some (.c (.string (Utf8.encode n)))
    | _ => none)
  | .s2b x => match ev x with
    | .c (.string s) => some (.psl c 1 0 s.size, [], [⟨1, 1, s.data.toList.map fun b => [.c (.int .u8 b.toNat)]⟩], [])
    | _ => none
  | .slcs x lo hi => pureS (match ev x with
    | .c (.string s) => match (lo.map fun l => ofInt (ev l)).getD (some 0), (hi.map fun l => ofInt (ev l)).getD (some (s.size : Int)) with
      | some l, some h => if 0 ≤ l ∧ l ≤ h ∧ h ≤ s.size then some (.c (.string (s.extract l.toNat h.toNat))) else none
      | _, _ => none
    | _ => none)
  | .clr z x => match ev x with
    | .psl b ver off len => match bl b with
      | some B => if B.ver = ver ∧ B.esz = z.length then some (.tup [], [(b, { B with rows := B.rows.take off ++ List.replicate len (z.map .c) ++ B.rows.drop (off + len) })], [], [b]) else none
      | none => none
    | .c (.slice none 0 0) => some (.tup [], [], [], [])
    | _ => none
  | .call _ _ | .callc _ _ | .inv _ _ _ | .xcall _ _ | .bad => none

/-- A type's cells: some n of an aggregate. -/
def aggOf (P : Program) (t : TypeId) : Option (Option Nat) :=
  match P.underlying t, P.info? t with
  | some (.struct _), some i | some (.array _ _), some i => some (some i.size)
  | some _, some _ => some none
  | _, _ => none
def zeroOf (P : Program) (t : TypeId) : Option (List Value) :=
  match P.info? t with
  | some i => match i.zero with
    | some z => if z.cells.size = i.size && z.cells.all scal then some z.cells.toList else none
    | none => none
  | none => none
def szOf (P : Program) (t : TypeId) : Option Nat := (P.info? t).map (·.size)

def compL (l : List Operand) : Option (List AO) := l.mapM compO
def compP (P : Program) (t : TypeId) (parts : List (Nat × Operand)) : Option (List (Nat × Nat × AO)) :=
  match P.underlying t with
  | some (.struct fields) => if fields.all (fun f => (szOf P f.type).isSome) then parts.mapM fun (i, x) => do
      let f ← fields[i]?
      let s ← szOf P f.type
      let y ← compO x
      pure (f.offset, s, y) else none
  | some (.array _ e) => match szOf P e with
    | some s => parts.mapM fun (i, x) => do
      let y ← compO x
      pure (i * s, s, y)
    | none => none
  | _ => none

def compOpt : Option Operand → Option (Option AO)
  | none => some none
  | some x => (compO x).map some

/-- Does the program enter this function's own text? -/
def enters (P : Program) (f : FuncId) : Bool := match P.funcs[f]? with
  | some fn => fn.name != "runtime.NumGoroutine" && fn.body.isSome
  | none => false

/-- The method that a type has of a name, if it is one of a pointer, and the type's own. -/
def methOf (P : Program) (t : TypeId) (name : String) : Option FuncId :=
  match P.info? t with
  | some i => match i.methods.find? (·.name == name) with
    | some m => match m.path.toList, m.func, P.underlying t with
      | [], some (f, true), some (.pointer _) => if enters P f then some f else none
      | _, _, _ => none
    | none => none
  | none => none
def methTab (P : Program) (name : String) : List (TypeId × FuncId) := (List.range P.types.size).filterMap fun t => (methOf P t name).map (t, ·)
def lookT : List (TypeId × FuncId) → TypeId → Option FuncId
  | [], _ => none
  | (t, f) :: r, u => if t = u then some f else lookT r u

def compEq (P : Program) (op : BinOp) (t : TypeId) (x y : AO) : Option AOp :=
  if P.eqGuardType P.depth t = false then (match op with
    | .eql => (shp P 20 t).map fun ks => .eqs ks false x y
    | .neq => (shp P 20 t).map fun ks => .eqs ks true x y
    | _ => none) else none

def comp (P : Program) (o : Op) : Option AOp :=
  match o with
  | .move x | .assign x => (compO x).map .mv
  | .pick c a b => do pure (.pick (← compO c) (← compO a) (← compO b))
  | .nilCheck x => (compO x).map .nilc
  | .binOp op t x y _ => do
    let x' ← compO x
    let y' ← compO y
    match P.underlying t with
    | some (.int _) | some .string => pure (.bin op x' y')
    | some .bool => match op with
      | .eql => pure (.eqb false x' y')
      | .neq => pure (.eqb true x' y')
      | _ => none
    | some (.slice _) => match op, y with
      | .eql, .const (.slice none 0 0) => pure (.eqn false x')
      | .neq, .const (.slice none 0 0) => pure (.eqn true x')
      | _, _ => none
    | some (.struct _) => compEq P op t x' y'
    | some (.array _ _) => compEq P op t x' y'
    | _ => none
  | .unOp op _ x => do
    let x' ← compO x
    match op with
    | .not => pure (.not x')
    | .neg => pure (.neg x')
    | .xor => pure (.xorn x')
    | _ => none
  | .convert s t x => do
    let x' ← compO x
    match P.underlying s, P.underlying t with
    | some (.int _), some (.int k) => pure (.cvt k x')
    | some (.int _), some .string => pure (.i2s x')
    | some .string, some (.slice e) => match P.underlying e with
      | some (.int .u8) => pure (.s2b x')
      | _ => none
    | _, _ => none
  | .box e x => do pure (.new (← szOf P e) (← compO x))
  | .alloc e => (zeroOf P e).map .zero
  | .build t parts => do pure (.build (← zeroOf P t) (← compP P t parts.toList))
  | .buildSlice t len parts => match P.underlying t with
    | some (.slice e) => do
      let z ← zeroOf P e
      let ps ← parts.toList.mapM fun (i, x) => do pure (i, ← compO x)
      pure (.bsl z len ps)
    | _ => none
  | .load t a => do pure (.ld (← aggOf P t) (← compO a))
  | .store t a v => do pure (.st (← szOf P t) (← compO a) (← compO v))
  | .makeSlice t l c => match P.underlying t with
    | some (.slice e) => do
      let z ← zeroOf P e
      let i ← P.info? e
      pure (.mksl z i.bytes (← compO l) (← compO c))
    | _ => none
  | .slice t x lo hi none => match P.underlying t with
    | some (.slice e) => do pure (.slc (← szOf P e) (← compO x) (← compOpt lo) (← compOpt hi))
    | some .string => do pure (.slcs (← compO x) (← compOpt lo) (← compOpt hi))
    | _ => none
  | .fieldAddr t x i => match P.underlying t with
    | some (.struct fields) => do
      let f ← fields[i]?
      let s ← szOf P f.type
      if s = 0 then none else pure (.fad f.offset (← compO x))
    | _ => none
  | .indexAddr t x i => match P.underlying t with
    | some (.slice e) => do pure (.idx (← szOf P e) none (← compO x) (← compO i))
    | some (.array n e) => do pure (.idx (← szOf P e) (some n) (← compO x) (← compO i))
    | _ => none
  | .field t x i => match P.underlying t with
    | some (.struct fields) => do
      let f ← fields[i]?
      pure (.fld f.offset (← aggOf P f.type) (← compO x))
    | _ => none
  | .index t x i => match P.underlying t with
    | some (.array n e) => do pure (.ixa n (← szOf P e) (← aggOf P e) (← compO x) (← compO i))
    | some .string => do pure (.ixs (← compO x) (← compO i))
    | _ => none
  | .extract x i => do pure (.ext (← compO x) i)
  | .makeFunc (.func f) first caps => if first.size = 0 then (compL caps.toList).map (.mkf f) else none
  | .makeInterface t x => match P.underlying t with
    | some (.interface _) | none => none
    | _ => do pure (.mki t (← compO x))
  | .call c => match c.callee with
    | .value (.func f) => if enters P f then (compL c.args.toList).map (.call f) else (compL c.args.toList).map (.xcall f)
    | .value x => do pure (.callc (← compO x) (← compL c.args.toList))
    | .invoke r name => do pure (.inv (methTab P name) (← compO r) (← compL c.args.toList))
    | .builtin b => match b, c.argTypes.toList, c.args.toList with
      | .len, [t], [x] => match P.underlying t with
        | some (.slice _) => (compO x).map .len
        | some .string => (compO x).map .lens
        | some (.array n _) => some (.lenc n)
        | _ => none
      | .cap, [t], [x] => match P.underlying t with
        | some (.slice _) => (compO x).map .capx
        | _ => none
      | .copy, [t, _], [d, s] => match P.underlying t with
        | some (.slice e) => do pure (.copy (← szOf P e) (← compO d) (← compO s))
        | _ => none
      | .append, [t, u], [s, x] => match P.underlying t, P.underlying u with
        | some (.slice e), some (.slice _) => do
          let i ← P.info? e
          let _ ← zeroOf P e
          pure (.app i.size i.bytes (← compO s) (← compO x))
        | _, _ => none
      | .clear, [t], [x] => match P.underlying t with
        | some (.slice e) => do pure (.clr (← zeroOf P e) (← compO x))
        | _ => none
      | .min, _, xs => (compL xs).map (.mnx false)
      | .max, _, xs => (compL xs).map (.mnx true)
      | _, _, _ => none
  | _ => none
end Go.Proofs.Ytjmmompbmjhkpaa.Calc

/-
  The texts that the proof stands on, part 4.
-/
import Derived.Test.YtmodipglnngghacGreatUnrollClausesC
set_option linter.unusedVariables false
set_option linter.unusedSimpArgs false
set_option linter.unnecessarySimpa false

/-! The machine's code, read off: what a piece of code comes to, said without slots. No program in sight. -/
section
namespace Go.Lw
open Go
inductive Ce where
 | any
 | one
 | int (k : IntKind)
 | bool
 | str
 | gp
 | ol (z : Nat)
 deriving Inhabited
inductive Sh where
 | raw
 | ce (c : Ce)
 | agg (l : List Ce)
 | tup (n : Nat)
 deriving Inhabited
/- What the kernel is to undo first (the height of a definition). -/
def hz0 : Nat := 0
def hz1 : Nat := hz0
def hz2 : Nat := hz1
def hz3 : Nat := hz2
def hz4 : Nat := hz3
def hz5 : Nat := hz4
def hz6 : Nat := hz5
def hz7 : Nat := hz6
def hz8 : Nat := hz7
def hz9 : Nat := hz8
def hz10 : Nat := hz9
def hz11 : Nat := hz10
def hz12 : Nat := hz11
def hz13 : Nat := hz12
def hz14 : Nat := hz13
def hz15 : Nat := hz14
def hz16 : Nat := hz15
def hz17 : Nat := hz16
def hz18 : Nat := hz17
def hz19 : Nat := hz18
def hz20 : Nat := hz19
def hz21 : Nat := hz20
def hz22 : Nat := hz21
def hz23 : Nat := hz22
def hz24 : Nat := hz23
def hz25 : Nat := hz24
def hz26 : Nat := hz25
def hz27 : Nat := hz26
def hz28 : Nat := hz27
def hz29 : Nat := hz28
def hz30 : Nat := hz29
def hz31 : Nat := hz30
def hz32 : Nat := hz31
def hz33 : Nat := hz32
def hz34 : Nat := hz33
def hz35 : Nat := hz34
def hz36 : Nat := hz35
def hz37 : Nat := hz36
def hz38 : Nat := hz37
def hz39 : Nat := hz38
def hz40 : Nat := hz39
def hz41 : Nat := hz40
def hz42 : Nat := hz41
def hz43 : Nat := hz42
def hz44 : Nat := hz43
def hz45 : Nat := hz44
def hz46 : Nat := hz45
def hz47 : Nat := hz46
def hz48 : Nat := hz47
def hz49 : Nat := hz48
def hz50 : Nat := hz49
def hz51 : Nat := hz50
def hz52 : Nat := hz51
def hz53 : Nat := hz52
def hz54 : Nat := hz53
def hz55 : Nat := hz54
def hz56 : Nat := hz55
def hz57 : Nat := hz56
def hz58 : Nat := hz57
def hz59 : Nat := hz58
def hz60 : Nat := hz59
def hz61 : Nat := hz60
def hz62 : Nat := hz61
def hz63 : Nat := hz62
def hz64 : Nat := hz63
def hz65 : Nat := hz64
def hz66 : Nat := hz65
def hz67 : Nat := hz66
def hz68 : Nat := hz67
def hz69 : Nat := hz68
def hz70 : Nat := hz69
section
variable {R : Type} {α : Type}
def ob0 (x : Option α) (f : α → Option R) : Option R := match x with | some a => f a | none => none
def gd0 (b : Bool) (x : Option R) : Option R := match b with | true => x | false => none
def ob (x : Option α) (f : α → Option R) : Option R := (fun _ : Nat =>
 match x with | some a => f a | none => none) hz45
def gd (b : Bool) (x : Option R) : Option R := (fun _ : Nat =>
 match b with | true => x | false => none) hz45
def gb (b : Bool) (x : Option R) : Option R := (fun _ : Nat =>
 match b with | true => x | false => none) hz45
def br (_ : Nat) (b : Bool) (x y : Option R) : Option R := (fun _ : Nat =>
 match b with | true => x | false => y) hz45
def kR (x : Option (IExit × St)) (k : IExit → St → Option R) : Option R := match x with | some (e, s) => k e s | none => none
def nx (e : IExit) (s : St) (k : IExit → St → Option R) (f : St → Option R) : Option R := (fun _ : Nat =>
 match e with | .normal => f s | e => k e s) hz70
def bk (id : Nat) (e : IExit) (s : St) (k : IExit → St → Option R) : Option R := match e with | .exit i => br 0 (Nat.beq i id) (k .normal s) (k (.exit i) s) | e => k e s
def iAnd (k : IntKind) (a b : Int) : Int := k.wrap (BitVec.ofInt k.bits a &&& BitVec.ofInt k.bits b).toNat
def iOr (k : IntKind) (a b : Int) : Int := k.wrap (BitVec.ofInt k.bits a ||| BitVec.ofInt k.bits b).toNat
def iXor (k : IntKind) (a b : Int) : Int := k.wrap (BitVec.ofInt k.bits a ^^^ BitVec.ofInt k.bits b).toNat
def iShl (k : IntKind) (a b : Int) : Int := k.wrap (a * 2 ^ (min b.toNat k.bits))
def iShr (k : IntKind) (a b : Int) : Int := a.fdiv (2 ^ (min b.toNat k.bits))
def iNot (k : IntKind) (n : Int) : Int := k.wrap (BitVec.ofInt k.bits (if k.signed then -1 else k.max) ^^^ BitVec.ofInt k.bits n).toNat
def kIdx : IntKind → Nat
 | .i8 => 0 | .i16 => 1 | .i32 => 2 | .i64 => 3 | .u8 => 4 | .u16 => 5 | .u32 => 6 | .u64 => 7
def kE (k k' : IntKind) (x : Option R) : Option R := gb (Nat.beq (kIdx k) (kIdx k')) x
def Fn : Nat → Type → Type
 | 0, R => R
 | n + 1, R => PV → Fn n R
def curry : (n : Nat) → (List PV → R) → Fn n R
 | 0, g => g []
 | n + 1, g => fun c => curry n fun l => g (c :: l)
def unN : (n : Nat) → List PV → Fn n (Option R) → Option R
 | 0, [], f => f
 | n + 1, c :: l, f => unN n l (f c)
 | _, _, _ => none
def isC (v : PV) (x : Option R) : Option R := (fun _ : Nat =>
 match v with | .agg _ => none | _ => x) hz45
def stK (nl : Nat) (v : PV) (x : Option R) : Option R := (fun _ : Nat =>
 match v with
  | .ptr false b _ => gb (Nat.ble (b + 1) nl) x
  | .bs false b _ _ _ => gb (Nat.ble (b + 1) nl) x
  | _ => x) hz45
def onK (v : PV) (x : Option R) : Option R := (fun _ : Nat =>
 match v with
  | .und | .agg _ | .tup _ | .ptr false _ _ | .bs false _ _ _ _ | .arr _ _ | .junk => none
  | _ => x) hz45
def arL : List PV → Option R → Option R
 | [], x => x
 | c :: l, x => onK c (arL l x)
def arK (v : PV) (x : Option R) : Option R := (fun _ : Nat =>
 match v with
  | .agg cs => arL cs x
  | .und | .tup _ | .ptr false _ _ | .bs false _ _ _ _ | .arr _ _ | .junk => none
  | _ => x) hz45
def allK : List PV → Option R → Option R
 | [], x => x
 | v :: l, x => arK v (allK l x)
def lenB : List PV → Nat → Bool
 | [], 0 => true
 | _ :: l, n + 1 => lenB l n
 | _, _ => false
def geB : List PV → Nat → Bool
 | _, 0 => true
 | _ :: l, n + 1 => geB l n
 | [], _ + 1 => false
def lnK (z : Nat) (v : PV) (x : Option R) : Option R := (fun _ : Nat =>
 match v with
  | .agg cs => gb (lenB cs z) x
  | _ => gb (Nat.beq 1 z) x) hz45
def slK (z : Nat) : List PV → Option R → Option R
 | [], x => x
 | v :: l, x => arK v (lnK z v (slK z l x))
def isPtr : PV → Bool
 | .ptr _ _ _ | .ep _ _ | .fn _ _ => true
 | _ => false
def unI (k : IntKind) (v : PV) (f : Int → Option R) : Option R := (fun _ : Nat =>
 match v with | .int k' n => kE k' k (f n) | _ => none) hz45
def anyI (v : PV) (f : Int → Option R) : Option R := (fun _ : Nat =>
 match v with | .int _ n => f n | _ => none) hz45
def unB (v : PV) (f : Bool → Option R) : Option R := (fun _ : Nat =>
 match v with | .bool b => f b | _ => none) hz45
def unS (v : PV) (f : ByteArray → Option R) : Option R := (fun _ : Nat =>
 match v with | .str b => f b | _ => none) hz45
def unG (v : PV) (f : Nat → Nat → Option R) : Option R := (fun _ : Nat =>
 match v with | .ptr true b off => f b off | _ => none) hz45
def unO (z : Nat) (v : PV) (f : List PV → Option R) : Option R := match v with | .sl true z' xs => gb (Nat.beq z' z) (f xs) | _ => none
def unA (n : Nat) (v : PV) (f : Fn n (Option R)) : Option R := match v with | .agg cs => unN n cs f | _ => none
def unT (n : Nat) (v : PV) (f : Fn n (Option R)) : Option R := match v with | .tup cs => unN n cs f | _ => none
def nilB (v : PV) (f : Bool → Option R) : Option R := match v with | .nilI => f true | .someI => f false | _ => none
def castC (c : Ce) (v : PV) (f : PV → Option R) : Option R :=
 match c with
 | .any => f v
 | .one => isC v (f v)
 | .int k => unI k v fun n => f (.int k n)
 | .bool => unB v fun b => f (.bool b)
 | .str => unS v fun b => f (.str b)
 | .gp => unG v fun b off => f (.ptr true b off)
 | .ol z => unO z v fun xs => f (.sl true z xs)
def castL : List Ce → List PV → (List PV → Option R) → Option R
 | [], [], f => f []
 | c :: cs, v :: vs, f => castC c v fun v => castL cs vs fun vs => f (v :: vs)
 | _, _, _ => none
def cast (h : Sh) (v : PV) (f : PV → Option R) : Option R :=
 match h with
 | .raw => f v
 | .ce c => castC c v f
 | .agg l => unA l.length v (curry l.length fun cs => castL l cs fun cs => f (.agg cs))
 | .tup n => unT n v (curry n fun vs => f (.tup vs))
inductive Tr where
 | nil
 | node (n : Nat) (h : Sh) (l r : Tr)
def shAt : Tr → Nat → Sh
 | .nil, _ => .raw
 | .node n h l r, t => match Nat.beq n t with
  | true => h
  | false => match Nat.ble n t with
   | true => shAt r t
   | false => shAt l t
def shX (an : Tr) : IX → Sh
 | .t n => shAt an n
 | .c _ => .raw
 | .f _ => .raw
def getX : List (Nat × PV) → Nat → Option PV
 | [], _ => none
 | (a, v) :: l, t => match Nat.beq a t with
  | true => some v
  | false => getX l t
def putK : List (Nat × PV) → Nat → PV → (List (Nat × PV) → Option R) → Option R
 | [], t, v, k => (fun _ : Nat => k [(t, v)]) hz70
 | (a, u) :: l, t, v, k => match Nat.beq a t with
  | true => k ((t, v) :: l)
  | false => putK l t v fun l => k ((a, u) :: l)
def snocK : List α → α → (List α → Option R) → Option R
 | [], v, k => (fun _ : Nat => k [v]) hz70
 | u :: l, v, k => snocK l v fun l => k (u :: l)
def setK : List α → Nat → α → (List α → Option R) → Option R
 | [], _, _, k => (fun _ : Nat => k []) hz70
 | _ :: l, 0, v, k => k (v :: l)
 | u :: l, i + 1, v, k => setK l i v fun l => k (u :: l)
def nthX : List α → Nat → Option α
 | [], _ => none
 | u :: _, 0 => some u
 | _ :: l, i + 1 => nthX l i
def takeK : Nat → List α → (List α → Option R) → Option R
 | 0, _, k => (fun _ : Nat => k []) hz70
 | _, [], k => k []
 | n + 1, u :: l, k => takeK n l fun l => k (u :: l)
def evX (e : List (Nat × PV)) : IX → Option PV
 | .t n => match getX e n with
  | some v => some (degr v)
  | none => none
 | .c v => some (degr v)
 | .f id => some (.fn id [])
def evK (e : List (Nat × PV)) : IX → Option PV
 | .t n => match getX e n with
  | some v => some (degr v)
  | none => none
 | .c v => some v
 | .f id => some (.fn id [])
def evXs (e : List (Nat × PV)) : List IX → (List PV → Option R) → Option R
 | [], k => (fun _ : Nat => k []) hz70
 | x :: l, k => match evX e x with
  | some v => evXs e l fun vs => k (v :: vs)
  | none => none
def tkX (e : List (Nat × PV)) (x : IX) (k : PV → List (Nat × PV) → Option R) : Option R :=
 match x with
 | .t n => match getX e n with
  | some v => putK e n (degr v) fun e => k v e
  | none => none
 | .c v => k v e
 | .f id => k (.fn id []) e
def putS (s : St) (d : Nat) (v : PV) (k : St → Option R) : Option R := putK s.env d v fun e => k ⟨e, s.lh, s.gh⟩
def cellsX (h : Sh) (v : PV) (f : List PV → Option R) : Option R :=
 match h with
 | .ce _ => isC v (f [v])
 | _ => f v.cells
def setX (an : Tr) (s : St) (d : Nat) (v : PV) (k : St → Option R) : Option R := cast (shAt an d) v fun w => putS s d w k
def ghCells (gh : List GObj) (b : Nat) : Option (List PV) := match gh[b]? with | some (.cells cs) => some cs | _ => none
def ghMap (gh : List GObj) (b : Nat) : Option (List (PV × PV)) := match gh[b]? with | some (.map es) => some es | _ => none
def ldX (lh : List (List PV)) (gh : List GObj) (agg : Bool) (k : Nat) (p : PV) (f : PV → Option R) : Option R :=
 (fun _ : Nat =>
 match p with
 | .ptr false b off => match nthX lh b with
  | some cs => (match grab agg k off cs with | some v => f (degr v) | none => none)
  | none => none
 | .ptr true b off => ob0 (ghCells gh b) fun cs => ob0 (grab agg k off cs) fun v => f (degr v)
 | .ep e off => ob0 (grab agg k off e.cells) f
 | _ => none) hz20
def stOk (k off : Nat) (cs old : List PV) : Bool := lenB cs k && geB old (off + k)
def stoX (s : St) (p : PV) (kk : Nat) (cs : List PV) (k : St → Option R) : Option R :=
 match p with
 | .ptr false b off => match nthX s.lh b with
  | some old => gb (stOk kk off cs old) (setK s.lh b (spliceAt old off cs) fun lh => k ⟨s.env, lh, s.gh⟩)
  | none => none
 | .ptr true b off => ob (ghCells s.gh b) fun old => gb (stOk kk off cs old) (k ⟨s.env, s.lh, s.gh.set b (.cells (spliceAt old off cs))⟩)
 | _ => none
def psX (an : Tr) (e : List (Nat × PV)) : List (Nat × Nat × IX) → List PV → (List PV → Option R) → Option R
 | [], z, f => f z
 | (off, k, x) :: l, z, f => match evX e x with
  | some v => arK v (cellsX (shX an x) v fun cs => gb (stOk k off cs z) (psX an e l (spliceAt z off cs) f))
  | none => none
def psT (an : Tr) : List (Nat × PV) → List (Nat × Nat × IX) → List PV → (List (Nat × PV) → List PV → Option R) → Option R
 | e, [], z, f => f e z
 | e, (off, k, x) :: l, z, f => tkX e x fun v e1 => arK v (cellsX (shX an x) v fun cs => gb (stOk k off cs z) (psT an e1 l (spliceAt z off cs) f))
def mkOk (n : Int) (bytes z : Nat) (zero : PV) : Bool := decide (0 ≤ n ∧ n * bytes ≤ maxBytes ∧ zero.cells.length = z ∧ argOk zero = true)
def boX (e : List (Nat × PV)) (x : Option IX) (f : Option Int → Option R) : Option R :=
 match x with
 | none => f none
 | some x => match evX e x with
  | some v => anyI v fun n => f (some n)
  | none => none
def bd (d : Nat) (x : Option Int) (f : Nat → Option R) : Option R := match x with | none => f d | some i => gd0 (decide (0 ≤ i)) (f i.toNat)
def slX (z : Nat) (v : PV) (lo hi : Option Int) (f : PV → Option R) : Option R :=
 match v with
 | .sl _ z' xs => bd xs.length hi fun h => bd 0 lo fun l => gd0 (decide (l ≤ h ∧ h ≤ xs.length ∧ z = z')) (f (.sl false z ((xs.take h).drop l)))
 | .bs g b off n z' => bd n hi fun h => bd 0 lo fun l => gd0 (decide (l ≤ h ∧ h ≤ n ∧ z = z')) (f (.bs g b (off + l * z) (h - l) z))
 | .stk b gen n => match lo with
  | none => bd n hi fun h => gd0 (decide (h ≤ n ∧ z = 1)) (f (.stk b gen h))
  | some lo => bd n hi fun h => bd 0 (some lo) fun l => gd0 (decide (l ≤ h ∧ h ≤ n ∧ z = 1)) (f (.sub b gen l (h - l)))
 | .sub b gen off n => bd n hi fun h => bd 0 lo fun l => gd0 (decide (l ≤ h ∧ h ≤ n ∧ z = 1)) (f (.sub b gen (off + l) (h - l)))
 | _ => none
def ssX (v : PV) (lo hi : Option Int) (f : ByteArray → Option R) : Option R :=
 match v with
 | .str b => bd b.size hi fun h => bd 0 lo fun l => gd (decide (l ≤ h ∧ h ≤ b.size)) (f (b.extract l h))
 | _ => none
def faX (p : PV) (off : Nat) (f : PV → Option R) : Option R :=
 (fun _ : Nat =>
 match p with
 | .ptr g b o => f (.ptr g b (o + off))
 | .ep e o => f (.ep e (o + off))
 | _ => none) hz30
def fdX (v : PV) (agg : Bool) (k off : Nat) (f : PV → Option R) : Option R :=
 match v with
 | .agg cs => ob (grab agg k off cs) f
 | _ => none
def idX (z : Nat) (arr : Option Nat) (v : PV) (i : Int) (f : PV → Option R) : Option R :=
 match arr, v with
 | none, .sl _ z' xs => gd0 (decide (0 ≤ i ∧ z = z')) (ob0 xs[i.toNat]? fun e => f (.ep e 0))
 | none, .bs g b off n z' => gd0 (decide (0 ≤ i ∧ i < n ∧ z = z')) (f (.ptr g b (off + i.toNat * z)))
 | some m, .ptr g b o => gd0 (decide (0 ≤ i ∧ i < m)) (f (.ptr g b (o + i.toNat * z)))
 | some m, .ep e o => gd0 (decide (0 ≤ i ∧ i < m)) (f (.ep e (o + i.toNat * z)))
 | none, .stk b gen n => gd0 (decide (0 ≤ i ∧ i < n ∧ z = 1)) (f (.pstk b gen i.toNat))
 | none, .sub b gen off n => gd0 (decide (0 ≤ i ∧ i < n ∧ z = 1)) (f (.pstk b gen (off + i.toNat)))
 | _, _ => none
def ixX (v : PV) (z arr : Nat) (agg : Bool) (i : Int) (f : PV → Option R) : Option R :=
 match v with
 | .agg cs => gd (decide (0 ≤ i ∧ i < arr)) (ob (grab agg z (i.toNat * z) cs) f)
 | _ => none
def isX (v : PV) (i : Int) (f : Int → Option R) : Option R :=
 match v with
 | .str b => gd (decide (0 ≤ i)) (ob b[i.toNat]? fun u => f u.toNat)
 | _ => none
def lkX (gh : List GObj) (kn : Nat) (m k : PV) (f : Option PV → Option R) : Option R :=
 match m with
 | .mp b => ob (ghMap gh b) fun es => gd (isKey kn k) (ob (mfind kn es k) f)
 | _ => none
def muX (gh : List GObj) (kn : Nat) (m k v : PV) (f : List GObj → Option R) : Option R :=
 match m with
 | .mp b => ob (ghMap gh b) fun es => gd (argOk k && (argOk v && isKey kn k)) (ob (mset kn es k v) fun es' => f (gh.set b (.map es')))
 | _ => none
def lenS (v : PV) (f : Nat → Option R) : Option R := match v with | .sl _ _ xs => f xs.length | .bs _ _ _ n _ => f n | .stk _ _ n => f n | .sub _ _ _ n => f n | .nils => f 0 | _ => none
def lenM (gh : List GObj) (v : PV) (f : Nat → Option R) : Option R := match v with | .mp b => ob (ghMap gh b) fun es => f es.length | _ => none
def apX (z bytes : Nat) (v w : PV) (f : List PV → Option R) : Option R :=
 match w, v with
 | .sl _ z2 ys, .sl o z1 xs => gd (decide (o = true ∧ z1 = z ∧ z2 = z ∧ (xs.length + ys.length) * bytes ≤ maxBytes)) (f (xs ++ ys))
 | _, _ => none
def ghStk (gh : List GObj) (b : Nat) : Option (Nat × List PV) := match gh[b]? with | some (.stk g xs) => some (g, xs) | _ => none
def akX (gh : List GObj) (bytes : Nat) (v w : PV) (f : List GObj → PV → Option R) : Option R :=
 ob (elsOf gh w) fun ys => match v with
  | .stk b gen n => ob (ghStk gh b) fun p => gd (decide (p.1 = gen ∧ n ≤ p.2.length ∧ (n + ys.length) * bytes ≤ maxBytes ∧ apart b w = true ∧ ys.all isFlat = true)) (f (gh.set b (.stk (p.1 + 1) (p.2.take n ++ ys))) (.stk b (p.1 + 1) (n + ys.length)))
  | _ => none
def anX (gh : List GObj) (bytes : Nat) (v w : PV) (f : List GObj → PV → Option R) : Option R :=
 match v with
 | .nils => ob (elsOf gh w) fun ys => gd (decide (ys ≠ [] ∧ ys.length * bytes ≤ maxBytes ∧ ys.all isFlat = true)) (f (gh ++ [.stk 0 ys]) (.stk gh.length 0 ys.length))
 | v => akX gh bytes v w f
def lkK (gh : List GObj) (v : PV) (f : PV → Option R) : Option R := match v with | .pstk b gen i => ob (stkGet gh b gen i) f | _ => none
def exX (v : PV) (i : Nat) (f : PV → Option R) : Option R := match v with | .tup vs => ob vs[i]? f | _ => none
noncomputable def callR (gh : List GObj) (q : Bool) (x : Option (PV × List GObj)) (f : PV → List GObj → Option R) : Option R :=
 open Classical in
 match x with | some (r, gh') => (match q with | true => (if gh' = gh then f r gh else none) | false => f r gh') | none => none
def callN (vs : List PV) (x : Option (PV × List GObj)) (f : PV → Option R) : Option R :=
 gd (noGs vs) (match x with | some (r, []) => gd r.noG (f r) | _ => none)
def elK (gh : List GObj) (vs : List PV) (k : List PV → Option R) : Option R := match elPs gh vs with | some us => k us | none => none
def callE (us : List PV) (x : Option (PV × List GObj)) (f : PV → Option R) : Option R :=
 gd (noGs us) (match x with | some (r, []) => gd (isFlat r) (f r) | _ => none)
def fnX (v : PV) (f : Nat → List PV → Option R) : Option R := match v with | .fn i cs => f i cs | _ => none
def newX (s : St) (d : Nat) (g : Bool) (cs : List PV) (k : St → Option R) : Option R :=
 match g with
 | true => putK s.env d (.ptr true s.gh.length 0) fun e => k ⟨e, s.lh, s.gh ++ [.cells cs]⟩
 | false => putK s.env d (.ptr false s.lh.length 0) fun e => snocK s.lh cs fun lh => k ⟨e, lh, s.gh⟩
def binX (op : BinOp) (a b : PV) (f : PV → Option R) : Option R :=
 match a, b with
 | .int k x, .int k' y => match op with
  | .add => kE k k' (f (.int k (k.wrap (x + y))))
  | .sub => kE k k' (f (.int k (k.wrap (x - y))))
  | .mul => kE k k' (f (.int k (k.wrap (x * y))))
  | .quo => kE k k' (gd (decide (y ≠ 0)) (f (.int k (k.wrap (x.tdiv y)))))
  | .rem => kE k k' (gd (decide (y ≠ 0)) (f (.int k (x.tmod y))))
  | .and => kE k k' (f (.int k (iAnd k x y)))
  | .or => kE k k' (f (.int k (iOr k x y)))
  | .xor => kE k k' (f (.int k (iXor k x y)))
  | .eql => kE k k' (f (.bool (x == y)))
  | .neq => kE k k' (f (.bool (x != y)))
  | .lss => kE k k' (f (.bool (decide (x < y))))
  | .leq => kE k k' (f (.bool (decide (x ≤ y))))
  | .gtr => kE k k' (f (.bool (decide (y < x))))
  | .geq => kE k k' (f (.bool (decide (y ≤ x))))
  | .shl => gd (decide (0 ≤ y)) (f (.int k (iShl k x y)))
  | .shr => gd (decide (0 ≤ y)) (f (.int k (iShr k x y)))
  | op => ob (binPV op (.int k x) (.int k' y)) f
 | .str x, .str y => match op with
  | .eql => f (.bool (x.toList == y.toList))
  | .neq => f (.bool (!(x.toList == y.toList)))
  | op => ob (binPV op (.str x) (.str y)) f
 | _, _ => none
def unX (op : UnOp) (a : PV) (f : PV → Option R) : Option R :=
 match op, a with
 | .neg, .int k n => f (.int k (k.wrap (0 - n)))
 | .xor, .int k n => f (.int k (iNot k n))
 | .not, .bool b => f (.bool (!b))
 | _, _ => none
def maxX (vs : List PV) (f : PV → Option R) : Option R :=
 match vs with
 | [.int k a, .int k' b] => kE k k' (f (.int k (if b > a then b else a)))
 | _ => none
def setO (an : Tr) (s : St) (d : Option Nat) (v : PV) (k : St → Option R) : Option R :=
 match d with
 | some d => setX an s d v k
 | none => k s
noncomputable def q9j (cf : CallF) (an : Tr) (s : St) (k : St → Option R) (d : Nat) (x : IX) : Option R := match evK s.env x with
  | some v => setX an s d v k
  | none => none
noncomputable def q9k (cf : CallF) (an : Tr) (s : St) (k : St → Option R) (d : Nat) (n : Nat) : Option R := match getX s.env n with
  | some v => putK s.env n (degr v) fun e => putK e d v fun e => k ⟨e, s.lh, s.gh⟩
  | none => none
noncomputable def q9l (cf : CallF) (an : Tr) (s : St) (k : St → Option R) (d : Nat) (c : IX) (x : IX) (y : IX) : Option R := match evX s.env c, evX s.env x, evX s.env y with
  | some c, some v, some w => unB c fun b => br d b (setX an s d v k) (setX an s d w k)
  | _, _, _ => none
noncomputable def q5m (cf : CallF) (an : Tr) (s : St) (k : St → Option R) (d : Nat) (g : Bool) (x : IX) : Option R := tkX s.env x fun v e => arK v (cellsX (shX an x) v fun cs => newX ⟨e, s.lh, s.gh⟩ d g cs k)
noncomputable def q5n (cf : CallF) (an : Tr) (s : St) (k : St → Option R) (d : Nat) (g : Bool) (x : IX) : Option R := match evX s.env x with
  | some v => arK v (cellsX (shX an x) v fun cs => newX s d g cs k)
  | none => none
noncomputable def q9m (cf : CallF) (an : Tr) (s : St) (k : St → Option R) (d : Nat) (g : Bool) (z : PV) : Option R := arK z (newX s d g z.cells k)
noncomputable def q9n (cf : CallF) (an : Tr) (s : St) (k : St → Option R) (d : Nat) (z : List PV) (ps : List (Nat × Nat × IX)) : Option R := arL z (psX an s.env ps z fun cs => putS s d (.agg cs) k)
noncomputable def q9o (cf : CallF) (an : Tr) (s : St) (k : St → Option R) (d : Nat) (z : List PV) (ps : List (Nat × Nat × IX)) : Option R := arL z (psT an s.env ps z fun e cs => putK e d (.agg cs) fun e => k ⟨e, s.lh, s.gh⟩)
noncomputable def q9p (cf : CallF) (an : Tr) (s : St) (k : St → Option R) (d : Nat) (z : Nat) (els : List IX) : Option R := evXs s.env els fun vs => slK z vs (putS s d (.sl true z vs) k)
noncomputable def q9q (cf : CallF) (an : Tr) (s : St) (k : St → Option R) (d : Nat) (agg : Bool) (kk : Nat) (a : IX) : Option R := match evX s.env a with
  | some p => ldX s.lh s.gh agg kk p fun v => setX an s d v k
  | none => none
noncomputable def q9r (cf : CallF) (an : Tr) (s : St) (k : St → Option R) (d : Nat) (a : IX) : Option R := match evX s.env a with
  | some (.ptr false b off) => match nthX s.lh b with
   | some cs => ob cs[off]? fun v => setK s.lh b (spliceAt cs off [degr1 v]) fun lh => putK s.env d v fun e => k ⟨e, lh, s.gh⟩
   | none => none
  | some (.ptr true b off) => ob (ghCells s.gh b) fun cs => ob cs[off]? fun v => putK s.env d v fun e => k ⟨e, s.lh, s.gh.set b (.cells (spliceAt cs off [degr1 v]))⟩
  | _ => none
noncomputable def q9s (cf : CallF) (an : Tr) (s : St) (k : St → Option R) (d : Nat) (a : IX) : Option R := match evX s.env a with
  | some (.ptr false b off) => match nthX s.lh b with
   | some cs => ob cs[off]? fun v => setK s.lh b (spliceAt cs off [degr1 v]) fun lh => putK s.env d v fun e => k ⟨e, lh, s.gh⟩
   | none => none
  | _ => none
noncomputable def q5o (cf : CallF) (an : Tr) (s : St) (k : St → Option R) (kk : Nat) (a : IX) (x : IX) : Option R := match evX s.env a with
  | some p => tkX s.env x fun v e => arK v (cellsX (shX an x) v fun cs => stoX ⟨e, s.lh, s.gh⟩ p kk cs k)
  | none => none
noncomputable def q5p (cf : CallF) (an : Tr) (s : St) (k : St → Option R) (kk : Nat) (a : IX) (x : IX) : Option R := match evX s.env a, evX s.env x with
  | some p, some v => arK v (cellsX (shX an x) v fun cs => stoX s p kk cs k)
  | _, _ => none
noncomputable def q9t (cf : CallF) (an : Tr) (s : St) (k : St → Option R) (d : Nat) (x : IX) : Option R := match evX s.env x with
  | some p => gd (isPtr p) (setX an s d p k)
  | none => none
noncomputable def q9u (cf : CallF) (an : Tr) (s : St) (k : St → Option R) (d : Nat) (op : BinOp) (x : IX) (y : IX) : Option R := match evX s.env x, evX s.env y with
  | some a, some b => binX op a b fun v => setX an s d v k
  | _, _ => none
noncomputable def q9v (cf : CallF) (an : Tr) (s : St) (k : St → Option R) (d : Nat) (neg : Bool) (ks : List Bool) (x : IX) (y : IX) : Option R := match evX s.env x, evX s.env y with
  | some (.agg a), some (.agg b) => ob (flatEq ks a b) fun r => putS s d (.bool (match neg with | true => !r | false => r)) k
  | _, _ => none
noncomputable def q9w (cf : CallF) (an : Tr) (s : St) (k : St → Option R) (d : Nat) (op : UnOp) (x : IX) : Option R := match evX s.env x with
  | some a => unX op a fun v => setX an s d v k
  | none => none
noncomputable def q9x (cf : CallF) (an : Tr) (s : St) (k : St → Option R) (d : Nat) (kd : IntKind) (x : IX) : Option R := match evX s.env x with
  | some v => anyI v fun n => putS s d (.int kd (kd.wrap n)) k
  | none => none
noncomputable def q9y (cf : CallF) (an : Tr) (s : St) (k : St → Option R) (d : Nat) (f : Nat) (caps : List IX) : Option R := evXs s.env caps fun vs => allK vs (putS s d (.fn f vs) k)
noncomputable def q9z (cf : CallF) (an : Tr) (s : St) (k : St → Option R) (d : Nat) : Option R := putK s.env d (.mp s.gh.length) fun e => k ⟨e, s.lh, s.gh ++ [.map []]⟩
noncomputable def qa0 (cf : CallF) (an : Tr) (s : St) (k : St → Option R) (d : Nat) (g : Bool) (z : Nat) (bytes : Nat) (zero : PV) (l : IX) : Option R := match evX s.env l with
  | some v => anyI v fun n => gd (mkOk n bytes z zero) (match g with
   | true => putK s.env d (.bs true s.gh.length 0 n.toNat z) fun e => k ⟨e, s.lh, s.gh ++ [.cells ((List.replicate n.toNat zero).flatMap PV.cells)]⟩
   | false => gd (isFlat zero) (putK s.env d (.sl true z (List.replicate n.toNat zero)) fun e => k ⟨e, s.lh, s.gh⟩))
  | none => none
noncomputable def qa1 (cf : CallF) (an : Tr) (s : St) (k : St → Option R) (d : Nat) (z : Nat) (x : IX) (lo : Option IX) (hi : Option IX) : Option R := match evX s.env x with
  | some v => boX s.env lo fun lo => boX s.env hi fun hi => slX z v lo hi fun w => setX an s d w k
  | none => none
noncomputable def qa2 (cf : CallF) (an : Tr) (s : St) (k : St → Option R) (d : Nat) (x : IX) (off : Nat) : Option R := match evX s.env x with
  | some p => faX p off fun p => setX an s d p k
  | none => none
noncomputable def qa3 (cf : CallF) (an : Tr) (s : St) (k : St → Option R) (d : Nat) (z : Nat) (arr : Option Nat) (x : IX) (i : IX) : Option R := match evX s.env i, evX s.env x with
  | some i, some v => anyI i fun i => idX z arr v i fun p => setX an s d p k
  | _, _ => none
noncomputable def qa4 (cf : CallF) (an : Tr) (s : St) (k : St → Option R) (d : Nat) (z : Nat) (arr : Nat) (agg : Bool) (x : IX) (i : IX) : Option R := match evX s.env i, evX s.env x with
  | some i, some v => anyI i fun i => ixX v z arr agg i fun v => setX an s d v k
  | _, _ => none
noncomputable def qa5 (cf : CallF) (an : Tr) (s : St) (k : St → Option R) (d : Nat) (x : IX) (i : IX) : Option R := match evX s.env i, evX s.env x with
  | some i, some v => anyI i fun i => isX v i fun u => putS s d (.int .u8 u) k
  | _, _ => none
noncomputable def qa6 (cf : CallF) (an : Tr) (s : St) (k : St → Option R) (d : Nat) (kn : Nat) (m : IX) (kx : IX) (ok : Bool) (zero : PV) : Option R := match evX s.env m, evX s.env kx with
  | some m, some kv => lkX s.gh kn m kv fun r => setX an s d (match ok with | true => .tup [r.getD (degr zero), .bool r.isSome] | false => r.getD (degr zero)) k
  | _, _ => none
noncomputable def qa7 (cf : CallF) (an : Tr) (s : St) (k : St → Option R) (kn : Nat) (m : IX) (kx : IX) (x : IX) : Option R := match evX s.env m, evX s.env kx, evX s.env x with
  | some m, some kv, some v => muX s.gh kn m kv v fun gh => k ⟨s.env, s.lh, gh⟩
  | _, _, _ => none
noncomputable def qa8 (cf : CallF) (an : Tr) (s : St) (k : St → Option R) (d : Option Nat) (q : Bool) (f : Nat) (xs : List IX) : Option R := evXs s.env xs fun vs => allK vs (callR s.gh q (cf f vs s.gh) fun r gh => setO an ⟨s.env, s.lh, gh⟩ d r k)
noncomputable def qa9 (cf : CallF) (an : Tr) (s : St) (k : St → Option R) (d : Option Nat) (q : Bool) (fv : IX) (xs : List IX) : Option R := match evX s.env fv with
  | some fv => evXs s.env xs fun vs => fnX fv fun f caps => allK vs (allK caps (callR s.gh q (cf f (vs ++ caps) s.gh) fun r gh => setO an ⟨s.env, s.lh, gh⟩ d r k))
  | none => none
noncomputable def qaa (cf : CallF) (an : Tr) (s : St) (k : St → Option R) (d : Option Nat) (f : Nat) (xs : List IX) : Option R := evXs s.env xs fun vs => allK vs (callN vs (cf f vs []) fun r => setO an s d r k)
noncomputable def q2p (cf : CallF) (an : Tr) (s : St) (k : St → Option R) (d : Nat) (x : IX) : Option R := match evX s.env x with
  | some v => lenS v fun n => putS s d (.int .i64 n) k
  | none => none
noncomputable def q2q (cf : CallF) (an : Tr) (s : St) (k : St → Option R) (d : Nat) (x : IX) : Option R := match evX s.env x with
  | some v => unS v fun b => putS s d (.int .i64 b.size) k
  | none => none
noncomputable def q2r (cf : CallF) (an : Tr) (s : St) (k : St → Option R) (d : Nat) (x : IX) : Option R := match evX s.env x with
  | some v => lenM s.gh v fun n => putS s d (.int .i64 n) k
  | none => none
noncomputable def qab (cf : CallF) (an : Tr) (s : St) (k : St → Option R) (d : Nat) (z : Nat) (bytes : Nat) (sx : IX) (x : IX) : Option R := match evX s.env x with
  | some w => tkX s.env sx fun v e => apX z bytes v w fun ys => putK e d (.sl true z ys) fun e => k ⟨e, s.lh, s.gh⟩
  | none => none
noncomputable def qac (cf : CallF) (an : Tr) (s : St) (k : St → Option R) (d : Nat) (bytes : Nat) (sx : IX) (x : IX) : Option R := match evX s.env x, evX s.env sx with
  | some w, some v => akX s.gh bytes v w fun gh u => setX an ⟨s.env, s.lh, gh⟩ d u k
  | _, _ => none
noncomputable def qad (cf : CallF) (an : Tr) (s : St) (k : St → Option R) (d : Nat) (bytes : Nat) (sx : IX) (x : IX) : Option R := match evX s.env x, evX s.env sx with
  | some w, some v => anX s.gh bytes v w fun gh u => setX an ⟨s.env, s.lh, gh⟩ d u k
  | _, _ => none
noncomputable def qae (cf : CallF) (an : Tr) (s : St) (k : St → Option R) (d : Nat) (a : IX) : Option R := match evX s.env a with
  | some v => lkK s.gh v fun u => setX an s d u k
  | none => none
noncomputable def qaf (cf : CallF) (an : Tr) (s : St) (k : St → Option R) (d : Nat) (els : List IX) : Option R := evXs s.env els fun vs => gd (vs.all isFlat) (putK s.env d (.stk s.gh.length 0 vs.length) fun e => k ⟨e, s.lh, s.gh ++ [.stk 0 vs]⟩)
noncomputable def qag (cf : CallF) (an : Tr) (s : St) (k : St → Option R) (d : Nat) (xs : List IX) : Option R := evXs s.env xs fun vs => maxX vs fun v => setX an s d v k
noncomputable def qah (cf : CallF) (an : Tr) (s : St) (k : St → Option R) (d : Nat) (x : IX) (i : Nat) : Option R := match evX s.env x with
  | some v => exX v i fun v => setX an s d v k
  | none => none
def skK (gh : List GObj) (v w : PV) (f : List GObj → Option R) : Option R :=
 match v with
 | .pstk b gen i => ob (ghStk gh b) fun p => gd (decide (p.1 = gen ∧ i < p.2.length ∧ isFlat w = true)) (f (gh.set b (.stk p.1 (p.2.set i w))))
 | _ => none
def ckK (gh : List GObj) (v : PV) (f : List GObj → Option R) : Option R :=
 match v with
 | .sub b gen off n => ob (ghStk gh b) fun p => gd (decide (p.1 = gen ∧ off + n ≤ p.2.length)) (f (gh.set b (.stk p.1 (p.2.take off ++ List.replicate n (.int .i64 0) ++ p.2.drop (off + n)))))
 | _ => none
def aeX (gh : List GObj) (bytes : Nat) (v w : PV) (f : List PV → Option R) : Option R :=
 match v with
 | .sl o z1 xs => ob (elsOf gh w) fun ys => gd (decide (o = true ∧ z1 = 1 ∧ ys.all isFlat = true ∧ (xs.length + ys.length) * bytes ≤ maxBytes)) (f (xs ++ ys))
 | _ => none
noncomputable def kbX (gh gh' : List GObj) (v : PV) (x : Option R) : Option R :=
 open Classical in
 match v with
 | .ptr true b _ => if b < gh.length ∧ gh'[b]? = gh[b]? then x else none
 | .pstk b _ _ => if b < gh.length ∧ gh'[b]? = gh[b]? then x else none
 | .stk b _ _ => if b < gh.length ∧ gh'[b]? = gh[b]? then x else none
 | _ => none
noncomputable def kpX (e : List (Nat × PV)) (gh gh' : List GObj) : List Nat → Option R → Option R
 | [], x => x
 | n :: l, x => match getX e n with
  | some v => kbX gh gh' v (kpX e gh gh' l x)
  | none => none
def lbX (gh : List GObj) (agg : Bool) (k : Nat) (p q : PV) (f : PV → Option R) : Option R :=
 match p, q with
 | .ptr true b off, .ptr true b' _ => gd (decide (b = b')) (ob (ghCells gh b) fun cs => ob (grab agg k off cs) fun v => f (degr v))
 | _, _ => none
def lkbX (gh : List GObj) (p q : PV) (f : PV → Option R) : Option R :=
 match p, q with
 | .pstk b gen i, .stk b' _ _ => gd (decide (b = b')) (ob (stkGet gh b gen i) f)
 | _, _ => none
def ltbX (gh : List GObj) (p q : PV) (o2 : Nat) (f : PV → List GObj → Option R) : Option R :=
 match p, q with
 | .ptr true b off, .ptr true b' o => gd (decide (b = b' ∧ off = o + o2)) (ob (ghCells gh b) fun cs => ob cs[off]? fun v => f v (gh.set b (.cells (spliceAt cs off [degr1 v]))))
 | _, _ => none
def rtP (c : List GObj → Option (PV × List GObj)) (gh : List GObj) (b off : Nat) : Prop :=
 ∃ g1 g2 r1 r2, setRt gh b off true = some g1 ∧ setRt gh b off false = some g2 ∧ c g1 = some r1 ∧ c g2 = some r2 ∧ r1.1 = r2.1 ∧ r1.2[b]? = g1[b]? ∧ r2.2[b]? = g2[b]? ∧ setRt r1.2 b off false = some r2.2 ∧ setRt r2.2 b off true = some r1.2
noncomputable def rtK (c : List GObj → Option (PV × List GObj)) (gh : List GObj) (v : PV) (off : Nat) (x : Option R) : Option R :=
 open Classical in
 match v with
 | .ptr true b o => if rtP c gh b (o + off) then x else none
 | _ => none
def mkaOk (n : Int) (bytes z : Nat) (zero : PV) : Bool := decide (0 ≤ n ∧ n * bytes ≤ maxBytes ∧ z = 1 ∧ isFlat zero = true)
noncomputable def q5q (cf : CallF) (an : Tr) (s : St) (k : St → Option R) (a : IX) (x : IX) : Option R := match evX s.env a, evX s.env x with
  | some v, some w => skK s.gh v w fun gh => k ⟨s.env, s.lh, gh⟩
  | _, _ => none
noncomputable def q5r (cf : CallF) (an : Tr) (s : St) (k : St → Option R) (x : IX) : Option R := match evX s.env x with
  | some v => ckK s.gh v fun gh => k ⟨s.env, s.lh, gh⟩
  | none => none
noncomputable def q5s (cf : CallF) (an : Tr) (s : St) (k : St → Option R) (d f : Nat) (fs : List IX) : Option R := evXs s.env fs fun vs => allK vs (putS s d (.bfn f vs) k)
noncomputable def q5t (cf : CallF) (an : Tr) (s : St) (k : St → Option R) (d : Option Nat) (f : Nat) (xs : List IX) (ns : List Nat) : Option R := evXs s.env xs fun vs => allK vs (callR s.gh false (cf f vs s.gh) fun r gh => kpX s.env s.gh gh ns (setO an ⟨s.env, s.lh, gh⟩ d r k))
noncomputable def q5u (cf : CallF) (an : Tr) (s : St) (k : St → Option R) (d : Option Nat) (f : Nat) (xs : List IX) (n off : Nat) : Option R := evXs s.env xs fun vs => match getX s.env n with
  | some v => allK vs (callR s.gh false (cf f vs s.gh) fun r gh => rtK (cf f vs) s.gh v off (setO an ⟨s.env, s.lh, gh⟩ d r k))
  | none => none
noncomputable def q5v (cf : CallF) (an : Tr) (s : St) (k : St → Option R) (d : Nat) (bytes : Nat) (sx : IX) (x : IX) : Option R := match evX s.env x with
  | some w => tkX s.env sx fun v e => aeX s.gh bytes v w fun ys => putK e d (.sl true 1 ys) fun e => k ⟨e, s.lh, s.gh⟩
  | none => none
noncomputable def q5w (cf : CallF) (an : Tr) (s : St) (k : St → Option R) (d : Nat) (a : IX) (n : Nat) : Option R := match evX s.env a, getX s.env n with
  | some p, some q => lkbX s.gh p q fun v => setX an s d v k
  | _, _ => none
noncomputable def q5x (cf : CallF) (an : Tr) (s : St) (k : St → Option R) (d : Nat) (a : IX) (n o2 : Nat) : Option R := match evX s.env a, getX s.env n with
  | some p, some q => ltbX s.gh p q o2 fun v gh => putK s.env d v fun e => k ⟨e, s.lh, gh⟩
  | _, _ => none
noncomputable def q5y (cf : CallF) (an : Tr) (s : St) (k : St → Option R) (d : Nat) (agg : Bool) (kk : Nat) (a : IX) (n : Nat) : Option R := match evX s.env a, getX s.env n with
  | some p, some q => lbX s.gh agg kk p q fun v => setX an s d v k
  | _, _ => none
noncomputable def q5z (cf : CallF) (an : Tr) (s : St) (k : St → Option R) (d : Nat) (agg : Bool) (kk : Nat) (a : IX) : Option R := match evX s.env a with
  | some (.ptr false b off) => (match nthX s.lh b with | some cs => ob (grab agg kk off cs) fun v => setX an s d (degr v) k | none => none)
  | _ => none
noncomputable def q60 (cf : CallF) (an : Tr) (s : St) (k : St → Option R) (d : Nat) (bytes : Nat) (sx : IX) (x : IX) (ns : List Nat) : Option R := match evX s.env x, evX s.env sx with
  | some w, some v => anX s.gh bytes v w fun gh u => kpX s.env s.gh gh ns (setX an ⟨s.env, s.lh, gh⟩ d u k)
  | _, _ => none
noncomputable def q61 (cf : CallF) (an : Tr) (s : St) (k : St → Option R) (d z bytes : Nat) (zero : PV) (l : IX) : Option R := match evX s.env l with
  | some v => anyI v fun n => gd (mkaOk n bytes z zero) (putS s d (.arr zero n.toNat) k)
  | none => none
noncomputable def opX (cf : CallF) (an : Tr) (s : St) (o : IOp) (k : St → Option R) : Option R :=
 match o with
 | .mv d x => q9j cf an s k d x
 | .tk d n => q9k cf an s k d n
 | .pick d c x y => q9l cf an s k d c x y
 | .box d g true x => q5m cf an s k d g x
 | .box d g false x => q5n cf an s k d g x
 | .alloc d g z => q9m cf an s k d g z
 | .build d z ps => q9n cf an s k d z ps
 | .buildT d z ps => q9o cf an s k d z ps
 | .buildSl d z els => q9p cf an s k d z els
 | .load d agg kk a => q9q cf an s k d agg kk a
 | .loadT d a => q9r cf an s k d a
 | .loadL d a => q9s cf an s k d a
 | .store true kk a x => q5o cf an s k kk a x
 | .store false kk a x => q5p cf an s k kk a x
 | .nilc d x => q9t cf an s k d x
 | .bin d op x y => q9u cf an s k d op x y
 | .eqa d neg ks x y => q9v cf an s k d neg ks x y
 | .un d op x => q9w cf an s k d op x
 | .conv d kd x => q9x cf an s k d kd x
 | .mkfn d f caps => q9y cf an s k d f caps
 | .mkmap d => q9z cf an s k d
 | .mksl d g z bytes zero l => qa0 cf an s k d g z bytes zero l
 | .slice d z x lo hi => qa1 cf an s k d z x lo hi
 | .faddr d x off => qa2 cf an s k d x off
 | .iaddr d z arr x i => qa3 cf an s k d z arr x i
 | .index d z arr agg x i => qa4 cf an s k d z arr agg x i
 | .indexS d x i => qa5 cf an s k d x i
 | .lookup d kn m kx ok zero => qa6 cf an s k d kn m kx ok zero
 | .mupd kn m kx x => qa7 cf an s k kn m kx x
 | .call d q f xs => qa8 cf an s k d q f xs
 | .callv d q fv xs => qa9 cf an s k d q fv xs
 | .callF d f xs => qaa cf an s k d f xs
 | .len d 0 x => q2p cf an s k d x
 | .len d 1 x => q2q cf an s k d x
 | .len d 2 x => q2r cf an s k d x
 | .len _ _ _ => none
 | .append d z bytes sx x => qab cf an s k d z bytes sx x
 | .appendK d bytes sx x => qac cf an s k d bytes sx x
 | .appendN d bytes sx x => qad cf an s k d bytes sx x
 | .storeK a x => q5q cf an s k a x
 | .clearK x => q5r cf an s k x
 | .mkbf d f fs => q5s cf an s k d f fs
 | .buildSlK d els => qaf cf an s k d els
 | .loadK d a => qae cf an s k d a
 | .maxi d xs => qag cf an s k d xs
 | .extract d x i => qah cf an s k d x i
 | .callP d f xs ns => q5t cf an s k d f xs ns
 | .callR d f xs n off => q5u cf an s k d f xs n off
 | .appendE d bytes sx x => q5v cf an s k d bytes sx x
 | .loadKB d a n => q5w cf an s k d a n
 | .loadTB d a n o2 => q5x cf an s k d a n o2
 | .loadB d agg kk a n => q5y cf an s k d agg kk a n
 | .loadJ d agg kk a => q5z cf an s k d agg kk a
 | .appendP d bytes sx x ns => q60 cf an s k d bytes sx x ns
 | .mkarr d z bytes zero l => q61 cf an s k d z bytes zero l
 | .buildA _ _ _ => none
 | _ => none
def skX (s : St) (o : IOp) (k : St → Option R) : Option R :=
 match opDst o with
 | some d => putS s d .und k
 | none => k s
noncomputable def opsX (cf : CallF) (an : Tr) : List IOpG → St → (St → Option R) → Option R
 | [], s, k => k s
 | ⟨o, none⟩ :: l, s, k => opX cf an s o fun s => opsX cf an l s k
 | ⟨o, some (g, want)⟩ :: l, s, k => match getX s.env g with
  | some (.bool b) => br g b
    (putS s g (.bool true) fun s => match want with
     | true => opX cf an s o fun s => opsX cf an l s k
     | false => skX s o fun s => opsX cf an l s k)
    (putS s g (.bool false) fun s => match want with
     | false => opX cf an s o fun s => opsX cf an l s k
     | true => skX s o fun s => opsX cf an l s k)
  | some .und => skX s o fun s => opsX cf an l s k
  | _ => none
def keepX (nl : Nat) : List Nat → List (Nat × PV) → (List (Nat × PV) → Option R) → Option R
 | [], _, f => f []
 | t :: l, e, f => match getX e t with
  | some v => stK nl v (keepX nl l e fun e' => f ((t, v) :: e'))
  | none => keepX nl l e f
def po (ks : List Nat) (nl : Nat) (e : IExit) (s : St) (k : IExit → St → Option R) : Option R :=
 match e with
 | .normal => keepX nl ks s.env fun e => takeK nl s.lh fun lh => k .normal ⟨e, lh, s.gh⟩
 | e => k e s
def tagX : IX → Nat
 | .t n => n
 | _ => 0
noncomputable def runX (pg : Prg) (an : Tr) : ICode → St → (IExit → St → Option R) → Option R
 | .skip, s, k => k .normal s
 | .region ops _, s, k => opsX (callL pg) an ops s (k .normal)
 | .seq a b, s, k => runX pg an a s fun e s' => nx e s' k fun s' => runX pg an b s' k
 | .cond x a b, s, k => match evX s.env x with
  | some v => unB v fun c => br (tagX x) c (runX pg an a s k) (runX pg an b s k)
  | none => none
 | .block id a, s, k => runX pg an a s fun e s' => bk id e s' k
 | .loop a, s, k => kR (runL pg (.loop a) s) k
 | .exit i, s, k => k (.exit i) s
 | .ret, s, k => k .ret s
 | .post a ks nl, s, k => runX pg an a s fun e s' => po ks nl e s' k
 | .cut a, s, k => kR (runL pg a s) k
 | .bad, _, _ => none
end
abbrev DR := Option (IExit × St)
abbrev tI (k : Nat) (l r : Tr) : Tr := .node k (.ce (.int .i64)) l r
abbrev tB (k : Nat) (l r : Tr) : Tr := .node k (.ce (.bool)) l r
abbrev tO (k : Nat) (l r : Tr) : Tr := .node k (.ce (.one)) l r
abbrev tG (k : Nat) (l r : Tr) : Tr := .node k (.ce (.gp)) l r
abbrev uI (k : Nat) : Tr := .node k (.ce (.int .i64)) .nil .nil
abbrev uB (k : Nat) : Tr := .node k (.ce (.bool)) .nil .nil
abbrev uO (k : Nat) : Tr := .node k (.ce (.one)) .nil .nil
abbrev uG (k : Nat) : Tr := .node k (.ce (.gp)) .nil .nil
end Go.Lw
end

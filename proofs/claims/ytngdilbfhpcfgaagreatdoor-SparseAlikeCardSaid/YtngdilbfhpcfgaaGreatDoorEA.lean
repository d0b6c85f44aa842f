/- The evaluator of the code over values without addresses, and plain answers of library functions. -/
import Derived.Calls
import Derived.Orders
import Derived.Recover
set_option linter.unusedSimpArgs false
set_option linter.unusedVariables false
/- An evaluator of the program's code over values without addresses of the world, made for the kernel. -/
set_option linter.unusedVariables false
namespace Go.Proofs.Ev
open Go
noncomputable section

inductive T (α : Type) where
  | e
  | n (v : Option α) (a b c d : T α)
namespace T
variable {α : Type}
def get (t : T α) : Nat → Option α :=
  T.rec (fun _ => none) (fun v _ _ _ _ ga gb gc gd k =>
    Bool.rec
      (Bool.rec
        (Bool.rec (ga (Nat.div (Nat.sub k 1) 4)) (gb (Nat.div (Nat.sub k 1) 4)) (Nat.beq (Nat.mod (Nat.sub k 1) 4) 1))
        (Bool.rec (gc (Nat.div (Nat.sub k 1) 4)) (gd (Nat.div (Nat.sub k 1) 4)) (Nat.beq (Nat.mod (Nat.sub k 1) 4) 3))
        (Nat.ble 2 (Nat.mod (Nat.sub k 1) 4)))
      v (Nat.beq k 0)) t
def ins (x : Option α) (k : Nat) (ih : T α → Nat → T α) (v : Option α) (a b c d : T α) : T α :=
  Bool.rec
    (Bool.rec
      (Bool.rec (.n v (ih a (Nat.div (Nat.sub k 1) 4)) b c d) (.n v a (ih b (Nat.div (Nat.sub k 1) 4)) c d) (Nat.beq (Nat.mod (Nat.sub k 1) 4) 1))
      (Bool.rec (.n v a b (ih c (Nat.div (Nat.sub k 1) 4)) d) (.n v a b c (ih d (Nat.div (Nat.sub k 1) 4))) (Nat.beq (Nat.mod (Nat.sub k 1) 4) 3))
      (Nat.ble 2 (Nat.mod (Nat.sub k 1) 4)))
    (.n x a b c d) (Nat.beq k 0)
def setF (f : Nat) (x : Option α) : T α → Nat → T α :=
  Nat.rec (fun t _ => t) (fun _ ih t k => T.rec (ins x k ih none .e .e .e .e) (fun v a b c d _ _ _ _ => ins x k ih v a b c d) t) f
def set (t : T α) (k : Nat) (x : α) : T α := setF (Nat.succ k) (some x) t k
def del (t : T α) (k : Nat) : T α := setF (Nat.succ k) none t k
end T

inductive V where
  | b (b : Bool)
  | i (k : IntKind) (n : Nat)
  | s (l n : Nat)
  | p0
  | p (b o : Nat)
  | l0
  | l (b o z len : Nat)
  | m0
  | m (r : Nat)
  | f0
  | f (fn : Fn) (first captured : List V)
  | x0
  | x (t : TypeId) (v : V)
  | g (cs : List V)
  | t (vs : List V)

abbrev R := Option
def bd {α β : Type} (o : Option α) (f : α → Option β) : Option β := Option.rec none f o
def gd {β : Type} (b : Bool) (r : Option β) : Option β := Bool.rec none r b

def off : Nat := nat_lit 9223372036854775808
def encL (l : List UInt8) : Nat := List.rec (fun a => a) (fun b _ ih a => ih (Nat.add (Nat.mul a 256) b.toNat)) l 0

mutual
def vOf : Value → R V
  | .bool b => some (.b b)
  | .int k (.ofNat n) => some (.i k (Nat.add n off))
  | .int k (.negSucc n) => gd (Nat.ble (Nat.succ n) off) (some (.i k (Nat.sub off (Nat.succ n))))
  | .string s => some (.s s.size (encL s.data.toList))
  | .pointer none => some .p0
  | .slice none 0 0 => some .l0
  | .map none => some .m0
  | .nilFunc => some .f0
  | .nilIface => some .x0
  | .iface t v => match vOf v with | some x => some (.x t x) | none => none
  | .agg ⟨cs⟩ => match vsOf cs with | some l => some (.g l) | none => none
  | .tuple ⟨cs⟩ => match vsOf cs with | some l => some (.t l) | none => none
  | .func f ⟨a⟩ ⟨b⟩ => match vsOf a, vsOf b with | some a, some b => some (.f f a b) | _, _ => none
  | _ => none
def vsOf : List Value → R (List V)
  | [] => some []
  | v :: vs => match vOf v, vsOf vs with | some x, some l => some (x :: l) | _, _ => none
end

inductive AObj where
  | row (c : T V) (size : Nat)
  | map (es : List (V × V))

variable (P : Program)
def szOf (t : TypeId) : R Nat := match P.info? t with | some i => some i.size | none => none
def und (t : TypeId) : R TypeDesc := P.underlying t
def isA (t : TypeId) : R Bool := match P.underlying t with | some (.struct _) | some (.array _ _) => some true | some _ => some false | none => none
def zeroV (t : TypeId) : R V := match P.info? t with | some i => (match i.zero with | some v => vOf v | none => none) | none => none
def cellsV : V → List V
  | .g cs => cs
  | v => [v]
def lenL (l : List V) : Nat := List.rec 0 (fun _ _ n => Nat.succ n) l
def getCells (c : T V) (n : Nat) : Nat → R (List V) :=
  Nat.rec (fun _ => some []) (fun _ ih o => bd (c.get o) fun v => bd (ih (Nat.succ o)) fun vs => some (v :: vs)) n
def setCells (l : List V) : T V → Nat → T V :=
  List.rec (fun c _ => c) (fun v _ ih c o => ih (c.set o v) (Nat.succ o)) l
def mkRow (cs : List V) : AObj := .row (setCells cs .e 0) (lenL cs)
def flat : V → Bool
  | .g _ => false
  | .t _ => false
  | _ => true
def allFlat (l : List V) : Bool := List.rec true (fun v _ ih => Bool.rec false ih (flat v)) l
def loadA (h : T AObj) (t : TypeId) (b o : Nat) : R V :=
  match h.get b with
  | some (.row c size) => bd (isA P t) (Bool.rec
      (gd (Nat.ble (Nat.succ o) size) (c.get o))
      (bd (szOf P t) fun n => gd (Nat.ble (Nat.add o n) size) (bd (getCells c n o) fun l => some (.g l))))
  | _ => none
inductive Did where
  | val (v : V)
  | new (v : V) (o : AObj)
  | app (v : V) (b : Nat) (o : AObj)
  | set (b : Nat) (o : AObj)
  | enter (f : FuncId) (args : List V)
  | pan (v : V)
  | defer (fn : FuncId) (args : List V)
  | recov
def storeA (h : T AObj) (t : TypeId) (b o : Nat) (v : V) : R Did :=
  match h.get b with
  | some (.row c size) => bd (szOf P t) fun n =>
      gd (Nat.beq (lenL (cellsV v)) n) (gd (Nat.ble (Nat.add o n) size) (gd (allFlat (cellsV v)) (some (.set b (.row (setCells (cellsV v) c o) size)))))
  | _ => none
def val (v : R V) : R Did := bd v fun v => some (.val v)

def evalO (tm : T V) (x : Operand) : R V :=
  match x with
  | .tmp t => tm.get t
  | .const v => vOf v
  | .global _ => none
  | .func f => some (.f (.func f) [] [])
def evalL (tm : T V) (l : List Operand) : R (List V) := List.rec (some []) (fun x _ ih => bd (evalO tm x) fun v => bd ih fun vs => some (v :: vs)) l
def evalP (tm : T V) (l : List (Nat × Operand)) : R (List (Nat × V)) := List.rec (some []) (fun x _ ih => bd (evalO tm x.2) fun v => bd ih fun vs => some ((x.1, v) :: vs)) l
def evalOp (tm : T V) : Option Operand → R (Option V)
  | none => some none
  | some x => bd (evalO tm x) fun v => some (some v)

def withP {β : Type} (v : V) (k : Nat → Nat → R β) : R β := match v with | .p b o => k b o | _ => none
def withN {β : Type} (v : V) (k : Nat → R β) : R β := match v with | .i _ n => gd (Nat.ble off n) (k (Nat.sub n off)) | _ => none
def withG {β : Type} (v : V) (k : List V → R β) : R β := match v with | .g cs => k cs | _ => none
def withB {β : Type} (v : V) (k : Bool → R β) : R β := match v with | .b b => k b | _ => none

def kLo : IntKind → Nat
  | .i8 => 9223372036854775680
  | .i16 => 9223372036854743040
  | .i32 => 9223372034707292160
  | .i64 => 0
  | _ => 9223372036854775808
def kHi : IntKind → Nat
  | .i8 => 9223372036854775935
  | .i16 => 9223372036854808575
  | .i32 => 9223372039002259455
  | .i64 => 18446744073709551615
  | .u8 => 9223372036854776063
  | .u16 => 9223372036854841343
  | .u32 => 9223372041149743103
  | .u64 => 27670116110564327423
def mkI (k : IntKind) (n : Nat) : R V := gd (Nat.ble (kLo k) n) (gd (Nat.ble n (kHi k)) (some (.i k n)))
def kNo : IntKind → Nat
  | .i8 => 0 | .i16 => 1 | .i32 => 2 | .i64 => 3 | .u8 => 4 | .u16 => 5 | .u32 => 6 | .u64 => 7
def intOp (op : BinOp) (k : IntKind) (a b : Nat) : R V :=
  match op with
  | .add => gd (Nat.ble off (Nat.add a b)) (mkI k (Nat.sub (Nat.add a b) off))
  | .sub => gd (Nat.ble b (Nat.add a off)) (mkI k (Nat.sub (Nat.add a off) b))
  | .mul => gd (Nat.ble off a) (gd (Nat.ble off b) (mkI k (Nat.add off (Nat.mul (Nat.sub a off) (Nat.sub b off)))))
  | .quo => gd (Nat.ble off a) (gd (Nat.ble (Nat.succ off) b) (mkI k (Nat.add off (Nat.div (Nat.sub a off) (Nat.sub b off)))))
  | .rem => gd (Nat.ble off a) (gd (Nat.ble (Nat.succ off) b) (mkI k (Nat.add off (Nat.mod (Nat.sub a off) (Nat.sub b off)))))
  | .eql => some (.b (Nat.beq a b))
  | .neq => some (.b (Bool.not (Nat.beq a b)))
  | .lss => some (.b (Nat.ble (Nat.succ a) b))
  | .leq => some (.b (Nat.ble a b))
  | .gtr => some (.b (Nat.ble (Nat.succ b) a))
  | .geq => some (.b (Nat.ble b a))
  | _ => none
def strEq (l a l' b : Nat) : Bool := Bool.rec false (Nat.beq a b) (Nat.beq l l')
def strOp (op : BinOp) (l a l' b : Nat) : R V :=
  match op with
  | .add => gd (Nat.ble (Nat.add l l') 1000000) (some (.s (Nat.add l l') (Nat.add (Nat.shiftLeft a (Nat.mul 8 l')) b)))
  | .eql => some (.b (strEq l a l' b))
  | .neq => some (.b (Bool.not (strEq l a l' b)))
  | _ => none
def isConst : Operand → Bool
  | .const _ => true
  | _ => false
def eqV (t : TypeId) (c : Bool) (x y : V) : R Bool :=
  match und P t, x, y with
  | some .bool, .b a, .b b => some (Bool.rec (Bool.not b) b a)
  | some (.pointer _), .p0, .p0 => some true
  | some (.pointer _), .p0, .p _ _ => some false
  | some (.pointer _), .p _ _, .p0 => some false
  | some (.interface _), .x0, .x0 => gd c (some true)
  | some (.interface _), .x0, .x _ _ => some false
  | some (.interface _), .x _ _, .x0 => some false
  | some (.slice _), .l0, .l0 => some true
  | some (.slice _), .l0, .l .. => some false
  | some (.slice _), .l .., .l0 => some false
  | some (.map _ _), .m0, .m0 => some true
  | some (.map _ _), .m0, .m _ => some false
  | some (.map _ _), .m _, .m0 => some false
  | some (.func _ _ _), .f0, .f0 => some true
  | some (.func _ _ _), .f0, .f .. => some false
  | some (.func _ _ _), .f .., .f0 => some false
  | _, _, _ => none
def binV (op : BinOp) (t : TypeId) (c : Bool) (x y : V) : R V :=
  match op with
  | .eql => bd (eqV P t c x y) fun b => some (.b b)
  | .neq => bd (eqV P t c x y) fun b => some (.b (Bool.not b))
  | _ => none
def binA (op : BinOp) (t : TypeId) (c : Bool) (x y : V) : R V :=
  match x with
  | .i k a => (match y with | .i k' b => gd (Nat.beq (kNo k) (kNo k')) (intOp op k a b) | _ => none)
  | .s l a => (match y with | .s l' b => strOp op l a l' b | _ => none)
  | _ => binV P op t c x y
def eqS (x y : V) : R Bool :=
  match x with
  | .s l a => (match y with | .s l' b => some (strEq l a l' b) | _ => none)
  | _ => none
def eqI (x y : V) : R Bool :=
  match x with
  | .i k a => (match y with | .i k' b => gd (Nat.beq (kNo k) (kNo k')) (some (Nat.beq a b)) | _ => none)
  | _ => none
def eqKey (s : Bool) (x y : V) : R Bool := Bool.rec (eqI x y) (eqS x y) s
def findM (s : Bool) (k : V) (es : List (V × V)) : R (Option V) :=
  List.rec (some none) (fun e _ ih => bd (eqKey s k e.1) (Bool.rec ih (some (some e.2)))) es
def putM (s : Bool) (k v : V) (es : List (V × V)) : R (List (V × V)) :=
  List.rec (some [(k, v)]) (fun e es ih => bd (eqKey s k e.1) (Bool.rec (bd ih fun l => some (e :: l)) (some ((k, v) :: es)))) es
def spl (cs : List V) : Nat → List V → List V :=
  List.rec (fun _ _ => []) (fun c _ ih o l => Nat.rec (List.rec (c :: ih 0 []) (fun v l' _ => v :: ih 0 l') l) (fun o' _ => c :: ih o' l) o) cs
def fillA (place : Nat → R (Nat × Nat)) (ps : List (Nat × V)) : List V → R (List V) :=
  List.rec (fun cs => some cs) (fun p _ ih cs => bd (place p.1) fun q =>
    gd (Nat.beq (lenL (cellsV p.2)) q.2) (gd (Nat.ble (Nat.add q.1 q.2) (lenL cs)) (ih (spl cs q.1 (cellsV p.2))))) ps
def fieldAt (fields : Array Field) (f : Nat) : R Field := fields.toList[f]?
def placesL (l : List Field) : R (List (Nat × Nat)) := List.rec (some []) (fun f _ ih => bd (szOf P f.type) fun n => bd ih fun r => some ((f.offset, n) :: r)) l
def buildA (t : TypeId) (ps : List (Nat × V)) : R V :=
  bd (zeroV P t) fun z => match und P t with
  | some (.struct fields) => bd (placesL P fields.toList) fun pl => bd (fillA (fun i => pl[i]?) ps (cellsV z)) fun cs => some (.g cs)
  | some (.array _ elem) => bd (szOf P elem) fun n => bd (fillA (fun i => some (Nat.mul i n, n)) ps (cellsV z)) fun cs => some (.g cs)
  | _ => none
def repL (n : Nat) (l : List V) : List V := Nat.rec [] (fun _ ih => l ++ ih) n
def fillT (n size : Nat) (ps : List (Nat × V)) : T V → R (T V) :=
  List.rec (fun c => some c) (fun p _ ih c => gd (Nat.beq (lenL (cellsV p.2)) n) (gd (Nat.ble (Nat.mul (Nat.succ p.1) n) size) (ih (setCells (cellsV p.2) c (Nat.mul p.1 n))))) ps
def buildS (nx : Nat) (t : TypeId) (len : Nat) (ps : List (Nat × V)) : R Did :=
  match und P t with
  | some (.slice elem) => bd (szOf P elem) fun n => bd (zeroV P elem) fun z =>
      gd (Nat.beq (lenL (cellsV z)) n) (gd (Nat.ble 1 n) (gd (Nat.ble (Nat.mul len n) 16777216)
        (bd (fillT n (Nat.mul len n) ps (setCells (repL len (cellsV z)) .e 0)) fun c => some (.new (.l nx 0 n len) (.row c (Nat.mul len n))))))
  | _ => none
def dropL (n : Nat) : List V → List V := Nat.rec (fun l => l) (fun _ ih l => List.rec [] (fun _ t _ => ih t) l) n
def takeL (n : Nat) : List V → List V := Nat.rec (fun _ => []) (fun _ ih l => List.rec [] (fun v t _ => v :: ih t) l) n
def nthL (n : Nat) (l : List V) : R V := List.rec none (fun v _ _ => some v) (dropL n l)
def partA (t : TypeId) (cs : List V) (o : Nat) : R V :=
  bd (isA P t) (Bool.rec (nthL o cs) (bd (szOf P t) fun n => some (.g (takeL n (dropL o cs)))))
def fieldA (t : TypeId) (x : V) (f : Nat) : R V :=
  withG x fun cs => match und P t with
  | some (.struct fields) => bd (fieldAt fields f) fun fd => partA P fd.type cs fd.offset
  | _ => none
def fieldAddrA (t : TypeId) (x : V) (f : Nat) : R V :=
  withP x fun b o => match und P t with
  | some (.struct fields) => bd (fieldAt fields f) fun fd => bd (szOf P fd.type) fun n => gd (Nat.ble 1 n) (some (.p b (Nat.add o fd.offset)))
  | _ => none
def indexAddrA (t : TypeId) (x ix : V) : R V :=
  withN ix fun i => match und P t with
  | some (.slice elem) => (match x with
      | .l b o _ len => gd (Nat.ble (Nat.succ i) len) (bd (szOf P elem) fun n => some (.p b (Nat.add o (Nat.mul i n))))
      | _ => none)
  | some (.array len elem) => (match x with
      | .p b o => gd (Nat.ble (Nat.succ i) len) (bd (szOf P elem) fun n => some (.p b (Nat.add o (Nat.mul i n))))
      | _ => none)
  | _ => none
def indexA (t : TypeId) (x ix : V) : R V :=
  withN ix fun i => match x with
  | .s l n => (match und P t with
      | some .string => gd (Nat.ble (Nat.succ i) l) (some (.i .u8 (Nat.add off (Nat.mod (Nat.shiftRight n (Nat.mul 8 (Nat.sub l (Nat.succ i)))) 256))))
      | _ => none)
  | .g cs => (match und P t with
      | some (.array len elem) => gd (Nat.ble (Nat.succ i) len) (bd (szOf P elem) fun n => partA P elem cs (Nat.mul i n))
      | _ => none)
  | _ => none
def boundA (d : Nat) (k : Nat → R V) : Option V → R V
  | none => k d
  | some v => withN v k
def sliceA (t : TypeId) (x : V) (lo hi : Option V) : R V :=
  match x with
  | .s l n => (match und P t with
      | some .string => boundA l (fun h => gd (Nat.ble h l) (boundA 0 (fun a => gd (Nat.ble a h)
          (some (.s (Nat.sub h a) (Nat.mod (Nat.shiftRight n (Nat.mul 8 (Nat.sub l h))) (Nat.pow 2 (Nat.mul 8 (Nat.sub h a))))))) lo)) hi
      | _ => none)
  | .l b o z len => (match und P t with
      | some (.slice elem) => bd (szOf P elem) fun n => gd (Nat.beq n z) (boundA len (fun h => gd (Nat.ble h len) (boundA 0 (fun a => gd (Nat.ble a h)
          (some (.l b (Nat.add o (Nat.mul a z)) z (Nat.sub h a)))) lo)) hi)
      | _ => none)
  | .l0 => (match und P t with
      | some (.slice elem) => bd (szOf P elem) fun _ => boundA 0 (fun h => gd (Nat.beq h 0) (boundA 0 (fun a => gd (Nat.beq a 0) (some .l0)) lo)) hi
      | _ => none)
  | _ => none
def bytesL (l n : Nat) : List V := Nat.rec [] (fun l' ih => .i .u8 (Nat.add off (Nat.mod (Nat.shiftRight n (Nat.mul 8 l')) 256)) :: ih) l
def convA (src dst : TypeId) (x : V) : R V :=
  match und P dst with
  | some (.int k) => (match x with | .i _ n => mkI k n | _ => none)
  | some .string => (match x with | .s l n => some (.s l n) | _ => none)
  | _ => none
def mapOf (h : T AObj) : V → R (List (V × V))
  | .m0 => some []
  | .m r => (match h.get r with | some (.map es) => some es | _ => none)
  | _ => none
def keyType (t : TypeId) : R Bool := match und P t with | some .string => some true | some (.int _) => some false | _ => none
def lookupA (h : T AObj) (t : TypeId) (x k : V) (ok : Bool) : R V :=
  match und P t with
  | some (.map kt elem) => bd (keyType P kt) fun s => bd (mapOf h x) fun es => bd (findM s k es) fun r =>
      Option.rec (bd (zeroV P elem) fun z => some (Bool.rec z (.t [z, .b false]) ok)) (fun u => some (Bool.rec u (.t [u, .b true]) ok)) r
  | _ => none
def mapUpA (h : T AObj) (t : TypeId) (x k v : V) : R Did :=
  match und P t with
  | some (.map kt _) => bd (keyType P kt) fun s => (match x with
      | .m r => (match h.get r with | some (.map es) => bd (putM s k v es) fun es => some (.set r (.map es)) | _ => none)
      | _ => none)
  | _ => none
def assertX (z : R V) (t : TypeId) (x : V) (ok : Bool) : R V :=
  match x with
  | .x0 => Bool.rec none (bd z fun z => some (.t [z, .b false])) ok
  | .x u v => Bool.rec (Bool.rec none (bd z fun z => some (.t [z, .b false])) ok) (some (Bool.rec v (.t [v, .b true]) ok)) (Nat.beq t u)
  | _ => none
def assertA (t : TypeId) (x : V) (ok : Bool) : R V :=
  match und P t with
  | some (.interface _) => none
  | some _ => assertX (zeroV P t) t x ok
  | none => none
def lenA (h : T AObj) (t : TypeId) (x : V) : R V :=
  match und P t with
  | some .string => (match x with | .s l _ => mkI .i64 (Nat.add l off) | _ => none)
  | some (.slice _) => (match x with | .l0 => some (.i .i64 off) | .l _ _ _ n => mkI .i64 (Nat.add n off) | _ => none)
  | some (.map _ _) => bd (mapOf h x) fun es => mkI .i64 (Nat.add es.length off)
  | some (.array n _) => mkI .i64 (Nat.add n off)
  | _ => none
def addedA (h : T AObj) (z : Nat) : V → R (List V)
  | .l0 => some []
  | .l b o z' n => gd (Nat.beq z z') (match h.get b with | some (.row c size) => gd (Nat.ble (Nat.add o (Nat.mul n z)) size) (getCells c (Nat.mul n z) o) | _ => none)
  | .s l n => gd (Nat.beq z 1) (some (bytesL l n))
  | _ => none
def addN (z : Nat) : V → Nat
  | .l _ _ _ n => n
  | .s l _ => l
  | _ => 0
/-- how large what is made may be: in bytes -/
def fits (n : Nat) (i : TypeInfo) : Bool := Nat.ble (Nat.mul n i.bytes) 140737488355328
def appendN (elem z n nx : Nat) (i : TypeInfo) (new : List V) (h : T AObj) (s : V) : R Did :=
  match s with
  | .l0 => gd (Nat.ble n 1000000000) (gd (fits n i) (some (.new (.l nx 0 z n) (.row (setCells new .e 0) (Nat.mul n z)))))
  | .l b o z' len => gd (Nat.beq z z') (gd (Nat.beq o 0) (gd (Nat.ble (Nat.add len n) 1000000000) (gd (fits (Nat.add len n) i)
      (match h.get b with
      | some (.row c size) => gd (Nat.ble (Nat.mul len z) size)
          (some (.app (.l nx 0 z (Nat.add len n)) b (.row (setCells new c (Nat.mul len z)) (Nat.mul (Nat.add len n) z))))
      | _ => none))))
  | _ => none
def sameSl (s : V) : R Did := match s with | .l0 => some (.val .l0) | .l b o z len => some (.val (.l b o z len)) | _ => none
def appendI (elem : TypeId) (nx : Nat) (i : TypeInfo) (h : T AObj) (s x : V) : R Did :=
  bd (zeroV P elem) fun zv => gd (Nat.beq (lenL (cellsV zv)) i.size) (gd (Nat.ble 1 i.size) (bd (addedA h i.size x) fun new => gd (allFlat new)
    (Bool.rec (appendN elem i.size (addN i.size x) nx i new h s) (sameSl s) (Nat.beq (addN i.size x) 0))))
def notInt (t : TypeId) : R Bool := match und P t with | some (.int _) => none | some _ => some true | none => none
def appendA (h : T AObj) (nx : Nat) (t u : TypeId) (s x : V) : R Did :=
  match und P t with
  | some (.slice elem) => bd (notInt P u) fun _ => (match P.info? elem with
    | none => none
    | some i => appendI P elem nx i h s x)
  | _ => none
def makeSliceI (elem : TypeId) (nx n c : Nat) (i : TypeInfo) : R Did :=
  bd (zeroV P elem) fun z => gd (Nat.beq (lenL (cellsV z)) i.size) (gd (Nat.ble 1 i.size) (gd (Nat.ble n c) (gd (Nat.ble c 1000000000) (gd (fits c i)
    (some (.new (.l nx 0 i.size n) (.row (setCells (repL n (cellsV z)) .e 0) (Nat.mul n i.size))))))))
def makeSliceA (nx : Nat) (t : TypeId) (len cap : V) : R Did :=
  withN len fun n => withN cap fun c => match und P t with
  | some (.slice elem) => (match P.info? elem with
      | none => none
      | some i => makeSliceI P elem nx n c i)
  | _ => none
def maxA (args : List V) : R V := match args with
  | [.i k a, .i k' b] => gd (Nat.beq (kNo k) (kNo k')) (some (.i k (Bool.rec a b (Nat.ble (Nat.succ a) b))))
  | _ => none
def minA (args : List V) : R V := match args with
  | [.i k a, .i k' b] => gd (Nat.beq (kNo k) (kNo k')) (some (.i k (Bool.rec a b (Nat.ble (Nat.succ b) a))))
  | _ => none
def lenB (h : T AObj) (ts : List TypeId) (args : List V) : R Did := match ts, args with | t :: _, [x] => val (lenA P h t x) | _, _ => none
def appB (h : T AObj) (nx : Nat) (ts : List TypeId) (args : List V) : R Did := match ts, args with | t :: u :: _, [s, x] => appendA P h nx t u s x | _, _ => none
def builtinA (h : T AObj) (nx : Nat) (b : Builtin) (ts : List TypeId) (args : List V) : R Did :=
  match b with
  | .len => lenB P h ts args
  | .append => appB P h nx ts args
  | .max => val (maxA args)
  | .min => val (minA args)
  | .recover => some .recov
  | _ => none
def fnOf (f : FuncId) : R Func := P.funcs.toList[f]?
def hasBody (f : FuncId) : Bool := match fnOf P f with | some fn => fn.body.isSome | none => false
def targetF (fn : Fn) (l : List V) : R (FuncId × List V) := match fn with | .func g => gd (hasBody P g) (some (g, l)) | _ => none
def targetA (v : V) (args : List V) : R (FuncId × List V) :=
  match v with
  | .f fn first cap => targetF P fn ((first ++ args) ++ cap)
  | _ => none
def callA (tm : T V) (h : T AObj) (nx : Nat) (c : Call) : R Did :=
  bd (evalL tm c.args.toList) fun args => match c.callee with
  | .builtin b => builtinA P h nx b c.argTypes.toList args
  | .value f => bd (evalO tm f) fun v => bd (targetA P v args) fun q => some (.enter q.1 q.2)
  | .invoke _ _ => none
def deferA (tm : T V) (c : Call) : R Did :=
  bd (evalL tm c.args.toList) fun args => match c.callee with
  | .value f => bd (evalO tm f) fun v => bd (targetA P v args) fun q => some (.defer q.1 q.2)
  | _ => none
def pickA (tm : T V) (c a b : Operand) : R Did := bd (evalO tm c) fun v => withB v (Bool.rec (val (evalO tm b)) (val (evalO tm a)))
def allocA (nx : Nat) (z : R V) : R Did := bd z fun z => some (.new (.p nx 0) (mkRow (cellsV z)))
def nilA : V → R V
  | .p b o => some (.p b o)
  | .x t v => some (.x t v)
  | .f fn a b => (match fn with | .func g => some (.f (.func g) a b) | _ => none)
  | _ => none
def unA (op : UnOp) (x : V) : R V := match op, x with
  | .not, .b b => some (.b (Bool.not b))
  | .neg, .i k n => gd (Nat.ble n (Nat.add off off)) (mkI k (Nat.sub (Nat.add off off) n))
  | _, _ => none
def ifaceA (t : TypeId) (x : V) : R V := match und P t with | some (.interface _) => none | some _ => some (.x t x) | none => none
def extractA (x : V) (i : Nat) : R V := match x with | .t vs => nthL i vs | _ => none
def op2 (tm : T V) (x y : Operand) (k : V → V → R Did) : R Did := bd (evalO tm x) fun a => bd (evalO tm y) fun b => k a b
def op1 (tm : T V) (x : Operand) (k : V → R Did) : R Did := bd (evalO tm x) k
def panA (v : V) : R Did := match v with | .x t u => some (.pan (.x t u)) | _ => none
def opA (tm : T V) (h : T AObj) (nx : Nat) (op : Op) : R Did :=
  match op with
  | .move x => val (evalO tm x)
  | .assign x => val (evalO tm x)
  | .pick c a b => pickA tm c a b
  | .alloc elem => allocA nx (zeroV P elem)
  | .box _ x => allocA nx (evalO tm x)
  | .build t ps => bd (evalP tm ps.toList) fun l => val (buildA P t l)
  | .buildSlice t n ps => bd (evalP tm ps.toList) fun l => buildS P nx t n l
  | .load t a => op1 tm a fun v => withP v fun b o => val (loadA P h t b o)
  | .store t a x => op2 tm a x fun v u => withP v fun b o => storeA P h t b o u
  | .nilCheck x => op1 tm x fun v => val (nilA v)
  | .binOp op t x y _ => op2 tm x y fun a b => val (binA P op t (Bool.or (isConst x) (isConst y)) a b)
  | .unOp op _ x => op1 tm x fun v => val (unA op v)
  | .convert src dst x => op1 tm x fun v => val (gd (P.underlying src).isSome (convA P src dst v))
  | .makeInterface t x => op1 tm x fun v => val (ifaceA P t v)
  | .makeFunc fn first cap => bd (evalL tm first.toList) fun a => bd (evalL tm cap.toList) fun b => some (.val (.f fn a b))
  | .makeMap _ none => some (.new (.m nx) (.map []))
  | .makeSlice t l c => op2 tm l c fun v u => makeSliceA P nx t v u
  | .slice t x lo hi none => op1 tm x fun v => bd (evalOp tm lo) fun a => bd (evalOp tm hi) fun b => val (sliceA P t v a b)
  | .fieldAddr t x f => op1 tm x fun v => val (fieldAddrA P t v f)
  | .field t x f => op1 tm x fun v => val (fieldA P t v f)
  | .indexAddr t x ix => op2 tm x ix fun v i => val (indexAddrA P t v i)
  | .index t x ix => op2 tm x ix fun v i => val (indexA P t v i)
  | .lookup t x k ok => op2 tm x k fun v k => val (lookupA P h t v k ok)
  | .mapUpdate t m k x => op2 tm m k fun v k => op1 tm x fun u => mapUpA P h t v k u
  | .insert t m k x => op2 tm m k fun v k => op1 tm x fun u => mapUpA P h t v k u
  | .typeAssert x _ t ok => op1 tm x fun v => val (assertA P t v ok)
  | .extract x i => op1 tm x fun v => val (extractA v i)
  | .call c => callA P tm h nx c
  | .defer c => deferA P tm c
  | .panic x => op1 tm x panA
  | _ => none

structure St where
  tm : T V
  h : T AObj
  nx : Nat
  nt : Nat
  ds : List (FuncId × List V)
inductive Out where
  | norm | exit (id : Nat) | ret
  | pan (v : V)
/-- an item of a drawn region's plan: an operation's number; whether it changes the heap; the loads that are looked at again behind it -/
structure PI where
  i : Nat
  eff : Bool
  late : Bool
  pend : List Nat
structure Cfg where
  P : Program
  ext : Nat → Option (List V → T AObj → Nat → R (V × T AObj × Nat))
inductive Job where
  | ops (ops : List Oper) (l : List Oper) (s : St)
  | dr (ops : List Oper) (pl : List PI) (tp : T V) (s : St)
  | code (c : Code) (s : St)
  | loop (c : Code) (s : St)
  | call (f : FuncId) (args : List V) (h : T AObj) (nx : Nat)
  | dops (ops : List Oper) (l : List Nat) (s : St) (m : Option V)
  | dcode (c : Code) (s : St) (m : Option V)
  | dcall (f : FuncId) (args : List V) (h : T AObj) (nx : Nat) (m : Option V)
inductive Res where
  | out (o : Out) (s : St)
  | got (v : V) (h : T AObj) (nx : Nat)
  | threw (v : V) (h : T AObj) (nx : Nat)
  | dout (o : Out) (s : St) (m : Option V)
  | back (m : Option V) (h : T AObj) (nx : Nat)

def gdst (ops : List Oper) (j : Nat) : Option Tmp := match ops[j]? with | some o => o.dst | none => none
/-- an operation that was passed over tells nothing -/
def guardV (w : Bool) (v : V) : R Bool := match v with | .b b => some (Bool.rec (Bool.not w) w b) | .t _ => some false | _ => none
def guardB (tm : T V) (w : Bool) (t : Tmp) : R Bool := Option.rec none (guardV w) (tm.get t)
def wants (ops : List Oper) (tm : T V) (g : Option (Nat × Bool)) : R Bool :=
  match g with
  | none => some true
  | some q => bd (gdst ops q.1) fun t => guardB tm q.2 t
def St.put (s : St) (d : Option Tmp) (v : V) : R St :=
  match d with
  | none => some s
  | some d => gd (Nat.ble (Nat.succ d) s.nt) (some ⟨s.tm.set d v, s.h, s.nx, s.nt, s.ds⟩)
def oneOf (P : Program) (s : St) : ResultVar → R V
  | .tmp t => s.tm.get t
  | .cell a t => bd (s.tm.get a) fun v => withP v fun b o => loadA P s.h t b o
def resOf (P : Program) (s : St) (l : List ResultVar) : R (List V) :=
  List.rec (some []) (fun r _ ih => bd (oneOf P s r) fun v => bd ih fun vs => some (v :: vs)) l

/-! drawn regions: their plan -/
def isEff (op : Op) : Bool :=
  match op with
  | .alloc _ | .box .. | .buildSlice .. | .makeMap .. | .makeSlice .. | .store .. | .mapUpdate .. | .insert .. | .defer _ | .panic _ => true
  | .call c => (match c.callee with | .builtin .len => false | .builtin .max => false | .builtin .min => false | _ => true)
  | _ => false
def isLoad (op : Op) : Bool :=
  match op with
  | .load .. | .lookup .. => true
  | .call c => (match c.callee with | .builtin .len => true | _ => false)
  | _ => false
def maskOf (tbl : T Nat) (l : List Edge) : Nat :=
  List.rec 0 (fun e _ ih => Bool.rec ih (Nat.lor (Nat.lor (Nat.shiftLeft 1 e.on) (Option.rec 0 (fun x => x) (tbl.get e.on))) ih) (Region.binds .any e)) l
def maskT (ops : List Oper) : Nat → T Nat → T Nat :=
  List.rec (fun _ t => t) (fun o _ ih i t => ih (Nat.succ i) (t.set i (maskOf t o.after.toList))) ops
def mask (tbl : T Nat) (i : Nat) : Nat := Option.rec 0 (fun x => x) (tbl.get i)
def opAt (ops : List Oper) (i : Nat) : Op := match ops[i]? with | some o => o.op | none => .ready 0
/-- what makes a row, and no more -/
def isBS (op : Op) : Bool := match op with | .buildSlice .. => true | .alloc _ => true | _ => false
def nameV (v : V) : Option Nat := match v with | .l r _ _ _ => some r | .p r _ => some r | _ => none
def isLt (lt : Option Nat) (i : Nat) : Bool := Option.rec false (fun j => Nat.beq i j) lt
/-- what changes the heap, other than the late one -/
def effB (ops : List Oper) (lt : Option Nat) (i : Nat) : Bool := Bool.and (isEff (opAt ops i)) (Bool.not (isLt lt i))
def effL (ops : List Oper) (lt : Option Nat) : List Nat → List Nat := List.rec [] (fun i _ ih => Bool.rec ih (i :: ih) (effB ops lt i))
def allL {α : Type} (p : α → Bool) (l : List α) : Bool := List.rec true (fun a _ ih => Bool.rec false ih (p a)) l
def unord (tbl : T Nat) (i j : Nat) : Bool := Bool.not (Bool.or (Nat.beq i j) (Bool.or (Nat.testBit (mask tbl i) j) (Nat.testBit (mask tbl j) i)))
def lateAt (ops : List Oper) (tbl : T Nat) (effs : List Nat) (i : Nat) : Bool :=
  Bool.and (isBS (opAt ops i)) (Bool.and (Bool.not (allL (fun j => Bool.not (unord tbl i j)) effs))
    (allL (fun j => Bool.or (Nat.beq j i) (allL (fun k => Bool.or (Nat.beq k i) (Bool.not (unord tbl j k))) effs)) effs))
/-- the one that makes a row and whose place among the effects is open, if there is one: all others are in one order -/
def lateOf (ops : List Oper) (tbl : T Nat) : List Nat → Option Nat :=
  List.rec none (fun i _ ih => Bool.rec ih (some i) (lateAt ops tbl (effL ops none (List.range ops.length)) i))
/-- the numbers that do not wait for an effect -/
def early (ops : List Oper) (tbl : T Nat) (lt : Option Nat) (e : Nat) (todo : List Nat) : List Nat := todo.filter fun i => Bool.and (Bool.not (effB ops lt i)) (Bool.not (Nat.testBit (mask tbl i) e))
def planL (ops : List Oper) (tbl : T Nat) (lt : Option Nat) (effs : List Nat) : List Nat → List Nat → List PI :=
  List.rec (fun todo _ => todo.map fun i => ⟨i, false, isLt lt i, []⟩)
    (fun e _ ih todo done =>
      ((early ops tbl lt e todo).map fun i => (⟨i, false, isLt lt i, []⟩ : PI)) ++
        ⟨e, true, false, (done ++ early ops tbl lt e todo).filter fun i => Bool.and (Bool.or (isLt lt i) (isLoad (opAt ops i))) (Bool.not (Nat.testBit (mask tbl e) i))⟩ ::
          ih (todo.filter fun i => Bool.and (Bool.not (Nat.beq i e)) (Bool.not (Bool.and (Bool.not (effB ops lt i)) (Bool.not (Nat.testBit (mask tbl i) e))))) (done ++ early ops tbl lt e todo)) effs
def plan (ops : List Oper) (lt : Option Nat) : List PI := planL ops (maskT ops 0 .e) lt (effL ops lt (List.range ops.length)) (List.range ops.length) []
/-- what an operation looks at -/
def looks (ops : List Oper) (o : Oper) : List Tmp :=
  (o.op.operands.toList.filterMap fun | .tmp t => some t | _ => none) ++ (match o.guard with | some q => (match gdst ops q.1 with | some t => [t] | none => []) | none => [])
def isDst (ops : List Oper) (j : Nat) (t : Tmp) : Bool := match gdst ops j with | some d => Nat.beq d t | none => false
/-- the numbers agree with the edges; a name is written once, and looked at by what is ahead of its writer or behind it -/
def okOp (ops : List Oper) (tbl : T Nat) (i : Nat) (o : Oper) : Bool :=
  Bool.and (Nat.beq (mask tbl i) (maskOf tbl o.after.toList))
  (Bool.and (allL (fun e : Edge => Bool.or (Bool.not (Region.binds .any e)) (Nat.ble (Nat.succ e.on) i)) o.after.toList)
  (Bool.and (allL (fun j => Bool.or (Nat.beq i j) (match o.dst with | some d => Bool.not (isDst ops j d) | none => true)) (List.range ops.length))
    (allL (fun t => allL (fun j => Bool.or (Bool.not (isDst ops j t)) (Bool.or (Nat.beq i j) (Bool.or (Nat.testBit (mask tbl i) j) (Nat.testBit (mask tbl j) i)))) (List.range ops.length)) (looks ops o))))
def okOps (ops : List Oper) (tbl : T Nat) (l : List Oper) : Nat → Bool := List.rec (fun _ => true) (fun o _ ih i => Bool.and (okOp ops tbl i o) (ih (Nat.succ i))) l
/-- the plan keeps to the edges: what is done, and what effects were -/
def okItem (ops : List Oper) (tbl : T Nat) (lt : Option Nat) (done effs : Nat) (it : PI) : Bool :=
  match ops[it.i]? with
  | none => false
  | some o =>
    Bool.and (Nat.beq (Nat.land (mask tbl it.i) done) (mask tbl it.i)) (Bool.and (Bool.not (Nat.testBit done it.i))
      (Bool.rec (Bool.rec (Bool.and (Bool.not (isLt lt it.i)) (Bool.not (isEff o.op))) (Bool.and (isLt lt it.i) (isBS o.op)) it.late)
        (Bool.and (Bool.and (Bool.and (Bool.not it.late) (Bool.not (isLt lt it.i))) (Bool.and (isEff o.op) (Nat.beq (Nat.land (mask tbl it.i) effs) effs)))
          (allL (fun j => Bool.or (Nat.beq j it.i) (Bool.rec
              (Nat.testBit (mask tbl j) it.i)
              (Bool.or (Bool.not (Bool.or (isLt lt j) (isLoad (opAt ops j)))) (Bool.or (Nat.testBit (mask tbl it.i) j) (Bool.and (it.pend.elem j)
                (allL (fun t => allL (fun k => Bool.or (Bool.not (isDst ops k t)) (Nat.testBit (mask tbl j) k)) (List.range ops.length)) (match ops[j]? with | some oj => looks ops oj | none => [])))))
              (Nat.testBit done j))) (List.range ops.length))) it.eff))
def okPlan (ops : List Oper) (tbl : T Nat) (lt : Option Nat) (pl : List PI) : Nat → Nat → Bool :=
  List.rec (fun done _ => Nat.beq done (Nat.sub (Nat.shiftLeft 1 ops.length) 1))
    (fun it _ ih done effs => Bool.and (okItem ops tbl lt done effs it) (ih (Nat.lor done (Nat.shiftLeft 1 it.i)) (Bool.rec effs (Nat.lor effs (Nat.shiftLeft 1 it.i)) it.eff))) pl
def plannedL (ops : List Oper) (lt : Option Nat) : R (List PI) := gd (okPlan ops (maskT ops 0 .e) lt (plan ops lt) 0 0) (some (plan ops lt))
def planned (ops : List Oper) : R (List PI) :=
  gd (okOps ops (maskT ops 0 .e) ops 0) (plannedL ops (lateOf ops (maskT ops 0 .e) (List.range ops.length)))
def clearT (ops : List Oper) (t : T V) : T V := List.rec t (fun o _ ih => match o.dst with | some d => ih.del d | none => ih) ops

/-! values, alike -/
def eqN (v w : V) : Bool :=
  match v with
  | .b a => (match w with | .b b => Bool.rec (Bool.not b) b a | _ => false)
  | .i k a => (match w with | .i k' b => Bool.and (Nat.beq (kNo k) (kNo k')) (Nat.beq a b) | _ => false)
  | .s l a => (match w with | .s l' b => Bool.and (Nat.beq l l') (Nat.beq a b) | _ => false)
  | .p0 => (match w with | .p0 => true | _ => false)
  | .p a b => (match w with | .p c d => Bool.and (Nat.beq a c) (Nat.beq b d) | _ => false)
  | .l0 => (match w with | .l0 => true | _ => false)
  | .l a b c d => (match w with | .l a' b' c' d' => Bool.and (Bool.and (Nat.beq a a') (Nat.beq b b')) (Bool.and (Nat.beq c c') (Nat.beq d d')) | _ => false)
  | .m0 => (match w with | .m0 => true | _ => false)
  | .m a => (match w with | .m b => Nat.beq a b | _ => false)
  | .f0 => (match w with | .f0 => true | _ => false)
  | .x0 => (match w with | .x0 => true | _ => false)
  | _ => false
def eqNs (l : List V) : List V → Bool :=
  List.rec (fun m => match m with | [] => true | _ => false) (fun v _ ih m => match m with | [] => false | w :: ws => Bool.and (eqN v w) (ih ws)) l
def eqVV (v w : V) : Bool :=
  match v with
  | .g a => (match w with | .g b => eqNs a b | _ => false)
  | .t a => (match w with | .t b => eqNs a b | _ => false)
  | _ => eqN v w

/-! steps -/
abbrev Rec := Job → R Res
def andPut (k : St → R Res) (d : Option Tmp) (v : V) (s : St) : R Res := bd (s.put d v) k
def afterCall (k : St → R Res) (tp : T V) (d : Option Tmp) (s : St) : Res → R Res
  | .got v h nx => andPut k d v ⟨s.tm, h, nx, s.nt, s.ds⟩
  | .threw v h nx => some (.out (.pan v) ⟨tp, h, nx, s.nt, s.ds⟩)
  | _ => none
def isDefer (op : Op) : Bool := match op with | .defer _ => true | _ => false
def afterOp (rc : Rec) (k : St → R Res) (tp : T V) (o : Oper) (s : St) : Did → R Res
  | .val v => andPut k o.dst v s
  | .new v ob => andPut k o.dst v ⟨s.tm, s.h.set s.nx ob, Nat.succ s.nx, s.nt, s.ds⟩
  | .app v b ob => andPut k o.dst v ⟨s.tm, (s.h.del b).set s.nx ob, Nat.succ s.nx, s.nt, s.ds⟩
  | .set b ob => andPut k o.dst (.t []) ⟨s.tm, s.h.set b ob, s.nx, s.nt, s.ds⟩
  | .enter f args => bd (rc (.call f args s.h s.nx)) (afterCall k tp o.dst s)
  | .pan v => some (.out (.pan v) ⟨tp, s.h, s.nx, s.nt, s.ds⟩)
  | .defer f args => gd (isDefer o.op) (andPut k o.dst (.t []) ⟨s.tm, s.h, s.nx, s.nt, (f, args) :: s.ds⟩)
  | .recov => none
def stepOp (c : Cfg) (rc : Rec) (k : St → R Res) (tp : T V) (ops : List Oper) (o : Oper) (s : St) : R Res :=
  bd (wants ops s.tm o.guard) (Bool.rec (andPut k o.dst (.t []) s) (bd (opA c.P s.tm s.h s.nx o.op) (afterOp rc k tp o s)))
def stepOps (c : Cfg) (rc : Rec) (ops l : List Oper) (s : St) : R Res :=
  List.rec (some (.out .norm s)) (fun o rest _ => stepOp c rc (fun s => rc (.ops ops rest s)) s.tm ops o s) l
/-- a load, looked at again: it is not wanted, or tells the same -/
def again (P : Program) (ops : List Oper) (s : St) (j : Nat) : Bool :=
  match ops[j]? with
  | none => false
  | some o =>
    match wants ops s.tm o.guard with
    | none => false
    | some false => true
    | some true => (match opA P s.tm s.h s.nx o.op with
      | some (.val v) => (match o.dst with | some d => (match s.tm.get d with | some u => eqVV v u | none => false) | none => true)
      | _ => false)
/-- the late row, looked at again: it is as it was made -/
def sameRow (c : T V) (n : Nat) (ob : AObj) : Bool :=
  match ob with
  | .row c' n' => Bool.and (Nat.beq n n') (match getCells c n 0, getCells c' n 0 with | some l, some l' => eqNs l l' | _, _ => false)
  | _ => false
def againR (P : Program) (s : St) (op : Op) (v : V) : Bool :=
  match nameV v with
  | some r => (match opA P s.tm s.h r op, s.h.get r with
    | some (.new u (.row c n)), some ob => Bool.and (eqVV u v) (sameRow c n ob)
    | _, _ => false)
  | none => false
def againL (P : Program) (ops : List Oper) (s : St) (j : Nat) : Bool :=
  match ops[j]? with
  | none => false
  | some o =>
    match wants ops s.tm o.guard with
    | none => false
    | some false => true
    | some true => (match o.dst with
      | none => false
      | some d => (match s.tm.get d with | some v => againR P s o.op v | none => false))
def again' (P : Program) (ops : List Oper) (s : St) (j : Nat) : Bool := Bool.rec (again P ops s j) (againL P ops s j) (isBS (opAt ops j))
def onlyVal (k : St → R Res) (d : Option Tmp) (s : St) : Did → R Res
  | .val v => andPut k d v s
  | _ => none
def onlyNew (k : St → R Res) (d : Option Tmp) (s : St) : Did → R Res
  | .new v ob => gd d.isSome (andPut k d v ⟨s.tm, s.h.set s.nx ob, Nat.succ s.nx, s.nt, s.ds⟩)
  | _ => none
def stepDr (c : Cfg) (rc : Rec) (ops : List Oper) (pl : List PI) (tp : T V) (s : St) : R Res :=
  List.rec (some (.out .norm s)) (fun it rest _ =>
    match ops[it.i]? with
    | none => none
    | some o => Bool.rec
        (bd (wants ops s.tm o.guard) (Bool.rec (andPut (fun s => rc (.dr ops rest tp s)) o.dst (.t []) s) (bd (opA c.P s.tm s.h s.nx o.op) (Bool.rec (onlyVal (fun s => rc (.dr ops rest tp s)) o.dst s) (onlyNew (fun s => rc (.dr ops rest tp s)) o.dst s) it.late))))
        (stepOp c rc (fun s => gd (allL (again' c.P ops s) it.pend) (rc (.dr ops rest tp s))) tp ops o s) it.eff) pl
def afterSeq (rc : Rec) (b : Code) : Res → R Res
  | .out .norm s => rc (.code b s)
  | r => some r
def afterRound (rc : Rec) (b : Code) : Res → R Res
  | .out .norm s => rc (.loop b s)
  | r => some r
def afterBlock (id : Nat) : Res → R Res
  | .out (.exit j) s => some (Bool.rec (.out (.exit j) s) (.out .norm s) (Nat.beq j id))
  | r => some r
def finCall (P : Program) (fn : Func) (s : St) : R Res :=
  bd (resOf P s fn.results.toList) fun l => match l with
  | [v] => some (.got v s.h s.nx)
  | l => some (.got (.t l) s.h s.nx)
/-- the end of a call: what it left for later runs, the last first -/
def leave (P : Program) (fn : Func) (rc : Rec) (ds : List (FuncId × List V)) : Option V → St → R Res :=
  List.rec
    (fun m s => match m with | none => finCall P fn s | some v => some (.threw v s.h s.nx))
    (fun d _ ih m s => bd (rc (.dcall d.1 d.2 s.h s.nx m)) fun r => match r with
      | .back m h nx => ih m ⟨s.tm, h, nx, s.nt, s.ds⟩
      | _ => none) ds
def afterBody (P : Program) (fn : Func) (rc : Rec) : Res → R Res
  | .out .norm s => leave P fn rc s.ds none s
  | .out .ret s => leave P fn rc s.ds none s
  | .out (.pan v) s => leave P fn rc s.ds (some v) s
  | _ => none
def stepCode (c : Cfg) (rc : Rec) (co : Code) (s : St) : R Res :=
  match co with
  | .skip => some (.out .norm s)
  | .label _ => some (.out .norm s)
  | .region _ ops d => Bool.rec (rc (.ops ops.toList ops.toList s)) (bd (planned ops.toList) fun pl => rc (.dr ops.toList pl (clearT ops.toList s.tm) s)) d
  | .seq a b => bd (rc (.code a s)) (afterSeq rc b)
  | .cond x a b => bd (evalO s.tm x) fun v => withB v (Bool.rec (rc (.code b s)) (rc (.code a s)))
  | .block id b => bd (rc (.code b s)) (afterBlock id)
  | .loop b => rc (.loop b s)
  | .exit id => some (.out (.exit id) s)
  | .ret => some (.out .ret s)
  | _ => none
def setArgs (l : List V) : T V := setCells l .e 0
def stepCall (c : Cfg) (rc : Rec) (f : FuncId) (args : List V) (h : T AObj) (nx : Nat) : R Res :=
  match c.ext f with
  | some e => bd (e args h nx) fun r => some (.got r.1 r.2.1 r.2.2)
  | none => match fnOf c.P f with
    | none => none
    | some fn => match fn.body with
      | none => none
      | some b => gd (Nat.ble (lenL args) fn.ntmps) (bd (rc (.code b ⟨setArgs args, h, nx, fn.ntmps, []⟩)) (afterBody c.P fn rc))
/-! what was left for later -/
def isRec (op : Op) : Bool := match op with | .call c => (match c.callee with | .builtin .recover => true | _ => false) | _ => false
def afterDops (rc : Rec) (ops : List Oper) (rest : List Nat) (o : Oper) (s : St) (m : Option V) : Did → R Res
  | .recov => gd (isRec o.op) (Option.rec (bd (s.put o.dst .x0) fun s => rc (.dops ops rest s none)) (fun v => bd (s.put o.dst v) fun s => rc (.dops ops rest s none)) m)
  | .val v => bd (s.put o.dst v) fun s => rc (.dops ops rest s m)
  | .new v ob => bd (St.put ⟨s.tm, s.h.set s.nx ob, Nat.succ s.nx, s.nt, s.ds⟩ o.dst v) fun s => rc (.dops ops rest s m)
  | .set b ob => bd (St.put ⟨s.tm, s.h.set b ob, s.nx, s.nt, s.ds⟩ o.dst (.t [])) fun s => rc (.dops ops rest s m)
  | _ => none
def stepDops (c : Cfg) (rc : Rec) (ops : List Oper) (l : List Nat) (s : St) (m : Option V) : R Res :=
  List.rec (some (.dout .norm s m)) (fun i rest _ =>
    match ops[i]? with
    | none => none
    | some o => bd (wants ops s.tm o.guard) (Bool.rec (bd (s.put o.dst (.t [])) fun s => rc (.dops ops rest s m)) (bd (opA c.P s.tm s.h s.nx o.op) (afterDops rc ops rest o s m)))) l
def afterDseq (rc : Rec) (b : Code) : Res → R Res
  | .dout .norm s m => rc (.dcode b s m)
  | r => some r
def plainly (m : Option V) : Res → R Res
  | .out o s => some (.dout o s m)
  | _ => none
def stepDcode (c : Cfg) (rc : Rec) (co : Code) (s : St) (m : Option V) : R Res :=
  match co with
  | .region id ops d => Bool.rec (rc (.dops ops.toList (List.range ops.toList.length) s m)) (bd (rc (.code (.region id ops true) s)) (plainly m)) d
  | .seq a b => bd (rc (.dcode a s m)) (afterDseq rc b)
  | .cond x a b => bd (evalO s.tm x) fun v => withB v (Bool.rec (rc (.dcode b s m)) (rc (.dcode a s m)))
  | co => bd (rc (.code co s)) (plainly m)
def afterDcall (P : Program) (fn : Func) : Res → R Res
  | .dout .norm s m => bd (finCall P fn s) fun _ => (match s.ds with | [] => some (.back m s.h s.nx) | _ => none)
  | .dout .ret s m => bd (finCall P fn s) fun _ => (match s.ds with | [] => some (.back m s.h s.nx) | _ => none)
  | _ => none
def stepDcall (c : Cfg) (rc : Rec) (f : FuncId) (args : List V) (h : T AObj) (nx : Nat) (m : Option V) : R Res :=
  match fnOf c.P f with
  | none => none
  | some fn => match fn.body with
    | none => none
    | some b => gd (Nat.ble (lenL args) fn.ntmps) (bd (rc (.dcode b ⟨setArgs args, h, nx, fn.ntmps, []⟩ m)) (afterDcall c.P fn))
def step (c : Cfg) (rc : Rec) (j : Job) : R Res :=
  match j with
  | .ops ops l s => stepOps c rc ops l s
  | .dr ops pl tp s => stepDr c rc ops pl tp s
  | .code co s => stepCode c rc co s
  | .loop b s => bd (rc (.code b s)) (afterRound rc b)
  | .call f args h nx => stepCall c rc f args h nx
  | .dops ops l s m => stepDops c rc ops l s m
  | .dcode co s m => stepDcode c rc co s m
  | .dcall f args h nx m => stepDcall c rc f args h nx m
def ev (c : Cfg) (n : Nat) : Rec := Nat.rec (fun _ => none) (fun _ ih j => step c ih j) n
end
end Go.Proofs.Ev
/- Plain answers of functions that the evaluator does not run itself. -/
set_option linter.unusedVariables false
namespace Go.Proofs.Ev
open Go
noncomputable section
/-- a number's bytes -/
def bytesU (l n : Nat) : List UInt8 := Nat.rec [] (fun l' ih => UInt8.ofNat (Nat.mod (Nat.shiftRight n (Nat.mul 8 l')) 256) :: ih) l
/-- what digits say -/
def decN (l : List UInt8) : Nat → R Nat := List.rec (fun a => some a) (fun b _ ih a => gd (Nat.ble 48 b.toNat) (gd (Nat.ble b.toNat 57) (ih (Nat.add (Nat.mul a 10) (Nat.sub b.toNat 48))))) l
def parseE (args : List V) (h : T AObj) (nx : Nat) : R (V × T AObj × Nat) :=
  match args with
  | [.s l n, .i .i64 b, .i .i64 z] => gd (Nat.beq b (Nat.add 10 off)) (gd (Nat.beq z (Nat.add 64 off)) (gd (Nat.ble 1 l) (gd (Nat.ble l 1000000) (bd (decN (bytesU l n) 0) fun u => gd (Nat.ble u 999999999999999999) (some (.t [.i .i64 (Nat.add u off), .x0], h, nx))))))
  | _ => none
/-- the same, or the number that no int64 holds, with a fault of that type -/
def parseRE (te : TypeId) (args : List V) (h : T AObj) (nx : Nat) : R (V × T AObj × Nat) :=
  match args with
  | [.s l n, .i .i64 b, .i .i64 z] => gd (Nat.beq b (Nat.add 10 off)) (gd (Nat.beq z (Nat.add 64 off)) (gd (Nat.ble 1 l) (gd (Nat.ble l 1000000) (bd (decN (bytesU l n) 0) fun u =>
      Bool.rec (gd (Nat.ble 9223372036854775808 u) (gd (Nat.ble u 18446744073709551615) (some (.t [.i .i64 (Nat.add 9223372036854775807 off), .x te (.p nx 0)], h.set nx (.row .e 0), Nat.succ nx))))
        (some (.t [.i .i64 (Nat.add u off), .x0], h, nx)) (Nat.ble u 999999999999999999)))))
  | _ => none
def fmtE (args : List V) (h : T AObj) (nx : Nat) : R (V × T AObj × Nat) :=
  match args with
  | [.i .i64 z, .i .i64 b] => gd (Nat.beq b (Nat.add 10 off)) (gd (Nat.ble off z) (gd (Nat.ble (Nat.sub z off) 9) (some (.s 1 (Nat.add 48 (Nat.sub z off)), h, nx))))
  | _ => none
def joinR (sl sn : Nat) (cs : List V) : Nat → Nat → R (Nat × Nat) :=
  List.rec (fun l n => some (l, n)) (fun v _ ih l n => match v with | .s l' n' => ih (Nat.add (Nat.add l sl) l') (Nat.add (Nat.mul (Nat.add (Nat.mul n (Nat.pow 256 sl)) sn) (Nat.pow 256 l')) n') | _ => none) cs
def joinE (args : List V) (h : T AObj) (nx : Nat) : R (V × T AObj × Nat) :=
  match args with
  | [.l b o 1 (Nat.succ k), .s sl sn] => gd (Nat.ble k 1000000) (match h.get b with
    | some (.row c size) => gd (Nat.ble (Nat.add o (Nat.succ k)) size) (bd (getCells c (Nat.succ k) o) fun cs => match cs with
      | .s l n :: rest => bd (joinR sl sn rest l n) fun q => gd (Nat.ble q.1 1000000) (some (.s q.1 q.2, h, nx))
      | _ => none)
    | _ => none)
  | _ => none
/-- an operator's level and its text -/
def lvl (l len n : Nat) : V := .t [.i .i64 (Nat.add l off), .s len n]
def levelV (k : Nat) : V :=
  match k with
  | 5 => lvl 3 3 5132116
  | 6 => lvl 2 3 4279876
  | 7 => lvl 0 2 20306
  | 8 => lvl 1 3 5787474
  | 9 => lvl 4 1 61
  | 10 => lvl 4 2 15422
  | 11 => lvl 4 1 60
  | 12 => lvl 4 2 15421
  | 13 => lvl 4 1 62
  | 14 => lvl 4 2 15933
  | 15 => lvl 4 2 18766
  | 17 => lvl 5 1 43
  | 18 => lvl 5 1 45
  | 19 => lvl 6 1 42
  | 20 => lvl 6 1 47
  | 21 => lvl 6 1 37
  | 22 => lvl 7 1 45
  | 23 => lvl 4 6 91621338272851
  | 24 => lvl 4 4 1162757203
  | 25 => lvl 4 8 4850181447480856147
  | _ => lvl 8 0 0
def levelsE (args : List V) (h : T AObj) (nx : Nat) : R (V × T AObj × Nat) :=
  match args with
  | [.g (.i .i64 z :: _)] => gd (Nat.ble off z) (some (levelV (Nat.sub z off), h, nx))
  | _ => none
end
end Go.Proofs.Ev

/-
 A machine on abstract memory, written for evaluation by the kernel: values keep Go's shapes, blocks are named by numbers of its own.
-/
import Derived.Orders
namespace Go.Proofs.YtdcbnkimjhefkaaGreatDoor

/-! ### Finite maps -/
inductive Tr (α : Type) where
 | lf
 | nd (l : Tr α) (v : Option α) (r : Tr α)
noncomputable def Tr.get {α : Type} (t : Tr α) : Nat → Option α :=
 Tr.rec (motive := fun _ => Nat → Option α) (fun _ => none)
  (fun _ v _ il ir k => Nat.rec (motive := fun _ => Option α) v (fun k _ => Bool.rec (motive := fun _ => Option α) (ir (Nat.div k 2)) (il (Nat.div k 2)) (Nat.beq (Nat.mod k 2) 0)) k) t
noncomputable def Tr.node {α β : Type} (t : Tr α) (f : Tr α → Option α → Tr α → β) : β :=
 Tr.rec (motive := fun _ => β) (f .lf none .lf) (fun l v r _ _ => f l v r) t
noncomputable def Tr.setK {α β : Type} (f : Nat) : Tr α → Nat → α → (Tr α → Option β) → Option β :=
 Nat.rec (motive := fun _ => Tr α → Nat → α → (Tr α → Option β) → Option β) (fun _ _ _ _ => none)
  (fun _ ih t k x c => t.node fun l v r => Nat.rec (motive := fun _ => Option β) (c (.nd l (some x) r))
   (fun k _ => Bool.rec (motive := fun _ => Option β) (ih r (Nat.div k 2) x fun r' => c (.nd l v r')) (ih l (Nat.div k 2) x fun l' => c (.nd l' v r)) (Nat.beq (Nat.mod k 2) 0)) k) f

/-! ### Values at once -/
noncomputable def natK {β : Type} (n : Nat) (c : Nat → β) : β := match n with
 | 0 => c 0
 | m + 1 => c (Nat.succ m)
noncomputable def intK {β : Type} (n : Int) (c : Int → β) : β := match n with
 | .ofNat m => natK m fun m => c (.ofNat m)
 | .negSucc m => natK m fun m => c (.negSucc m)
noncomputable def byteK {β : Type} (b : UInt8) (c : UInt8 → β) : β := natK b.toNat fun n => c (UInt8.ofNat n)
noncomputable def bytesK {β : Type} : List UInt8 → (List UInt8 → β) → β
 | [], c => c []
 | b :: l, c => byteK b fun b => bytesK l fun l => c (b :: l)
noncomputable def strK {β : Type} (s : ByteArray) (c : ByteArray → β) : β := bytesK s.data.toList fun l => c ⟨⟨l⟩⟩
noncomputable def val0K {β : Type} (v : Value) (c : Value → β) : β := match v with
 | .bool true => c (.bool true)
 | .bool false => c (.bool false)
 | .int k n => intK n fun n => c (.int k n)
 | .string s => strK s fun s => c (.string s)
 | .pointer (some ⟨b, o, s⟩) => natK b fun b => natK o fun o => c (.pointer (some ⟨b, o, s⟩))
 | .slice (some ⟨b, o, s⟩) n m => natK b fun b => natK o fun o => natK n fun n => natK m fun m => c (.slice (some ⟨b, o, s⟩) n m)
 | v => c v
noncomputable def vals0K {β : Type} : List Value → (List Value → β) → β
 | [], c => c []
 | v :: l, c => val0K v fun v => vals0K l fun l => c (v :: l)
noncomputable def val1K {β : Type} (v : Value) (c : Value → β) : β := match v with
 | .agg ⟨l⟩ => vals0K l fun l => c (.agg ⟨l⟩)
 | v => val0K v c
noncomputable def vals1K {β : Type} : List Value → (List Value → β) → β
 | [], c => c []
 | v :: l, c => val1K v fun v => vals1K l fun l => c (v :: l)
noncomputable def val2K {β : Type} (v : Value) (c : Value → β) : β := match v with
 | .tuple ⟨l⟩ => vals1K l fun l => c (.tuple ⟨l⟩)
 | v => val1K v c
noncomputable def atom0 : Value → Bool
 | .bool _ | .int .. | .float .. | .complex .. | .string _ | .pointer none | .slice none _ _ | .map none | .chan none | .nilFunc | .nilIface => true
 | _ => false
noncomputable def atoms0 : List Value → Bool
 | [] => true
 | v :: l => match atom0 v with
  | true => atoms0 l
  | false => false
noncomputable def atomV : Value → Bool
 | .agg ⟨l⟩ => atoms0 l
 | v => atom0 v

/-! ### Memory -/
inductive Body where
 | cells (t : TypeId) (cs : List Value)
 | map (es : List MapEntry) (clock : Nat)
 | siter (s : ByteArray) (pos : Nat)
 | miter (m : Option Nat) (since : Nat) (seen : List Nat) (last : Nat)
 | dead
structure Blk where
 opn : Option (Nat × Nat)
 body : Body
structure AH where
 m : Tr Blk
 next : Nat
abbrev Env := Tr Value
noncomputable def nth {α : Type} : List α → Nat → Option α
 | [], _ => none
 | x :: l, n => match n with
  | 0 => some x
  | n + 1 => nth l n
noncomputable def takeK {α β : Type} : Nat → List α → (List α → Option β) → Option β
 | 0, _, c => c []
 | _ + 1, [], _ => none
 | n + 1, x :: l, c => takeK n l fun l' => c (x :: l')
noncomputable def rowK {α β : Type} : List α → Nat → Nat → (List α → Option β) → Option β
 | l, 0, n, c => takeK n l c
 | [], _o + 1, n, c => match n with
  | 0 => c []
  | _ + 1 => none
 | _ :: l, o + 1, n, c => rowK l o n c
noncomputable def overK {α β : Type} : List α → List α → (List α → Option β) → Option β
 | l, [], c => c l
 | [], _ :: _, _ => none
 | _ :: l, y :: r, c => overK l r fun l' => c (y :: l')
noncomputable def putK {α β : Type} : List α → Nat → List α → (List α → Option β) → Option β
 | l, 0, r, c => overK l r c
 | [], _ + 1, r, c => match r with
  | [] => c []
  | _ :: _ => none
 | x :: l, o + 1, r, c => putK l o r fun l' => c (x :: l')
noncomputable def catK {α β : Type} : List α → List α → (List α → β) → β
 | [], r, c => c r
 | x :: l, r, c => catK l r fun l' => c (x :: l')
section
variable (P : Program) {β : Type}
noncomputable def AH.get (H : AH) (b : Nat) : Option Blk := H.m.get b
noncomputable def AH.setK (H : AH) (b : Nat) (x : Blk) (c : AH → Option β) : Option β := Tr.setK 40 H.m b x fun m => c ⟨m, H.next⟩
noncomputable def AH.newK (H : AH) (x : Blk) (c : Nat → AH → Option β) : Option β := Tr.setK 40 H.m H.next x fun m => natK (Nat.succ H.next) fun n => c H.next ⟨m, n⟩
noncomputable def isAggB (t : TypeId) : Option Bool := match P.underlying t with
 | some (.struct _) | some (.array _ _) => some true
 | some _ => some false
 | none => none
noncomputable def sizeB (t : TypeId) : Option Nat := (P.info? t).map (·.size)
noncomputable def zeroB (t : TypeId) : Option Value := (P.info? t).bind (·.zero)
noncomputable def ev1 (env : Env) (H : AH) : Operand → Option Value
 | .tmp t => env.get t
 | .const v => match atomV v with
  | true => some v
  | false => none
 | .global g => match H.get g, Nat.blt g P.globals.size with
  | some _, true => some (.pointer (some ⟨g, 0, none⟩))
  | _, _ => none
 | .func f => some (.func (.func f) #[] #[])
noncomputable def evsK (env : Env) (H : AH) : List Operand → (List Value → Option β) → Option β
 | [], c => c []
 | x :: l, c => match ev1 P env H x with
  | some v => evsK env H l fun l' => c (v :: l')
  | none => none
noncomputable def prun {α : Type} : Sem α → Option α
 | .pure a => some a
 | .program k => prun (k P)
 | .mark _ k => prun k
 | _ => none
noncomputable def pureK (s : Sem Value) (H : AH) (c : Value → AH → Option β) : Option β := match prun P s with
 | some v => match atomV v with
  | true => val1K v fun v => c v H
  | false => none
 | none => none
noncomputable def loadK (t : TypeId) (v : Value) (H : AH) (c : Value → AH → Option β) : Option β := match v with
 | .pointer (some ⟨b, o, none⟩) => match H.get b with
  | some ⟨_, .cells _ cs⟩ => match isAggB P t, sizeB P t with
   | some true, some n => rowK cs o n fun r => c (.agg ⟨r⟩) H
   | some false, _ => match nth cs o with
    | some v => c v H
    | none => none
   | _, _ => none
  | _ => none
 | _ => none
noncomputable def cellsL : Value → List Value
 | .agg ⟨l⟩ => l
 | v => [v]
noncomputable def one0 : Value → Bool
 | .agg _ | .tuple _ => false
 | _ => true
noncomputable def ones : List Value → Bool
 | [] => true
 | v :: l => match one0 v with
  | true => ones l
  | false => false
noncomputable def roB : Option (Nat × Nat) → Bool
 | some (0, _) => true
 | _ => false
noncomputable def storeRow (b o : Nat) (r : List Value) (H : AH) (c : AH → Option β) : Option β := match H.get b, ones r with
 | some ⟨i, .cells t cs⟩, true => match roB i with
  | true => none
  | false => putK cs o r fun cs => H.setK b ⟨i, .cells t cs⟩ c
 | _, _ => none
noncomputable def storeK (t : TypeId) (v x : Value) (H : AH) (c : Value → AH → Option β) : Option β := match v with
 | .pointer (some ⟨b, o, none⟩) => match sizeB P t with
  | some n => match Nat.beq n (cellsL x).length with
   | true => storeRow b o (cellsL x) H fun H => c undef H
   | false => none
  | none => none
 | _ => none
noncomputable def newRowK (t : TypeId) (cs : List Value) (H : AH) (c : Nat → AH → Option β) : Option β := H.newK ⟨none, .cells t cs⟩ c
noncomputable def fieldK (t : TypeId) (f : Nat) : Option Nat := match P.underlying t with
 | some (.struct fs) => match fs[f]? with
  | some fd => match sizeB P fd.type with
   | some (_ + 1) => some fd.offset
   | _ => none
  | none => none
 | _ => none
noncomputable def idxK (n : Nat) : Value → Option Nat
 | .int _ (.ofNat i) => match Nat.blt i n with
  | true => some i
  | false => none
 | _ => none
noncomputable def partsK (env : Env) (H : AH) : List (Nat × Operand) → (List (Nat × Value) → Option β) → Option β
 | [], c => c []
 | p :: l, c => match ev1 P env H p.2 with
  | some v => partsK env H l fun l' => c ((p.1, v) :: l')
  | none => none
noncomputable def fillK (place : Nat → Option (Nat × Nat)) : List (Nat × Value) → List Value → (List Value → Option β) → Option β
 | [], cs, c => c cs
 | (i, v) :: r, cs, c => match place i with
  | some (off, size) => match Nat.beq size (cellsL v).length && Nat.ble (off + size) cs.length with
   | true => putK cs off (cellsL v) fun cs => fillK place r cs c
   | false => none
  | none => none
noncomputable def placesL : List Field → Option (List (Nat × Nat))
 | [] => some []
 | f :: l => match sizeB P f.type, placesL l with
  | some n, some r => some ((f.offset, n) :: r)
  | _, _ => none
noncomputable def placesOf (t : TypeId) : Option (Nat → Option (Nat × Nat)) := match P.underlying t with
 | some (.struct fs) => match placesL P fs.toList with
  | some l => some (nth l)
  | none => none
 | some (.array _ e) => match sizeB P e with
  | some n => some (fun i => some (i * n, n))
  | none => none
 | _ => none
noncomputable def repL : Nat → List Value → List Value
 | 0, _ => []
 | n + 1, z => z ++ repL n z
noncomputable def boundK (v : Option Value) (d most : Nat) : Option Nat := match v with
 | none => some d
 | some (.int _ (.ofNat i)) => match Nat.ble i most with
  | true => some i
  | false => none
 | _ => none
noncomputable def optK (env : Env) (H : AH) : Option Operand → Option (Option Value)
 | none => some none
 | some x => (ev1 P env H x).map some
noncomputable def bounds3 (n m : Nat) (lo hi mx : Option Value) : Option (Nat × Nat × Nat) := match hi, mx with
 | none, some _ => none
 | _, _ => match boundK mx m m with
  | some m' => match boundK hi n m' with
   | some h => match boundK lo 0 h with
    | some l => some (l, h, m')
    | none => none
   | none => none
  | none => none
noncomputable def sliceSK (sz : Nat) (x : Value) (lo hi mx : Option Value) (H : AH) (c : Value → AH → Option β) : Option β := match x with
 | .slice (some ⟨b, o, none⟩) n m => match H.get b with
  | some ⟨i, .cells _ _⟩ => match Nat.ble n m && i.elim true fun p => Nat.beq p.1 sz with
   | true => match bounds3 n m lo hi mx with
    | some (l, h, m') => match Nat.beq m' l, l, mx with
     | true, _ + 1, none => c (.slice (some ⟨b, 0, some 0⟩) 0 0) H
     | true, _ + 1, some _ => val0K (.slice (some ⟨b, o, none⟩) (h - l) (m' - l)) fun v => c v H
     | _, _, _ => val0K (.slice (some ⟨b, o + l * sz, none⟩) (h - l) (m' - l)) fun v => c v H
    | none => none
   | false => none
  | _ => none
 | .slice none n m => match Nat.ble n m, bounds3 n m lo hi mx with
  | true, some (l, h, m') => val0K (.slice none (h - l) (m' - l)) fun v => c v H
  | _, _ => none
 | _ => none
noncomputable def sliceAK (len sz : Nat) (x : Value) (lo hi mx : Option Value) (H : AH) (c : Value → AH → Option β) : Option β := match x with
 | .pointer (some ⟨b, o, none⟩) => match bounds3 len len lo hi mx with
  | some (l, h, m') => match Nat.beq m' l with
   | true => val0K (.slice (some ⟨b, o, none⟩) (h - l) (m' - l)) fun v => c v H
   | false => val0K (.slice (some ⟨b, o + l * sz, none⟩) (h - l) (m' - l)) fun v => c v H
  | none => none
 | _ => none
noncomputable def sliceTK (_t : TypeId) (x : Value) (lo hi mx : Option Value) (H : AH) (c : Value → AH → Option β) : Option β := match x with
 | .string s => match bounds3 s.size s.size lo hi mx, mx with
  | some (l, h, _), none => strK (s.extract l h) fun s => c (.string s) H
  | _, _ => none
 | _ => none
noncomputable def sliceK (t : TypeId) (x : Value) (lo hi mx : Option Value) (H : AH) (c : Value → AH → Option β) : Option β := match P.underlying t with
 | some (.slice e) => match sizeB P e with
  | some sz => sliceSK sz x lo hi mx H c
  | none => none
 | some (.array n e) => match sizeB P e with
  | some sz => sliceAK n sz x lo hi mx H c
  | none => none
 | some .string => sliceTK t x lo hi mx H c
 | _ => none
noncomputable def lenK : Value → Option Nat
 | .slice _ n _ => some n
 | .string s => some s.size
 | _ => none
noncomputable def firstK (sz n : Nat) (x : Value) (H : AH) (c : List Value → Option β) : Option β := match x with
 | .slice none _ _ => c []
 | .slice (some ⟨b, o, none⟩) _ _ => match H.get b with
  | some ⟨_, .cells _ cs⟩ => rowK cs o (n * sz) c
  | _ => none
 | .string s => vals0K ((s.data.toList.take n).map fun b => .int .u8 b.toNat) c
 | _ => none
noncomputable def killK (et : TypeId) (off sz at_ b : Nat) (H : AH) (c : AH → Option β) : Option β := match H.get b with
 | some ⟨some (sz', e), .cells t _⟩ => match Nat.beq sz sz' && Nat.beq t et, Nat.beq at_ e with
  | true, true => match roB (some (sz', e)) || !(Nat.beq off 0) with
   | true => none
   | false => H.setK b ⟨some (sz', e), .dead⟩ c
  | true, false => c H
  | false, _ => none
 | some ⟨none, .cells _ _⟩ => c H
 | _ => none
noncomputable def bytesB (t : TypeId) : Option Nat := (P.info? t).map (·.bytes)
noncomputable def smallB (e : TypeId) : Bool := match bytesB P e, zeroB P e with
 | some n, some z => Nat.ble n 1048576 && sizeB P e == some (cellsL z).length
 | _, _ => false
noncomputable def plainArg (d : Option TypeDesc) : Bool := match d with
 | some (.slice _) => true
 | some .string => true
 | _ => false
noncomputable def elemOfB (d : Option TypeDesc) : TypeId := match d with
 | some (.slice e) => e
 | _ => 0
noncomputable def appendK (st xt : TypeId) (s x : Value) (H : AH) (c : Value → AH → Option β) : Option β := match P.underlying st, smallB P (elemOfB (P.underlying st)) && plainArg (P.underlying xt) with
 | some (.slice e), true => match sizeB P e, lenK x with
  | some sz, some n => firstK sz n x H fun new => match s with
   | .slice none 0 0 => match n with
    | 0 => c s H
    | n + 1 => match Nat.ble n 16777215 && Nat.beq new.length (Nat.succ n * sz) with
     | true => H.newK ⟨some (sz, Nat.succ n * sz), .cells e new⟩ fun b H => c (.slice (some ⟨b, 0, none⟩) (Nat.succ n) (Nat.succ n)) H
     | false => none
   | .slice (some ⟨b, o, none⟩) l m => match Nat.ble (l + n) m with
    | true => storeRow b (o + l * sz) new H fun H => natK (l + n) fun k => c (.slice (some ⟨b, o, none⟩) k m) H
    | false => match Nat.ble (l + n) 16777216 && Nat.ble l m with
     | false => none
     | true => firstK sz l s H fun old => catK old new fun all => match Nat.beq all.length ((l + n) * sz) && ones new with
      | true => killK e o sz (o + m * sz) b H fun H => natK (l + n) fun k => H.newK ⟨some (sz, k * sz), .cells e all⟩ fun b' H => c (.slice (some ⟨b', 0, none⟩) k k) H
      | false => none
   | _ => none
  | _, _ => none
 | _, _ => none
noncomputable def bytesV : List Value → Option (List UInt8)
 | [] => some []
 | .int .u8 n :: l => match bytesV l with
  | some r => some (UInt8.ofNat n.toNat :: r)
  | none => none
 | _ => none
noncomputable def convBK (e : TypeId) (x : Value) (H : AH) (c : Value → AH → Option β) : Option β := match P.underlying e, x with
 | some (.int .u8), .slice none _ _ => c (.string ⟨⟨[]⟩⟩) H
 | some (.int .u8), .slice (some ⟨b, o, none⟩) n _ => match H.get b with
  | some ⟨_, .cells _ cs⟩ => rowK cs o n fun r => match bytesV r with
   | some l => bytesK l fun l => c (.string ⟨⟨l⟩⟩) H
   | none => none
  | _ => none
 | _, _ => none
noncomputable def convSK (e : TypeId) (x : Value) (H : AH) (c : Value → AH → Option β) : Option β := match P.underlying e, x with
 | some (.int .u8), .string s => natK s.size fun n => vals0K (s.data.toList.map fun b => .int .u8 b.toNat) fun cs => H.newK ⟨some (1, n), .cells e cs⟩ fun b H => c (.slice (some ⟨b, 0, none⟩) n n) H
 | _, _ => none
noncomputable def convK (src dst : TypeId) (x : Value) (H : AH) (c : Value → AH → Option β) : Option β := match P.underlying src, P.underlying dst with
 | some (.slice e), some .string => convBK P e x H c
 | some .string, some (.slice e) => convSK P e x H c
 | some (.slice _), _ => none
 | _, some (.slice _) => none
 | _, _ => match atomV x with
  | true => pureK P (convert src dst x) H c
  | false => none
noncomputable def aggK (t : TypeId) (cs : List Value) (off : Nat) (H : AH) (c : Value → AH → Option β) : Option β := match isAggB P t, sizeB P t with
 | some true, some n => rowK cs off n fun r => c (.agg ⟨r⟩) H
 | some false, _ => match nth cs off with
  | some v => c v H
  | none => none
 | _, _ => none
noncomputable def eqNil (d : Option TypeDesc) (a b : Value) : Option Bool := match d, a, b with
 | some (.pointer _), .pointer (some _), .pointer none => some false
 | some (.pointer _), .pointer none, .pointer (some _) => some false
 | some (.slice _), .slice (some _) _ _, .slice none _ _ => some false
 | some (.slice _), .slice none _ _, .slice (some _) _ _ => some false
 | some (.func _ _ _), .func _ _ _, .nilFunc => some false
 | some (.func _ _ _), .nilFunc, .func _ _ _ => some false
 | _, _, _ => none
noncomputable def ile : Int → Int → Bool
 | .ofNat a, .ofNat b => Nat.ble a b
 | .ofNat _, .negSucc _ => false
 | .negSucc _, .ofNat _ => true
 | .negSucc a, .negSucc b => Nat.ble b a
noncomputable def ieq : Int → Int → Bool
 | .ofNat a, .ofNat b => Nat.beq a b
 | .negSucc a, .negSucc b => Nat.beq a b
 | _, _ => false
noncomputable def wrapF (k : IntKind) (n : Int) : Int := match k with
 | .i64 => match n with
  | .ofNat m => match Nat.blt m 9223372036854775808 with
   | true => n
   | false => k.wrap n
  | .negSucc m => match Nat.blt m 9223372036854775808 with
   | true => n
   | false => k.wrap n
 | _ => k.wrap n
noncomputable def beqL : List UInt8 → List UInt8 → Bool
 | [], [] => true
 | a :: l, b :: r => match Nat.beq a.toNat b.toNat with
  | true => beqL l r
  | false => false
 | _, _ => false
noncomputable def boolK (b : Bool) (H : AH) (c : Value → AH → Option β) : Option β := match b with
 | true => c (.bool true) H
 | false => c (.bool false) H
noncomputable def intBK (op : BinOp) (t : TypeId) (k k' : IntKind) (x y : Int) (H : AH) (c : Value → AH → Option β) : Option β := match op with
 | .add => match decide (k = k') with
  | true => intK (wrapF k (x + y)) fun n => c (.int k n) H
  | false => none
 | .sub => match decide (k = k') with
  | true => intK (wrapF k (x - y)) fun n => c (.int k n) H
  | false => none
 | .eql => match decide (k = k') with
  | true => boolK (ieq x y) H c
  | false => none
 | .neq => match decide (k = k') with
  | true => boolK (!(ieq x y)) H c
  | false => none
 | .lss => match decide (k = k') with
  | true => boolK (!(ile y x)) H c
  | false => none
 | .leq => match decide (k = k') with
  | true => boolK (ile x y) H c
  | false => none
 | .gtr => match decide (k = k') with
  | true => boolK (!(ile x y)) H c
  | false => none
 | .geq => match decide (k = k') with
  | true => boolK (ile y x) H c
  | false => none
 | op => pureK P (binOp op t (.int k x) (.int k' y)) H c
noncomputable def strBK (op : BinOp) (t : TypeId) (x y : ByteArray) (H : AH) (c : Value → AH → Option β) : Option β := match op with
 | .eql => boolK (beqL x.data.toList y.data.toList) H c
 | .neq => boolK (!(beqL x.data.toList y.data.toList)) H c
 | op => pureK P (binOp op t (.string x) (.string y)) H c
noncomputable def eqK (op : BinOp) (t : TypeId) (x y : Operand) (a b : Value) (H : AH) (c : Value → AH → Option β) : Option β := match a, b with
 | .int k x, .int k' y => intBK P op t k k' x y H c
 | .string x, .string y => strBK P op t x y H c
 | a, b => match atomV a && atomV b with
  | true => pureK P (do eqGuard op t x y a b; binOp op t a b) H c
  | false => match op, eqNil (P.underlying t) a b with
   | .eql, some r => boolK r H c
   | .neq, some r => boolK (!r) H c
   | _, _ => none
abbrev Rec := FuncId → List Value → AH → Option (Value × AH)
noncomputable def hasBody (g : FuncId) : Option Bool := match P.funcs[g]? with
 | some fn => match fn.name == "runtime.NumGoroutine" with
  | true => none
  | false => some fn.body.isSome
 | none => none
noncomputable def externK (g : FuncId) (args : List Value) (H : AH) (c : Value → AH → Option β) : Option β := match atoms0 args with
 | true => match prun P (callFunc g ⟨args⟩) with
  | some (.value v) => match atomV v with
   | true => val1K v fun v => c v H
   | false => none
  | _ => none
 | false => none
abbrev Orc := FuncId → Option (List Value → AH → Option (Value × AH))
noncomputable def callK (orc : Orc) (rec : Rec) (f : Value) (args : List Value) (H : AH) (c : Value → AH → Option β) : Option β := match f with
 | .func (.func g) ⟨first⟩ ⟨captured⟩ => match hasBody P g with
  | some true => match orc g with
   | some F => match F (first ++ (args ++ captured)) H with
    | some (v, H) => c v H
    | none => none
   | none => match rec g (first ++ (args ++ captured)) H with
    | some (v, H) => c v H
    | none => none
  | some false => externK P g (first ++ (args ++ captured)) H c
  | none => none
 | _ => none
noncomputable def moveK (env : Env) (H : AH) (x : Operand) (c : Value → AH → Option β) : Option β := match ev1 P env H x with
 | some v => c v H
 | none => none
noncomputable def pickK (env : Env) (H : AH) (b x y : Operand) (c : Value → AH → Option β) : Option β := match ev1 P env H b with
 | some (.bool true) => moveK P env H x c
 | some (.bool false) => moveK P env H y c
 | _ => none
noncomputable def allocK (H : AH) (t : TypeId) (c : Value → AH → Option β) : Option β := match zeroB P t with
 | some z => match atomV z with
  | true => newRowK t (cellsL z) H fun b H => c (.pointer (some ⟨b, 0, none⟩)) H
  | false => none
 | none => none
noncomputable def boxK (env : Env) (H : AH) (t : TypeId) (x : Operand) (c : Value → AH → Option β) : Option β := match ev1 P env H x with
 | some v => newRowK t (cellsL v) H fun b H => c (.pointer (some ⟨b, 0, none⟩)) H
 | none => none
noncomputable def buildK (env : Env) (H : AH) (t : TypeId) (parts : Array (Nat × Operand)) (c : Value → AH → Option β) : Option β := partsK P env H parts.toList fun ps => match zeroB P t, placesOf P t with
 | some z, some place => match atomV z with
  | true => fillK place ps (cellsL z) fun cs => c (.agg ⟨cs⟩) H
  | false => none
 | _, _ => none
noncomputable def buildSliceK (env : Env) (H : AH) (t : TypeId) (n : Nat) (parts : Array (Nat × Operand)) (c : Value → AH → Option β) : Option β := partsK P env H parts.toList fun ps => match P.underlying t with
 | some (.slice e) => match sizeB P e, zeroB P e with
  | some sz, some z => match atomV z && (Nat.beq (cellsL z).length sz && Nat.ble (n * sz) 16777216) with
   | true => fillK (fun i => some (i * sz, sz)) ps (repL n (cellsL z)) fun cs => newRowK e cs H fun b H => c (.slice (some ⟨b, 0, none⟩) n n) H
   | false => none
  | _, _ => none
 | _ => none
noncomputable def nilCheckK (env : Env) (H : AH) (x : Operand) (c : Value → AH → Option β) : Option β := match ev1 P env H x with
 | some (.pointer (some a)) => c (.pointer (some a)) H
 | some (.func (.func g) f d) => c (.func (.func g) f d) H
 | _ => none
noncomputable def binK (env : Env) (H : AH) (op : BinOp) (t : TypeId) (x y : Operand) (c : Value → AH → Option β) : Option β := match ev1 P env H x, ev1 P env H y with
 | some a, some b => eqK P op t x y a b H c
 | _, _ => none
noncomputable def unK (env : Env) (H : AH) (op : UnOp) (x : Operand) (c : Value → AH → Option β) : Option β := match ev1 P env H x with
 | some a => match atomV a with
  | true => pureK P (Op.unary op a) H c
  | false => none
 | none => none
noncomputable def ld1K (env : Env) (H : AH) (t : TypeId) (a : Operand) (c : Value → AH → Option β) : Option β := match ev1 P env H a with
 | some v => loadK P t v H c
 | none => none
noncomputable def st1K (env : Env) (H : AH) (t : TypeId) (a x : Operand) (c : Value → AH → Option β) : Option β := match ev1 P env H a, ev1 P env H x with
 | some v, some x => storeK P t v x H c
 | _, _ => none
noncomputable def cv1K (env : Env) (H : AH) (s d : TypeId) (x : Operand) (c : Value → AH → Option β) : Option β := match ev1 P env H x with
 | some a => convK P s d a H c
 | none => none
noncomputable def mapStep (kt : TypeId) (es : List MapEntry) (clock : Nat) (k x : Value) : Sem (List MapEntry × Nat) := do
 Instr.checkKey false 10000 kt k
 match ← Instr.findKey kt k es with
 | some (i, _) => do
  let key ← Instr.keyThatStays (((es[i]?).map (·.key)).getD k) k
  pure ((es.toArray.modify i fun e => { e with key, val := x }).toList, clock)
 | none => pure (es ++ [{ key := k, val := x, born := clock }], clock + 1)
noncomputable def mapUpdK (env : Env) (H : AH) (t : TypeId) (m k x : Operand) (c : Value → AH → Option β) : Option β := match ev1 P env H m, ev1 P env H k, ev1 P env H x with
 | some (.map (some b)), some k, some x => match P.underlying t, H.get b, atomV k && atomV x with
  | some (.map kt _), some ⟨none, .map es clock⟩, true => match prun P (mapStep kt es clock k x) with
   | some (es, clock) => natK clock fun clock => H.setK b ⟨none, .map es clock⟩ fun H => c undef H
   | none => none
  | _, _, _ => none
 | _, _, _ => none
noncomputable def makeMapK (H : AH) (c : Value → AH → Option β) : Option β := H.newK ⟨none, .map [] 0⟩ fun b H => c (.map (some b)) H
noncomputable def rangeK (env : Env) (H : AH) (t : TypeId) (x : Operand) (c : Value → AH → Option β) : Option β := match P.underlying t, ev1 P env H x with
 | some .string, some (.string s) => H.newK ⟨none, .siter s 0⟩ fun b H => c (.pointer (some ⟨b, 0, none⟩)) H
 | some (.map _ _), some (.map none) => H.newK ⟨none, .miter none 0 [] 0⟩ fun b H => c (.pointer (some ⟨b, 0, none⟩)) H
 | some (.map _ _), some (.map (some m)) => match H.get m with
  | some ⟨_, .map _ clock⟩ => H.newK ⟨none, .miter (some m) clock [] clock⟩ fun b H => c (.pointer (some ⟨b, 0, none⟩)) H
  | _ => none
 | _, _ => none
noncomputable def nextSK (b : Nat) (s : ByteArray) (pos : Nat) (H : AH) (c : Value → AH → Option β) : Option β := match Nat.blt pos s.size with
 | true => match Utf8.decode s pos with
  | (ch, width) => natK (pos + width) fun p => natK pos fun pos => natK ch fun ch => H.setK b ⟨none, .siter s p⟩ fun H => c (.tuple ⟨[.bool true, .int .i64 (.ofNat pos), .int .i32 (.ofNat ch)]⟩) H
 | false => c (.tuple ⟨[.bool false]⟩) H
noncomputable def nextK (env : Env) (H : AH) (it : Operand) (isString : Bool) (c : Value → AH → Option β) : Option β := match ev1 P env H it with
 | some (.pointer (some ⟨b, 0, none⟩)) => match H.get b, isString with
  | some ⟨none, .siter s pos⟩, true => nextSK b s pos H c
  | some ⟨_, .miter none _ _ _⟩, false => c (.tuple ⟨[.bool false]⟩) H
  | some ⟨_, .miter (some m) _ _ _⟩, false => match H.get m with
   | some ⟨_, .map [] _⟩ => c (.tuple ⟨[.bool false]⟩) H
   | _ => none
  | _, _ => none
 | _ => none
noncomputable def natOf : Value → Option Nat
 | .int .i64 (.ofNat n) => some n
 | _ => none
noncomputable def makeSliceK (env : Env) (H : AH) (t : TypeId) (l m : Operand) (c : Value → AH → Option β) : Option β := match P.underlying t, (ev1 P env H l).bind natOf, (ev1 P env H m).bind natOf with
 | some (.slice e), some n, some m => match P.info? e with
  | some i => match i.zero with
   | some z => match atomV z && (Nat.beq (cellsL z).length i.size && (Nat.ble n m && (Nat.ble m 16777216 && Nat.ble i.bytes 1048576))) with
    | true => newRowK e (repL m (cellsL z)) H fun b H => val0K (.slice (some ⟨b, 0, none⟩) n m) fun v => c v H
    | false => none
   | none => none
  | none => none
 | _, _, _ => none
noncomputable def copyK (t : TypeId) (d s : Value) (H : AH) (c : Value → AH → Option β) : Option β := match P.underlying t, lenK s, d with
 | some (.slice e), some m, .slice base n _ => match sizeB P e with
  | some sz => natK (Nat.min m n) fun k => firstK sz k s H fun r => match base with
   | none => match Nat.beq k 0 with
    | true => c (.int .i64 (.ofNat k)) H
    | false => none
   | some ⟨b, o, none⟩ => storeRow b o r H fun H => c (.int .i64 (.ofNat k)) H
   | some _ => none
  | none => none
 | _, _, _ => none
noncomputable def makeFuncK (env : Env) (H : AH) (fn : Fn) (first captured : Array Operand) (c : Value → AH → Option β) : Option β := match fn with
 | .func f => evsK P env H first.toList fun a => evsK P env H captured.toList fun b => c (.func (.func f) ⟨a⟩ ⟨b⟩) H
 | _ => none
noncomputable def sl1K (env : Env) (H : AH) (t : TypeId) (x : Operand) (lo hi mx : Option Operand) (c : Value → AH → Option β) : Option β := match ev1 P env H x, optK P env H lo, optK P env H hi, optK P env H mx with
 | some v, some l, some h, some m => sliceK P t v l h m H c
 | _, _, _, _ => none
noncomputable def fieldAddrK (env : Env) (H : AH) (t : TypeId) (x : Operand) (f : Nat) (c : Value → AH → Option β) : Option β := match ev1 P env H x, fieldK P t f with
 | some (.pointer (some ⟨b, o, none⟩)), some d => natK (o + d) fun o => c (.pointer (some ⟨b, o, none⟩)) H
 | _, _ => none
noncomputable def field1K (env : Env) (H : AH) (t : TypeId) (x : Operand) (f : Nat) (c : Value → AH → Option β) : Option β := match ev1 P env H x, P.underlying t with
 | some (.agg ⟨cs⟩), some (.struct fs) => match fs[f]? with
  | some fd => aggK P fd.type cs fd.offset H c
  | none => none
 | _, _ => none
noncomputable def indexAddrK (env : Env) (H : AH) (t : TypeId) (x i : Operand) (c : Value → AH → Option β) : Option β := match ev1 P env H x, ev1 P env H i, P.underlying t with
 | some (.slice (some ⟨b, o, none⟩) n _), some i, some (.slice e) => match idxK n i, sizeB P e with
  | some i, some sz => natK (o + i * sz) fun o => c (.pointer (some ⟨b, o, none⟩)) H
  | _, _ => none
 | some (.pointer (some ⟨b, o, none⟩)), some i, some (.array n e) => match idxK n i, sizeB P e with
  | some i, some sz => natK (o + i * sz) fun o => c (.pointer (some ⟨b, o, none⟩)) H
  | _, _ => none
 | _, _, _ => none
noncomputable def index1K (env : Env) (H : AH) (t : TypeId) (x i : Operand) (c : Value → AH → Option β) : Option β := match ev1 P env H x, ev1 P env H i with
 | some (.agg ⟨cs⟩), some i => match P.underlying t with
  | some (.array n e) => match idxK n i, sizeB P e with
   | some i, some sz => aggK P e cs (i * sz) H c
   | _, _ => none
  | _ => none
 | some (.string s), some (.int _ (.ofNat i)) => match P.underlying t with
  | some .string => match nth s.data.toList i with
   | some b => natK b.toNat fun n => c (.int .u8 (.ofNat n)) H
   | none => none
  | _ => none
 | _, _ => none
noncomputable def extractK (env : Env) (H : AH) (x : Operand) (i : Nat) (c : Value → AH → Option β) : Option β := match ev1 P env H x with
 | some (.tuple ⟨l⟩) => match nth l i with
  | some v => c v H
  | none => none
 | _ => none
noncomputable def lenT (d : Option TypeDesc) (v : Value) : Option Nat := match d, v with
 | some (.slice _), .slice _ n _ => some n
 | some .string, .string s => some s.size
 | some (.array n _), _ => some n
 | _, _ => none
noncomputable def len1K (ts : List TypeId) (vs : List Value) (H : AH) (c : Value → AH → Option β) : Option β := match ts, vs with
 | t :: _, [v] => match lenT (P.underlying t) v with
  | some n => natK n fun n => c (.int .i64 (.ofNat n)) H
  | none => none
 | _, _ => none
noncomputable def lenMap (ts : List TypeId) : Bool := match ts with
 | t :: _ => match P.underlying t with
  | some (.map _ _) => true
  | _ => false
 | [] => false
noncomputable def lenMK (vs : List Value) (H : AH) (c : Value → AH → Option β) : Option β := match vs with
 | [.map none] => c (.int .i64 (.ofNat 0)) H
 | [.map (some b)] => match H.get b with
  | some ⟨_, .map es _⟩ => natK es.length fun n => c (.int .i64 (.ofNat n)) H
  | _ => none
 | _ => none
noncomputable def two1K (f : TypeId → TypeId → Value → Value → Option β) (ts : List TypeId) (vs : List Value) : Option β := match vs, ts with
 | [s, x], [t, u] => f t u s x
 | _, _ => none
noncomputable def minK (s : Sem Value) (vs : List Value) (H : AH) (c : Value → AH → Option β) : Option β := match atoms0 vs with
 | true => pureK P s H c
 | false => none
noncomputable def builtK (b : Builtin) (ts : Array TypeId) (ty : TypeId) (vs : List Value) (H : AH) (c : Value → AH → Option β) : Option β := match b with
 | .len => match lenMap P ts.toList with
  | true => lenMK vs H c
  | false => len1K P ts.toList vs H c
 | .append => two1K (fun t u s x => appendK P t u s x H c) ts.toList vs
 | .copy => two1K (fun t _ d x => copyK P t d x H c) ts.toList vs
 | .min => minK P (Builtin.min_ ts ty ⟨vs⟩) vs H c
 | .max => minK P (Builtin.max_ ts ty ⟨vs⟩) vs H c
 | _ => none
noncomputable def call1K (orc : Orc) (rec : Rec) (env : Env) (H : AH) (k : Callee) (args : Array Operand) (ts : Array TypeId) (ty : TypeId) (c : Value → AH → Option β) : Option β := match k with
 | .value f => match ev1 P env H f with
  | some fv => evsK P env H args.toList fun vs => callK P orc rec fv vs H c
  | none => none
 | .builtin b => evsK P env H args.toList fun vs => builtK P b ts ty vs H c
 | _ => none
noncomputable def opK (orc : Orc) (rec : Rec) (o : Op) (ty : TypeId) (env : Env) (H : AH) (c : Value → AH → Option β) : Option β :=
 match o with
 | .move x => moveK P env H x c
 | .assign x => moveK P env H x c
 | .pick b x y => pickK P env H b x y c
 | .alloc t => allocK P H t c
 | .box t x => boxK P env H t x c
 | .build t parts => buildK P env H t parts c
 | .buildSlice t n parts => buildSliceK P env H t n parts c
 | .load t a => ld1K P env H t a c
 | .store t a x => st1K P env H t a x c
 | .nilCheck x => nilCheckK P env H x c
 | .binOp op t x y _ => binK P env H op t x y c
 | .unOp op _ x => unK P env H op x c
 | .convert s d x => cv1K P env H s d x c
 | .makeFunc fn first captured => makeFuncK P env H fn first captured c
 | .slice t x lo hi mx => sl1K P env H t x lo hi mx c
 | .fieldAddr t x f => fieldAddrK P env H t x f c
 | .field t x f => field1K P env H t x f c
 | .indexAddr t x i => indexAddrK P env H t x i c
 | .index t x i => index1K P env H t x i c
 | .extract x i => extractK P env H x i c
 | .call ⟨k, args, ts⟩ => call1K P orc rec env H k args ts ty c
 | .makeMap _ none => makeMapK H c
 | .mapUpdate t m k x => mapUpdK P env H t m k x c
 | .range t x => rangeK P env H t x c
 | .next it b => nextK P env H it b c
 | .makeSlice t l m => makeSliceK P env H t l m c
 | _ => none
inductive Cls where
 | p
 | l
 | a
 | w
noncomputable def clsC : Callee → Cls
 | .builtin .len => .p
 | .builtin .min => .p
 | .builtin .max => .p
 | _ => .w
noncomputable def clsC2 (k : Callee) (ts : Array TypeId) : Cls := match k with
 | .builtin .len => match lenMap P ts.toList with
  | true => .w
  | false => .p
 | k => clsC k
noncomputable def clsSl (d : Option TypeDesc) : Cls := match d with
 | some (.slice _) => .l
 | _ => .p
noncomputable def clsCv (s d : Option TypeDesc) : Cls := match s, d with
 | some (.slice _), _ => .l
 | _, some (.slice _) => .a
 | _, _ => .p
noncomputable def clsO (o : Op) : Cls := match o with
 | .load _ _ => .l
 | .slice t _ _ _ _ => clsSl (P.underlying t)
 | .alloc _ => .a
 | .box _ _ => .a
 | .buildSlice _ _ _ => .a
 | .convert s d _ => clsCv (P.underlying s) (P.underlying d)
 | .store _ _ _ => .w
 | .call ⟨k, _, ts⟩ => clsC2 P k ts
 | .makeMap _ _ => .w
 | .mapUpdate _ _ _ _ => .w
 | .range _ _ => .w
 | .next _ _ => .w
 | .makeSlice _ _ _ => .w
 | _ => .p
abbrev Ans := Value × AH
inductive Dec where
 | mk (f : Rec → Env → AH → (Value → AH → Option Ans) → Option Ans)
noncomputable def dec (orc : Orc) (o : Op) (ty : TypeId) : Dec := match o with
 | .move x => .mk fun _rec env H c => moveK P env H x c
 | .assign x => .mk fun _rec env H c => moveK P env H x c
 | .pick b x y => .mk fun _rec env H c => pickK P env H b x y c
 | .alloc t => .mk fun _rec _env H c => allocK P H t c
 | .box t x => .mk fun _rec env H c => boxK P env H t x c
 | .build t parts => .mk fun _rec env H c => buildK P env H t parts c
 | .buildSlice t n parts => .mk fun _rec env H c => buildSliceK P env H t n parts c
 | .load t a => .mk fun _rec env H c => ld1K P env H t a c
 | .store t a x => .mk fun _rec env H c => st1K P env H t a x c
 | .nilCheck x => .mk fun _rec env H c => nilCheckK P env H x c
 | .binOp op t x y _ => .mk fun _rec env H c => binK P env H op t x y c
 | .unOp op _ x => .mk fun _rec env H c => unK P env H op x c
 | .convert s d x => .mk fun _rec env H c => cv1K P env H s d x c
 | .makeFunc fn first captured => .mk fun _rec env H c => makeFuncK P env H fn first captured c
 | .slice t x lo hi mx => .mk fun _rec env H c => sl1K P env H t x lo hi mx c
 | .fieldAddr t x f => .mk fun _rec env H c => fieldAddrK P env H t x f c
 | .field t x f => .mk fun _rec env H c => field1K P env H t x f c
 | .indexAddr t x i => .mk fun _rec env H c => indexAddrK P env H t x i c
 | .index t x i => .mk fun _rec env H c => index1K P env H t x i c
 | .extract x i => .mk fun _rec env H c => extractK P env H x i c
 | .call ⟨k, args, ts⟩ => .mk fun rec env H c => call1K P orc rec env H k args ts ty c
 | .makeMap _ none => .mk fun _ _ H c => makeMapK H c
 | .mapUpdate t m k x => .mk fun _ env H c => mapUpdK P env H t m k x c
 | .range t x => .mk fun _ env H c => rangeK P env H t x c
 | .next it b => .mk fun _ env H c => nextK P env H it b c
 | .makeSlice t l m => .mk fun _ env H c => makeSliceK P env H t l m c
 | _ => .mk fun _ _ _ _ => none
noncomputable def Dec.run (d : Dec) (rec : Rec) (env : Env) (H : AH) (c : Value → AH → Option Ans) : Option Ans := Dec.rec (motive := fun _ => Option Ans) (fun f => f rec env H c) d
inductive DOp where
 | bad
 | mk (g : Option (Tmp × Bool)) (d : Option Tmp) (f : Dec)
noncomputable def decDst (n : Nat) (d : Option Tmp) : Bool := match d with
 | none => true
 | some t => Nat.blt t n
noncomputable def decO (orc : Orc) (n : Nat) (ops : Array Oper) (o : Oper) : DOp := match decDst n o.dst with
 | true => match o.guard with
  | none => .mk none o.dst (dec P orc o.op o.type)
  | some (g, want) => match (ops[g]?).bind (·.dst) with
   | some t => .mk (some (t, want)) o.dst (dec P orc o.op o.type)
   | none => .bad
 | false => .bad
noncomputable def decL (orc : Orc) (n : Nat) (ops : Array Oper) : List Oper → List DOp
 | [] => []
 | o :: l => decO P orc n ops o :: decL orc n ops l
noncomputable def wantK (g : Option (Tmp × Bool)) (env : Env) : Option Bool := match g with
 | none => some true
 | some (t, want) => match env.get t with
  | some (.bool b) => some (b == want)
  | some (.tuple _) => some false
  | _ => none
noncomputable def dstK (d : Option Tmp) (v : Value) (env : Env) (c : Env → Option β) : Option β := match d with
 | none => c env
 | some t => Tr.setK 20 env t v c
noncomputable def stepO (o : DOp) (rec : Rec) (env : Env) (H : AH) (c : Env → AH → Option Ans) : Option Ans := match o with
 | .bad => none
 | .mk g d f => match wantK g env with
  | some true => f.run rec env H fun v H => dstK d v env fun env => c env H
  | some false => dstK d undef env fun env => c env H
  | none => none
noncomputable def opsK (rec : Rec) (l : List DOp) : Env → AH → (Env → AH → Option Ans) → Option Ans :=
 List.rec (motive := fun _ => Env → AH → (Env → AH → Option Ans) → Option Ans) (fun env H c => c env H) (fun o _ ih env H c => stepO o rec env H fun env H => ih env H c) l
noncomputable def resK (fn : Func) (env : Env) (H : AH) : List ResultVar → (List Value → Option β) → Option β
 | [], c => c []
 | .tmp t :: l, c => match env.get t with
  | some v => resK fn env H l fun r => c (v :: r)
  | none => none
 | .cell a t :: l, c => match env.get a with
  | some v => loadK P t v H fun v _ => resK fn env H l fun r => c (v :: r)
  | none => none
noncomputable def retK (fn : Func) (env : Env) (H : AH) : Option (Value × AH) := resK P fn env H fn.results.toList fun r => match r with
 | [v] => some (v, H)
 | l => some (.tuple ⟨l⟩, H)
abbrev Drw := Nat → Array Oper → Rec → Env → AH → (Env → AH → Option Ans) → Option Ans
noncomputable def regK (orc : Orc) (dr : Drw) (rec : Rec) (n : Nat) (ops : Array Oper) (draw : Bool) (env : Env) (H : AH) (c : Env → AH → Option Ans) : Option Ans := match draw with
 | false => opsK rec (decL P orc n ops ops.toList) env H c
 | true => dr n ops rec env H c
noncomputable def codeK (orc : Orc) (dr : Drw) (rec : Rec) (fn : Func) (ih : List Item → Env → AH → Option Ans) (x : Code) (k : List Item) (env : Env) (H : AH) : Option Ans := match x with
 | .skip => ih k env H
 | .region _ ops d => regK P orc dr rec fn.ntmps ops d env H fun env H => ih k env H
 | .seq x y => ih (.code x :: .code y :: k) env H
 | .cond x a b => match ev1 P env H x with
  | some (.bool true) => ih (.code a :: k) env H
  | some (.bool false) => ih (.code b :: k) env H
  | _ => none
 | .block id c => ih (.code c :: .inBlock id :: k) env H
 | .loop c => ih (.code c :: .inLoop c :: k) env H
 | .exit id => match exitTo id k with
  | some k => ih k env H
  | none => none
 | .label _ => ih k env H
 | .ret => retK P fn env H
 | _ => none
noncomputable def itemK (orc : Orc) (dr : Drw) (rec : Rec) (fn : Func) (ih : List Item → Env → AH → Option Ans) (x : Item) (k : List Item) (env : Env) (H : AH) : Option Ans := match x with
 | .code x => codeK P orc dr rec fn ih x k env H
 | .inBlock _ => ih k env H
 | .inLoop c => ih (.code c :: .inLoop c :: k) env H
 | _ => none
noncomputable def runK (orc : Orc) (dr : Drw) (rec : Rec) (fn : Func) (n : Nat) : List Item → Env → AH → Option Ans :=
 Nat.rec (motive := fun _ => List Item → Env → AH → Option Ans) (fun _ _ _ => none)
  (fun _ ih todo env H => List.rec (motive := fun _ => Option Ans) (retK P fn env H) (fun x k _ => itemK P orc dr rec fn ih x k env H) todo) n
noncomputable def argsK : Nat → List Value → Env → (Env → Option β) → Option β
 | _, [], env, c => c env
 | t, v :: l, env, c => Tr.setK 20 env t v fun env => argsK (Nat.succ t) l env c
noncomputable def evalK (orc : Orc) (dr : Drw) : Nat → Rec
 | 0 => fun _ _ _ => none
 | d + 1 => fun f args H => match P.funcs[f]? with
  | some fn => match fn.body with
   | some c => match Nat.ble args.length fn.ntmps with
    | false => none
    | true => argsK 0 args .lf fun env => runK P orc dr (evalK orc dr d) fn 1000000 [.code c] env H
   | none => none
  | none => none
end
end Go.Proofs.YtdcbnkimjhefkaaGreatDoor

/-
  Regions whose order is drawn: run in one order, with what shows that every other order does the same.
-/
import Derived.Test.YtdcbnkimjhefkaaGreatDoorZ20
namespace Go.Proofs.YtdcbnkimjhefkaaGreatDoor
section
variable (P : Program)
/-! ### The order and what is asked of it -/
noncomputable def ancOf (acc : List Nat) : List Edge → Nat
  | [] => 0
  | e :: l => match Region.binds .any e with
    | true => Nat.lor (Nat.lor (ancOf acc l) (2 ^ e.on)) ((nth acc e.on).getD 0)
    | false => ancOf acc l
noncomputable def ancL : List Oper → List Nat → List Nat
  | [], acc => acc
  | o :: l, acc => ancL l (acc ++ [ancOf acc o.after.toList])
def hasBit (m i : Nat) : Bool := Nat.beq (Nat.mod (Nat.div m (2 ^ i)) 2) 1
noncomputable def isW (o : Oper) : Bool := match clsO P o.op with
  | .w => true
  | _ => false
def memN : Nat → List Nat → Bool
  | _, [] => false
  | i, j :: l => match Nat.beq i j with
    | true => true
    | false => memN i l
noncomputable def lazyGo (n : Nat) (A : List Nat) : List Nat → List Nat → List Nat
  | [], done => done ++ (List.range n).filter (fun i => !(memN i done))
  | c :: ws, done => lazyGo n A ws (done ++ ((List.range n).filter (fun i => hasBit ((nth A c).getD 0) i && !(memN i done)) ++ [c]))
noncomputable def writersOf : List Oper → Nat → List Nat
  | [], _ => []
  | o :: l, i => match isW P o with
    | true => i :: writersOf l (i + 1)
    | false => writersOf l (i + 1)
/-- Claimed ancestors are ancestors. -/
noncomputable def ancOk (ops : Array Oper) (A : List Nat) : Bool := (List.range ops.size).all fun i => match ops[i]? with
  | some o => (List.range ops.size).all fun j => !(hasBit ((nth A i).getD 0) j) || o.after.toList.any fun e => Region.binds .any e && (Nat.blt e.on i && (Nat.beq e.on j || hasBit ((nth A e.on).getD 0) j))
  | none => false
noncomputable def edgesOk (ops : Array Oper) : Bool := (List.range ops.size).all fun i => match ops[i]? with
  | some o => o.after.toList.all fun e => !(Region.binds .any e) || Nat.blt e.on i
  | none => false
/-- One operation against those ahead of it in the order. -/
noncomputable def ordOk1 (ops : Array Oper) (A : List Nat) (i : Nat) (o : Oper) (j : Nat) : Bool := match ops[j]? with
  | some q => (!(isW P o) || hasBit ((nth A i).getD 0) j) &&
    (match q.dst with
      | some t => (!((o.looksAt ops).contains t) || hasBit ((nth A i).getD 0) j) && !(o.dst == some t)
      | none => true) &&
    (match o.dst with
      | some t => !((q.looksAt ops).contains t) || hasBit ((nth A i).getD 0) j
      | none => true)
  | none => false
noncomputable def ordOk (ops : Array Oper) (A : List Nat) : List Nat → List Nat → Bool
  | _, [] => true
  | pre, i :: l => match ops[i]? with
    | some o => pre.all (ordOk1 P ops A i o) && (!(memN i pre) && ordOk ops A (i :: pre) l)
    | none => false
structure Plan where
  ord : List Nat
  anc : List Nat
noncomputable def planOf (ops : Array Oper) : Option Plan :=
  let A := ancL ops.toList []
  let ord := lazyGo ops.size A (writersOf P ops.toList 0) []
  match (Region.noSelect ops && edgesOk ops) && (Nat.beq ord.length ops.size && (ancOk ops A && ordOk P ops A [] ord)) with
  | true => some ⟨ord, A⟩
  | false => none
/-! ### The run -/
noncomputable def veq0 : Value → Value → Bool
  | .bool a, .bool b => a == b
  | .int k a, .int k' b => decide (k = k') && ieq a b
  | .string a, .string b => beqL a.data.toList b.data.toList
  | .pointer none, .pointer none => true
  | .pointer (some ⟨b, o, none⟩), .pointer (some ⟨b', o', none⟩) => Nat.beq b b' && Nat.beq o o'
  | .slice none n m, .slice none n' m' => Nat.beq n n' && Nat.beq m m'
  | .slice (some ⟨b, o, none⟩) n m, .slice (some ⟨b', o', none⟩) n' m' => (Nat.beq b b' && Nat.beq o o') && (Nat.beq n n' && Nat.beq m m')
  | .nilFunc, .nilFunc => true
  | .nilIface, .nilIface => true
  | .map none, .map none => true
  | _, _ => false
noncomputable def veqs : List Value → List Value → Bool
  | [], [] => true
  | a :: l, b :: r => veq0 a b && veqs l r
  | _, _ => false
noncomputable def veq : Value → Value → Bool
  | .agg ⟨l⟩, .agg ⟨r⟩ => veqs l r
  | a, b => veq0 a b
/-- The slots that an operation looks at. -/
noncomputable def restrK {β : Type} (env : Env) : List Tmp → Env → (Env → Option β) → Option β
  | [], acc, c => c acc
  | t :: l, acc, c => match env.get t with
    | some v => Tr.setK 20 acc t v fun acc => restrK env l acc c
    | none => restrK env l acc c
noncomputable def stepR (o : DOp) (rec : Rec) (envr env : Env) (H : AH) (c : Env → AH → Option Ans) : Option Ans := match o with
  | .bad => none
  | .mk g d f => match wantK g envr with
    | some true => f.run rec envr H fun v H => dstK d v env fun env => c env H
    | some false => dstK d undef env fun env => c env H
    | none => none
/-- What an operation would yield at another memory. -/
noncomputable def sameAt (f : Dec) (rec : Rec) (env : Env) (v : Value) (anc : Nat) : List (Nat × AH) → Bool
  | [] => true
  | p :: l => match hasBit anc p.1 with
    | true => sameAt f rec env v anc l
    | false => match f.run rec env p.2 fun v' H' => some (v', H') with
      | some (v', _) => match veq v v' with
        | true => sameAt f rec env v anc l
        | false => false
      | none => false
noncomputable def stepL (o : DOp) (rec : Rec) (anc : Nat) (hist : List (Nat × AH)) (envr env : Env) (H : AH) (c : Env → AH → Option Ans) : Option Ans := match o with
  | .bad => none
  | .mk g d f => match wantK g envr with
    | some true => f.run rec envr H fun v H => match sameAt f rec envr v anc hist with
      | true => dstK d v env fun env => c env H
      | false => none
    | some false => dstK d undef env fun env => c env H
    | none => none
noncomputable def planK (orc : Orc) (n : Nat) (ops : Array Oper) (A : List Nat) (rec : Rec) : List Nat → List (Nat × AH) → Env → AH → (Env → AH → Option Ans) → Option Ans
  | [], _, env, H, c => c env H
  | i :: l, hist, env, H, c => match ops[i]? with
    | none => none
    | some o => restrK env (o.looksAt ops) .lf fun envr => match clsO P o.op with
      | .w => stepR (decO P orc n ops o) rec envr env H fun env' H' => planK orc n ops A rec l ((i, H) :: hist) env' H' c
      | .l => stepL (decO P orc n ops o) rec ((nth A i).getD 0) hist envr env H fun env' H' => planK orc n ops A rec l hist env' H' c
      | _ => stepR (decO P orc n ops o) rec envr env H fun env' H' => planK orc n ops A rec l hist env' H' c
noncomputable def drawK (orc : Orc) : Drw := fun n ops rec env H c => match planOf P ops with
  | some p => planK P orc n ops p.anc rec p.ord [] env H c
  | none => none
end
end Go.Proofs.YtdcbnkimjhefkaaGreatDoor

/-
  The law on groups: the code behind the two choices, and the memory it begins with.
-/
import Derived.Test.YtgmpcmnkcaniaaaGreatDoorLb
import Derived.Test.YtgmpcmnkcaniaaaGreatDoorEq
import Derived.Test.YtgmpcmnkcaniaaaGreatDoorProg
namespace Go.Proofs.YtgmpcmnkcaniaaaGreatDoor
noncomputable def H0 : AH := ⟨.nd (.nd (.nd (.nd .lf (some ⟨none, .dead⟩) .lf) (some ⟨none, .dead⟩) .lf) (some ⟨none, .dead⟩) (.nd .lf (some ⟨none, .dead⟩) .lf)) (some ⟨none, .dead⟩) (.nd (.nd .lf (some ⟨none, .dead⟩) .lf) (some ⟨none, .dead⟩) (.nd .lf (some ⟨none, .dead⟩) .lf)), 8⟩
def wordsG : List Value := [.string ⟨#[111, 114]⟩, .string ⟨#[97, 110, 100]⟩, .string ⟨#[43]⟩, .string ⟨#[45]⟩, .string ⟨#[42]⟩, .string ⟨#[47]⟩]
def levelG : List Value := [.int .i64 0, .int .i64 1, .int .i64 2, .int .i64 2, .int .i64 3, .int .i64 3]
noncomputable def HG : AH := ⟨.nd (.nd (.nd (.nd .lf (some ⟨none, .dead⟩) .lf) (some ⟨none, .dead⟩) .lf) (some ⟨none, .dead⟩) (.nd (.nd .lf (some ⟨none, .cells 3 levelG⟩) .lf) (some ⟨none, .dead⟩) .lf)) (some ⟨none, .dead⟩) (.nd (.nd (.nd .lf (some ⟨none, .cells 9 wordsG⟩) .lf) (some ⟨none, .dead⟩) .lf) (some ⟨none, .dead⟩) (.nd .lf (some ⟨none, .dead⟩) .lf)), 10⟩
noncomputable def envG (a b : Int) : Env := .nd (.nd (.nd (.nd .lf (some (.int .i64 b)) .lf) none .lf) none (.nd .lf (some (.slice (some ⟨9, 0, none⟩) 6 6)) .lf)) none (.nd (.nd .lf (some (.slice (some ⟨8, 0, none⟩) 6 6)) .lf) none (.nd .lf (some (.int .i64 a)) .lf))
noncomputable def orcJ : Orc := fun g => match Nat.beq g 17 with
  | true => some joinG
  | false => none
noncomputable def yesF : List Value → AH → Option Value := fun args _ => match args with
  | [] => some (.bool true)
  | _ :: _ => none
noncomputable def orcG : Orc := fun g => match Nat.beq g 17 with
  | true => some joinG
  | false => match Nat.beq g 9 with
    | true => some yesF
    | false => none
noncomputable def codeG : Code := Tryz.f3.body.getD .skip
noncomputable def tG0 : List Item := advT 60 [.code codeG]
noncomputable def tG1 : List Item := advT 60 (popOp tG0)
noncomputable def tG2 : List Item := advT 60 (popOp tG1)
noncomputable def tG3 : List Item := advT 60 (popOp tG2)
noncomputable def runG (a b : Int) : Option Value := (runK Tryz.prog orcG (drawK Tryz.prog orcG) (evalK Tryz.prog orcG (drawK Tryz.prog orcG) 60) Tryz.f3 1000000 tG3 (envG a b) HG).map (·.1)
end Go.Proofs.YtgmpcmnkcaniaaaGreatDoor

/-
  Conversions.
-/
import Derived.Test.YtgmpcmnkcaniaaaGreatDoorKi
import Derived.Laws.BytesString
import Derived.Laws.AppendOwn
namespace Go.Proofs.YtgmpcmnkcaniaaaGreatDoor
section
variable {P : Program} {env : Env} {H : AH} {β : Type} {o : Oper} {c : Value → AH → Option β} {r : β}
theorem bytesV_inv : ∀ {l : List Value} {r : List UInt8}, bytesV l = some r → ∃ ns : List Int, l = ns.map (Value.int .u8) ∧ r = ns.map fun n => UInt8.ofNat n.toNat
  | [], r, h => by simp [bytesV] at h; subst h; exact ⟨[], rfl, rfl⟩
  | v :: l, r, h => by
    unfold bytesV at h
    split at h
    · rename_i hh; cases hh
    · rename_i n l2 hh
      rw [List.cons.injEq] at hh
      obtain ⟨rfl, rfl⟩ := hh
      split at h
      · rename_i r' hr
        obtain rfl := Option.some.inj h
        obtain ⟨ns, h1, h2⟩ := bytesV_inv hr
        exact ⟨n :: ns, by rw [h1]; rfl, by rw [h2]; rfl⟩
      · cases h
    · cases h
theorem push_fold : ∀ (ns : List Int) (s : ByteArray), ns.foldl (fun r n => r.push (UInt8.ofNat n.toNat)) s = ⟨⟨s.data.toList ++ ns.map fun n => UInt8.ofNat n.toNat⟩⟩
  | [], s => by simp
  | n :: ns, s => by
    rw [List.foldl_cons, push_fold ns]
    simp [ByteArray.push]
theorem atoms_u8 : ∀ (ns : List Int), atoms0 (ns.map (Value.int .u8)) = true
  | [] => rfl
  | n :: ns => by unfold atoms0; simp only [List.map_cons, atom0]; exact atoms_u8 ns
theorem good_convB {src dst e : TypeId} {x : Operand} (hop : o.op = .convert src dst x) (hs : P.underlying src = some (.slice e)) (hd : P.underlying dst = some .string) {v : Value} (hv : ev1 P env H x = some v) (h : convBK P e v H c = some r) : ResC P env H o c r .l := by
  unfold convBK at h
  split at h
  · rename_i n m he
    refine ⟨_, h, .inl fun σ D w ρ hr => ⟨.string ⟨⟨[]⟩⟩, ?_, .string _⟩⟩
    have hx := hr x _ hv
    cases hρ : ρ x with
    | slice a n2 m2 =>
      rw [hρ] at hx
      cases hx
      simp only [execOp, hop, hρ]
      refine run_v ?_
      simp [convert, run_underlying hs, run_underlying hd, run_underlying he, Conv.bytesToString]
      rfl
    | _ => rw [hρ] at hx; cases hx
  · rename_i b off n m he
    split at h
    · rename_i i T cs hb
      obtain ⟨h1, h2⟩ := rowK_inv h
      split at h2
      · rename_i l hl
        rw [bytesK_eq] at h2
        obtain ⟨ns, e1, e2⟩ := bytesV_inv hl
        refine ⟨_, h2, .inr ⟨b, i, T, cs, hb, fun σ D ρ hr => ?_⟩⟩
        obtain ⟨z, m', q1, q2, hx, _⟩ := (hr x _ hv).slice_inv
        refine ⟨by rw [q1]; simp, fun _ w C T fr q3 q4 => ⟨.string ⟨⟨l⟩⟩, ?_, .string _⟩⟩
        obtain ⟨row, g1, g2⟩ := Row.cells (P := P) q3 q4 h1
        rw [e1] at g2
        have := g2.atoms0 (atoms_u8 ns)
        subst this
        simp only [execOp, hop, hx]
        refine run_v ?_
        simp [convert, run_underlying hs, run_underlying hd, run_underlying he]
        rw [run_bytesToString w _ n m' ns g1, push_fold, e2]
        rfl
      · cases h2
    · cases h
  · cases h
theorem good_convP {src dst : TypeId} {x : Operand} (hop : o.op = .convert src dst x) {v : Value} (hv : ev1 P env H x = some v) (hat : atomV v = true) (h : pureK P (convert src dst v) H c = some r) : ResC P env H o c r .p :=
  res_pure h fun σ D ρ hr => by simp only [execOp, hop, show ρ x = v from (hr x v hv).atomV hat]
theorem good_conv {src dst : TypeId} {x : Operand} (hop : o.op = .convert src dst x) (h : cv1K P env H src dst x c = some r) : ResC P env H o c r (clsCv (P.underlying src) (P.underlying dst)) := by
  unfold cv1K at h
  split at h
  · rename_i v hv
    unfold convK at h
    split at h
    · rename_i e hs hd
      rw [hs]
      exact good_convB hop hs hd hv h
    · cases h
    · cases h
    · rename_i h1 h2 h3
      split at h
      · rename_i hat
        have := good_convP hop hv hat h
        unfold clsCv
        split
        · rename_i e hs; exact (h1 _ hs).elim
        · rename_i hs2 hd2; first | exact (h2 _ hd2).elim | exact (h2 _ hs2).elim
        · exact this
      · cases h
  · cases h
/-! ### Append -/
theorem firstK_inv {sz n : Nat} {x : Value} {c : List Value → Option β} {r : β} (h : firstK sz n x H c = some r) (hn : lenK x = some n ∨ ∃ a m, x = .slice a n m) : ∃ row, c row = some r ∧ ∀ σ w x', Sim P σ H.get w → VR σ (Hp.dom H.get) x x' → ∃ row', (Builtin.firstCells sz n x').run P w = .ok ⟨row'⟩ w ∧ VRs σ (Hp.dom H.get) row row' := by
  unfold firstK at h
  split at h
  · refine ⟨[], h, fun σ w x' hS hv => ⟨[], ?_, .nil⟩⟩
    cases hv
    rfl
  · rename_i b off l m
    split at h
    · rename_i i T cs hb
      obtain ⟨h1, h2⟩ := rowK_inv h
      refine ⟨_, h2, fun σ w x' hS hv => ?_⟩
      obtain ⟨z, m', q1, q2, rfl, _⟩ := hv.slice_inv
      obtain ⟨row, g1, g2⟩ := hS.cells hb h1
      exact ⟨row, by simp [Builtin.firstCells, g1], g2⟩
    · cases h
  · rename_i s
    rw [vals0K_eq] at h
    refine ⟨_, h, fun σ w x' hS hv => ⟨(s.data.toList.take n).map fun b => Value.int .u8 (b.toNat : Int), ?_, ?_⟩⟩
    · rw [hv.str_inv]
      have hns : n = s.size := by
        rcases hn with hn | ⟨a, m, hn⟩
        · simp [lenK] at hn; exact hn.symm
        · cases hn
      subst hns
      have hx : s.extract 0 s.size = s := by simp
      have ht : s.data.toList.take s.size = s.data.toList := List.take_of_length_le (Nat.le_refl _)
      rw [ht]
      simp only [Builtin.firstCells, hx]
      show Result.ok _ w = _
      congr 1
      apply Array.ext'
      simp
    · have := VRs.of_atoms0 (σ := σ) (D := Hp.dom H.get) (atoms_u8 ((s.data.toList.take n).map fun b => (b.toNat : Int)))
      rw [List.map_map] at this
      exact this
  · cases h
/-- What an append asks of its types. -/
structure AppT (P : Program) (ts : Array TypeId) (t u e : TypeId) (i : TypeInfo) (z : Value) : Prop where
  t0 : ts[0]? = some t
  t1 : ts[1]? = some u
  st : P.underlying t = some (.slice e)
  xt : plainArg (P.underlying u) = true
  info : P.info? e = some i
  zero : i.zero = some z
theorem run_app_room {ts : Array TypeId} {ty t u e : TypeId} {i : TypeInfo} {z : Value} (T : AppT P ts t u e i z) {w : World} {a : Addr} {sLen sCap n : Nat} {x : Value} (hn : (Builtin.lenOf x).run P w = .ok n w) {news : List Value} (hx : (Builtin.firstCells i.size n x).run P w = .ok ⟨news⟩ w) (hroom : sLen + n ≤ sCap) {w' : World} (hst : (storeCells (a.add (sLen * i.size)) news).run P w = .ok () w') :
    (Builtin.append_ ts ty #[.slice (some a) sLen sCap, x]).run P w = .ok (.slice (some a) (sLen + n) sCap) w' := by
  have hu := T.xt
  unfold plainArg at hu
  split at hu
  · rename_i e' hu'
    simp [Builtin.append_, T.t0, T.t1, run_underlying T.st, run_underlying hu', sizeOf, typeInfo, T.info, hn, hroom, hx, hst]
  · rename_i hu'
    simp [Builtin.append_, T.t0, T.t1, run_underlying T.st, run_underlying hu', sizeOf, typeInfo, T.info, hn, hroom, hx, hst]
  · cases hu
theorem run_app_grow {ts : Array TypeId} {ty t u e : TypeId} {i : TypeInfo} {z : Value} (T : AppT P ts t u e i z) {w : World} {a : Option Addr} {sLen sCap n : Nat} {x : Value} (hn : (Builtin.lenOf x).run P w = .ok n w) {olds news : List Value} (ho : (Builtin.firstCells i.size sLen (.slice a sLen sCap)).run P w.drew = .ok ⟨olds⟩ w.drew) (hx : (Builtin.firstCells i.size n x).run P w.drew = .ok ⟨news⟩ w.drew)
    (hroom : ¬ sLen + n ≤ sCap) (h63 : sLen + n ≤ 16777216) (hb : i.bytes ≤ 1048576) :
    ∃ cap rest, sLen + n ≤ cap ∧ rest.length = (cap - (sLen + n)) * z.cells.size ∧ (Builtin.append_ ts ty #[.slice a sLen sCap, x]).run P w = .ok (.slice (some ⟨w.heap.size, 0, none⟩) (sLen + n) cap) { w with heap := w.heap.push (.cells (olds ++ news ++ rest).toArray e (0, 0)), drawn := w.drawn + 1 } := by
  have h63' : ¬ (9223372036854775807 < ((sLen : Int) + (n : Int))) := by omega
  have hbb : (sLen + n) * i.bytes ≤ 140737488355328 := Nat.le_trans (Nat.mul_le_mul h63 hb) (by decide)
  have h48 := growslice_fits (old := sCap) (need := sLen + n) (bytes := i.bytes) (by omega) hbb
  have h48' : ¬ (281474976710656 < Builtin.nextslicecap (sLen + n) sCap * i.bytes) := by omega
  refine ⟨grownCap w (sLen + n) sCap e, (Builtin.zeroCells z.cells (grownCap w (sLen + n) sCap e - (sLen + n))).toList, grownCap_ge w _ _ e, by rw [Array.length_toList, size_zeroCells], ?_⟩
  have hu := T.xt
  unfold plainArg at hu
  split at hu
  · rename_i e' hu'
    simp [Builtin.append_, T.t0, T.t1, run_underlying T.st, run_underlying hu', sizeOf, typeInfo, zeroValue, T.info, T.zero, hn, hroom, h63', h48', Question.forced, ho, hx, newRow, grownCap]
    generalize Builtin.zeroCells z.cells _ = Z
    have earr : (⟨olds⟩ : Array Value) ++ (⟨news⟩ ++ Z) = (olds ++ (news ++ Z.toList)).toArray := by
      apply Array.ext'
      simp
    rw [earr]
    rfl
  · rename_i hu'
    simp [Builtin.append_, T.t0, T.t1, run_underlying T.st, run_underlying hu', sizeOf, typeInfo, zeroValue, T.info, T.zero, hn, hroom, h63', h48', Question.forced, ho, hx, newRow, grownCap]
    generalize Builtin.zeroCells z.cells _ = Z
    have earr : (⟨olds⟩ : Array Value) ++ (⟨news⟩ ++ Z) = (olds ++ (news ++ Z.toList)).toArray := by
      apply Array.ext'
      simp
    rw [earr]
    rfl
  · cases hu
end
end Go.Proofs.YtgmpcmnkcaniaaaGreatDoor

/-
  Operations that read and write memory.
  Conversions.
-/
import Derived.Test.YtdcbnkimjhefkaaGreatDoorZ11
import Derived.Laws.BytesString
import Derived.Laws.IdiomStrings
import Derived.Laws.AppendOwn
namespace Go.Proofs.YtdcbnkimjhefkaaGreatDoor
section
variable {P : Program} {env : Env} {H : AH} {β : Type} {o : Oper} {c : Value → AH → Option β} {r : β}
theorem good_load {t : TypeId} {x : Operand} (hop : o.op = .load t x) (h : ld1K P env H t x c = some r) : ResC P env H o c r .l := by
  unfold ld1K at h
  split at h
  · rename_i v hv
    unfold loadK at h
    split at h
    · rename_i b off
      split at h
      · rename_i i T cs hb
        split at h
        · rename_i n h1 h2
          obtain ⟨h3, h4⟩ := rowK_inv h
          refine ⟨_, h4, .inr ⟨b, i, T, cs, hb, fun σ D ρ hr => ?_⟩⟩
          obtain ⟨hd, hx⟩ := (hr x _ hv).ptr_inv
          refine ⟨hd, fun _ w C T fr q1 q2 => ?_⟩
          obtain ⟨row, g1, g2⟩ := Row.cells (P := P) q1 q2 h3
          refine ⟨.agg ⟨row⟩, ?_, .agg _ _ g2⟩
          simp [execOp, hop, hx, Instr.loadAt, Instr.sureAddr, loadVar, run_isAgg h1, run_size h2, g1]
        · rename_i h1
          split at h
          · rename_i u hu
            rw [nth_eq] at hu
            refine ⟨_, h, .inr ⟨b, i, T, cs, hb, fun σ D ρ hr => ?_⟩⟩
            obtain ⟨hd, hx⟩ := (hr x _ hv).ptr_inv
            refine ⟨hd, fun _ w C T fr q1 q2 => ?_⟩
            obtain ⟨u', g1, g2⟩ := Row.at q1 q2 hu
            refine ⟨u', ?_, g2⟩
            simp [execOp, hop, hx, Instr.loadAt, Instr.sureAddr, loadVar, run_isAgg h1, load, Sem.run, g1]
          · cases h
        · cases h
      · cases h
    · cases h
  · cases h
/-- Cells are written. -/
theorem storeRow_inv {b o2 : Nat} {row : List Value} {c : AH → Option β} {r : β} (hok : AH.ok P H) (h : storeRow b o2 row H c = some r) : ∃ H' i t cs cs2, c H' = some r ∧ AH.ok P H' ∧ H'.next = H.next ∧ H.get b = some ⟨i, .cells t cs⟩ ∧ H'.get = Hp.set H.get b ⟨i, .cells t cs2⟩ ∧ (row = [] ∨ o2 + row.length ≤ cs.length) ∧ cs2.length = cs.length ∧
    (∀ j : Nat, cs2[j]? = if o2 ≤ j ∧ j < o2 + row.length then row[j - o2]? else cs[j]?) ∧ ones row = true ∧ ∀ e, i ≠ some (0, e) := by
  unfold storeRow at h
  split at h
  · rename_i i t cs hb ho
    split at h
    · cases h
    · rename_i hro
      obtain ⟨h1, cs2, h2, h3, h4⟩ := putK_inv h
      obtain ⟨H', h5, h6, h7⟩ := AH.setK_inv h2
      exact ⟨H', i, t, cs, cs2, h5, AH.ok_set hok hb h6 h7, h6, hb, h7, h1, h3, h4, ho, roB_false hro⟩
  · cases h
theorem Sim.write {σ : Ren} {h : Hp} {w : World} (s : Sim P σ h w) {b o2 : Nat} {i : Option (Nat × Nat)} {t : TypeId} {cs cs2 row row' : List Value} (hro : ∀ e, i ≠ some (0, e)) (hb : h b = some ⟨i, .cells t cs⟩) (hr : row = [] ∨ o2 + row.length ≤ cs.length) (hl : cs2.length = cs.length)
    (hg : ∀ j : Nat, cs2[j]? = if o2 ≤ j ∧ j < o2 + row.length then row[j - o2]? else cs[j]?) (ho : ones row = true) (hv : VRs σ h.dom row row') :
    ∃ w', (storeCells ⟨σ.blk b, σ.sh b + o2, none⟩ row').run P w = .ok () w' ∧ Sim P σ (h.set b ⟨i, .cells t cs2⟩) w' ∧ Fwd σ h w σ (h.set b ⟨i, .cells t cs2⟩) w' := by
  obtain ⟨h1, h2⟩ := s.put hro hb hr hv hl hg
  refine ⟨_, ?_, h1, h2⟩
  have hrl := hv.length
  have hlt : ∀ j, j < row'.length → o2 + j < cs.length := fun j hj => by
    rcases hr with rfl | hr
    · rw [List.length_nil] at hrl; omega
    · omega
  have := run_storeCells_cells (P := P) (σ.blk b) (σ.sh b + o2) row' 0 w (fun j hj => by
      obtain ⟨v', g1, _⟩ := s.cell hb (List.getElem?_eq_getElem (hlt j hj))
      rw [show σ.sh b + o2 + 0 + j = σ.sh b + (o2 + j) by omega, g1]; rfl) (fun j hj => by
      rw [show σ.sh b + o2 + 0 + j = σ.sh b + (o2 + j) by omega]
      exact s.unfrozen hro hb (hlt j hj)) (ones_vr hv ho)
  simpa using this
theorem good_store (hok : AH.ok P H) {t : TypeId} {x y : Operand} (hop : o.op = .store t x y) (h : st1K P env H t x y c = some r) : ResC P env H o c r .w := by
  unfold st1K at h
  split at h
  · rename_i v u hv hu
    unfold storeK at h
    split at h
    · rename_i b off
      split at h
      · rename_i n hn
        split at h
        · rename_i hl
          obtain ⟨H', i, T, cs, cs2, h1, h2, h3, h4, h5, h6, h7, h8, h9, hro⟩ := storeRow_inv hok h
          refine ⟨_, H', h1, h2, by omega, fun σ w ρ hS hr => ?_⟩
          obtain ⟨_, hx⟩ := (hr x _ hv).ptr_inv
          have hy := (hr y _ hu)
          obtain ⟨w', g1, g2, g3⟩ := hS.write hro h4 h6 h7 h8 h9 hy.cells
          have hlen : (ρ y).cells.size = n := by rw [cellsL_eq]; simp [hy.cells.length, Nat.eq_of_beq_eq_true hl]
          unfold OpOk
          have : (execOp ρ o).run P w = .ok .skip w' := by
            simp only [execOp, hop, hx, Instr.storeAt, Instr.sureAddr, storeVar]
            have hlen' : (cellsL (ρ y)).length = n := by rw [cellsL_eq] at hlen; simpa using hlen
            simp [run_size hn, cellsL_eq, hlen', g1]
          rw [this]
          exact ⟨σ, by rw [h5]; exact g2, by rw [h5]; exact g3, .tuple _ _ .nil⟩
        · cases h
      · cases h
    · cases h
  · cases h
end
end Go.Proofs.YtdcbnkimjhefkaaGreatDoor

namespace Go.Proofs.YtdcbnkimjhefkaaGreatDoor
section
variable {P : Program} {env : Env} {H : AH} {β : Type} {o : Oper} {c : Value → AH → Option β} {r : β}
theorem bytesV_inv : ∀ {l : List Value} {r : List UInt8}, bytesV l = some r → ∃ ns : List Int, l = ns.map (Value.int .u8) ∧ r = ns.map fun n => UInt8.ofNat n.toNat
  | [], r, h => by simp [bytesV] at h; subst h; exact ⟨[], rfl, rfl⟩
  | v :: l, r, h => by
    unfold bytesV at h
    split at h
    · rename_i hh; cases hh
    · rename_i n l2 hh
      rw [List.cons.injEq] at hh
      obtain ⟨rfl, rfl⟩ := hh
      split at h
      · rename_i r' hr
        obtain rfl := Option.some.inj h
        obtain ⟨ns, h1, h2⟩ := bytesV_inv hr
        exact ⟨n :: ns, by rw [h1]; rfl, by rw [h2]; rfl⟩
      · cases h
    · cases h
theorem push_fold : ∀ (ns : List Int) (s : ByteArray), ns.foldl (fun r n => r.push (UInt8.ofNat n.toNat)) s = ⟨⟨s.data.toList ++ ns.map fun n => UInt8.ofNat n.toNat⟩⟩
  | [], s => by simp
  | n :: ns, s => by
    rw [List.foldl_cons, push_fold ns]
    simp [ByteArray.push]
theorem atoms_u8 : ∀ (ns : List Int), atoms0 (ns.map (Value.int .u8)) = true
  | [] => rfl
  | n :: ns => by unfold atoms0; simp only [List.map_cons, atom0]; exact atoms_u8 ns
theorem good_convB {src dst e : TypeId} {x : Operand} (hop : o.op = .convert src dst x) (hs : P.underlying src = some (.slice e)) (hd : P.underlying dst = some .string) {v : Value} (hv : ev1 P env H x = some v) (h : convBK P e v H c = some r) : ResC P env H o c r .l := by
  unfold convBK at h
  split at h
  · rename_i n m he
    refine ⟨_, h, .inl fun σ D w ρ hr => ⟨.string ⟨⟨[]⟩⟩, ?_, .string _⟩⟩
    have hx := hr x _ hv
    cases hρ : ρ x with
    | slice a n2 m2 =>
      rw [hρ] at hx
      cases hx
      simp only [execOp, hop, hρ]
      refine run_v ?_
      simp [convert, run_underlying hs, run_underlying hd, run_underlying he, Conv.bytesToString]
      rfl
    | _ => rw [hρ] at hx; cases hx
  · rename_i b off n m he
    split at h
    · rename_i i T cs hb
      obtain ⟨h1, h2⟩ := rowK_inv h
      split at h2
      · rename_i l hl
        rw [bytesK_eq] at h2
        obtain ⟨ns, e1, e2⟩ := bytesV_inv hl
        refine ⟨_, h2, .inr ⟨b, i, T, cs, hb, fun σ D ρ hr => ?_⟩⟩
        obtain ⟨z, m', q1, q2, hx, _⟩ := (hr x _ hv).slice_inv
        refine ⟨by rw [q1]; simp, fun _ w C T fr q3 q4 => ⟨.string ⟨⟨l⟩⟩, ?_, .string _⟩⟩
        obtain ⟨row, g1, g2⟩ := Row.cells (P := P) q3 q4 h1
        rw [e1] at g2
        have := g2.atoms0 (atoms_u8 ns)
        subst this
        simp only [execOp, hop, hx]
        refine run_v ?_
        simp [convert, run_underlying hs, run_underlying hd, run_underlying he]
        rw [run_bytesToString w _ n m' ns g1, push_fold, e2]
        rfl
      · cases h2
    · cases h
  · cases h
theorem good_convP {src dst : TypeId} {x : Operand} (hop : o.op = .convert src dst x) {v : Value} (hv : ev1 P env H x = some v) (hat : atomV v = true) (h : pureK P (convert src dst v) H c = some r) : ResC P env H o c r .p :=
  res_pure h fun σ D ρ hr => by simp only [execOp, hop, show ρ x = v from (hr x v hv).atomV hat]
theorem good_convS {src dst e : TypeId} {x : Operand} (hop : o.op = .convert src dst x) (hs : P.underlying src = some .string) (hd : P.underlying dst = some (.slice e)) {v : Value} (hv : ev1 P env H x = some v) (h : convSK P e v H c = some r) : ResC P env H o c r .a := by
  unfold convSK at h
  split at h
  · rename_i s he
    rw [natK_eq, vals0K_eq] at h
    obtain ⟨H', h1, h2, h3⟩ := AH.newK_inv h
    refine ⟨_, H', _, _, _, h1, h2, h3, fun sz e' hie => ?_, fun σ D w ρ hr => ?_⟩
    · simp only [Option.some.injEq, Prod.mk.injEq] at hie
      rw [← hie.2]
      simp
    · have hx := (hr x _ hv).str_inv
      have hg := grownCap_ge w s.size 0 e
      have hl : (s.data.toList.map fun b => Value.int .u8 (b.toNat : Int)).length = s.size := by simp
      refine ⟨s.data.toList.map fun b => .int .u8 b.toNat, List.replicate (grownCap w s.size 0 e - s.size) (.int .u8 0), ((bytesRow s (grownCap w s.size 0 e)).size, (bytesRow s (grownCap w s.size 0 e)).size + 1), .slice (some ⟨w.heap.size, 0, none⟩) s.size (grownCap w s.size 0 e), w.drew.alloc (.cells (bytesRow s (grownCap w s.size 0 e)) e ((bytesRow s (grownCap w s.size 0 e)).size, (bytesRow s (grownCap w s.size 0 e)).size + 1)), nofun, ?_, ?_, ⟨?_, ?_, rfl, rfl, rfl⟩, fun σ' D' q1 q2 q3 q4 => ?_⟩
      · have := VRs.of_atoms0 (σ := σ) (D := D) (atoms_u8 (s.data.toList.map fun b => (b.toNat : Int)))
        rw [List.map_map] at this
        exact this
      · simp only [execOp, hop, hx]
        exact run_v2 (run_bytes_of_string w src dst e s hs hd he)
      · show w.heap.push _ = _
        congr 2
        apply Array.ext'
        simp [bytesRow]
      · intro j hj _
        simp only [List.length_append, hl, List.length_replicate]
        have : (bytesRow s (grownCap w s.size 0 e)).size = s.size + (grownCap w s.size 0 e - s.size) := by simp [bytesRow]
        omega
      · have := VR.sliceo (σ := σ') (D := D') ⟨H.next, 0, none⟩ s.size s.size (grownCap w s.size 0 e) 1 s.size q1 rfl (by simp) (by simp only [q4, List.length_append, hl, List.length_replicate]; omega) hg
        unfold Ren.addr at this
        simp only [q2, q3, Nat.zero_add] at this
        exact this
  · cases h
theorem good_conv {src dst : TypeId} {x : Operand} (hop : o.op = .convert src dst x) (h : cv1K P env H src dst x c = some r) : ResC P env H o c r (clsCv (P.underlying src) (P.underlying dst)) := by
  unfold cv1K at h
  split at h
  · rename_i v hv
    unfold convK at h
    split at h
    · rename_i e hs hd
      rw [hs]
      exact good_convB hop hs hd hv h
    · rename_i e hs hd
      rw [hs, hd]
      exact good_convS hop hs hd hv h
    · cases h
    · cases h
    · rename_i h1 h2 h3 h4
      split at h
      · rename_i hat
        have := good_convP hop hv hat h
        unfold clsCv
        split
        · rename_i e hs; exact (h1 _ hs).elim
        · rename_i hs2 hd2; first | exact (h2 _ hd2).elim | exact (h2 _ hs2).elim
        · exact this
      · cases h
  · cases h
/-! ### Append -/
theorem firstK_inv {sz n : Nat} {x : Value} {c : List Value → Option β} {r : β} (h : firstK sz n x H c = some r) (hn : lenK x = some n ∨ ∃ a m, x = .slice a n m) : ∃ row, c row = some r ∧ ∀ σ w x', Sim P σ H.get w → VR σ (Hp.dom H.get) x x' → ∃ row', (Builtin.firstCells sz n x').run P w = .ok ⟨row'⟩ w ∧ VRs σ (Hp.dom H.get) row row' := by
  unfold firstK at h
  split at h
  · refine ⟨[], h, fun σ w x' hS hv => ⟨[], ?_, .nil⟩⟩
    cases hv
    rfl
  · rename_i b off l m
    split at h
    · rename_i i T cs hb
      obtain ⟨h1, h2⟩ := rowK_inv h
      refine ⟨_, h2, fun σ w x' hS hv => ?_⟩
      obtain ⟨z, m', q1, q2, rfl, _⟩ := hv.slice_inv
      obtain ⟨row, g1, g2⟩ := hS.cells hb h1
      exact ⟨row, by simp [Builtin.firstCells, g1], g2⟩
    · cases h
  · rename_i s
    rw [vals0K_eq] at h
    refine ⟨_, h, fun σ w x' hS hv => ⟨(s.data.toList.take n).map fun b => Value.int .u8 (b.toNat : Int), ?_, ?_⟩⟩
    · rw [hv.str_inv]
      have hns : n = s.size := by
        rcases hn with hn | ⟨a, m, hn⟩
        · simp [lenK] at hn; exact hn.symm
        · cases hn
      subst hns
      have hx : s.extract 0 s.size = s := by simp
      have ht : s.data.toList.take s.size = s.data.toList := List.take_of_length_le (Nat.le_refl _)
      rw [ht]
      simp only [Builtin.firstCells, hx]
      show Result.ok _ w = _
      congr 1
      apply Array.ext'
      simp
    · have := VRs.of_atoms0 (σ := σ) (D := Hp.dom H.get) (atoms_u8 ((s.data.toList.take n).map fun b => (b.toNat : Int)))
      rw [List.map_map] at this
      exact this
  · cases h
/-- What an append asks of its types. -/
structure AppT (P : Program) (ts : Array TypeId) (t u e : TypeId) (i : TypeInfo) (z : Value) : Prop where
  t0 : ts[0]? = some t
  t1 : ts[1]? = some u
  st : P.underlying t = some (.slice e)
  xt : plainArg (P.underlying u) = true
  info : P.info? e = some i
  zero : i.zero = some z
theorem run_app_room {ts : Array TypeId} {ty t u e : TypeId} {i : TypeInfo} {z : Value} (T : AppT P ts t u e i z) {w : World} {a : Addr} {sLen sCap n : Nat} {x : Value} (hn : (Builtin.lenOf x).run P w = .ok n w) {news : List Value} (hx : (Builtin.firstCells i.size n x).run P w = .ok ⟨news⟩ w) (hroom : sLen + n ≤ sCap) {w' : World} (hst : (storeCells (a.add (sLen * i.size)) news).run P w = .ok () w') :
    (Builtin.append_ ts ty #[.slice (some a) sLen sCap, x]).run P w = .ok (.slice (some a) (sLen + n) sCap) w' := by
  have hu := T.xt
  unfold plainArg at hu
  split at hu
  · rename_i e' hu'
    simp [Builtin.append_, T.t0, T.t1, run_underlying T.st, run_underlying hu', sizeOf, typeInfo, T.info, hn, hroom, hx, hst]
  · rename_i hu'
    simp [Builtin.append_, T.t0, T.t1, run_underlying T.st, run_underlying hu', sizeOf, typeInfo, T.info, hn, hroom, hx, hst]
  · cases hu
theorem run_app_grow {ts : Array TypeId} {ty t u e : TypeId} {i : TypeInfo} {z : Value} (T : AppT P ts t u e i z) {w : World} {a : Option Addr} {sLen sCap n : Nat} {x : Value} (hn : (Builtin.lenOf x).run P w = .ok n w) {olds news : List Value} (ho : (Builtin.firstCells i.size sLen (.slice a sLen sCap)).run P w.drew = .ok ⟨olds⟩ w.drew) (hx : (Builtin.firstCells i.size n x).run P w.drew = .ok ⟨news⟩ w.drew)
    (hroom : ¬ sLen + n ≤ sCap) (h63 : sLen + n ≤ 16777216) (hb : i.bytes ≤ 1048576) :
    ∃ cap rest, sLen + n ≤ cap ∧ rest.length = (cap - (sLen + n)) * z.cells.size ∧ (Builtin.append_ ts ty #[.slice a sLen sCap, x]).run P w = .ok (.slice (some ⟨w.heap.size, 0, none⟩) (sLen + n) cap) { w with heap := w.heap.push (.cells (olds ++ news ++ rest).toArray e (0, 0)), drawn := w.drawn + 1 } := by
  have h63' : ¬ (9223372036854775807 < ((sLen : Int) + (n : Int))) := by omega
  have hbb : (sLen + n) * i.bytes ≤ 140737488355328 := Nat.le_trans (Nat.mul_le_mul h63 hb) (by decide)
  have h48 := growslice_fits (old := sCap) (need := sLen + n) (bytes := i.bytes) (by omega) hbb
  have h48' : ¬ (281474976710656 < Builtin.nextslicecap (sLen + n) sCap * i.bytes) := by omega
  refine ⟨grownCap w (sLen + n) sCap e, (Builtin.zeroCells z.cells (grownCap w (sLen + n) sCap e - (sLen + n))).toList, grownCap_ge w _ _ e, by rw [Array.length_toList, size_zeroCells], ?_⟩
  have hu := T.xt
  unfold plainArg at hu
  split at hu
  · rename_i e' hu'
    simp [Builtin.append_, T.t0, T.t1, run_underlying T.st, run_underlying hu', sizeOf, typeInfo, zeroValue, T.info, T.zero, hn, hroom, h63', h48', Question.forced, ho, hx, newRow, grownCap]
    generalize Builtin.zeroCells z.cells _ = Z
    have earr : (⟨olds⟩ : Array Value) ++ (⟨news⟩ ++ Z) = (olds ++ (news ++ Z.toList)).toArray := by
      apply Array.ext'
      simp
    rw [earr]
    rfl
  · rename_i hu'
    simp [Builtin.append_, T.t0, T.t1, run_underlying T.st, run_underlying hu', sizeOf, typeInfo, zeroValue, T.info, T.zero, hn, hroom, h63', h48', Question.forced, ho, hx, newRow, grownCap]
    generalize Builtin.zeroCells z.cells _ = Z
    have earr : (⟨olds⟩ : Array Value) ++ (⟨news⟩ ++ Z) = (olds ++ (news ++ Z.toList)).toArray := by
      apply Array.ext'
      simp
    rw [earr]
    rfl
  · cases hu
end
end Go.Proofs.YtdcbnkimjhefkaaGreatDoor

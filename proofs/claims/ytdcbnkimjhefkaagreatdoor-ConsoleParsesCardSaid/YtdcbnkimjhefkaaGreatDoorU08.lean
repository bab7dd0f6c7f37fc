/-
 Conversions.
 Append: a row that grows, in its place or elsewhere.
 One operation at a time, over what its operands are known to be.
 Straight code run by evaluation: the frame as a function, the memory that is known as a list of blocks.
-/
import Derived.Test.YtdcbnkimjhefkaaGreatDoorU07
import Derived.Laws.BytesString
import Derived.Laws.IdiomStrings
import Derived.Laws.AppendOwn
import Derived.Test.YtdcbnkimjhefkaaGreatDoorU05
import Derived.Deep.MidRow
import Derived.Laws.Cells
namespace Go.Proofs.YtdcbnkimjhefkaaGreatDoor
section
variable {P : Program} {env : Env} {H : AH} {β : Type} {o : Oper} {c : Value → AH → Option β} {r : β}
theorem bytesV_inv : ∀ {l : List Value} {r : List UInt8}, bytesV l = some r → ∃ ns : List Int, l = ns.map (Value.int .u8) ∧ r = ns.map fun n => UInt8.ofNat n.toNat
 | [], r, h => by simp [bytesV] at h; subst h; exact ⟨[], rfl, rfl⟩
 | v :: l, r, h => by
  unfold bytesV at h
  split at h
  ·rename_i hh; cases hh
  ·rename_i n l2 hh
   rw [List.cons.injEq] at hh
   obtain ⟨rfl, rfl⟩ := hh
   split at h
   ·rename_i r' hr
    obtain rfl := Option.some.inj h
    obtain ⟨ns, h1, h2⟩ := bytesV_inv hr
    exact ⟨n :: ns, by rw [h1]; rfl, by rw [h2]; rfl⟩
   ·cases h
  ·cases h
theorem push_fold : ∀ (ns : List Int) (s : ByteArray), ns.foldl (fun r n => r.push (UInt8.ofNat n.toNat)) s = ⟨⟨s.data.toList ++ ns.map fun n => UInt8.ofNat n.toNat⟩⟩
 | [], s => by simp
 | n :: ns, s => by
  rw [List.foldl_cons, push_fold ns]
  simp [ByteArray.push]
theorem atoms_u8 : ∀ (ns : List Int), atoms0 (ns.map (Value.int .u8)) = true
 | [] => rfl
 | n :: ns => by unfold atoms0; simp only [List.map_cons, atom0]; exact atoms_u8 ns
theorem good_convB {src dst e : TypeId} {x : Operand} (hop : o.op = .convert src dst x) (hs : P.underlying src = some (.slice e)) (hd : P.underlying dst = some .string) {v : Value} (hv : ev1 P env H x = some v) (h : convBK P e v H c = some r) : ResC P env H o c r .l := by
 unfold convBK at h
 split at h
 ·rename_i n m he
  refine ⟨_, h, .inl fun σ D w ρ hr => ⟨.string ⟨⟨[]⟩⟩, ?_, .string _⟩⟩
  have hx := hr x _ hv
  cases hρ : ρ x with
  | slice a n2 m2 =>
   rw [hρ] at hx
   cases hx
   simp only [execOp, hop, hρ]
   refine run_v ?_
   simp [convert, run_underlying hs, run_underlying hd, run_underlying he, Conv.bytesToString]
   rfl
  | _ => rw [hρ] at hx; cases hx
 ·rename_i b off n m he
  split at h
  ·rename_i i T cs hb
   obtain ⟨h1, h2⟩ := rowK_inv h
   split at h2
   ·rename_i l hl
    rw [bytesK_eq] at h2
    obtain ⟨ns, e1, e2⟩ := bytesV_inv hl
    refine ⟨_, h2, .inr ⟨b, i, T, cs, hb, fun σ D ρ hr => ?_⟩⟩
    obtain ⟨z, m', q1, q2, hx, _⟩ := (hr x _ hv).slice_inv
    refine ⟨by rw [q1]; simp, fun _ w C T fr q3 q4 => ⟨.string ⟨⟨l⟩⟩, ?_, .string _⟩⟩
    obtain ⟨row, g1, g2⟩ := Row.cells (P := P) q3 q4 h1
    rw [e1] at g2
    have := g2.atoms0 (atoms_u8 ns)
    subst this
    simp only [execOp, hop, hx]
    refine run_v ?_
    simp [convert, run_underlying hs, run_underlying hd, run_underlying he]
    rw [run_bytesToString w _ n m' ns g1, push_fold, e2]
    rfl
   ·cases h2
  ·cases h
 ·cases h
theorem good_convP {src dst : TypeId} {x : Operand} (hop : o.op = .convert src dst x) {v : Value} (hv : ev1 P env H x = some v) (hat : atomV v = true) (h : pureK P (convert src dst v) H c = some r) : ResC P env H o c r .p :=
 res_pure h fun σ D ρ hr => by simp only [execOp, hop, show ρ x = v from (hr x v hv).atomV hat]
theorem good_convS {src dst e : TypeId} {x : Operand} (hop : o.op = .convert src dst x) (hs : P.underlying src = some .string) (hd : P.underlying dst = some (.slice e)) {v : Value} (hv : ev1 P env H x = some v) (h : convSK P e v H c = some r) : ResC P env H o c r .a := by
 unfold convSK at h
 split at h
 ·rename_i s he
  rw [natK_eq, vals0K_eq] at h
  obtain ⟨H', h1, h2, h3⟩ := AH.newK_inv h
  refine ⟨_, H', _, _, _, h1, h2, h3, fun sz e' hie => ?_, fun σ D w ρ hr => ?_⟩
  ·simp only [Option.some.injEq, Prod.mk.injEq] at hie
   rw [← hie.2]
   simp
  ·have hx := (hr x _ hv).str_inv
   have hg := grownCap_ge w s.size 0 e
   have hl : (s.data.toList.map fun b => Value.int .u8 (b.toNat : Int)).length = s.size := by simp
   refine ⟨s.data.toList.map fun b => .int .u8 b.toNat, List.replicate (grownCap w s.size 0 e - s.size) (.int .u8 0), ((bytesRow s (grownCap w s.size 0 e)).size, (bytesRow s (grownCap w s.size 0 e)).size + 1), .slice (some ⟨w.heap.size, 0, none⟩) s.size (grownCap w s.size 0 e), w.drew.alloc (.cells (bytesRow s (grownCap w s.size 0 e)) e ((bytesRow s (grownCap w s.size 0 e)).size, (bytesRow s (grownCap w s.size 0 e)).size + 1)), nofun, ?_, ?_, ⟨?_, ?_, rfl, rfl, rfl⟩, fun σ' D' q1 q2 q3 q4 => ?_⟩
   ·have := VRs.of_atoms0 (σ := σ) (D := D) (atoms_u8 (s.data.toList.map fun b => (b.toNat : Int)))
    rw [List.map_map] at this
    exact this
   ·simp only [execOp, hop, hx]
    exact run_v2 (run_bytes_of_string w src dst e s hs hd he)
   ·show w.heap.push _ = _
    congr 2
    apply Array.ext'
    simp [bytesRow]
   ·intro j hj _
    simp only [List.length_append, hl, List.length_replicate]
    have : (bytesRow s (grownCap w s.size 0 e)).size = s.size + (grownCap w s.size 0 e - s.size) := by simp [bytesRow]
    omega
   ·have := VR.sliceo (σ := σ') (D := D') ⟨H.next, 0, none⟩ s.size s.size (grownCap w s.size 0 e) 1 s.size q1 rfl (by simp) (by simp only [q4, List.length_append, hl, List.length_replicate]; omega) hg
    unfold Ren.addr at this
    simp only [q2, q3, Nat.zero_add] at this
    exact this
 ·cases h
theorem good_conv {src dst : TypeId} {x : Operand} (hop : o.op = .convert src dst x) (h : cv1K P env H src dst x c = some r) : ResC P env H o c r (clsCv (P.underlying src) (P.underlying dst)) := by
 unfold cv1K at h
 split at h
 ·rename_i v hv
  unfold convK at h
  split at h
  ·rename_i e hs hd
   rw [hs]
   exact good_convB hop hs hd hv h
  ·rename_i e hs hd
   rw [hs, hd]
   exact good_convS hop hs hd hv h
  ·cases h
  ·cases h
  ·rename_i h1 h2 h3 h4
   split at h
   ·rename_i hat
    have := good_convP hop hv hat h
    unfold clsCv
    split
    ·rename_i e hs; exact (h1 _ hs).elim
    ·rename_i hs2 hd2; first | exact (h2 _ hd2).elim | exact (h2 _ hs2).elim
    ·exact this
   ·cases h
 ·cases h
/-! ### Append -/
theorem firstK_inv {sz n : Nat} {x : Value} {c : List Value → Option β} {r : β} (h : firstK sz n x H c = some r) (hn : lenK x = some n ∨ ∃ a m, x = .slice a n m) : ∃ row, c row = some r ∧ ∀ σ w x', Sim P σ H.get w → VR σ (Hp.dom H.get) x x' → ∃ row', (Builtin.firstCells sz n x').run P w = .ok ⟨row'⟩ w ∧ VRs σ (Hp.dom H.get) row row' := by
 unfold firstK at h
 split at h
 ·refine ⟨[], h, fun σ w x' hS hv => ⟨[], ?_, .nil⟩⟩
  cases hv
  rfl
 ·rename_i b off l m
  split at h
  ·rename_i i T cs hb
   obtain ⟨h1, h2⟩ := rowK_inv h
   refine ⟨_, h2, fun σ w x' hS hv => ?_⟩
   obtain ⟨z, m', q1, q2, rfl, _⟩ := hv.slice_inv
   obtain ⟨row, g1, g2⟩ := hS.cells hb h1
   exact ⟨row, by simp [Builtin.firstCells, g1], g2⟩
  ·cases h
 ·rename_i s
  rw [vals0K_eq] at h
  refine ⟨_, h, fun σ w x' hS hv => ⟨(s.data.toList.take n).map fun b => Value.int .u8 (b.toNat : Int), ?_, ?_⟩⟩
  ·rw [hv.str_inv]
   have hns : n = s.size := by
    rcases hn with hn | ⟨a, m, hn⟩
    ·simp [lenK] at hn; exact hn.symm
    ·cases hn
   subst hns
   have hx : s.extract 0 s.size = s := by simp
   have ht : s.data.toList.take s.size = s.data.toList := List.take_of_length_le (Nat.le_refl _)
   rw [ht]
   simp only [Builtin.firstCells, hx]
   show Result.ok _ w = _
   congr 1
   apply Array.ext'
   simp
  ·have := VRs.of_atoms0 (σ := σ) (D := Hp.dom H.get) (atoms_u8 ((s.data.toList.take n).map fun b => (b.toNat : Int)))
   rw [List.map_map] at this
   exact this
 ·cases h
structure AppT (P : Program) (ts : Array TypeId) (t u e : TypeId) (i : TypeInfo) (z : Value) : Prop where
 t0 : ts[0]? = some t
 t1 : ts[1]? = some u
 st : P.underlying t = some (.slice e)
 xt : plainArg (P.underlying u) = true
 info : P.info? e = some i
 zero : i.zero = some z
theorem run_app_room {ts : Array TypeId} {ty t u e : TypeId} {i : TypeInfo} {z : Value} (T : AppT P ts t u e i z) {w : World} {a : Addr} {sLen sCap n : Nat} {x : Value} (hn : (Builtin.lenOf x).run P w = .ok n w) {news : List Value} (hx : (Builtin.firstCells i.size n x).run P w = .ok ⟨news⟩ w) (hroom : sLen + n ≤ sCap) {w' : World} (hst : (storeCells (a.add (sLen * i.size)) news).run P w = .ok () w') :
  (Builtin.append_ ts ty #[.slice (some a) sLen sCap, x]).run P w = .ok (.slice (some a) (sLen + n) sCap) w' := by
 have hu := T.xt
 unfold plainArg at hu
 split at hu
 ·rename_i e' hu'
  simp [Builtin.append_, T.t0, T.t1, run_underlying T.st, run_underlying hu', sizeOf, typeInfo, T.info, hn, hroom, hx, hst]
 ·rename_i hu'
  simp [Builtin.append_, T.t0, T.t1, run_underlying T.st, run_underlying hu', sizeOf, typeInfo, T.info, hn, hroom, hx, hst]
 ·cases hu
theorem run_app_grow {ts : Array TypeId} {ty t u e : TypeId} {i : TypeInfo} {z : Value} (T : AppT P ts t u e i z) {w : World} {a : Option Addr} {sLen sCap n : Nat} {x : Value} (hn : (Builtin.lenOf x).run P w = .ok n w) {olds news : List Value} (ho : (Builtin.firstCells i.size sLen (.slice a sLen sCap)).run P w.drew = .ok ⟨olds⟩ w.drew) (hx : (Builtin.firstCells i.size n x).run P w.drew = .ok ⟨news⟩ w.drew)
  (hroom : ¬ sLen + n ≤ sCap) (h63 : sLen + n ≤ 16777216) (hb : i.bytes ≤ 1048576) :
  ∃ cap rest, sLen + n ≤ cap ∧ rest.length = (cap - (sLen + n)) * z.cells.size ∧ (Builtin.append_ ts ty #[.slice a sLen sCap, x]).run P w = .ok (.slice (some ⟨w.heap.size, 0, none⟩) (sLen + n) cap) { w with heap := w.heap.push (.cells (olds ++ news ++ rest).toArray e (0, 0)), drawn := w.drawn + 1 } := by
 have h63' : ¬ (9223372036854775807 < ((sLen : Int) + (n : Int))) := by omega
 have hbb : (sLen + n) * i.bytes ≤ 140737488355328 := Nat.le_trans (Nat.mul_le_mul h63 hb) (by decide)
 have h48 := growslice_fits (old := sCap) (need := sLen + n) (bytes := i.bytes) (by omega) hbb
 have h48' : ¬ (281474976710656 < Builtin.nextslicecap (sLen + n) sCap * i.bytes) := by omega
 refine ⟨grownCap w (sLen + n) sCap e, (Builtin.zeroCells z.cells (grownCap w (sLen + n) sCap e - (sLen + n))).toList, grownCap_ge w _ _ e, by rw [Array.length_toList, size_zeroCells], ?_⟩
 have hu := T.xt
 unfold plainArg at hu
 split at hu
 ·rename_i e' hu'
  simp [Builtin.append_, T.t0, T.t1, run_underlying T.st, run_underlying hu', sizeOf, typeInfo, zeroValue, T.info, T.zero, hn, hroom, h63', h48', Question.forced, ho, hx, newRow, grownCap]
  generalize Builtin.zeroCells z.cells _ = Z
  have earr : (⟨olds⟩ : Array Value) ++ (⟨news⟩ ++ Z) = (olds ++ (news ++ Z.toList)).toArray := by
   apply Array.ext'
   simp
  rw [earr]
  rfl
 ·rename_i hu'
  simp [Builtin.append_, T.t0, T.t1, run_underlying T.st, run_underlying hu', sizeOf, typeInfo, zeroValue, T.info, T.zero, hn, hroom, h63', h48', Question.forced, ho, hx, newRow, grownCap]
  generalize Builtin.zeroCells z.cells _ = Z
  have earr : (⟨olds⟩ : Array Value) ++ (⟨news⟩ ++ Z) = (olds ++ (news ++ Z.toList)).toArray := by
   apply Array.ext'
   simp
  rw [earr]
  rfl
 ·cases hu
end
end Go.Proofs.YtdcbnkimjhefkaaGreatDoor

namespace Go.Proofs.YtdcbnkimjhefkaaGreatDoor
section
variable {P : Program} {σ : Ren} {h : Hp} {w : World}
theorem Sim.kill (s : Sim P σ h w) {b : Nat} {i : Option (Nat × Nat)} (hro : ∀ e, i ≠ some (0, e)) {t : TypeId} {cs : List Value} (hb : h b = some ⟨i, .cells t cs⟩) : Sim P σ (h.set b ⟨i, .dead⟩) w ∧ Fwd σ h w σ (h.set b ⟨i, .dead⟩) w := by
 obtain ⟨C, T, fr, h1, h2⟩ := s.row b i t cs hb
 exact s.turn hro hb nofun h1 (fun _ _ => rfl) rfl rfl rfl rfl fun hn => (hn rfl).elim
theorem Sim.regrow (s : Sim P σ h w) {b id off l n sz : Nat} {e0 : Nat} {t T : TypeId} {cs old new new' : List Value} (hsz : sz ≠ 0) (hb : h b = some ⟨some (sz, e0), .cells t cs⟩) (hid : h id = none) (hg : P.globals.size ≤ id)
  (hoff : off = 0) (htT : t = T) (hold : old = (cs.drop off).take (l * sz)) (hol : l * sz = 0 ∨ off + l * sz ≤ cs.length) (hlen : (old ++ new).length = (l + n) * sz) (hv : VRs σ h.dom new new') (hnew : ones new = true) (hfit : off + (l + n) * sz ≤ σ.cap b) :
  ∃ w' σ', (storeCells ⟨σ.blk b, σ.sh b + (off + l * sz), none⟩ new').run P w = .ok () w' ∧ Sim P σ' ((h.set b ⟨some (sz, e0), .dead⟩).set id ⟨some (sz, (l + n) * sz), .cells T (old ++ new)⟩) w' ∧
   Fwd σ h w σ' ((h.set b ⟨some (sz, e0), .dead⟩).set id ⟨some (sz, (l + n) * sz), .cells T (old ++ new)⟩) w' ∧ σ'.blk id = σ.blk b ∧ σ'.sh id = σ.sh b + off ∧ σ'.cap id = σ.cap b - off := by
 obtain ⟨C, T0, fr, h1, h2⟩ := s.row b _ t cs hb
 obtain ⟨q1, q2, q3⟩ := h2.opn sz e0 rfl
 have hro : ∀ e, some (sz, e0) ≠ some (0, e) := fun e he => hsz (by simp only [Option.some.injEq, Prod.mk.injEq] at he; exact he.1)
 have hnl := hv.length
 have hold' : old.length = l * sz := by
  rw [hold]
  rcases hol with e | e
  ·rw [e]; simp
  ·simp; omega
 have hnewl : new.length = (l + n) * sz - l * sz := by rw [List.length_append] at hlen; omega
 have hroom : σ.sh b + (off + l * sz) + new'.length ≤ C.size := by rw [hnl]; omega
 obtain ⟨C', g1, g2, g3⟩ := setCells_heap (σ.blk b) T0 fr new' (σ.sh b + (off + l * sz)) w C h1 hroom
 obtain ⟨z1, z2, z3, z4⟩ := setCells_size (σ.blk b) new' (σ.sh b + (off + l * sz)) w
 have hrun : (storeCells ⟨σ.blk b, σ.sh b + (off + l * sz), none⟩ new').run P w = .ok () (w.setCells (σ.blk b) (σ.sh b + (off + l * sz)) new') := by
  have := run_storeCells_cells (P := P) (σ.blk b) (σ.sh b + (off + l * sz)) new' 0 w (fun j hj => by
    simp only [World.cell?, h1]
    simp
    omega) (fun j hj => by
    unfold World.frozen?
    simp only [h1]
    cases hh : (decide (fr.1 ≤ σ.sh b + (off + l * sz) + 0 + j) && decide (σ.sh b + (off + l * sz) + 0 + j < fr.2)) with
    | false => rfl
    | true =>
     simp at hh
     have := h2.free hro _ hh.1 hh.2
     omega) (ones_vr hv hnew)
  simpa using this
 have hbid : b ≠ id := fun e => by subst e; rw [hb] at hid; cases hid
 let σ' : Ren := ⟨fun c => if c = id then σ.blk b else σ.blk c, fun c => if c = id then σ.sh b + off else σ.sh c, fun c => if c = id then σ.cap b - off else σ.cap c⟩
 have hdk : (h.set b ⟨some (sz, e0), .dead⟩).dom = h.dom := Hp.dom_set hb rfl
 have hle : Ren.le σ h.dom σ' ((h.set b ⟨some (sz, e0), .dead⟩).set id ⟨some (sz, (l + n) * sz), .cells T (old ++ new)⟩).dom := by
  refine ⟨fun c x hc => ?_, fun c x hc => ?_⟩
  ·have hne : c ≠ id := fun e => by subst e; simp [Hp.dom, hid] at hc
   rw [← hdk] at hc
   unfold Hp.dom at hc ⊢
   rw [Hp.set_other hne]; exact hc
  ·have hne : c ≠ id := fun e => by subst e; simp [Hp.dom, hid] at hc
   simp [σ', hne]
 have hlive : ∀ c, ((h.set b ⟨some (sz, e0), .dead⟩).set id ⟨some (sz, (l + n) * sz), .cells T (old ++ new)⟩).live c → c ≠ id → c ≠ b ∧ h.live c := fun c hc hne => by
  obtain ⟨i', x', e3, hd3⟩ := hc
  rw [Hp.set_other hne] at e3
  by_cases e : c = b
  ·subst e
   rw [Hp.set_same] at e3
   simp only [Option.some.injEq, Blk.mk.injEq] at e3
   exact (hd3 e3.2.symm).elim
  ·rw [Hp.set_other e] at e3; exact ⟨e, i', x', e3, hd3⟩
 refine ⟨_, σ', hrun, ⟨?_, ?_, ?_⟩, ⟨hle, ?_, ?_, ?_, by rw [z1]; exact Nat.le_refl _, z2, z3, z4, fun c e t2 cs3 hc => ?_⟩, by simp [σ'], by simp [σ'], by simp [σ']⟩
 ·intro c i' x' hc hd3
  by_cases e : c = id
  ·subst e
   rw [Hp.set_same] at hc
   simp only [Option.some.injEq, Blk.mk.injEq] at hc
   obtain ⟨rfl, rfl⟩ := hc
   refine ⟨.cells C' T0 fr, by simp [σ']; exact g1, C', T0, fr, rfl, ⟨fun _ => by rw [g2]; exact h2.free hro, ?_, ?_, ?_, fun _ => (h2.elem hro).trans htT, by simp [σ', hoff, h2.sh0], nofun⟩⟩
   ·simp only [σ', if_true]
    rw [g2, hlen]
    omega
   ·intro j v hj
    simp only [σ', if_true]
    rw [g3]
    rw [List.getElem?_append] at hj
    split at hj
    ·rename_i hjo
     rw [if_neg (by omega)]
     have hj2 : cs[off + j]? = some v := by
      rw [hold, List.getElem?_take] at hj
      split at hj
      ·rw [List.getElem?_drop] at hj; exact hj
      ·cases hj
     obtain ⟨v', r1, r2⟩ := h2.cell (off + j) v hj2
     exact ⟨v', by rw [show σ.sh b + off + j = σ.sh b + (off + j) by omega]; exact r1, r2.mono hle⟩
    ·rename_i hjo
     obtain ⟨v', r1, r2⟩ := hv.get hj
     have hjl := (List.getElem?_eq_some_iff.1 hj).1
     rw [if_pos (by omega)]
     exact ⟨v', by rw [show σ.sh b + off + j - (σ.sh b + (off + l * sz)) = j - old.length by omega]; exact r1, r2.mono hle⟩
   ·intro sz' e' hie
    simp only [Option.some.injEq, Prod.mk.injEq] at hie
    obtain ⟨rfl, rfl⟩ := hie
    simp only [σ', if_true]
    rw [g2]
    exact ⟨hlen, by omega, by omega⟩
  ·have hcl := hlive c ⟨i', x', hc, hd3⟩ e
   rw [Hp.set_other e, Hp.set_other hcl.1] at hc
   obtain ⟨X2, h3, h4⟩ := s.body c i' x' hc hd3
   refine ⟨X2, ?_, h4.mono hle (Hp.dom_some hc)⟩
   simp only [σ', e, if_false]
   rw [setCells_other _ _ _ _ _ (s.apart c b hcl.2 (.row hb) hcl.1)]
   exact h3
 ·intro c c' hc hc' hne
  by_cases e : c = id
  ·subst e
   have e' : c' ≠ c := fun e' => hne e'.symm
   have hcl := hlive c' hc' e'
   simp only [σ', if_true, e', if_false]
   exact s.apart b c' (.row hb) hcl.2 (fun e2 => hcl.1 e2.symm)
  ·have hcl := hlive c hc e
   by_cases e' : c' = id
   ·subst e'
    simp only [σ', if_true, e, if_false]
    exact s.apart c b hcl.2 (.row hb) hcl.1
   ·have hcl' := hlive c' hc' e'
    simp only [σ', e, e', if_false]
    exact s.apart c c' hcl.2 hcl'.2 hne
 ·intro g hg' hn
  have e : g ≠ id := by omega
  rw [Hp.set_other e] at hn
  have := s.glob g hg' fun e1 => hn (by
   by_cases e2 : g = b
   ·subst e2; rw [hb] at e1; cases e1
   ·rw [Hp.set_other e2]; exact e1)
  simpa [σ', e] using this
 ·intro k _ hk
  exact setCells_other _ _ _ _ _ (fun e => hk b (.row hb) e.symm)
 ·intro c hc hl
  by_cases e : c = id
  ·subst e
   refine .inr ⟨b, (.row hb), fun hlb => (hlive b hlb hbid).1 rfl, by simp [σ']⟩
  ·exact ((hlive c hl e).2.not_none hc).elim
 ·intro c hl hn
  by_cases e : c = id
  ·subst e; exact (hn hid).elim
  ·exact (hlive c hl e).2
 ·have hne : c ≠ b := fun e2 => by
   subst e2
   rw [hb] at hc
   simp only [Option.some.injEq, Blk.mk.injEq, Prod.mk.injEq] at hc
   exact hsz hc.1.1
  have hne2 : c ≠ id := fun e2 => by subst e2; rw [hid] at hc; cases hc
  exact ⟨by rw [Hp.set_other hne2, Hp.set_other hne]; exact hc, setCells_other _ _ _ _ _ (s.apart c b (.row hc) (.row hb) hne)⟩
end
end Go.Proofs.YtdcbnkimjhefkaaGreatDoor

namespace Go.Proofs.YtdcbnkimjhefkaaGreatDoor

def ovr (l : List (Tmp × Value)) (ρ : Operand → Value) : Operand → Value
 | .tmp t => match l.find? (fun p => p.1 == t) with
  | some p => p.2
  | none => ρ (.tmp t)
 | x => ρ x
def Knows (ρ : Operand → Value) : List (Tmp × Value) → Prop
 | [] => True
 | p :: l => ρ (.tmp p.1) = p.2 ∧ Knows ρ l
theorem Knows.mem {ρ : Operand → Value} : ∀ {l : List (Tmp × Value)}, Knows ρ l → ∀ p ∈ l, ρ (.tmp p.1) = p.2
 | [], _, p, hp => by cases hp
 | q :: l, h, p, hp => by
  rcases List.mem_cons.1 hp with rfl | hp2
  ·exact h.1
  ·exact Knows.mem h.2 p hp2
theorem ovr_eq {ρ : Operand → Value} {l : List (Tmp × Value)} (h : Knows ρ l) : ovr l ρ = ρ := by
 funext x
 cases x with
 | tmp t =>
  unfold ovr
  cases hf : l.find? (fun p => p.1 == t) with
  | none => simp only [hf]
  | some p =>
   have hm := List.mem_of_find?_eq_some hf
   have ht : p.1 = t := by simpa using List.find?_some hf
   have := h.mem p hm
   rw [ht] at this
   simp only [hf]
   exact this.symm
 | const v => rfl
 | global g => rfl
 | func f => rfl
theorem OpOk.over {P : Program} {o : Oper} {ρ : Operand → Value} {w : World} {K : Value → World → Prop} (l : List (Tmp × Value)) (h : Knows ρ l) (hk : OpOk P o (ovr l ρ) w K) : OpOk P o ρ w K := by
 rw [ovr_eq h] at hk; exact hk
def KV (vals : Nat → Value) : List (Tmp × Nat × Value) → Prop
 | [] => True
 | p :: l => vals p.2.1 = p.2.2 ∧ KV vals l
def KA (a0 : Act) : List (Tmp × Value) → Prop
 | [] => True
 | p :: l => a0.eval (.tmp p.1) = p.2 ∧ KA a0 l
theorem knows_vals {a0 : Act} {W : Wr} {vals : Nat → Value} : ∀ {l : List (Tmp × Nat × Value)}, (∀ p ∈ l, W.of p.1 = some p.2.1) → KV vals l → ∀ {r : List (Tmp × Value)}, Knows (evalV a0 W vals) r → Knows (evalV a0 W vals) (l.map (fun p => (p.1, p.2.2)) ++ r)
 | [], _, _, _, h => h
 | p :: l, hw, hv, r, h => by
  refine ⟨?_, knows_vals (fun q hq => hw q (by simp [hq])) hv.2 h⟩
  have := hw p (by simp)
  unfold evalV
  simp only [this]
  exact hv.1
theorem knows_act {a0 : Act} {W : Wr} {vals : Nat → Value} : ∀ {l : List (Tmp × Value)}, (∀ p ∈ l, W.of p.1 = none) → KA a0 l → Knows (evalV a0 W vals) l
 | [], _, _ => trivial
 | p :: l, hw, hv => by
  refine ⟨?_, knows_act (fun q hq => hw q (by simp [hq])) hv.2⟩
  have := hw p (by simp)
  unfold evalV
  simp only [this]
  exact hv.1
theorem OpOk.known {P : Program} {o : Oper} {a0 : Act} {W : Wr} {vals : Nat → Value} {w : World} {K : Value → World → Prop} (l : List (Tmp × Nat × Value)) (r : List (Tmp × Value))
  (hc : (l.all (fun p => W.of p.1 == some p.2.1) && r.all (fun p => W.of p.1 == none)) = true) (hv : KV vals l) (ha : KA a0 r)
  (hk : OpOk P o (ovr (l.map (fun p => (p.1, p.2.2)) ++ r) (evalV a0 W vals)) w K) : OpOk P o (evalV a0 W vals) w K := by
 simp only [Bool.and_eq_true, List.all_eq_true, beq_iff_eq] at hc
 exact OpOk.over _ (knows_vals hc.1 hv (knows_act hc.2 ha)) hk
theorem rangeAt_of_heap {w : World} {g : Nat} {C : Array Value} {T : TypeId} {fr : Nat × Nat} (h : w.heap[g]? = some (.cells C T fr)) (off : Nat) (cs : List Value) (hc : ∀ j v, cs[j]? = some v → C[off + j]? = some v) : w.rangeAt g off cs := by
 intro j v hv
 unfold World.cell?
 rw [h]
 exact hc j v hv
def pureL (i : Nat) (B : List Nat) (v : Value) : Loc := ⟨i, B, [i], fun vs _ => vs = [v]⟩
theorem rangeAt_lit {w : World} {g : Nat} {l : List Value} {T : TypeId} {fr : Nat × Nat} (h : w.heap[g]? = some (.cells l.toArray T fr)) (off : Nat) (cs : List Value) (hc : (l.drop off).take cs.length = cs) : w.rangeAt g off cs := by
 refine rangeAt_of_heap h off cs fun j v hv => ?_
 rw [List.getElem?_toArray]
 rw [← hc] at hv
 rw [List.getElem?_take] at hv
 split at hv
 ·rw [List.getElem?_drop] at hv; exact hv
 ·cases hv
end Go.Proofs.YtdcbnkimjhefkaaGreatDoor

namespace Go.Proofs.YtdcbnkimjhefkaaGreatDoor

/-! ### Frames -/
def Fr (n : Nat) (E : Nat → Value) : Act := ⟨((List.range n).map E).toArray, []⟩
def upd (E : Nat → Value) (d : Nat) (v : Value) : Nat → Value := fun t => if t = d then v else E t
def updO (E : Nat → Value) : Option Tmp → Value → Nat → Value
 | some d, v => upd E d v
 | none, _ => E
theorem range_get (n t : Nat) : (List.range n)[t]? = if t < n then some t else none := by
 by_cases h : t < n
 ·rw [if_pos h, List.getElem?_range h]
 ·rw [if_neg h, List.getElem?_eq_none (by simpa using h)]
theorem Fr_get (n : Nat) (E : Nat → Value) (t : Nat) : (Fr n E).tmps[t]? = if t < n then some (E t) else none := by
 unfold Fr
 rw [List.getElem?_toArray, List.getElem?_map, range_get]
 split <;> rfl
theorem Fr_size (n : Nat) (E : Nat → Value) : (Fr n E).tmps.size = n := by simp [Fr]
theorem act_ext {a a' : Act} (h : ∀ t : Nat, a.tmps[t]? = a'.tmps[t]?) (hd : a.defers = a'.defers) : a = a' := by
 cases a; cases a'
 simp only at hd
 subst hd
 congr
 exact Array.ext_getElem? h
theorem Fr_put (n : Nat) (E : Nat → Value) (d : Option Tmp) (v : Value) : (Fr n E).put d v = Fr n (updO E d v) := by
 refine act_ext (fun t => ?_) (by rw [put_def]; rfl)
 rw [put_get, Fr_get, Fr_size, Fr_get]
 cases d with
 | none => simp [updO]
 | some d =>
  by_cases h : d = t
  ·subst h
   by_cases hl : d < n <;> simp [updO, upd, hl]
  ·have : ¬ t = d := fun e => h e.symm
   simp [updO, upd, h, this]
def evE (n : Nat) (E : Nat → Value) : Operand → Value
 | .tmp t => match decide (t < n) with
  | true => E t
  | false => undef
 | .const v => v
 | .global g => .pointer (some ⟨g, 0, none⟩)
 | .func f => .func (.func f) #[] #[]
theorem eval_Fr (n : Nat) (E : Nat → Value) : (Fr n E).eval = evE n E := by
 funext x
 cases x with
 | tmp t =>
  show (Fr n E).tmps.getD t undef = _
  rw [Array.getD_eq_getD_getElem?, Fr_get]
  unfold evE
  by_cases h : t < n <;> simp [h]
 | const v => rfl
 | global g => rfl
 | func f => rfl
def yieldE (n : Nat) (ops : Array Oper) (E : Nat → Value) (j : Nat) : Option Bool :=
 match (ops[j]?).bind (·.dst) with
 | some t => match evE n E (.tmp t) with
  | .bool b => some b
  | _ => none
 | none => none
theorem yielded_Fr (n : Nat) (ops : Array Oper) (E : Nat → Value) : yielded ops (Fr n E).tmps = yieldE n ops E := by
 funext j
 unfold yielded yieldE
 cases (ops[j]?).bind (·.dst) with
 | none => rfl
 | some t =>
  simp only [Option.bind_some, Fr_get]
  unfold evE
  by_cases h : t < n
  ·simp only [h, if_true, decide_true]
   cases E t <;> rfl
  ·simp [h, undef]

/-! ### Memory -/
structure Ent where
 id : Nat
 off : Nat
 cells : List Value
 ty : TypeId
 own : Bool
structure MS where
 sz : Nat
 mem : List Ent
 hint : Nat × Nat
 eqs : List (Nat × Nat)
def one : Value → Bool
 | .agg _ | .tuple _ => false
 | _ => true
def mrun {α : Type} (P : Program) : Sem α → MS → Option (α × MS)
 | .pure a, s => some (a, s)
 | .load _ a k, s => match s.mem[s.hint.1]? with
  | some e => match e.cells[s.hint.2]?, a.spot with
   | some v, none => mrun P (k v) { s with hint := (s.hint.1, s.hint.2 + 1), eqs := (a.block, e.id) :: (a.off, e.off + s.hint.2) :: s.eqs }
   | _, _ => none
  | none => none
 | .store _ a v k, s => match one v with
  | false => none
  | true => match s.mem[s.hint.1]? with
   | some e => match e.own, a.spot, decide (s.hint.2 < e.cells.length) with
    | true, none, true => mrun P k { s with mem := s.mem.set s.hint.1 { e with cells := e.cells.set s.hint.2 v }, hint := (s.hint.1, s.hint.2 + 1), eqs := (a.block, e.id) :: (a.off, e.off + s.hint.2) :: s.eqs }
    | _, _, _ => none
   | none => none
 | .new o k, s => match o with
  | .cells c t (0, 0) => mrun P (k s.sz) { s with sz := s.sz + 1, mem := s.mem ++ [⟨s.sz, 0, c.toList, t, true⟩] }
  | _ => none
 | .program k, s => mrun P (k P) s
 | .mark _ k, s => mrun P k s
 | _, _ => none

def Ent.good (w : World) (e : Ent) : Prop :=
 e.id < w.heap.size ∧ (if e.own then w.heap[e.id]? = some (.cells e.cells.toArray e.ty (0, 0)) ∧ e.off = 0 else w.rangeAt e.id e.off e.cells)
structure Sat (w : World) (sz : Nat) (mem : List Ent) : Prop where
 size : w.heap.size = sz
 good : ∀ e ∈ mem, e.good w
 apart : ∀ (i j : Nat) (e e' : Ent), mem[i]? = some e → mem[j]? = some e' → e.own = true → i ≠ j → e.id ≠ e'.id
structure Kept (O : List Nat) (B : Nat) (w w' : World) : Prop where
 os : w'.os = w.os
 tape : w'.tape = w.tape
 output : w'.output = w.output
 size : w.heap.size ≤ w'.heap.size
 block : ∀ k, k < B → k ∉ O → w'.heap[k]? = w.heap[k]?
theorem Kept.refl (O : List Nat) (B : Nat) (w : World) : Kept O B w w := ⟨rfl, rfl, rfl, Nat.le_refl _, fun _ _ _ => rfl⟩
theorem Kept.trans {O : List Nat} {B : Nat} {u v w : World} (h : Kept O B u v) (k : Kept O B v w) : Kept O B u w :=
 ⟨k.os.trans h.os, k.tape.trans h.tape, k.output.trans h.output, Nat.le_trans h.size k.size, fun i hi ho => (k.block i hi ho).trans (h.block i hi ho)⟩

theorem heap_setCell_other' (w : World) (a : Addr) (u : Value) (k : Nat) (h : k ≠ a.block) : (w.setCell a u).heap[k]? = w.heap[k]? := heap_setCell_other w a k u h
theorem heap_alloc_old (w : World) (o : Obj) (k : Nat) (h : k < w.heap.size) : (w.alloc o).heap[k]? = w.heap[k]? := Array.getElem?_push_lt h |>.trans (Array.getElem?_eq_getElem h).symm
theorem cell_of_good {w : World} {e : Ent} {a : Addr} {j : Nat} {v : Value} (h : e.good w) (hv : e.cells[j]? = some v) (h1 : a.block = e.id) (h2 : a.off = e.off + j) (h3 : a.spot = none) : w.cell? a = some v := by
 obtain ⟨blk, off, spot⟩ := a
 simp only at h1 h2 h3
 subst h1 h2 h3
 obtain ⟨_, hg⟩ := h
 split at hg
 ·obtain ⟨hb, h0⟩ := hg
  unfold World.cell?
  simp only [hb, h0]
  simpa using hv
 ·exact hg j v hv
theorem frozen_of_good {w : World} {e : Ent} {a : Addr} (h : e.good w) (ho : e.own = true) (h1 : a.block = e.id) : w.frozen? a = false := by
 obtain ⟨_, hg⟩ := h
 rw [if_pos ho] at hg
 unfold World.frozen?
 rw [h1, hg.1]
 simp
theorem heap_set_same {w : World} {a : Addr} {v : Value} {C : List Value} {T : TypeId} (h : w.heap[a.block]? = some (.cells C.toArray T (0, 0))) (hs : a.spot = none) : (w.setCell a v).heap[a.block]? = some (.cells (C.set a.off v).toArray T (0, 0)) := by
 unfold World.setCell
 simp [Array.getElem?_modify, h, hs]
theorem good_set {w : World} {e : Ent} {a : Addr} {v : Value} (h : e.good w) (hne : e.id ≠ a.block) : e.good (w.setCell a v) := by
 have hb : (w.setCell a v).heap[e.id]? = w.heap[e.id]? := heap_setCell_other' _ _ _ _ hne
 obtain ⟨h0, hg⟩ := h
 refine ⟨by simpa [World.setCell] using h0, ?_⟩
 split at hg
 ·rename_i ho; rw [if_pos ho, hb]; exact hg
 ·rename_i ho
  rw [if_neg ho]
  intro j x hx
  rw [World.cell?_of_block (w := w) hb]
  exact hg j x hx
theorem good_alloc {w : World} {e : Ent} (h : e.good w) (o : Obj) : e.good (w.alloc o) := by
 have hb : (w.alloc o).heap[e.id]? = w.heap[e.id]? := heap_alloc_old _ _ _ h.1
 obtain ⟨h0, hg⟩ := h
 refine ⟨by simp; omega, ?_⟩
 split at hg
 ·rename_i ho; rw [if_pos ho, hb]; exact hg
 ·rename_i ho
  rw [if_neg ho]
  intro j x hx
  rw [World.cell?_of_block (w := w) hb]
  exact hg j x hx

theorem good_new (w : World) (c : List Value) (t : TypeId) : (⟨w.heap.size, 0, c, t, true⟩ : Ent).good (w.alloc (.cells c.toArray t (0, 0))) := by
 refine ⟨by simp, ?_⟩
 rw [if_pos rfl]
 exact ⟨heap_alloc_new _ _, rfl⟩
theorem mrun_eqs {α : Type} {P : Program} : ∀ (s : Sem α) (m m' : MS) (a : α), mrun P s m = some (a, m') → ∀ p ∈ m.eqs, p ∈ m'.eqs := by
 intro s
 induction s with
 | pure a => intro m m' x h p hp; simp only [mrun, Option.some.injEq, Prod.mk.injEq] at h; rw [← h.2]; exact hp
 | load md a k ih =>
  intro m m' x h p hp
  unfold mrun at h
  split at h
  ·split at h
   ·exact ih _ _ _ _ h p (by simp [hp])
   ·cases h
  ·cases h
 | store md a v k ih =>
  intro m m' x h p hp
  unfold mrun at h
  split at h
  ·cases h
  ·split at h
   ·split at h
    ·exact ih _ _ _ h p (by simp [hp])
    ·cases h
   ·cases h
 | new o k ih =>
  intro m m' x h p hp
  unfold mrun at h
  split at h
  ·exact ih _ _ _ _ h p hp
  ·cases h
 | program k ih => intro m m' x h p hp; unfold mrun at h; exact ih _ _ _ _ h p hp
 | mark mk k ih => intro m m' x h p hp; unfold mrun at h; exact ih _ _ _ h p hp
 | shape r k ih => intro m m' x h; unfold mrun at h; cases h
 | freeze a n k ih => intro m m' x h; unfold mrun at h; cases h
 | frozen a k ih => intro m m' x h; unfold mrun at h; cases h
 | getObj r k ih => intro m m' x h; unfold mrun at h; cases h
 | setObj r o k ih => intro m m' x h; unfold mrun at h; cases h
 | choose q k ih => intro m m' x h; unfold mrun at h; cases h
 | sys c k ih => intro m m' x h; unfold mrun at h; cases h
 | halt hh => intro m m' x h; unfold mrun at h; cases h

theorem Sat.set {w : World} {sz : Nat} {mem : List Ent} (h : Sat w sz mem) {i j : Nat} {e : Ent} (hi : mem[i]? = some e) (ho : e.own = true) {a : Addr} {v : Value} (h1 : a.block = e.id) (h2 : a.off = e.off + j) (h3 : a.spot = none) :
  Sat (w.setCell a v) sz (mem.set i { e with cells := e.cells.set j v }) := by
 have hil : i < mem.length := (List.getElem?_eq_some_iff.1 hi).1
 have hg := h.good e (List.mem_of_getElem? hi)
 have hg2 := hg.2
 rw [if_pos ho] at hg2
 refine ⟨by simpa [World.setCell] using h.size, ?_, ?_⟩
 ·intro e' he'
  obtain ⟨k, hk⟩ := List.mem_iff_getElem?.1 he'
  rw [List.getElem?_set] at hk
  by_cases hik : i = k
  ·subst hik
   rw [if_pos rfl, if_pos hil] at hk
   ·obtain rfl := Option.some.inj hk
    refine ⟨by simpa [World.setCell] using hg.1, ?_⟩
    rw [if_pos (show ({ e with cells := e.cells.set j v } : Ent).own = true from ho)]
    refine ⟨?_, hg2.2⟩
    have := heap_set_same (v := v) (a := a) (by rw [h1]; exact hg2.1) h3
    rw [h1] at this
    rw [h2, hg2.2, Nat.zero_add] at this
    exact this
  ·have hne := hik
   rw [if_neg hik] at hk
   refine good_set (h.good e' (List.mem_of_getElem? hk)) ?_
   rw [h1]
   exact fun e0 => h.apart i k e e' hi hk ho hne e0.symm
 ·intro p q x y hp hq hx hne
  have hid : ∀ (k : Nat) (z : Ent), (mem.set i { e with cells := e.cells.set j v })[k]? = some z → ∃ z', mem[k]? = some z' ∧ z'.id = z.id ∧ z'.own = z.own := by
   intro k z hz
   rw [List.getElem?_set] at hz
   by_cases hik : i = k
   ·subst hik
    rw [if_pos rfl, if_pos hil] at hz
    obtain rfl := Option.some.inj hz
    exact ⟨e, hi, rfl, rfl⟩
   ·rw [if_neg hik] at hz
    exact ⟨z, hz, rfl, rfl⟩
  obtain ⟨x', hx', ex, eo⟩ := hid p x hp
  obtain ⟨y', hy', ey, _⟩ := hid q y hq
  rw [← ex, ← ey]
  exact h.apart p q x' y' hx' hy' (eo.trans hx) hne
theorem Sat.new {w : World} {sz : Nat} {mem : List Ent} (h : Sat w sz mem) (c : List Value) (t : TypeId) : Sat (w.alloc (.cells c.toArray t (0, 0))) (sz + 1) (mem ++ [⟨sz, 0, c, t, true⟩]) := by
 have hz := h.size
 subst hz
 refine ⟨by simp, ?_, ?_⟩
 ·intro e he
  rw [List.mem_append, List.mem_singleton] at he
  rcases he with he | rfl
  ·exact good_alloc (h.good e he) _
  ·exact good_new w c t
 ·intro i j e e' hi hj ho hne
  have key : ∀ (k : Nat) (z : Ent), (mem ++ [(⟨w.heap.size, 0, c, t, true⟩ : Ent)])[k]? = some z → (mem[k]? = some z ∧ z.id < w.heap.size) ∨ (k = mem.length ∧ z.id = w.heap.size) := by
   intro k z hz
   rw [List.getElem?_append] at hz
   split at hz
   ·exact .inl ⟨hz, (h.good z (List.mem_of_getElem? hz)).1⟩
   ·rename_i hk
    cases hkk : k - mem.length with
    | zero =>
     rw [hkk] at hz
     simp at hz
     subst hz
     exact .inr ⟨by omega, rfl⟩
    | succ n => rw [hkk] at hz; simp at hz
  rcases key i e hi with ⟨a1, a2⟩ | ⟨a1, a2⟩ <;> rcases key j e' hj with ⟨b1, b2⟩ | ⟨b1, b2⟩
  ·exact h.apart i j e e' a1 b1 ho hne
  ·omega
  ·omega
  ·omega

theorem run_store {α : Type} {P : Program} {md : Mode} {a : Addr} {v u : Value} {k : Sem α} {w : World} (hv : one v = true) (hc : w.cell? a = some u) (hf : w.frozen? a = false) : (Sem.store md a v k).run P w = k.run P (w.setCell a v) := by
 cases v <;> first | (cases hv; done) | simp [Sem.run, hc, hf]
theorem mrun_sound {α : Type} {P : Program} {O : List Nat} {B : Nat} : ∀ (s : Sem α) (m m' : MS) (a : α) (w : World), mrun P s m = some (a, m') → Sat w m.sz m.mem → B ≤ w.heap.size → (∀ e ∈ m.mem, e.own = true → e.id ∈ O ∨ B ≤ e.id) → (∀ p ∈ m'.eqs, p.1 = p.2) →
  ∃ w', s.run P w = .ok a w' ∧ Sat w' m'.sz m'.mem ∧ Kept O B w w' ∧ (∀ e ∈ m'.mem, e.own = true → e.id ∈ O ∨ B ≤ e.id) := by
 intro s
 induction s with
 | pure a =>
  intro m m' x w h hS hB hO he
  simp only [mrun, Option.some.injEq, Prod.mk.injEq] at h
  obtain ⟨rfl, rfl⟩ := h
  exact ⟨w, rfl, hS, .refl _ _ _, hO⟩
 | load md a k ih =>
  intro m m' x w h hS hB hO he
  unfold mrun at h
  split at h
  ·rename_i e hm
   split at h
   ·rename_i v hv hsp
    have hq := mrun_eqs _ _ _ _ h
    have e1 := he _ (hq (a.block, e.id) (by simp))
    have e2 := he _ (hq (a.off, e.off + m.hint.2) (by simp))
    obtain ⟨w', h1, h2, h3, h4⟩ := ih v _ _ _ w h hS hB hO he
    refine ⟨w', ?_, h2, h3, h4⟩
    unfold Sem.run
    rw [cell_of_good (hS.good e (List.mem_of_getElem? hm)) hv e1 e2 hsp]
    exact h1
   ·cases h
  ·cases h
 | store md a v k ih =>
  intro m m' x w h hS hB hO he
  unfold mrun at h
  split at h
  ·cases h
  ·rename_i hone
   split at h
   ·rename_i e hm
    split at h
    ·rename_i ho hsp hlt
     have hq := mrun_eqs _ _ _ _ h
     have e1 := he _ (hq (a.block, e.id) (by simp))
     have e2 := he _ (hq (a.off, e.off + m.hint.2) (by simp))
     simp only at e1 e2
     have hl : m.hint.2 < e.cells.length := by simpa using hlt
     have hS' := hS.set hm ho (v := v) e1 e2 hsp
     have hg := hS.good e (List.mem_of_getElem? hm)
     have hc := cell_of_good hg (List.getElem?_eq_getElem hl) e1 e2 hsp
     have hf := frozen_of_good hg ho e1
     have hsz : (w.setCell a v).heap.size = w.heap.size := by simp [World.setCell]
     obtain ⟨w', h1, h2, h3, h4⟩ := ih _ _ _ (w.setCell a v) h hS' (by rw [hsz]; exact hB) (fun z hz hzo => by
      obtain ⟨k, hk⟩ := List.mem_iff_getElem?.1 hz
      rw [List.getElem?_set] at hk
      by_cases hik : m.hint.1 = k
      ·rw [if_pos hik, if_pos (List.getElem?_eq_some_iff.1 hm).1] at hk
       obtain rfl := Option.some.inj hk
       exact hO e (List.mem_of_getElem? hm) ho
      ·rw [if_neg hik] at hk
       exact hO z (List.mem_of_getElem? hk) hzo) he
     refine ⟨w', ?_, h2, Kept.trans (v := w.setCell a v) ⟨rfl, rfl, rfl, Nat.le_of_eq hsz.symm, fun i hi hno => ?_⟩ h3, h4⟩
     ·rw [run_store hone hc hf]; exact h1
     ·refine heap_setCell_other' _ _ _ _ (fun hik => ?_)
      rw [e1] at hik
      rcases hO e (List.mem_of_getElem? hm) ho with h5 | h5
      ·exact hno (hik ▸ h5)
      ·omega
    ·cases h
   ·cases h
 | new o k ih =>
  intro m m' x w h hS hB hO he
  unfold mrun at h
  split at h
  ·rename_i c t
   have hS' := hS.new c.toList t
   obtain ⟨w', h1, h2, h3, h4⟩ := ih _ _ _ _ (w.alloc (.cells c.toList.toArray t (0, 0))) h hS' (by simp; omega) (fun z hz hzo => by
    rw [List.mem_append, List.mem_singleton] at hz
    rcases hz with hz | rfl
    ·exact hO z hz hzo
    ·right; rw [← hS.size]; exact hB) he
   refine ⟨w', ?_, h2, Kept.trans (v := w.alloc (.cells c.toList.toArray t (0, 0))) ⟨rfl, rfl, rfl, by simp, fun i hi _ => heap_alloc_old _ _ _ (by omega)⟩ h3, h4⟩
   rw [← h1, ← hS.size]
   rfl
  ·cases h
 | program k ih =>
  intro m m' x w h hS hB hO he
  unfold mrun at h
  obtain ⟨w', h1, h2⟩ := ih _ _ _ _ w h hS hB hO he
  exact ⟨w', h1, h2⟩
 | mark mk k ih =>
  intro m m' x w h hS hB hO he
  unfold mrun at h
  obtain ⟨w', h1, h2⟩ := ih _ _ _ w h hS hB hO he
  exact ⟨w', h1, h2⟩
 | shape r k ih => intro m m' x w h; unfold mrun at h; cases h
 | freeze a n k ih => intro m m' x w h; unfold mrun at h; cases h
 | frozen a k ih => intro m m' x w h; unfold mrun at h; cases h
 | getObj r k ih => intro m m' x w h; unfold mrun at h; cases h
 | setObj r o k ih => intro m m' x w h; unfold mrun at h; cases h
 | choose q k ih => intro m m' x w h; unfold mrun at h; cases h
 | sys c k ih => intro m m' x w h; unfold mrun at h; cases h
 | halt hh => intro m m' x w h; unfold mrun at h; cases h
end Go.Proofs.YtdcbnkimjhefkaaGreatDoor

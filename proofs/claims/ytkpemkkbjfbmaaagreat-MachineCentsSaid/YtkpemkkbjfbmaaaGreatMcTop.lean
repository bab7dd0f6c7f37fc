/- Proved: for every list of numbers, the law MachineCents returns true: where the program of a made agreement runs, the amount of a pay definition is a multiple of its step, in cents, and differs from the unrounded value by less than the step. -/
import Derived.Test.YtkpemkkbjfbmaaaGreatMc02
import Derived.Test.YtkpemkkbjfbmaaaGreatMc29
set_option linter.all false
namespace Go.Proofs.YtkpemkkbjfbmaaaGreat.machineCents
open List
open Go.ChangeShapes Go.WideShapes Go.ChangeAt Go.RowKit
set_option maxRecDepth 100000 in
theorem contract (H:Type) (enc:TypeId×Value->H) (W:World) (base:Nat) (args:Array Value) (ds gs:List (DataW H)) (before:List MemPlace)
  (hval:∀(j:Nat) t v,Tryz.f3.params[j]?=some t->args[j]?=some v->Value.okWide Tryz.prog W .any base t v)
  (hW:DataW.Whole enc Tryz.prog Tryz.f3.params.toList Rows.machineCentsSpec.vars false W args.toList ds gs before) (hL:laidMetH Tryz.prog Rows.machineCentsRow.laid W) (hS:W.ShapedOpen Tryz.prog) :
  Calls Tryz.prog 3 args W λe W'=>∃v,e=.returned v/\Rows.machineCentsSpec.post enc Tryz.prog Tryz.f3 false true false false W args v W':=by
 have hW':=hW;obtain⟨p,q,hA0,hV,rfl,hfz,hnd⟩:=hW;have hA:DataW.TrodAll enc Tryz.prog W 0 (λ_=>true) true Tryz.f3.params.toList args.toList ds p:=hA0;rw[Tryz.params3]at hA hval;obtain⟨v0,vs0,d0,ds0,p0,q0,hargs,rfl,rfl,h0,r0⟩:=trodAll_cons hA;obtain⟨rfl,rfl,rfl⟩:=trodAll_nil r0;obtain rfl:args=#[v0]:=by cases args;simp_all
 obtain⟨rfl,rfl⟩:=trodVars_none hV;have hlt:=hW'.lt;obtain⟨ns0,hi0⟩:=xo (hval 0 22 v0 rfl rfl) h0;clear hA0;simp only[append_nil]at hW' hlt;have hL':laidMet Tryz.prog Rows.machineCentsRow.laid W:=hL
 skip
 refine(oP v0 ns0 W hi0).mono λe W' ⟨he,hg⟩=>?_;subst he;exact⟨_,rfl,Td (pa:=p0) (pv:=[]) hW' (λ_ _ _=>trodAll_cons_mk (shut_bool Tryz.underlying4 _) trodAll_mk0) (λ_ hsp=>by have h:=trodAll_cons_mk (WideElems.Trod_stays xn (by kernel_rfl) (of_decide_eq_true (by kernel_rfl)) h0 (λx hx=>hg.same (hlt x (by simp[hx]))) (λx hx=>hsp x (by simp[hx]))) trodAll_mk0;simp only[append_nil]at h;exact h) (λ_ _=>rfl) (by simp)
  hg (ok_one (by kernel_rfl) rfl (okWide_bool_mk Tryz.underlying4 _))⟩
noncomputable def laidWorld (os:Os):World:=
 { World.holding Tryz.prog os ⟨#[],#[],[]⟩with heap:=Rows.machineCentsRow.laid.foldl ACf (World.holding Tryz.prog os ⟨#[],#[],[]⟩).heap }
theorem laid_met (os:Os):laidMet Tryz.prog Rows.machineCentsRow.laid ((laidWorld os).forCall (λ_ _=>0) ⟨#[],#[V none 0 0],[]⟩).memory:=
 laidMet_of_run' 8 (by kernel_rfl) (by kernel_rfl)
theorem reads (os:Os) {H:Type} (enc:TypeId×Value->H):∃places,DataW.whole enc Tryz.prog ((laidWorld os).forCall (λ_ _=>0) ⟨#[],#[V none 0 0],[]⟩).memory Tryz.f3.params.toList Rows.machineCentsSpec.vars false (#[V none 0 0]:Array Value).toList 8=some ([.nil],[],places):=
 ⟨[],by kernel_rfl⟩
set_option maxRecDepth 100000 in
theorem lifted (os:Os) (started:os.Started) (H:Type) (enc:TypeId×Value->H) (F:Stop.Interp) :
  ReturnsInHanded {} Tryz.checked os 3 .any ((OpenSpec.ofChange Rows.machineCentsSpec).preRow enc Tryz.prog Tryz.f3 Rows.machineCentsRow.domain false Rows.machineCentsRow.laid) (((OpenSpec.ofChange Rows.machineCentsSpec).at F).post enc Tryz.prog Tryz.f3 false true false false):=by
 obtain⟨places,hx⟩:=reads os enc;refine returnsInHanded_of_row (C:=Tryz.checked) (s:=OpenSpec.ofChange Rows.machineCentsSpec) Yj started (by kernel_rfl) Tryz.func3
  (witness_row_at (enc:=enc) (C:=Tryz.checked) false (laidWorld os) #[V none 0 0] rfl (by kernel_rfl) (by kernel_rfl) (by kernel_rfl)
   (OpenSpec.preRow_of_cond 8 hx (by kernel_rfl) (λk hk=>by cases hk) (by kernel_rfl) (laid_met os))) ?_
 intro W base args ds gs before hval hW _ _ _ hL hS _;exact contract H enc W base args ds gs before hval hW hL hS
theorem said:Rows.MachineCentsSaid:=
 OpenClaim.holds_of_cond 3 Tryz.f3 rfl rfl rfl rfl rfl rfl rfl ⟨rfl,rfl,rfl,rfl,rfl⟩ rfl rfl rfl rfl rfl (by kernel_rfl) Tryz.func3 (by kernel_rfl)
  (of_decide_eq_true (by kernel_rfl)) (by unfold Func.isWrapper;first | (rw[if_pos (by decide +kernel)];kernel_rfl) | (rw[if_neg (by decide +kernel)];exact⟨rfl,rfl⟩))
  (λos a H enc _ F=>by rw[OpenClaim.pre_eq_preRow];exact lifted os a H enc F)
end Go.Proofs.YtkpemkkbjfbmaaaGreat.machineCents

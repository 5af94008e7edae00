/- Whatever game, capacity, point, watch and steps come in: EngineReverses returns true, and all reads as it did. -/
import Derived.Test.YtacejanlmhbddaaGreatRows
import Derived.Test.YtacejanlmhbddaaGreatQrL
set_option maxRecDepth 100000
set_option maxHeartbeats 1000000
set_option linter.all false
namespace Go.Proofs.YtacejanlmhbddaaGreat
open Go Go.VV Go.Proofs Go.ChangeShapes Go.WideShapes Go.ChangeAt Go.RowKit Go.Proofs.Tryz
def own :ownKnob prog.godebug=none:=by kernel_rfl
def laidOut :laidOutB prog=true:=by kernel_rfl
def and_i{a b:Bool}(h2:b=true)(h1:a=true):(a&&b)=true:=by rw[h1,h2];rfl
def cBp_of(cs:AA)(h:lY [.int .i64,.int .u16] cs):∃p,cs=cBp p/\True:=by
 obtain⟨x,_,rfl,_,h1⟩:=Ur h
 obtain⟨y,_,rfl,_,h2⟩:=Ur h1
 obtain rfl:=aDi h2
 exact⟨⟨x,y⟩,U,trivial⟩
def cCd_of(cs:AA)(h:lY [.int .i64,.int .i64] cs):∃p,cs=iJ p/\True:=by
 obtain⟨x,_,rfl,_,h1⟩:=Ur h
 obtain⟨y,_,rfl,_,h2⟩:=Ur h1
 obtain rfl:=aDi h2
 exact⟨⟨x,y⟩,U,trivial⟩
def cWt_of{w:AI}(cs:AA)(h:sV w [.int .u16,.int .u16,.bool,.bool,.rows [.int .i64,.int .i64]] cs):∃x:Wt,cs=cWt x/\eX w iJ x.a x.l:=by
 match cs,h with
 | [a,b,c,d,e],h=>
  obtain⟨⟨x,rfl,_⟩,⟨y,rfl,_⟩,⟨r,rfl⟩,⟨s,rfl⟩,⟨qa,qc,L,rfl,h5,h6,h7,h8⟩,_⟩:=h
  obtain⟨l2,hl2,_,h10⟩:=aE5 (c:=iJ) (p:=λ_=>True) cCd_of h7 h8
  exact⟨⟨x,y,r,s,qa,qc,l2⟩,by show _=[_,_,_,_,Value.slice qa l2.length qc];rw[<-hl2],h10⟩
theorem engineReverses_lifted(os:Os)(started:os.Started)(H:Type)(enc:AJ×AH->H):
  ReturnsInHanded {} Tryz.checked os 6 .any (Rows.engineReversesSpec.pre6 enc prog Tryz.f6 Rows.engineReversesRow.domain false) (Rows.engineReversesSpec.post enc prog Tryz.f6 false true false false):=by
 refine returnsInHanded_of_change (C:=Tryz.checked) own started aN func6
  (ChangeSpec.witness6 (enc:=enc) (C:=Tryz.checked) false ⟨#[],#[.agg #[.int .u8 0,.slice none 0 0,.slice none 0 0],.int .i64 0,.agg #[.int .i64 0,.int .u16 0],.agg #[.int .u16 0,.int .u16 0,.bool false,.bool false,.slice none 0 0],.int .u8 0],[]⟩ 8 aN aN aN aN) ?_
 intro W base args ds gs before hval0 hW hcnd _
 have hval:∀(j:Nat) t v,Tryz.f6.params[j]? =some t->args[j]? =some v->Value.okWide prog W .any base t v:=hval0
 have hW':=hW
 obtain⟨p,q,hA0,hV,rfl,hfz,hnd⟩:=hW
 have hA:DataW.TrodAll enc prog W 0 (λ_=>true) true Tryz.f6.params.toList args.toList ds p:=hA0
 rw[Tryz.params6]at hA hval
 obtain⟨args⟩:=args
 obtain⟨rfl,rfl⟩:=trodVars_none hV
 simp only[]at hA
 have hAk:=hA
 obtain⟨v0,vs0,d0,ds0,p0,q0,rfl,rfl,rfl,h0,r0⟩:=trodAll_cons hA
 obtain⟨v1,vs1,d1,ds1,p1,q1,rfl,rfl,rfl,h1,r1⟩:=trodAll_cons r0
 obtain⟨v2,vs2,d2,ds2,p2,q2,rfl,rfl,rfl,h2,r2⟩:=trodAll_cons r1
 obtain⟨v3,vs3,d3,ds3,p3,q3,rfl,rfl,rfl,h3,r3⟩:=trodAll_cons r2
 obtain⟨v4,vs4,d4,ds4,p4,q4,rfl,rfl,rfl,h4,r4⟩:=trodAll_cons r3
 obtain⟨rfl,rfl,rfl⟩:=trodAll_nil r4
 obtain⟨x0,rfl,w0⟩:=U1 (ks:=[.int .u8,.ints .u8,.rows [.int .u64,.int .u8]]) (c:=cGq) (p:=Gq.Ok W) Tryz.underlying25 aN aJr (hval 0 25 v0 rfl rfl) h0
 obtain⟨x1,rfl,rfl,rfl,w1⟩:=open_int Tryz.underlying3 (hval 1 3 v1 rfl rfl) h1
 obtain⟨x2,rfl,w2⟩:=aMR (ks:=[.int .i64,.int .u16]) (c:=cBp) (p:=λ_=>True) Tryz.underlying58 aN cBp_of (hval 2 58 v2 rfl rfl) h2
 obtain⟨x3,rfl,w3⟩:=U1 (ks:=[.int .u16,.int .u16,.bool,.bool,.rows [.int .i64,.int .i64]]) (c:=cWt) (p:=(λx=>eX W iJ x.a x.l)) Tryz.underlying61 aN cWt_of (hval 3 61 v3 rfl rfl) h3
 obtain⟨x4,rfl,rfl,rfl,w4⟩:=open_int Tryz.underlying5 (hval 4 5 v4 rfl rfl) h4
 refine Calls.mono (show aG prog 6 _ W [] _ from aLb x0 x1 x2 x3 x4 (Vf w4) W w0 w3) λe W' ⟨v,G,he,hst,_,hv⟩=>?_
 subst hv he
 have bel:=aP5 hst
 exact⟨_,U,_,_,_,[],_,[],hW',trodAll_mk1 (shut_bool Tryz.underlying4 _),V6 laidOut bel aN hAk,U,bel.frame _,λh=>by cases h⟩
set_option maxHeartbeats 8000000 in
theorem engineReverses_holds :Rows.EngineReversesSaid:=
 OpenClaim.holds_of_wide 6 Tryz.f6 rfl rfl rfl rfl rfl rfl rfl ⟨rfl,rfl,rfl,rfl,rfl⟩ rfl rfl rfl rfl rfl aN func6 (by unfold joinedFacts;(iterate 31 refine and_i eW ?_);decide +kernel)
  (df aN) (by unfold Func.isWrapper;first|(rw[ag eW];kernel_rfl)|(rw[ae eW];exact⟨rfl,rfl⟩))
  (λos started H enc _=>engineReverses_lifted os started H enc)
end Go.Proofs.YtacejanlmhbddaaGreat

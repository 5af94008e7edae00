/- Parts. -/
import Derived.Laws.BytesArg
import Derived.Laws.Externs
import Derived.Laws.LoneSync
import Derived.Laws.Strings2
import Derived.Laws.StructEq
import Derived.Laws.World
import Derived.Lib.AppendZeros
import Derived.Lib.BufferWrite
import Derived.Lib.Builder
import Derived.Lib.ConvBytes
import Derived.Lib.Overlaps
import Derived.Maps.RangeRun
import Derived.RangeFuncRecord
import Derived.ScopeJumps
import Derived.Test.YtacejanlmhbddaaGreatQrA
set_option maxRecDepth 100000
set_option maxHeartbeats 1000000
set_option linter.all false
namespace Go.VV
open Go
def St.put{w0 w:AI}{ms:AE}{b:Nat}{o:Obj}{R:aF}(h:St w0 ms ((b,o)::R) w)(o':Obj):St w0 ms ((b,o')::R) (w.putObj b o'):=
 h.turn rfl rfl rfl (by simp) (λ_ hk=>World.putObj_heap_other hk) (World.putObj_heap_same (h.lt (x:=(b,o)) (.head _)))
def Gv :AE->AA->bE->bE
 |p::ps,v::vs,e=>Gv ps vs (e.set p v)
 |_,_,e=>e
structure Ey(n:Nat)(e0:bE)(ps:AE)(assign body:Code)(rec:Loop):Prop where
 ready:rec.state= .ready
 calm:rec.pending=none
 params:rec.params=ps.toArray
 assign:rec.assign=assign
 body:rec.body=body
 rep:lI n [] e0 {tmps:=rec.tmps,defers:=[]}
abbrev U5(Γ:dJ)(n lb:Nat):dJ:=⟨Γ.P,n,Γ.w0,Γ.ms,some lb,[]⟩
abbrev busy(rec:Loop):Loop:={rec with state:= .busy}
def aAU(Γ:dJ)(lb:Nat)(rec:Loop)(K:AH->aF->Prop)(c:Code)(_:bE)(H2:aF):Prop:=
 ∃G2,(∀w,St Γ.w0 Γ.ms H2 w->St Γ.w0 Γ.ms ((lb,.loop (busy rec))::G2) w)/\K (.bool false) ((lb,.loop {rec with state:= .done,pending:=some c})::G2)
def Vo(Γ:dJ)(n lb:Nat)(rec:Loop)(ps:AE)(assign body:Code)(vs:AA)(e0:bE)(H:aF)(K:AH->aF->Prop)(js:AE:=[]):Prop:=
 C (U5 Γ n lb) assign ⟨λe1 H1=>∃G1,(∀w,St Γ.w0 Γ.ms H1 w->St Γ.w0 Γ.ms ((lb,.loop rec)::G1) w)/\
   C (U5 Γ n lb) body ⟨λ_ H2=>∃G2,(∀w,St Γ.w0 Γ.ms H2 w->St Γ.w0 Γ.ms ((lb,.loop (busy rec))::G2) w)/\K (.bool true) ((lb,.loop rec)::G2),
    aAU Γ lb rec K .ret,js.map λj=>(2*j,aAU Γ lb rec K (.exit j))⟩ e1 ((lb,.loop (busy rec))::G1),
  λ_ _=>False,[]⟩ (Gv ps vs e0) H
def Ze{f:Nat->bE->aF->Prop}:∀{js:AE} {i:Nat} {K:bE->aF->Prop},pQ (js.map λj=>(2*j,f j)) i=some K->∃j,i=2*j/\K=f j
 |j::js,i,K,h=>by
  by_cases hi:2*j=i
  ·subst hi
   rw[cq,Ki]at h
   exact⟨j,U,(aj h).symm⟩
  ·rw[cq,zE hi]at h
   exact Ze h
def aAl{n:Nat}:∀{ps:AE} {vs:AA} {e:bE} {tmps:Array AH},ps.all (λp=>Nat.blt p n)=true->lI n [] e {tmps:=tmps,defers:=[]}->
  lI n [] (Gv ps vs e) {tmps:=(ps.zip vs).foldl (λtmps (t,a)=>tmps.setIfInBounds t a) tmps,defers:=[]}
 | [],_,_,_,_,h=>by simpa[Gv] using h
 |_::_,[],_,_,_,h=>by simpa[Gv] using h
 |p::ps,v::vs,e,tmps,hp,h=>by
  simp only[gn,ax]at hp
  simp only[Gv,List.zip_cons_cons,i7]
  exact aAl hp.2 (h.put (d:=some p) (by simpa[eQ] using hp.1) v)
def aPZ{Γ:dJ}{n lb:Nat}{rec:Loop}{ps:AE}{assign body:Code}{vs:AA}{e0:bE}{H:aF}{K:AH->aF->Prop}{r:AD}
  (hl:Ey n e0 ps assign body rec) (hp:ps.all (λp=>Nat.blt p n)=true) {js:AE} (h:Vo Γ n lb rec ps assign body vs e0 H K js) {w:AI} (hw:St Γ.w0 Γ.ms H w):
  RoundIn (Fr r) 0 Γ.P lb rec.fn ((rec.params.zip vs.toArray).foldl (λtmps (t,a)=>tmps.setIfInBounds t a) rec.tmps) rec.assign rec.body w
   (λex w'=>∃v H',ex= .returned v/\St Γ.w0 Γ.ms H' w'/\K v H'):=by
 refine roundIn_of_wpIn (F:=Fr r) trivial ?_
 have hrep:=aAl (vs:=vs) hp hl.rep
 have hz:(rec.params.zip vs.toArray).foldl (λtmps (t,a)=>tmps.setIfInBounds t a) rec.tmps=(ps.zip vs).foldl (λtmps (t,a)=>tmps.setIfInBounds t a) rec.tmps:=by
  rw[hl.params,List.zip_toArray,List.foldl_toArray]
 rw[hz,hl.assign,hl.body]
 refine wpIn_mono (h _ w hrep hw) ?_
 rintro ex a1 w1 ⟨e1,H1,ha1,hw1,h1⟩
 cases ex<;>simp only[fK.at,Exit.then,pQ]at h1⊢
 case normal=>
  obtain⟨G1,hG1,hb⟩:=h1
  have hw1:=hG1 _ hw1
  refine⟨_,run_beginRound (hw1.holds (lb,_) (.head _)) hl.ready,?_⟩
  refine wpIn_mono (hb a1 _ ha1 (hw1.put _)) ?_
  rintro ex a2 w2 ⟨e2,H2,_,hw2,h2⟩
  cases ex<;>simp only[fK.at,roundPost]at h2⊢
  case exit j=>
   split at h2
   ·rename_i K' hK
    obtain⟨j',hj,rfl⟩:=Ze hK
    obtain rfl:j=j':=by omega
    obtain⟨G2,hG2,hk⟩:=h2
    have hw2:=hG2 _ hw2
    exact⟨_,_,run_endRound (some (.exit j)) (hw2.holds (lb,_) (.head _)),_,_,U,hw2.put _,hk⟩
   ·exact h2.elim
  case goto l=>
   split at h2
   ·rename_i K' hK
    obtain⟨j',hj,rfl⟩:=Ze hK
    omega
   ·exact h2.elim
  case normal=>
   obtain⟨G2,hG2,hk⟩:=h2
   have hw2:=hG2 _ hw2
   refine⟨_,_,run_endRound none (hw2.holds (lb,_) (.head _)),?_⟩
   refine⟨_,_,U,hw2.put _,?_⟩
   have:({busy rec with state:=if(none:Option Code).isNone=true then LoopState.ready else LoopState.done,pending:=none}:Loop)=rec:=by
    have h1:=hl.ready
    have h2:=hl.calm
    cases rec
    simp only at h1 h2
    simp[h1,h2]
   rw[this]
   exact hk
  case ret=>
   obtain⟨G2,hG2,hk⟩:=h2
   have hw2:=hG2 _ hw2
   refine⟨_,_,run_endRound (some .ret) (hw2.holds (lb,_) (.head _)),?_⟩
   exact⟨_,_,U,hw2.put _,hk⟩
section
variable {Γ:dJ}{k:fK}{e:bE}{H G:aF}{ops rest:List Oper}{d:AD}{t:AJ}{pos:String}{af:AG}{g:Option (Nat×Bool)}
def aHv{n lb:Nat}{rec:Loop}{ps:AE}{assign body:Code}{vs:AA}{e0:bE}{K:AH->aF->Prop}{x:AK}{l:AF}{ts:Array AJ}
  (hx:bA (ev e x)=some (.func (.yield lb) #[] #[])) (hv:lA e l=some vs) (hg:eS ops e ⟨d,.call ⟨.value x,l.toArray,ts⟩,t,pos,af,g⟩=true) (hd:eQ Γ.n d=true)
  (hn:Nat.beq ps.length vs.length=true) (hp:ps.all (λp=>Nat.blt p n)=true) (hm:(lb,.loop rec)∈H)
  (hl:Ey n e0 ps assign body rec) {js:AE} (hR:Vo Γ n lb rec ps assign body vs e0 H K js)
  (hk:∀v H',K v H'->L1 Γ ops rest k (e.put d v) H'):L1 Γ ops (⟨d,.call ⟨.value x,l.toArray,ts⟩,t,pos,af,g⟩::rest) k e H:=by
 intro a w ha hw
 unfold wpListIn
 rw[Dc ha,ag hg]
 refine⟨λ_ _=>trivial,?_⟩
 rw[Oper.semAt_eq _ _ _ (λc=>by simp),ha.eval]
 have hx:=bM hx
 have hsz:(vs.toArray).size=rec.params.size:=by rw[hl.params];simp;exact(ci hn).symm
 have hmap:(List.toArray l).map (ev e)=vs.toArray:=by rw[<-Dj hv];simp
 have hrun:(execOp (ev e) ⟨d,.call ⟨.value x,l.toArray,ts⟩,t,pos,af,g⟩).run Γ.P w=
   .ok (.round lb rec.fn ((rec.params.zip vs.toArray).foldl (λtmps (t,a)=>tmps.setIfInBounds t a) rec.tmps) rec.assign rec.body) w:=by
  have hy:=run_yield (P:=Γ.P) (w:=w) (r:=rec) (args:=vs.toArray) (hw.holds _ hm) hsz
  simp only[execOp,resolve,hmap,hx,Deferred.ofValue,invoke,pure_bind,Array.empty_append]
  exact hy
 rw[hrun]
 refine⟨λh=>(by cases h),RoundIn.mono (aPZ hl hp hR hw) ?_⟩
 rintro ex w' ⟨v,H',rfl,hw',hK⟩
 exact hk v H' hK _ _ (ha.put hd v) hw'
end
def T(Γ:dJ)(fn:Func)(R:AH->aF->Prop)(c:Code)(e:bE)(H:aF):Prop:=
 ∀a w,lI Γ.n Γ.D e a->St Γ.w0 Γ.ms H w->c.wpIn (Fr Γ.r) 0 Γ.P (bodyPostM (Fr none) 0 Γ.P fn (λex w'=>∃v H,ex= .returned v/\St Γ.w0 Γ.ms H w'/\R v H)) a w
def T2(Γ:dJ)(fn:Func)(R:AH->aF->Prop)(y z:Code)(e:bE)(H:aF):Prop:=
 ∀a w,lI Γ.n Γ.D e a->St Γ.w0 Γ.ms H w->
  y.wpIn (Fr Γ.r) 0 Γ.P (Exit.then (z.wpIn (Fr Γ.r) 0 Γ.P (bodyPostM (Fr none) 0 Γ.P fn (λex w'=>∃v H,ex= .returned v/\St Γ.w0 Γ.ms H w'/\R v H)))
   (bodyPostM (Fr none) 0 Γ.P fn (λex w'=>∃v H,ex= .returned v/\St Γ.w0 Γ.ms H w'/\R v H))) a w
def aIt{P:AL}{f:Nat}{fn:Func}{c:Code}{args:AA}{w:AI}{ms:AE}{R:AH->aF->Prop}{n:Nat}{H:aF}
  (hf:P.funcs[f]? =some fn) (hb:fn.body=some c) (hn:fn.ntmps=n) (hl:Nat.ble args.length n=true) (hH:St w ms H w)
  (h:T ⟨P,n,w,ms,none,[]⟩ fn R c (Et args) H):aG P f args w ms R:=by
 subst hn
 have hl':args.length<=fn.ntmps:=ah hl
 exact(callsIn_wide (n:=0)).1 (callsIn_of_wp_marks hf hb trivial (h _ w (T5 hl') hH))
section
variable {Γ:dJ}{fn:Func}{R:AH->aF->Prop}{e:bE}{H:aF}
def aDu(hD:Γ.D=[]){ex:Exit}{a:Act}{w:AI}{e:bE}{H:aF}(hex:ex= .normal\/ex= .ret)(ha:lI Γ.n Γ.D e a)(hw:St Γ.w0 Γ.ms H w)(h:rW Γ fn.results.toList R e H):
  bodyPostM (Fr none) 0 Γ.P fn (λex w'=>∃v H,ex= .returned v/\St Γ.w0 Γ.ms H w'/\R v H) ex a w:=by
 obtain⟨v,H',g1,g2,g3⟩:=h w hw
 have hd:a.defers=[]:=by rw[ha.defers,hD]
 have key:LeavesInM (Fr none) 0 Γ.P fn a.tmps (λex w'=>∃v H,ex= .returned v/\St Γ.w0 Γ.ms H w'/\R v H) a.defers .returning w:=by
  rw[hd]
  exact⟨v,by rw[Xt ha];exact g1,v,H',U,g2,g3⟩
 rcases hex with rfl|rfl<;>exact key
def Nb{x y:Code}(hD:Γ.D=[])(h:C Γ x ⟨λe L=>T Γ fn R y e L,rW Γ fn.results.toList R,[]⟩ e H):T Γ fn R (.seq x y) e H:=by
 intro a w ha hw
 refine wpIn_seq (wpIn_mono (h a w ha hw) ?_)
 rintro ex a' w' ⟨e',L',h1,h2,h3⟩
 cases ex<;>simp only[fK.at,Exit.then,pQ]at h3⊢
 case normal=>exact h3 a' w' h1 h2
 case ret=>exact aDu hD (.inr rfl) h1 h2 h3
def aFX{x y z:Code}(hD:Γ.D=[])(h:C Γ x ⟨λe L=>T2 Γ fn R y z e L,rW Γ fn.results.toList R,[]⟩ e H):T Γ fn R (.seq (.seq x y) z) e H:=by
 intro a w ha hw
 refine wpIn_seq (wpIn_seq (wpIn_mono (h a w ha hw) ?_))
 rintro ex a' w' ⟨e',L',h1,h2,h3⟩
 cases ex<;>simp only[fK.at,Exit.then,pQ]at h3⊢
 case normal=>exact h3 a' w' h1 h2
 case ret=>exact aDu hD (.inr rfl) h1 h2 h3
def aQa{c:Code}{D0:Nat}(hD:Γ.D=[{target:= .collected D0,args:= #[]}])
  (h:C Γ c ⟨λe H=>∃G,(∀w,St Γ.w0 Γ.ms H w->St Γ.w0 Γ.ms ((D0,.deferred (some []))::G) w)/\rW Γ fn.results.toList R e G,
   λe H=>∃G,(∀w,St Γ.w0 Γ.ms H w->St Γ.w0 Γ.ms ((D0,.deferred (some []))::G) w)/\rW Γ fn.results.toList R e G,[]⟩ e H):T Γ fn R c e H:=by
 intro a w ha hw
 refine wpIn_mono (h a w ha hw) ?_
 have key:∀(e':bE) (a':Act) (w':AI) (L':aF),lI Γ.n Γ.D e' a'->St Γ.w0 Γ.ms L' w'->
   (∃G,(∀w,St Γ.w0 Γ.ms L' w->St Γ.w0 Γ.ms ((D0,.deferred (some []))::G) w)/\rW Γ fn.results.toList R e' G)->
   LeavesInM (Fr none) 0 Γ.P fn a'.tmps (λex w'=>∃v H,ex= .returned v/\St Γ.w0 Γ.ms H w'/\R v H) a'.defers .returning w':=by
  rintro e' a' w' L' h1 h2 ⟨G,hG,hE⟩
  have hw2:=hG _ h2
  have hd:a'.defers=[{target:= .collected D0,args:= #[]}]:=by rw[h1.defers,hD]
  rw[hd]
  have hw3:St Γ.w0 Γ.ms G (w'.putObj D0 (.deferred none)):=(hw2.put (.deferred none)).sub (ce _ _)
  obtain⟨v,H',g1,g2,g3⟩:=hE _ hw3
  refine⟨by simp,.inl ⟨D0,_,U,run_takeDeferred (hw2.holds (D0,_) (.head _)),?_⟩⟩
  exact⟨v,by rw[Xt h1];exact g1,v,H',U,g2,g3⟩
 rintro ex a' w' ⟨e',L',h1,h2,h3⟩
 cases ex<;>simp only[fK.at,pQ]at h3⊢
 case normal=>exact key e' a' w' L' h1 h2 h3
 case ret=>exact key e' a' w' L' h1 h2 h3
def aNk{id:Nat}{x:AK}{ps:AE}{assign body z:Code}{f:Nat}{A B:AA}(hr:Γ.r=none)(hD:Γ.D=[])
  (hx:bA (ev e x)=some (.func (.func f) A.toArray B.toArray)) (hc:iW Γ.P f=true)
  (h:∀(w:AI) (D0 lb:Nat) (rec:Loop),D0=w.heap.size->lb=D0+1->Ey Γ.n e ps assign body rec->
   ∀w2,St Γ.w0 Γ.ms ((lb,.loop rec)::(D0,.deferred (some []))::H) w2->∃F G ms2 R2,
    (∀w,St Γ.w0 Γ.ms ((lb,.loop rec)::(D0,.deferred (some []))::H) w->St Γ.w0 Γ.ms (F++G) w)/\(∀b∈ms2,∃o,(b,o)∈F)/\
    aG Γ.P f (A++ .func (.yield lb) #[] #[]::B) w2 ms2 R2/\
    ∀v H',R2 v H'->∃rec' G2,(∀w,St Γ.w0 Γ.ms (H'++G) w->St Γ.w0 Γ.ms ((lb,.loop rec')::G2) w)/\rec'.state≠ .busy/\(rec'.pending=none\/rec'.pending=some (.exit id))/\
     T ⟨Γ.P,Γ.n,Γ.w0,Γ.ms,none,[{target:= .collected D0,args:= #[]}]⟩ fn R z e ((lb,.loop {rec' with state:= .exhausted})::G2)):
  T2 Γ fn R (.block id (.rangeFunc x ps.toArray assign body)) z e H:=by
 obtain⟨P,n,w0,ms,r,D⟩:=Γ
 simp only at hr hD
 subst hr hD
 intro a w ha hw
 refine wpIn_block ?_
 refine wpIn_rangeFunc λfno _=>?_
 have he:=run_enterLoop_outer (P:=P) (w:=w) fno a.tmps ps.toArray assign body
 have hw2:St w0 ms ((w.heap.size+1,.loop {state:= .ready,pending:=none,fn:=fno,tmps:=a.tmps,params:=ps.toArray,assign,body,defers:=w.heap.size})::(w.heap.size,.deferred (some []))::H)
   ((w.alloc (.deferred (some []))).alloc (.loop {state:= .ready,pending:=none,fn:=fno,tmps:=a.tmps,params:=ps.toArray,assign,body,defers:=w.heap.size})):=by
  have h1:=(hw.alloc (.deferred (some []))).alloc (.loop {state:= .ready,pending:=none,fn:=fno,tmps:=a.tmps,params:=ps.toArray,assign,body,defers:=w.heap.size})
  simpa using h1
 have hda:a.defers=[]:=by rw[ha.defers]
 have hlo:Ey n e ps assign body {state:= .ready,pending:=none,fn:=fno,tmps:=a.tmps,params:=ps.toArray,assign,body,defers:=w.heap.size}:=
  ⟨rfl,rfl,rfl,rfl,rfl,⟨rfl,ha.size,ha.look⟩⟩
 obtain⟨F,G,ms2,R2,hFG,hms,hdo,hrest⟩:=h w _ _ _ rfl rfl hlo _ hw2
 have hx:=bM hx
 have hcall:(invoke (.fn (.func f) B.toArray) (A.toArray++ #[.func (.yield (w.heap.size+1)) #[] #[]])).run P
   ((w.alloc (.deferred (some []))).alloc (.loop {state:= .ready,pending:=none,fn:=fno,tmps:=a.tmps,params:=ps.toArray,assign,body,defers:=w.heap.size}))=
   .ok (.enter f (A++ .func (.yield (w.heap.size+1)) #[] #[]::B).toArray) ((w.alloc (.deferred (some []))).alloc (.loop {state:= .ready,pending:=none,fn:=fno,tmps:=a.tmps,params:=ps.toArray,assign,body,defers:=w.heap.size})):=by
  unfold iW at hc
  split at hc
  ·rename_i fn' hf
   simp only[ax,ew]at hc
   obtain⟨h1,h2⟩:=hc
   have hs:(program:Sem AL)= .program .pure:=rfl
   have h3:¬fn'.name= "runtime.NumGoroutine" :=by simpa using h1
   have h4:¬fn'.body=none:=by
    intro hx;rw[hx]at h2;cases h2
   simp[invoke,callFunc,bind,Sem.bind,Sem.run,hf,h3,h4,pure,hs]
  ·cases hc
 have hev:a.eval x= .func (.func f) A.toArray B.toArray:=by rw[ha.eval];exact hx
 refine⟨w.heap.size+1,_,_,{target:= .fn (.func f) B.toArray,args:=A.toArray++ #[.func (.yield (w.heap.size+1)) #[] #[]]},_,f,_,_,he,?_,λ_ _=>trivial,hcall,λh=>(by cases h),F8 (Calls.mono hdo ?_)⟩
 ·have hk:a.eval (.const (.func (.yield (w.heap.size+1)) #[] #[]))= .func (.yield (w.heap.size+1)) #[] #[]:=by rw[ha.eval];rfl
  simp only[resolve,hev,hk,Deferred.ofValue,dg,cq,dh,ca]
 ·rintro ex w3 ⟨v,H',rfl,hw3,hR2⟩
  obtain⟨rec',G2,hG2,hb,hpn,hT⟩:=hrest v H' hR2
  have hw4:=hG2 _ ((hFG _ hw2).call hms hw3)
  refine⟨rec'.pending,w3.putObj (w.heap.size+1) (.loop {rec' with state:= .exhausted}),?_,?_⟩
  ·exact run_endLoop (P:=P) (hw4.holds (w.heap.size+1,_) (.head _)) hb
  ·have hw5:=hw4.put (.loop {rec' with state:= .exhausted})
   generalize w3.putObj (w.heap.size+1) (.loop {rec' with state:= .exhausted})=w5 at hw5⊢
   rcases hpn with hpn|hpn<;>rw[hpn]
   ·simp only[Exit.inBlock,Exit.then]
    refine hT _ _ ⟨?_,ha.size,ha.look⟩ hw5
    simp[hda]
   ·refine wpIn_exit ?_
    simp only[Exit.inBlock,ag,Exit.then]
    refine hT _ _ ⟨?_,ha.size,ha.look⟩ hw5
    simp[hda]
def aHV{id:Nat}{x:AK}{ps:AE}{assign body z:Code}{f:Nat}{A B:AA}(hr:Γ.r=none)(hD:Γ.D=[])
  (hx:bA (ev e x)=some (.func (.func f) A.toArray B.toArray)) (hc:iW Γ.P f=true)
  (h:∀(w:AI) (D0 lb:Nat) (rec:Loop),D0=w.heap.size->lb=D0+1->Ey Γ.n e ps assign body rec->
   ∀w2,St Γ.w0 Γ.ms ((lb,.loop rec)::(D0,.deferred (some []))::H) w2->∃F G ms2 R2,
    (∀w,St Γ.w0 Γ.ms ((lb,.loop rec)::(D0,.deferred (some []))::H) w->St Γ.w0 Γ.ms (F++G) w)/\(∀b∈ms2,∃o,(b,o)∈F)/\
    aG Γ.P f (A++ .func (.yield lb) #[] #[]::B) w2 ms2 R2/\
    ∀v H',R2 v H'->∃rec' G2,(∀w,St Γ.w0 Γ.ms (H'++G) w->St Γ.w0 Γ.ms ((lb,.loop rec')::G2) w)/\rec'.state≠ .busy/\rec'.pending=none/\
     T ⟨Γ.P,Γ.n,Γ.w0,Γ.ms,none,[{target:= .collected D0,args:= #[]}]⟩ fn R z e ((lb,.loop {rec' with state:= .exhausted})::G2)):
  T2 Γ fn R (.block id (.rangeFunc x ps.toArray assign body)) z e H:=
 aNk hr hD hx hc λw D0 lb rec h1 h2 h3 w2 h4=>by
  obtain⟨F,G,ms2,R2,k1,k2,k3,k4⟩:=h w D0 lb rec h1 h2 h3 w2 h4
  refine⟨F,G,ms2,R2,k1,k2,k3,λv H' h9=>?_⟩
  obtain⟨rec',G2,q1,q2,q3,q4⟩:=k4 v H' h9
  exact⟨rec',G2,q1,q2,.inl q3,q4⟩
end
section
variable {P:AL}{Γ:dJ}{k:fK}{e:bE}{H H':aF}{ops rest:List Oper}{d:AD}{ty:AJ}{pos:String}{af:AG}{g:Option (Nat×Bool)}
 {S:AI->Prop} {need:AE} {pl:kB}
def eA(hs:∀w,St Γ.w0 Γ.ms H w->St Γ.w0 Γ.ms H' w)(h:L1 Γ ops rest k e H'):L1 Γ ops rest k e H:=λa w ha hw=>h a w ha (hs w hw)
def lE(hs:∀w,St Γ.w0 Γ.ms H w->St Γ.w0 Γ.ms H' w)(h:L2 Γ ops S need pl k e H'):L2 Γ ops S need pl k e H:=λa w ha hw=>h a w ha (hs w hw)
def aCv{w0 w:AI}{ms:AE}(A B R:aF)(h:St w0 ms (A++(B++R)) w):St w0 ms (B++(A++R)) w:=h.perm (by
 rw[<-cx,<-cx]
 exact dz R bf)
def aFB{t:AJ}{x y:AK}{T s by_:Nat}{u:AH}{b n cp m:Nat}{l ys:AA}{ts:Array AJ}(i:Nat)
  (hx:bA (ev e x)=some (.slice (some ⟨b,0,none⟩) n cp)) (hy:ev e y=u) (hts:ts= #[t,t]) (hp:xS Γ.P t=some (T,s,by_)) (hi:H[i]? =some (b,J l T))
  (hs:∀w,St Γ.w0 Γ.ms H w->vA w s u m ys) (h1:fJ ys=true) (hroom:n+m<=cp) (hfit:n*s+ys.length<=l.length):
  dU Γ ⟨d,.call ⟨.builtin .append,#[x,y],ts⟩,ty,pos,af,g⟩ e H (λv' H'=>v'= .slice (some ⟨b,0,none⟩) (n+m) cp/\H'=H.set i (b,J (aV l (n*s) ys) T)):=by
 intro w hw
 subst hts hy
 have hx:=bM hx
 unfold xS at hp
 split at hp<;>try cases hp
 rename_i el hu
 split at hp<;>try cases hp
 rename_i ti hti
 split at hp<;>try cases hp
 rename_i z hz
 split at hp<;>try cases hp
 have hg:w.heap[b]? =some (J l T):=hw.own_blk (cr hi)
 have hs':=hs w hw
 generalize hue:ev e y=u at hs'
 cases hs' with
 |row b2 off2 m c ys hn hr=>
  have h3:=run_append_room (P:=Γ.P) w t ty T ti hu hti b n cp l.toArray hg ⟨b2,off2,none⟩ m c ys hn hr.add (by simpa[fJ] using h1) hroom (by simpa using hfit)
  refine gP (v:= .slice (some ⟨b,0,none⟩) (n+m) cp) (w':=w.setRow b (aV l (n*ti.size) ys).toArray) ?_ ⟨_,?_,U,U⟩
  ·simp only[execOp,resolve,ay,ca,ar,invoke,builtin,dg,cq,dh,hx,hue,h3]
   rfl
  ·exact hw.setAt hi U U U (by simp[World.setRow]) (λk hk=>setRow_other w b k _ hk) (setRow_heap w b _ _ T _ hg)
def aLS(z:AA)(n:Nat):(Builtin.zeroCells z.toArray n).toList=mS (n*z.length) z:=by
 unfold Builtin.zeroCells
 have:=Xs (n*z.length) z
 simp only[ju]at this⊢
 rw[this]
def Yd(n:Nat)(z:AA):(mS n z).length=n:=by simp[mS]
def aIu{n:Nat}{z:AA}(hz:fJ z=true)(hl:0<z.length):fJ (mS n z)=true:=by
 refine List.all_eq_true.2 λx hx=>?_
 simp only[mS,jc]at hx
 obtain⟨i,_,rfl⟩:=hx
 have hi:i%z.length<z.length:=jd _ hl
 rw[da,ap hi,jy]
 exact List.all_eq_true.1 hz _ (fi _)
def X9{t el:AJ}{x:AK}{s b off n c:Nat}{z l:AA}{T:AJ}{ts:Array AJ}(i:Nat)
  (hx:bA (ev e x)=some (.slice (some ⟨b,off,none⟩) n c)) (hts:ts= #[t]) (hu:qV Γ.P t=some (el,s)) (hz:uR Γ.P el=some z) (hzl:Nat.blt 0 z.length=true) (h1:fJ z=true)
  (hi:H[i]? =some (b,J l T)) (hn:0<n) (hl:off+n*z.length<=l.length):
  dU Γ ⟨d,.call ⟨.builtin .clear,#[x],ts⟩,ty,pos,af,g⟩ e H (λv' H'=>v'= .tuple #[]/\H'=H.set i (b,J (aV l off (mS (n*z.length) z)) T)):=by
 intro w hw
 subst hts
 obtain⟨g1,g2⟩:=wL hu
 have hx:=bM hx
 have hg:w.heap[b]? =some (J l T):=hw.own_blk (cr hi)
 obtain⟨zv,hzv,hzc⟩:=Ss hz w
 have hzl:0<z.length:=d9 ik (ah hzl)
 have hst:=run_storeCells_at Γ.P b off T (mS (n*z.length) z) 0 l.toArray w hg (by rw[Yd];simpa using hl) (by simpa[fJ] using aIu (n:=n*z.length) h1 hzl)
 simp only[gt]at hst
 have hn0:n≠0:=by omega
 have key:(Builtin.clear_ #[t] ty #[.slice (some ⟨b,off,none⟩) n c]).run Γ.P w= .ok (.tuple #[]) (w.setRow b (aV l off (mS (n*z.length) z)).toArray):=by
  obtain⟨n',rfl⟩:∃n',n=n'+1:=⟨n-1,by omega⟩
  simp[Builtin.clear_,ay,run_underlying g1,hzv,hzc,aLS,hst,aV]
 refine gP (v:= .tuple #[]) (w':=w.setRow b (aV l off (mS (n*z.length) z)).toArray) ?_ ⟨_,?_,U,U⟩
 ·simp only[execOp,resolve,ay,ca,ar,invoke,builtin,dg,cq,dh,hx,key]
 ·exact hw.setAt hi U U U (by simp[World.setRow]) (λk hk=>setRow_other w b k _ hk) (setRow_heap w b _ _ T _ hg)
def aEp{t:AJ}{x:AK}{lo hi mx:AK}{b off n c el s:Nat}{jl jh jm:Int}(l h m:Nat)(hx:bA (ev e x)=some (.slice (some ⟨b,off,none⟩) n c))
  (hu:qV P t=some (el,s)) (hlo:oU e (some lo)=some (some jl)) (hhi:oU e (some hi)=some (some jh)) (hmx:oU e (some mx)=some (some jm)) (hl:jl=(l:Int)) (hh:jh=(h:Int)) (hm:jm=(m:Int))
  (h1:l<=h) (h2:h<=m) (h3:m<=c):
  dL P e ⟨d,.slice t x (some lo) (some hi) (some mx),ty,pos,af,g⟩=some (.slice (some ⟨b,nG off l s m,none⟩) (h-l) (m-l)):=by
 obtain⟨g1,g2⟩:=wL hu
 have hx:=bM hx
 refine iY ?_ U
 have hb:Instr.sliceBounds true n c (some (ev e lo)) (some (ev e hi)) (some (ev e mx))=pure (l,h,m):=by
  simp only[Instr.sliceBounds,Ka hmx hm h3,Ka hhi hh h2,Ka hlo hl h1,pure_bind,Option.isSome_some,if_true]
 simp only[execOp,hx,Instr.sliceAt,Instr.slice,bind_assoc,nA g1,i4,hb,rU,vQ g2]
 unfold nG
 by_cases hcl:m=l
 ·simp only[hcl,if_true];rfl
 ·simp only[hcl,if_false,yN];rfl
end
def fl :List aF->aF
 | []=>[]
 | [a]=>a
 |a::b::r=>a++fl (b::r)
def aHZ(a:aF)(cs:List aF):fl (a::cs)=a++fl cs:=by
 cases cs with
 |nil=>simp[fl]
 |cons b r=>rfl
def aEL :∀(cs:List aF),fl cs=cs.flatten
 | []=>rfl
 |a::cs=>by rw[aHZ,aEL cs,List.flatten_cons]
def aRm{α:Type}{a b:List (List α)}(h:a.Perm b):a.flatten.Perm b.flatten:=by
 induction h with
 |nil=>exact .refl _
 |cons x _ ih=>simpa using ih.append_left x
 |swap x y l=>
  simp only[List.flatten_cons]
  rw[<-cx,<-cx]
  exact dz _ bf
 |trans _ _ ih1 ih2=>exact ih1.trans ih2
def Pw(n:Nat):AE->Bool
 | []=>true
 |i::r=>Nat.blt i n&& !(r.any (Nat.beq i))&&Pw n r
def aG7{α:Type}:∀(ix:AE) (cs:List α),Pw cs.length ix=true->∃rest,cs.Perm (ix.filterMap (cs[·]?)++rest):=by
 intro ix cs h
 have hnd:ix.Nodup/\∀i∈ix,i<cs.length:=by
  induction ix with
  |nil=>exact⟨List.nodup_nil,λ_ h=>by cases h⟩
  |cons i r ih=>
   simp only[Pw,ax,ew]at h
   obtain⟨⟨h1,h2⟩,h3⟩:=h
   obtain⟨g1,g2⟩:=ih h3
   refine⟨List.nodup_cons.2 ⟨λhm=>?_,g1⟩,λj hj=>?_⟩
   ·have:r.any (Nat.beq i)=true:=List.any_eq_true.2 ⟨i,hm,Nat.beq_refl i⟩
    rw[this]at h2;cases h2
   ·rcases List.mem_cons.1 hj with rfl|hj
    ·exact d9 (Nat.lt_succ_self _) (ah h1)
    ·exact g2 j hj
 have hall:cs=(List.range cs.length).filterMap (cs[·]?):=by
  clear h hnd
  induction cs with
  |nil=>rfl
  |cons x L ih=>
   rw[iy,List.range_succ_eq_map,List.filterMap_cons]
   simp only[fk,List.filterMap_map,Function.comp_def,er]
   rw[<-ih]
 refine⟨((List.range cs.length).filter (λi=> !ix.contains i)).filterMap (cs[·]?),?_⟩
 conv=>lhs;rw[hall]
 rw[<-List.filterMap_append]
 refine List.Perm.filterMap _ ?_
 rw[List.perm_ext_iff_of_nodup List.nodup_range (List.nodup_append.2 ⟨hnd.1,List.nodup_range.filter _,λa ha b hb=>by rintro rfl;simp at hb;exact hb.2 ha⟩)]
 intro a
 simp only[gw,i6,List.mem_filter,ew,List.contains_eq_mem,ai]
 constructor
 ·intro ha
  by_cases hm:a∈ix
  ·exact .inl hm
  ·exact .inr ⟨ha,hm⟩
 ·rintro(hm|hm)
  ·exact hnd.2 a hm
  ·exact hm.1
def St.fl{w0 w:AI}{ms:AE}(cs:List aF)(ix:AE)(hp:Pw cs.length ix=true)(h:St w0 ms (VV.fl cs) w):St w0 ms (VV.fl (ix.filterMap (cs[·]?))) w:=by
 obtain⟨rest,hr⟩:=aG7 ix cs hp
 rw[aEL]at h⊢
 exact(h.perm (aRm hr)).sub (by rw[List.flatten_append];exact cz _ _)
def St.as{w0 w:AI}{ms:AE}{L L':aF}(h:St w0 ms L w)(he:L=L'):St w0 ms L' w:=he▸h
end Go.VV
namespace Go.VV
open Go Go.ChangeShapes Go.WideShapes Go.ChangeAt Go.RowKit
inductive CK where
 |int (k:AM)
 |bool
 |str
def aOG :CK->AH->Prop
 | .int k,v=>∃n,v= .int k n/\(Lit.int k n).wf=true
 | .bool,v=>∃b,v= .bool b
 | .str,v=>∃s:ByteArray,v= .string s/\s.size<=maxLen
def lY :List CK->AA->Prop
 | [],[]=>True
 |k::ks,v::vs=>aOG k v/\lY ks vs
 |_,_=>False
def lY.app :∀{a b:List CK} {x y:AA},lY a x->lY b y->lY (a++b) (x++y)
 | [],_,[],_,_,h=>h
 |_::_,_,_::_,_,h,h2=>⟨h.1,lY.app h.2 h2⟩
 | [],_,_::_,_,h,_=>h.elim
 |_::_,_,[],_,h,_=>h.elim
section
variable (P:AL)
def Fu(f:AJ->Option (List CK)):List Field->Nat->Option (List CK)
 | [],_=>some []
 |fd::r,off=>match f fd.type with
  |some ks=>bif Nat.beq fd.offset off&&Nat.beq (P.cellsOf fd.type) ks.length then(match Fu f r (off+ks.length)with
   |some rs=>some (ks++rs)
   |none=>none)else none
  |none=>none
def tJ :Nat->AJ->Option (List CK)
 |0,_=>none
 |n+1,t=>match P.underlying t with
  |some (.int k)=>some [.int k]
  |some .bool=>some [.bool]
  |some .string=>some [.str]
  |some (.struct ⟨fs⟩)=>match Fu P (tJ n) fs 0 with
   |some ks=>bif Nat.beq (P.cellsOf t) ks.length then some ks else none
   |none=>none
  |_=>none
end
section
variable {H:Type}{enc:AJ×AH->H}{P:AL}{W:AI}{base:Nat}{spare:Nat->Bool}{held:Bool}
def aCh{f:AJ->Option (List CK)}{n:Nat}{cs:AA}(hf:∀{t:AJ} {ks:List CK} {xs:AA} {y:DataW H×List MemPlace},f t=some ks->DataW.trod enc P W base spare held n t xs=some y->lY ks xs):
  ∀(fs:List Field) (off:Nat) (ks:List CK),Fu P f fs off=some ks->(∀fd∈fs,∃y,DataW.trod enc P W base spare held n fd.type ((cs.drop fd.offset).take (P.cellsOf fd.type))=some y)->lY ks ((cs.drop off).take ks.length)
 | [],off,ks,h,_=>by cases h;simp[lY]
 |fd::r,off,ks,h,hy=>by
  simp only[Fu]at h
  split at h
  ·rename_i k1 hk1
   by_cases hb:(Nat.beq fd.offset off&&Nat.beq (P.cellsOf fd.type) k1.length)=true
   ·rw[hb,cond_true]at h
    simp only[ax]at hb
    have h1:=ci hb.1
    have h2:=ci hb.2
    split at h
    ·rename_i rs hrs
     cases h
     obtain⟨y,hy1⟩:=hy fd (.head _)
     have a1:=hf hk1 hy1
     have a2:=aCh hf r _ rs hrs λg hg=>hy g (.tail _ hg)
     rw[h1,h2]at a1
     rw[ef,iv,bi]
     exact a1.app a2
    ·cases h
   ·simp only[fh]at hb
    rw[hb,cond_false]at h
    cases h
  ·cases h
def K2 :∀(m:Nat) {n:Nat} {t:AJ} {ks:List CK} {cs:AA} {y:DataW H×List MemPlace},tJ P m t=some ks->DataW.trod enc P W base spare held n t cs=some y->lY ks cs
 |0,_,_,_,_,_,h,_=>by cases h
 |m+1,n,t,ks,cs,y,h,hy=>by
  simp only[tJ]at h
  split at h
  ·rename_i k ht
   cases h
   obtain⟨x,rfl,_,hw⟩:=DataW.trod_int ht hy
   exact⟨⟨x,U,hw⟩,trivial⟩
  ·rename_i ht
   cases h
   obtain⟨b,rfl,_⟩:=DataW.trod_bool ht hy
   exact⟨⟨b,U⟩,trivial⟩
  ·rename_i ht
   cases h
   obtain⟨s,rfl,_,hs⟩:=DataW.trod_string ht hy
   exact⟨⟨s,U,hs⟩,trivial⟩
  ·rename_i fs ht
   split at h
   ·rename_i k1 hk1
    by_cases hb:Nat.beq (P.cellsOf t) k1.length=true
    ·rw[hb,cond_true]at h
     cases h
     obtain⟨xs,n',rfl,_,hl,hlen,hf⟩:=DataW.trod_struct ht hy
     have:=aCh (cs:=cs) (λh1 h2=>K2 m h1 h2) fs 0 _ hk1 (λfd hfd=>by
      obtain⟨i,hi,rfl⟩:=gj hfd
      have h3:=hf i fs[i] (by simp[hi])
      have hi':i<xs.length:=by rw[hlen];simpa using hi
      rw[ap hi']at h3
      exact⟨_,h3⟩)
     rw[kh,<-ci hb,<-hl,dj]at this
     exact this
    ·simp only[fh]at hb
     rw[hb,cond_false]at h
     cases h
   ·cases h
  ·cases h
def Zi{α β:Type}{f:β->α}{p:β->Prop}:∀{L:List α},(∀r∈L,∃s,r=f s/\p s)->∃l:List β,L=l.map f/\∀s∈l,p s
 | [],_=>⟨[],rfl,λ_ h=>by cases h⟩
 |r::L,h=>by
  obtain⟨s,rfl,hs⟩:=h r (.head _)
  obtain⟨l,rfl,hl⟩:=Zi (L:=L) λx hx=>h x (.tail _ hx)
  exact⟨s::l,U,λx hx=>by rcases List.mem_cons.1 hx with rfl|hx;exact hs;exact hl x hx⟩
def aNn{α:Type}{t e:AJ}{ks:List CK}{c:α->AA}{p:α->Prop}(s:Nat){cs:AA}{n:Nat}{y:DataW H×List MemPlace}(ht:P.underlying t=some (.slice e))(hk:tJ P 9 e=some ks)(hc:P.cellsOf e=s)(hs:Nat.blt 0 s=true)
  (hp:∀cs,lY ks cs->∃x,cs=c x/\p x) (hf:DataW.trod enc P W 0 (λ_=>true) true n t cs=some y):
  ∃(a:AC) (cp:Nat) (l:List α),cs=[.slice a l.length cp]/\l.length<=cp/\l.length<=maxLen/\(∀x∈l,p x)/\eX W c a l:=by
 subst hc
 have hs:0<P.cellsOf e:=d9 ik (ah hs)
 rcases Deep.open_slice ht hf with⟨rfl,_⟩|⟨x,len,cap,m,n,D,Pl,rfl,_,hl,hm,hmm,_,hel⟩
 ·exact⟨none,0,[],U,be _,aq _,λ_ h=>(by cases h),eX.nil _ _ _⟩
 ·have hlm:len<=m:=by rw[hmm];split<;>omega
  have key:∀i,i<len->∃y:α,(∀j,j<P.cellsOf e->W.cell? ((x.add (i*P.cellsOf e)).add j)=(c y)[j]?)/\(c y).length=P.cellsOf e/\p y:=λi hi=>by
   obtain⟨cs,h1,h2⟩:=hel i (by omega)
   obtain⟨_,h3,h4⟩:=World.cells?_some h1
   obtain⟨y,rfl,hy⟩:=hp cs (K2 9 hk h2)
   exact⟨y,h4,h3,hy⟩
  have hne:∀i,i<len->∃y:Option α,∃z,y=some z/\(∀j,j<P.cellsOf e->W.cell? ((x.add (i*P.cellsOf e)).add j)=(c z)[j]?)/\(c z).length=P.cellsOf e/\p z:=λi hi=>by
   obtain⟨y,h1⟩:=key i hi;exact⟨some y,y,rfl,h1⟩
  obtain⟨f,hfy⟩:=Deep.choose_lt hne
  have hex:∀o∈(List.range len).map f,∃z,o=some z/\p z:=λo ho=>by
   obtain⟨i,hi,rfl⟩:=List.mem_map.1 ho
   obtain⟨z,h1,_,_,h4⟩:=hfy i (List.mem_range.1 hi)
   exact⟨z,h1,h4⟩
  obtain⟨L,hL,hLp⟩:=Zi hex
  have hlen:L.length=len:=by
   have:=congrArg List.length hL
   simpa using this.symm
  refine⟨some x,cap,L,by rw[hlen],by omega,by omega,hLp,λh0=>?_⟩
  obtain⟨b,off,spot⟩:=x
  have hg:∀i,(hi:i<L.length)->f i=some L[i]:=λi hi=>by
   have h5:((List.range len).map f)[i]? =(L.map some)[i]? :=by rw[hL]
   rw[de,de,ij (by omega),ap hi]at h5
   simpa using h5
  have hcell:∀i j,(hi:i<L.length)->j<P.cellsOf e->W.cell? (((⟨b,off,spot⟩:Addr).add (i*P.cellsOf e)).add j)=(c L[i])[j]? /\(c L[i]).length=P.cellsOf e:=λi j hi hj=>by
   obtain⟨z,h1,h2,h3,_⟩:=hfy i (by omega)
   have h6:=hg i hi
   rw[h1]at h6
   cases h6
   exact⟨h2 j hj,h3⟩
  have hspot:spot=none:=by
   obtain⟨h7,h8⟩:=hcell 0 0 h0 hs
   rw[ap (by omega)]at h7
   simpa[Addr.add] using World.cell?_spot h7
  subst hspot
  refine⟨b,off,U,λk v hv=>?_⟩
  have hcl:∀z∈L,(c z).length=P.cellsOf e:=λz hz=>by
   obtain⟨i,hi,rfl⟩:=gj hz
   exact(hcell i 0 hi hs).2
  have main:∀(L:List α) (o:Nat),(∀i j,(hi:i<L.length)->j<P.cellsOf e->W.cell? ⟨b,o+(i*P.cellsOf e+j),none⟩=(c L[i])[j]?)->(∀z∈L,(c z).length=P.cellsOf e)->∀k v,(aM c L)[k]? =some v->W.cell? ⟨b,o+k,none⟩=some v:=by
   intro L
   induction L with
   |nil=>intro o _ _ k v hv;simp[aM]at hv
   |cons z L ih=>
    intro o hc1 hc2 k v hv
    have hz:=hc2 z (.head _)
    rw[xZ]at hv
    rcases du k (P.cellsOf e)with hk1|hk1
    ·rw[di (by omega)]at hv
     have:=hc1 0 k (by simp) hk1
     rw[gf,bj]at this
     rw[this];exact hv
    ·rw[et (by omega),hz]at hv
     have h9:=ih (o+P.cellsOf e) (λi j hi hj=>by
      have:=hc1 (i+1) j (by simpa using hi) hj
      rw[jk,Nat.one_mul]at this
      rw[show o+P.cellsOf e+(i*P.cellsOf e+j)=o+(i*P.cellsOf e+P.cellsOf e+j)by omega]
      exact this) (λy hy=>hc2 y (.tail _ hy)) (k-P.cellsOf e) v hv
     rw[show o+P.cellsOf e+(k-P.cellsOf e)=o+k by omega]at h9
     exact h9
  refine main L off (λi j hi hj=>?_) hcl k v hv
  have:=(hcell i j hi hj).1
  rw[yN,yN]at this
  rw[show off+(i*P.cellsOf e+j)=off+i*P.cellsOf e+j by omega]
  exact this
def aMR{α:Type}{r:Reach}{b0:Nat}{t:AJ}{fs:Array Field}{ks:List CK}{c:α->AA}{p:α->Prop}{v:AH}{d:DataW H}{q:List MemPlace}(ht:P.underlying t=some (.struct fs))(hk:tJ P 9 t=some ks)
  (hp:∀cs,lY ks cs->∃x,cs=c x/\p x) (hv:Value.okWide P W r b0 t v) (h:DataW.Trod enc P W base spare held t v d q):
  ∃x:α,v= .agg (c x).toArray/\p x:=by
 obtain⟨⟨cs⟩,rfl,_⟩:=okWide_struct ht hv
 obtain⟨fuel,hf⟩:=h
 have h1:=K2 9 hk hf
 simp only[Value.cells]at h1
 obtain⟨x,hx,hpx⟩:=hp _ h1
 exact⟨x,by rw[<-hx],hpx⟩
end
end Go.VV
namespace Go.VV
open Go
def lL :List CK->AA->Bool
 | [],[]=>true
 | .int k::ks,.int k' _::vs=>decide (k=k')&&lL ks vs
 | .bool::ks,.bool _::vs=>lL ks vs
 | .str::ks,.string _::vs=>lL ks vs
 |_,_=>false
def Lj :AH->AH->Bool
 | .int _ a,.int _ b=>a==b
 | .bool a,.bool b=>a==b
 | .string a,.string b=>a.toList==b.toList
 |_,_=>false
def pV :AA->AA->Bool
 | [],[]=>true
 |x::xs,y::ys=>Lj x y&&pV xs ys
 |_,_=>false
def Ic :∀{a b:List CK} {xs:AA},lL (a++b) xs=true->∃x y,xs=x++y/\lL a x=true/\lL b y=true
 | [],b,xs,h=>⟨[],xs,rfl,rfl,h⟩
 | .int k::a,b,.int k' n::vs,h=>by
  simp only[cw,lL,ax]at h
  obtain⟨x,y,rfl,h1,h2⟩:=Ic (a:=a) (b:=b) (xs:=vs) h.2
  exact⟨.int k' n::x,y,U,by simp only[lL,ax];exact⟨h.1,h1⟩,h2⟩
 | .bool::a,b,.bool t::vs,h=>by
  obtain⟨x,y,rfl,h1,h2⟩:=Ic (a:=a) (b:=b) (xs:=vs) h
  exact⟨.bool t::x,y,U,h1,h2⟩
 | .str::a,b,.string t::vs,h=>by
  obtain⟨x,y,rfl,h1,h2⟩:=Ic (a:=a) (b:=b) (xs:=vs) h
  exact⟨.string t::x,y,U,h1,h2⟩
def Hp :∀{a:List CK} {x:AA},lL a x=true->x.length=a.length
 | [],[],_=>rfl
 | .int _::a,.int _ _::x,h=>by
  simp only[lL,ax]at h
  simp[Hp (a:=a) (x:=x) h.2]
 | .bool::a,.bool _::x,h=>by simp[Hp (a:=a) (x:=x) h]
 | .str::a,.string _::x,h=>by simp[Hp (a:=a) (x:=x) h]
def C1{k:AM}{x:AA}(h:lL [.int k] x=true):∃n,x=[.int k n]:=by
 cases x with
 |nil=>simp[lL]at h
 |cons v r=>
  cases v<;>simp[lL]at h
  obtain⟨rfl,h2⟩:=h
  cases r with
  |nil=>exact⟨_,rfl⟩
  |cons=>simp[lL]at h2
def aEv :∀{a b x y:AA},a.length=x.length->pV (a++b) (x++y)=(pV a x&&pV b y)
 | [],b,[],y,_=>by simp[pV]
 |u::a,b,v::x,y,h=>by
  simp only[cw,pV]
  rw[aEv (by simpa using h),Bool.and_assoc]
section
variable (P:AL)
def Wa(f:AJ->Bool):List Field->Bool
 | []=>true
 |fd::r=> !(fd.name== "_")&&f fd.type&&Wa f r
def Dh :Nat->AJ->Bool
 |0,_=>false
 |n+1,t=>match P.underlying t with
  |some (.int _)=>true
  |some .bool=>true
  |some .string=>true
  |some (.struct ⟨fs⟩)=> !(P.stoodInHeld t)&&Nat.beq ((jZ P t).getD 0) (P.cellsOf t)&&(jZ P t).isSome&&Wa (Dh n) fs
  |_=>false
def sD(t:AJ)(xs:AA):AH:=match P.underlying t with
 |some (.struct _)=> .agg xs.toArray
 |_=>xs.headD undef
end
section
variable {P:AL}
def aCq{w:AI}{t:AJ}{m:Nat}{ks:List CK}{X x R:AA}{off:Nat}(hk:tJ P m t=some ks)(he:Dh P m t=true)(hx:lL ks x=true)(hX:X.drop off=x++R)(hc:P.cellsOf t=ks.length):
  (part t X.toArray off).run P w= .ok (sD P t x) w:=by
 have hlen:=Hp hx
 cases m with
 |zero=>cases hk
 |succ m=>
  simp only[tJ]at hk
  simp only[Dh]at he
  split at hk
  ·rename_i k ht
   cases hk
   obtain⟨n,rfl⟩:=C1 hx
   ·have h0:X[off]? =some (.int k n):=by
     have:=congrArg (·[0]?) hX
     simpa using this
    simp[part,isAgg,run_underlying ht,h0,sD,ht]
  ·rename_i ht
   cases hk
   match x,hx with
   | [.bool n],_=>
    have h0:X[off]? =some (.bool n):=by
     have:=congrArg (·[0]?) hX
     simpa using this
    simp[part,isAgg,run_underlying ht,h0,sD,ht]
  ·rename_i ht
   cases hk
   match x,hx with
   | [.string n],_=>
    have h0:X[off]? =some (.string n):=by
     have:=congrArg (·[0]?) hX
     simpa using this
    simp[part,isAgg,run_underlying ht,h0,sD,ht]
  ·rename_i fs ht
   rw[ht]at he
   simp only[ax]at he
   obtain⟨⟨⟨_,h1⟩,h2⟩,_⟩:=he
   obtain⟨n,hn⟩:=Option.isSome_iff_exists.1 h2
   rw[hn]at h1
   have h3:=ci h1
   simp only[jy]at h3
   have hsz:=vC hn w
   have h5:(X.drop off).take n=x:=by
    rw[hX,h3,hc,<-hlen,fo]
    rfl
   simp[part,isAgg,run_underlying ht,hsz,sD,ht]
   exact h5
  ·cases hk
def Q4 :∀(m:Nat) {d:Nat} {w:AI} {t:AJ} {ks:List CK} {x y:AA},m<=d->tJ P m t=some ks->Dh P m t=true->lL ks x=true->lL ks y=true->
  (Op.equalIn d t (sD P t x) (sD P t y)).run P w= .ok (pV x y) w
 |0,_,_,_,_,_,_,_,h,_,_,_=>by cases h
 |m+1,0,_,_,_,_,_,hd,_,_,_,_=>by omega
 |m+1,d+1,w,t,ks,x,y,hd,hk,he,hx,hy=>by
  simp only[tJ]at hk
  simp only[Dh]at he
  split at hk
  ·rename_i k ht
   cases hk
   obtain⟨n,rfl⟩:=C1 hx
   obtain⟨n2,rfl⟩:=C1 hy
   simp[sD,ht,run_equalIn_int w d t k k n n2 ht,pV,Lj]
  ·rename_i ht
   cases hk
   match x,y,hx,hy with
   | [.bool n],[.bool n2],_,_=>simp[sD,ht,run_equalIn_bool' w d t n n2 ht,pV,Lj]
  ·rename_i ht
   cases hk
   match x,y,hx,hy with
   | [.string n],[.string n2],_,_=>simp[sD,ht,run_equalIn_string w d t n n2 ht,pV,Lj]
  ·rename_i fs ht
   rw[ht]at he
   simp only[ax,ew]at he
   obtain⟨⟨⟨hst,_⟩,_⟩,hof⟩:=he
   split at hk
   ·rename_i k1 hk1
    by_cases hb:Nat.beq (P.cellsOf t) k1.length=true
    ·rw[hb,cond_true]at hk
     cases hk
     have hfo:P.fieldsOf t=⟨fs⟩:=by simp[Program.fieldsOf,ht]
     have hv:∀z,sD P t z= .agg z.toArray:=λz=>by simp[sD,ht]
     rw[hv,hv,run_equalIn_struct w d t _ _ (by rw[hfo];exact ht) hst,hfo]
     have key:∀(fs:List Field) (off:Nat) (ks:List CK) (x1 y1:AA),Fu P (tJ P m) fs off=some ks->Wa (Dh P m) fs=true->lL ks x1=true->lL ks y1=true->(∃r,x.drop off=x1++r)->(∃r,y.drop off=y1++r)->
       (Op.eqFields d x.toArray y.toArray fs).run P w= .ok (pV x1 y1) w:=by
      intro fs
      induction fs with
      |nil=>
       intro off ks x1 y1 h1 _ h3 h4 _ _
       cases h1
       match x1,y1,h3,h4 with
       | [],[],_,_=>simp[Op.eqFields,pV]
      |cons f fs ih=>
       intro off ks x1 y1 h1 h2 h3 h4 h5 h6
       simp only[Fu]at h1
       simp only[Wa,ax,ew]at h2
       split at h1
       ·rename_i k2 hk2
        by_cases hb2:(Nat.beq f.offset off&&Nat.beq (P.cellsOf f.type) k2.length)=true
        ·rw[hb2,cond_true]at h1
         simp only[ax]at hb2
         have e1:=ci hb2.1
         have e2:=ci hb2.2
         split at h1
         ·rename_i rs hrs
          cases h1
          obtain⟨xa,xb,rfl,ha1,ha2⟩:=Ic h3
          obtain⟨ya,yb,rfl,hb1,hb2⟩:=Ic h4
          obtain⟨r1,hr1⟩:=h5
          obtain⟨r2,hr2⟩:=h6
          have p1:=aCq (w:=w) hk2 h2.1.2 ha1 (by rw[hr1,cx]) e2
          have p2:=aCq (w:=w) hk2 h2.1.2 hb1 (by rw[hr2,cx]) e2
          have p3:=Q4 m (d:=d) (w:=w) (by omega) hk2 h2.1.2 ha1 hb1
          have hnm:f.name≠ "_" :=by
           have:=h2.1.1
           intro h0;rw[h0]at this;simp at this
          have l1:=Hp ha1
          have l2:=Hp hb1
          have p4:=ih (off+k2.length) rs xb yb hrs h2.2 ha2 hb2 ⟨r1,by rw[<-bi,hr1,cx,eg l1]⟩ ⟨r2,by rw[<-bi,hr2,cx,eg l2]⟩
          rw[aEv (l1.trans l2.symm)]
          simp only[Op.eqFields,ag hnm,ay,e1,p1,p2,p3,ar]
          cases pV xa ya
          ·simp
          ·simpa using p4
         ·cases h1
        ·simp only[fh]at hb2
         rw[hb2,cond_false]at h1
         cases h1
       ·cases h1
     exact key fs 0 _ x y hk1 hof hx hy ⟨[],by simp⟩ ⟨[],by simp⟩
    ·simp only[fh]at hb
     rw[hb,cond_false]at hk
     cases hk
   ·cases hk
  ·cases hk
section
variable {e:bE}{d:AD}{t u ty:AJ}{pos:String}{af:AG}{g:Option (Nat×Bool)}{x y:AK}{l r:AA}{ks:List CK}
def Xy(P:AL)(t:AJ):Bool:=Dh P 9 t&& !(P.eqGuardType P.depth t)&&(match P.underlying t with
 |some (.struct _)=>true
 |_=>false)
def aJo(hx:bA (ev e x)=some (.agg ⟨l⟩))(hy:bA (ev e y)=some (.agg ⟨r⟩))(hk:tJ P 9 t=some ks)(hb:Xy P t=true)(h1:lL ks l=true)(h2:lL ks r=true)(w:AI):
  (execOp (ev e) ⟨d,.binOp .eql t x y u,ty,pos,af,g⟩).run P w= .ok (.value (.bool (pV l r))) w:=by
 have hx:=bM hx
 have hy:=bM hy
 simp only[Xy,ax,ew]at hb
 obtain⟨⟨b1,b2⟩,b3⟩:=hb
 have hv:∀z:AA,sD P t z= .agg ⟨z⟩:=λz=>by
  unfold sD
  split at b3
  ·rename_i ht;first|rfl|rw[ht]
  ·cases b3
 have key:=Q4 9 (d:=10000) (w:=w) (by omega) hk b1 h1 h2
 rw[hv,hv]at key
 have hgd:(eqGuard .eql t x y (.agg ⟨l⟩) (.agg ⟨r⟩)).run P w= .ok () w:=by simp[eqGuard,b2]
 simp only[execOp,hx,hy,ay]
 rw[hgd]
 simp only[ar]
 rw[run_eql_struct (P:=P) w t,key]
 rfl
variable {Γ:dJ}{H:aF}{k:fK}{ops rest:List Oper}{S:AI->Prop}{need:AE}{pl:kB}{i:Nat}
def aEJ(hx:bA (ev e x)=some (.agg ⟨l⟩))(hy:bA (ev e y)=some (.agg ⟨r⟩))(hk:tJ Γ.P 9 t=some ks)(hb:Xy Γ.P t=true)(h1:lL ks l=true)(h2:lL ks r=true)
  (hg:eS ops e ⟨d,.binOp .eql t x y u,ty,pos,af,g⟩=true) (hd:eQ Γ.n d=true) {b:Bool} (hv:pV l r=b) (h:L1 Γ ops rest k (e.put d (.bool b)) H):L1 Γ ops (⟨d,.binOp .eql t x y u,ty,pos,af,g⟩::rest) k e H:=by
 subst hv
 exact Ii (K:=λu H'=>u= .bool (pV l r)/\H'=H) hg hd (λw hw=>gP (aJo hx hy hk hb h1 h2 w) ⟨H,hw,U,U⟩) (by rintro _ _ ⟨rfl,rfl⟩;exact h)
end
end
end Go.VV
namespace Go.VV
open Go Go.RowKit
section
variable {P:AL}{Γ:dJ}{e:bE}{H:aF}{d:AD}{ty:AJ}{pos:String}{af:AG}{g:Option (Nat×Bool)}
def aK.seg{w:AI}{b off:Nat}{L l:AA}(h:aK w b off L)(k n:Nat)(hs:Bl ((L.drop k).take n)=some l):aK w b (off+k) l:=λj v hv=>by
 rw[<-Xr hs,fe]at hv
 split at hv
 ·rw[ee]at hv
  rw[ec];exact h _ _ hv
 ·cases hv
def sP{w0:AI}{ms:AE}{b:Nat}{l l':AA}{t:AJ}{fr:Nat×Nat}(hm:(b,Obj.cells l.toArray t fr)∈H)(k n:Nat)(hs:Bl ((l.drop k).take n)=some l'):∀w,St w0 ms H w->aK w b k l':=λw hw=>by
 have:=(aI (H:=H) hm w hw).seg k n hs
 rwa[bj]at this
def wY{t:AJ}{x y:AK}{T s by_:Nat}{v u:AH}{n m:Nat}{xs ys:AA}{G A:aF}{ts:Array AJ}
  (hx:ev e x=v) (hy:ev e y=u) (hts:ts= #[t,t]) (hp:xS Γ.P t=some (T,s,by_)) (hv:bS T s v n xs G)
  (hs:∀w,St Γ.w0 Γ.ms (A++G) w->vA w s u m ys) (h1:fJ ys=true) (hlen:n+m<=140737488355328) (hb:(n+m)*by_<=140737488355328):
  dU Γ ⟨d,.call ⟨.builtin .append,#[x,y],ts⟩,ty,pos,af,g⟩ e (A++G) (λv' H'=>∃G',bS T s v' (n+m) (xs++ys) G'/\(v'= .slice none 0 0->n=0/\m=0)/\H'=G'++A):=by
 have key:=lZ (Γ:=Γ) (e:=e) (d:=d) (ty:=ty) (pos:=pos) (af:=af) (g:=g) (A:=A) (R:=[]) hx hy hts hp hv (λw hw=>hs w (by simpa using hw)) h1 hlen hb
 intro w hw
 refine xL (key w (by simpa using hw)) ?_
 rintro v' w' ⟨H',h2,G',h3,h4,rfl⟩
 exact⟨G'++A,by simpa using h2,G',h3,h4,U⟩
def bS.as{T s n n':Nat}{v:AH}{xs xs':AA}{G:aF}(h:bS T s v n xs G)(hn:n=n')(hx:xs=xs'):bS T s v n' xs' G:=by subst hn hx;exact h
def bS.full{T s:Nat}{v:AH}{n:Nat}{xs:AA}{G:aF}(h:bS T s v n xs G)(hn:n≠0):
  ∃b cap sp,v= .slice (some ⟨b,0,none⟩) n cap/\G=[(b,J (xs++sp) T)]/\(xs++sp).length=cap*s/\n<=cap/\cap<=maxLen:=by
 cases h with
 |nil=>exact absurd rfl hn
 |row b _ cap _ sp h1 h2 h3 h4=>exact⟨b,cap,sp,rfl,rfl,h2,h4,h3⟩
def bS.alt{T s:Nat}{v:AH}{n:Nat}{xs:AA}{G:aF}(h:bS T s v n xs G):
  (v= .slice none 0 0/\n=0/\xs=[]/\G=[])\/∃b cap sp,v= .slice (some ⟨b,0,none⟩) n cap/\G=[(b,J (xs++sp) T)]/\(xs++sp).length=cap*s/\n<=cap/\cap<=maxLen:=by
 cases h with
 |nil=>exact .inl ⟨rfl,rfl,rfl,rfl⟩
 |row b _ cap _ sp h1 h2 h3 h4=>exact .inr ⟨b,cap,sp,rfl,rfl,h2,h4,h3⟩
def bS.all_{α:Type}{c:α->AA}{T s b cap:Nat}{l:List α}{sp:AA}(hc:∀x,(c x).length=s)(h2:(aM c l++sp).length=cap*s)(h4:l.length<=cap)(h3:cap<=maxLen):
  bS T s (.slice (some ⟨b,0,none⟩) l.length cap) l.length (aM c l) [(b,J (aM c l++sp) T)]:=
 .row b _ cap _ sp (gH hc l) h2 h3 h4
def Tv{α:Type}{c:α->AA}(h:∀x,fJ (c x)=true)(l:List α):fJ (aM c l)=true:=by
 refine List.all_eq_true.2 λx hx=>?_
 unfold aM at hx
 obtain⟨y,_,hy⟩:=List.mem_flatMap.1 hx
 exact List.all_eq_true.1 (h y) x hy
def St.lentV{w0 w:AI}{ms:AE}{F G:aF}(h:St w0 ms (F++G) w):St w (F.map (·.1)) F w:=by
 have hn:=h.nodup
 rw[bz,dx]at hn
 exact⟨U,U,U,be _,λ_ _ _=>U,hn.1,λx hx=> .inl (List.mem_map.2 ⟨x,hx,U⟩),λx hx=>h.holds x (gc _ hx)⟩
def St.lentA{w0 w:AI}{ms:AE}{F:aF}(h:St w0 ms F w):St w (F.map (·.1)) F w:=by
 have:St w0 ms (F++[]) w:=by simpa using h
 exact this.lentV
section
variable {α:Type}{c:α->AA}{s:Nat}(hc:∀x,(c x).length=s)
include hc
def aHr(l:List α)(j:Nat):(aM c l).drop (j*s)=aM c (l.drop j):=by
 rcases du j l.length with hj|hj
 ·have h1:aM c l=aM c (l.take j)++aM c (l.drop j):=by rw[<-vM,dp]
  have h2:(aM c (l.take j)).length=j*s:=by rw[gH hc,f2,fx (by omega)]
  rw[h1,<-h2,f3]
 ·rw[d5 hj,d5 (by rw[gH hc];exact gb _ hj)]
  rfl
def aNO{w:AI}{b off j cp:Nat}{l:List α}{sp:AA}(hr:aK w b off (aM c l++sp))(hj:j<=l.length)(hcp:l.length<=cp):aK w b (nG off j s cp) (aM c (l.drop j)):=by
 have h1:=(hr.left).cut (l:=j) (k:=l.length-j) (s:=s) (c:=cp) (by omega)
 rw[aHr hc]at h1
 have h2:(aM c (l.drop j)).length=(l.length-j)*s:=by rw[gH hc,ic]
 rw[<-h2,dj]at h1
 exact h1
def aRn(l:List α)(sp zs:AA){j:Nat}(_hj:j<=l.length):∃sp',aV (aV (aM c l++sp) (0*s) (aM c (l.drop j))) ((l.length-j)*s) zs=aM c (l.drop j)++sp':=by
 have h2:(aM c (l.drop j)).length=(l.length-j)*s:=by rw[gH hc,ic]
 rw[gf]
 unfold aV
 rw[gu,cg,bj]
 refine⟨zs++((aM c l++sp).drop (aM c (l.drop j)).length).drop zs.length,?_⟩
 rw[<-h2,io,<-bi,f3,cx]
def Sx(l:List α)(sp:AA)(j:Nat):0*s+(aM c (l.drop j)).length<=(aM c l++sp).length:=by
 rw[gH hc,ef,gH hc,ic,gf,bj]
 exact gr (gb _ (by omega)) (Nat.le_add_right _ _)
end
def aDs(b off s n c:Nat):Value.slice (some ⟨b,nG off 0 s c,none⟩) (n-0) (c-0)= .slice (some ⟨b,off,none⟩) n c:=by
 simp only[nG,gf,gt,ite_self,Nat.sub_zero]
end
end Go.VV
namespace Go.VV
open Go
def Ur{k:AM}{ks:List CK}{cs:AA}(h:lY (.int k::ks) cs):∃n vs,cs= .int k n::vs/\(Lit.int k n).wf=true/\lY ks vs:=by
 cases cs with
 |nil=>exact h.elim
 |cons v vs=>obtain⟨⟨n,rfl,hn⟩,h2⟩:=h;exact⟨n,vs,rfl,hn,h2⟩
def aDi{cs:AA}(h:lY [] cs):cs=[]:=by
 cases cs with
 |nil=>rfl
 |cons v vs=>exact h.elim
section
variable {Γ:dJ}{e:bE}{A:aF}{d:AD}{t:AJ}{pos:String}{af:AG}{g:Option (Nat×Bool)}
def iB{f:Nat}{l:AF}{ts:Array AJ}{vs:AA}(hc:iW Γ.P f=true)(hv:lA e l=some vs){R:AH->aF->Prop}
  (hf:∀w,St Γ.w0 Γ.ms A w->aG Γ.P f vs w (A.map (·.1)) R):
  dU Γ ⟨d,.call ⟨.value (.func f),l.toArray,ts⟩,t,pos,af,g⟩ e A (λv H2=>R v H2):=by
 intro w hw
 have key:=kP (Γ:=Γ) (e:=e) (d:=d) (t:=t) (pos:=pos) (af:=af) (g:=g) (ts:=ts) (A:=A) (G:=[]) (A.map (·.1)) hc hv (R:=R) (λ_ hb=>kA hb) (λw hw=>hf w (by simpa using hw))
 refine xL (key w (by simpa using hw)) ?_
 rintro v w' ⟨H',h2,G',h3,rfl⟩
 exact⟨G',by simpa using h2,h3⟩
end
def uG{α:Type}(w:AI)(c:α->AA)(a:AC)(l:List α):Prop:=(a=none/\l=[])\/∃b off,a=some ⟨b,off,none⟩/\aK w b off (aM c l)
def uG.later0{α:Type}{w0 w:AI}{H:aF}{c:α->AA}{a:AC}{l:List α}(h:uG w0 c a l)(hw:St w0 [] H w):uG w c a l:=by
 rcases h with h|⟨b,off,h1,h2⟩
 ·exact .inl h
 ·exact .inr ⟨b,off,h1,bU h2 (by simp) w hw⟩
def bS.slw{α:Type}{c:α->AA}{T s n:Nat}{v:AH}{G:aF}{l:List α}(h:bS T s v n (aM c l) G)(hc:∀x,(c x).length=s)(hs:0<s):
  ∃a cp,v= .slice a n cp/\l.length=n/\n<=cp/\(cp=0->n=0)/\(a=none->cp=0)/\∀w:AI,(∀x∈G,w.heap[x.1]? =some x.2)->uG w c a l:=by
 have hl:=h.len
 rw[gH hc]at hl
 have hn:l.length=n:=jr hs hl
 generalize hx:aM c l=xs at h
 cases h with
 |nil=>exact⟨none,0,rfl,hn,be _,λ_=>rfl,λ_=>rfl,λ_ _=> .inl ⟨rfl,db hn⟩⟩
 |row b _ cap _ sp h1 h2 h3 h4=>
  refine⟨_,cap,U,hn,h4,λh=>by omega,λh=>by(cases h),λw hw=> .inr ⟨b,0,U,?_⟩⟩
  have:=aK.all (w:=w) (b:=b) (hw _ (.head _))
  rw[<-hx]at this
  exact this.left
def Ch{Γ:dJ}{F:aF}{b:Nat}{l l':AA}{T:AJ}{fr:Nat×Nat}(hm:(b,Obj.cells l.toArray T fr)∈F)(k n:Nat)(hs:Bl ((l.drop k).take n)=some l'):∀w,kH Γ F w->aK w b k l':=
 λw ⟨_,hw,hF⟩=>sP (hF _ hm) k n hs w hw
def RowsIn(G:aF)(b off:Nat)(xs:AA):Prop:=∀w:AI,(∀x∈G,w.heap[x.1]? =some x.2)->aK w b off xs
def RowsIn.row{G H:aF}{b off:Nat}{xs:AA}(h:RowsIn G b off xs)(hs:∀x∈G,x∈H){w0:AI}{ms:AE}:∀w,St w0 ms H w->aK w b off xs:=
 λw hw=>h w λx hx=>hw.holds x (hs x hx)
section
variable {α:Type}{c:α->AA}{s:Nat}
def aK.at{w:AI}{b off:Nat}{l:List α}{i:Nat}{x:α}(h:aK w b off (aM c l))(hc:∀x,(c x).length=s)(hi:l[i]? =some x)(j:Nat){v:AH}(hv:(c x)[j]? =some v):
  w.cell? ⟨b,off+i*s+j,none⟩=some v:=aK.nth' hc h hi j v hv
def aK.part{w:AI}{b off:Nat}{l:List α}{i:Nat}{x:α}(h:aK w b off (aM c l))(hc:∀x,(c x).length=s)(hi:l[i]? =some x)(j n:Nat){v:AA}(hv:Bl (((c x).drop j).take n)=some v):
  aK w b (off+i*s+j) v:=(aK.nth' hc h hi).seg j n hv
def Tb{l:List α}{i:Nat}{x:α}(h:l[i]? =some x):(l.take (i+1))=l.take i++[x]:=by
 rw[f0,h];rfl
def Vk{l:List α}{i:Nat}(h:i<l.length):l[i]? =some l[i]:=ap h
end
def Eg{P:AL}{e:bE}{d:AD}{ty:AJ}{pos:String}{af:AG}{g:Option (Nat×Bool)}{t:AJ}{x hi:AK}{a:AC}{n c el s:Nat}{jh:Int}(h:Nat)
  (hx:bA (ev e x)=some (.slice a n c)) (hu:qV P t=some (el,s)) (hhi:oU e (some hi)=some (some jh)) (hh:jh=(h:Int)) (h2:h<=c):
  dL P e ⟨d,.slice t x none (some hi) none,ty,pos,af,g⟩=some (.slice a h c):=by
 obtain⟨g1,g2⟩:=wL hu
 have hx:=bM hx
 refine iY ?_ U
 have hb:=H4 (e:=e) (lo:=none) (hi:=some hi) (isS:=true) (n:=n) (c:=c) (jl:=none) (jh:=some jh) 0 h rfl hhi rfl (by simpa using hh) (aq _) h2
 rw[i5]at hb
 simp only[execOp,hx,Instr.sliceAt,Instr.slice,bind_assoc,nA g1,i5,hb,rU,vQ g2]
 have:(if c=0 then a else a.map (·.add (0*s)))=a:=by
  split
  ·rfl
  ·cases a<;>simp[Addr.add]
 rw[this];rfl
def bs(l:List UInt8):ByteArray:=⟨⟨l⟩⟩
def aJw(l:List UInt8):(bs l).toList=l:=by rw[ByteArray.toList_eq];rfl
def aRs(l:List UInt8):strOfNums (l.map λb=>(b.toNat:Int))=bs l:=by
 unfold strOfNums bs
 congr 1
 have:((λn:Int=>UInt8.ofNat n.toNat)∘λb:UInt8=>(b.toNat:Int))=id:=by funext b;simp
 rw[j1,this,List.map_id]
section
variable {P:AL}{e:bE}{d:AD}{ty t u:AJ}{pos:String}{af:AG}{g:Option (Nat×Bool)}{x y:AK}{a b:List UInt8}
def aGf(hx:bA (ev e x)=some (.string (bs a)))(hy:bA (ev e y)=some (.string (bs b))):
  dL P e ⟨d,.binOp .eql t x y u,ty,pos,af,g⟩=some (.bool (a==b)):=by
 refine iY ?_ U
 simp[execOp,eqGuard,bM hx,bM hy,binOp,Op.stringOp,aJw,eO,bind,Sem.bind,pure]
end
section
variable {Γ:dJ}{e:bE}{H:aF}{d:AD}{ty t dst el:AJ}{pos:String}{af:AG}{g:Option (Nat×Bool)}{x:AK}
def aDT(P:AL)(t:AJ):Bool:=match P.underlying t with
 |some (.slice el)=>(match P.underlying el with
  |some (.int .u8)=>true
  |_=>false)
 |_=>false
def aDG(P:AL)(t:AJ):Bool:=match P.underlying t with
 |some .string=>true
 |_=>false
def X1{b off n c:Nat}{l:List UInt8}(hx:bA (ev e x)=some (.slice (some ⟨b,off,none⟩) n c))(hs:aDT Γ.P t=true)(hd:aDG Γ.P dst=true)(hn:l.length=n)
  (hr:∀w,St Γ.w0 Γ.ms H w->aK w b off (l.map λc=> .int .u8 c.toNat)):
  dU Γ ⟨d,.convert t dst x,ty,pos,af,g⟩ e H (λv H'=>v= .string (bs l)/\H'=H):=by
 intro w hw
 have hx:=bM hx
 unfold aDT at hs
 split at hs<;>try cases hs
 rename_i el h1
 split at hs<;>try cases hs
 rename_i h2
 unfold aDG at hd
 split at hd<;>try cases hd
 rename_i h3
 have key:=run_convert_bytes_arg (P:=Γ.P) w t el h1 h2 b off n c (l.map λc=>(c.toNat:Int)) (by simpa using hn) (λi hi=>by
  have hi':i<l.length:=by omega
  have:=hr w hw i (.int .u8 l[i].toNat) (by simp[hi'])
  simpa[List.getD,hi'] using this) dst h3
 rw[aRs]at key
 refine gP (v:= .string (bs l)) (w':=w) ?_ ⟨_,hw,U,U⟩
 simp only[execOp,hx,ay,key,ar,ca]
end
def aAZ{w:AI}{b off:Nat}{l:AA}{T:AJ}{fr:Nat×Nat}(h:w.heap[b]? =some (.cells l.toArray T fr))(v:AH):(w.setCell ⟨b,off,none⟩ v).heap[b]? =some (.cells (l.set off v).toArray T fr):=by
 unfold World.setCell
 simp only
 rw[gz,ag rfl,h]
 simp
def aCK{w:AI}{a:Addr}{v:AH}(k:Nat)(hk:k≠a.block):(w.setCell a v).heap[k]? =w.heap[k]? :=by
 unfold World.setCell
 simp only
 rw[gz,ae (Ne.symm hk)]
def St.setCell{w0 w:AI}{ms:AE}{R:aF}{b off:Nat}{l:AA}{T:AJ}(h:St w0 ms ((b,J l T)::R) w)(v:AH):St w0 ms ((b,J (l.set off v) T)::R) (w.setCell ⟨b,off,none⟩ v):=
 h.turn rfl rfl rfl (by simp) (λk hk=>aCK k hk) (aAZ (h.holds (b,_) (.head _)) v)
def Lp{w:AI}{b off:Nat}{l:AA}{T:AJ}(h:w.heap[b]? =some (J l T)):w.frozen? ⟨b,off,none⟩=false:=by
 simp[World.frozen?,h]
def St.after{w0 w w':AI}{ms:AE}{A B:aF}(h:St w0 ms A w)(h':St w (A.map (·.1)) B w'):St w0 ms B w':=by
 have h1:St w0 ms (A++[]) w:=by simpa using h
 have:=h1.call (F:=A) (ms2:=A.map (·.1)) (λb hb=>kA hb) h'
 simpa using this
end Go.VV
namespace Go.VV
open Go Go.RowKit
section
variable {Γ:dJ}{e:bE}{H:aF}{d:AD}{ty:AJ}{pos:String}{af:AG}{g:Option (Nat×Bool)}
def aCa{t:AJ}{x y:AK}{T s by_:Nat}{a a2:AC}{n cp n2 c2:Nat}{ts:Array AJ}
  (hx:bA (ev e x)=some (.slice a n cp)) (hy:bA (ev e y)=some (.slice a2 n2 c2)) (h0:n2=0) (hts:ts= #[t,t]) (hp:xS Γ.P t=some (T,s,by_)) (hn:n<=cp):
  dU Γ ⟨d,.call ⟨.builtin .append,#[x,y],ts⟩,ty,pos,af,g⟩ e H (λv' H'=>v'= .slice a n cp/\H'=H):=by
 intro w hw
 subst hts h0
 have hx:=bM hx
 have hy:=bM hy
 unfold xS at hp
 split at hp<;>try cases hp
 rename_i el hu
 split at hp<;>try cases hp
 rename_i ti hti
 split at hp<;>try cases hp
 rename_i z hz
 split at hp<;>try cases hp
 have key:(Builtin.append_ #[t,t] ty #[.slice a n cp,.slice a2 0 c2]).run Γ.P w= .ok (.slice a n cp) w:=by
  cases a<;>cases a2<;>simp[Builtin.append_,run_underlying hu,sizeOf,typeInfo,hti,Builtin.lenOf,Builtin.firstCells,hn,storeCells,loadCells,loadCellsFrom]
 refine gP (v:= .slice a n cp) (w':=w) ?_ ⟨_,hw,U,U⟩
 simp only[execOp,resolve,ay,ca,ar,invoke,builtin,dg,cq,dh,hx,hy,key]
end
section
variable {Γ:dJ}{e:bE}{H:aF}{d:AD}{ty:AJ}{pos:String}{af:AG}{g:Option (Nat×Bool)}
def aDH(P:AL)(t:AJ):Bool:=match P.underlying t with
 |some (.int _)=>true
 |_=>false
end
section
variable {P:AL}{e:bE}{d:AD}{ty t:AJ}{pos:String}{af:AG}{g:Option (Nat×Bool)}{x:AK}
def aD0{a:AC}{n c:Nat}(hx:bA (ev e x)=some (.slice a n c))(hu:Oh P t=true):
  dL P e ⟨d,.call ⟨.builtin .cap,#[x],#[t]⟩,ty,pos,af,g⟩=some (.int .i64 c):=by
 refine iY ?_ U
 have hx:=bM hx
 unfold Oh at hu
 split at hu
 ·rename_i el h1
  simp only[execOp,resolve,dg,cq,dh,hx,rU,invoke,builtin,Builtin.cap_,bind_assoc,dr,fk,nA h1]
  rfl
 ·cases hu
end
def gE{A B vs:AA}{o n:Nat}(ho:o=A.length+n)(_h:n+vs.length<=B.length):aV (A++B) o vs=A++aV B n vs:=by
 subst ho
 unfold aV
 rw[j2,iz,dq (by omega),d5 (by omega),cg,show A.length+n-A.length=n by omega,show A.length+n+vs.length-A.length=n+vs.length by omega]
 simp
def mQ{A B vs:AA}{o:Nat}(h:o+vs.length<=A.length):aV (A++B) o vs=aV A o vs++B:=by
 unfold aV
 rw[ji (by omega),jj (by omega)]
 simp
def iR(l:AB)(o:Nat)(vs:AB):AB:=l.take o++vs++l.drop (o+vs.length)
def aKU{l vs:AB}{o:Nat}(h:o+vs.length<=l.length):(iR l o vs).length=l.length:=by
 unfold iR;simp;omega
def Fw(k:AM)(l vs:AB)(o:Nat):aV (l.map (.int k)) o (vs.map (.int k))=(iR l o vs).map (.int k):=by
 unfold aV iR;simp[fq,ii]
def aBL{l:AB}{o:Nat}(h:o<l.length)(x:Int):iR l o [x]=l.set o x:=by
 unfold iR
 rw[dt,ag h]
 simp
def vP{l:AB}{o:Nat}(k:AM)(h:o<l.length)(x:Int):aV (l.map (.int k)) o [.int k x]=(l.set o x).map (.int k):=by
 have:=Fw k l [x] o
 rw[aBL h]at this
 exact this
def gD{l:AB}{k:AM}{j:Nat}(h:j<l.length):(l.map (Value.int k))[j]? =some (.int k (l.getD j 0)):=by
 rw[de,ap h,da,ap h];rfl
def kM{A B:AA}{o:Nat}{v:AH}(h:A[o]? =some v):(A++B)[o]? =some v:=by
 have hl:o<A.length:=(List.getElem?_eq_some_iff.1 h).1
 rw[di hl];exact h
def iN{A B:AA}{o n:Nat}{v:AH}(ho:o=A.length+n)(h:B[n]? =some v):(A++B)[o]? =some v:=by
 subst ho
 rw[et (by omega)]
 simpa using h
def aK.right{w:AI}{b off n:Nat}{A B:AA}(h:aK w b off (A++B))(hn:n=off+A.length):aK w b n B:=λj v hv=>by
 subst hn
 have:=h (A.length+j) v (iN rfl hv)
 rwa[<-ec]at this
section
variable {Γ:dJ}{e:bE}{H:aF}{d:AD}{ty:AJ}{pos:String}{af:AG}{g:Option (Nat×Bool)}
def bD{t:AJ}{x y:AK}{b off:Nat}{v:AH}{vs l l':AA}{T:AJ}(i:Nat)
  (hx:bA (ev e x)=some (.pointer (some ⟨b,off,none⟩))) (hy:bA (ev e y)=some v) (hv:Ak v=some vs) (hn:jZ Γ.P t=some vs.length) (h1:fJ vs=true)
  (hi:H[i]? =some (b,J l T)) (hl:off+vs.length<=l.length) (hp:aV l off vs=l'):
  dU Γ ⟨d,.store t x y,ty,pos,af,g⟩ e H (λu H'=>u=undef/\H'=H.set i (b,J l' T)):=by
 subst hp
 exact hQ i hx hy hv hn h1 hi hl
end
end Go.VV
namespace Go.VV
open Go Go.ChangeShapes Go.WideShapes Go.ChangeAt Go.RowKit
inductive KD where
 |int (k:AM)
 |bool
 |str
 |ints (k:AM)
 |rows (ks:List CK)
section
variable {Γ:dJ}{e:bE}{H:aF}{d:AD}{ty:AJ}{pos:String}{af:AG}{g:Option (Nat×Bool)}
def aNz{t tn:AJ}{x y:AK}{T s by_:Nat}{n:Nat}{kk:AM}{ts:Array AJ}
  (hx:bA (ev e x)=some (.slice none 0 0)) (hy:bA (ev e y)=some (.int kk n)) (hts:ts= #[t,tn]) (htn:aDH Γ.P tn=true) (hp:xS Γ.P t=some (T,s,by_))
  (h0:0<n) (hlen:n<=1000000) (hb:by_<=1000):
  dU Γ ⟨d,.call ⟨.builtin .append,#[x,y],ts⟩,ty,pos,af,g⟩ e H (λv' H'=>∃b' cap sp,v'= .slice (some ⟨b',0,none⟩) n cap/\H'=(b',J sp T)::H/\sp.length=cap*s/\n<=cap/\cap<=maxLen):=by
 intro w hw
 subst hts
 have hx:=bM hx
 have hy:=bM hy
 unfold aDH at htn
 split at htn<;>try cases htn
 rename_i kn hkn
 unfold xS at hp
 split at hp<;>try cases hp
 rename_i el hu
 split at hp<;>try cases hp
 rename_i ti hti
 split at hp<;>try cases hp
 rename_i z hz
 split at hp<;>try cases hp
 rename_i hzs
 obtain⟨hz1,hz2⟩:=hzs
 have h48:n*ti.bytes<=281474976710656:=by
  have:n*ti.bytes<=1000000*1000:=Nat.mul_le_mul hlen hb
  omega
 have key:=Lib.run_append_nil_zeros (P:=Γ.P) w t tn ty T ti z kk kn hu hkn hti hz n h0 hz2 (by omega) h48
 have hge:=grownCap_ge w n 0 T
 have hcm:grownCap w n 0 T<=maxLen:=grownCap_le_maxLen w n 0 T (by unfold maxLen;omega)
 generalize hZ:(Builtin.zeroCells z.cells n++Builtin.zeroCells z.cells (grownCap w n 0 T-n))=Z at key
 have hzl:Z.size=grownCap w n 0 T*ti.size:=by
  rw[<-hZ]
  simp only[Array.size_append,size_zeroCells,hz1,<-jk]
  congr 1
  omega
 obtain⟨Z⟩:=Z
 refine gP (v:= .slice (some ⟨w.heap.size,0,none⟩) n (grownCap w n 0 T)) (w':=w.drew.alloc (J Z T)) ?_ ⟨_,hw.drew.alloc _,w.heap.size,grownCap w n 0 T,Z,U,U,by simpa using hzl,hge,hcm⟩
 simp only[execOp,resolve,ay,ca,ar,invoke,builtin,dg,cq,dh,hx,hy,key]
end
end Go.VV
namespace Go.VV
open Go Go.RowKit
def uW{n:Int}(h1: -9223372036854775808<=n)(h2:n<=9223372036854775807):Value.int .i64 (IntKind.i64.wrap n)= .int .i64 n:=congrArg _ (bZ h1 h2)
def Ug{n:Int}(h1:0<=n)(h2:n<256):Value.int .u8 (IntKind.u8.wrap n)= .int .u8 n:=congrArg _ (Ib h1 h2)
def Md{n:Int}(h1:0<=n)(h2:n<65536):Value.int .u16 (IntKind.u16.wrap n)= .int .u16 n:=congrArg _ (tW h1 h2)
def Hz{n:Int}(h1:0<=n)(h2:n<18446744073709551616):Value.int .u64 (IntKind.u64.wrap n)= .int .u64 n:=congrArg _ (qB h1 h2)
def Ra(n:Int):Value.int .u8 (IntKind.u8.wrap n)= .int .u8 (n%256):=congrArg _ (nW n)
def Ia(n:Int):Value.int .u16 (IntKind.u16.wrap n)= .int .u16 (n%65536):=congrArg _ (qC n)
def A3(n:Int):Value.int .u64 (IntKind.u64.wrap n)= .int .u64 (n%18446744073709551616):=congrArg _ (J9 n)
def aGu{k:AM}{a b:Int}(h:0<=a):Value.int k (a.tmod b)= .int k (a%b):=congrArg _ (cy h)
def nC :AM->Int
 | .u8=>256
 | .u16=>65536
 | .u64=>18446744073709551616
 | .i64=>9223372036854775808
 |_=>0
def Mj{k:AM}{n:Int}(h1:0<=n)(h2:n<nC k):k.wrap n=n:=by
 cases k<;>simp only[nC]at h2<;>first|omega|exact Ib h1 h2|exact tW h1 h2|exact qB h1 h2|exact bZ (by omega) (by omega)
def Ux{k:AM}{n:Int}(h1:0<=n)(h2:n<nC k):(BitVec.ofInt k.bits n).toNat=n.toNat:=by
 have:n<2^k.bits:=by cases k<;>simp only[nC]at h2<;>simp only[IntKind.bits]<;>omega
 rw[f4,Int.emod_eq_of_lt h1 (by simpa using this)]
def aID{k:AM}{a b:Int}(h1:0<=a)(h2:a<nC k)(hb:0<b):Value.int k (k.wrap (a.tdiv b))= .int k (a/b):=by
 rw[jt h1,Mj (kc h1 (by omega)) (Int.lt_of_le_of_lt (j3 _ h1) h2)]
def qM{k:AM}{a n:Int}(d:Int)(h:2^min n.toNat k.bits=d)(hd:0<d):Value.int k (shr k a n)= .int k (a/d):=by
 unfold shr
 rw[h,eu _ (by omega)]
def zY{k:AM}{a n:Int}(d:Int)(h:2^min n.toNat k.bits=d):shl k a n=k.wrap (a*d):=by unfold shl;rw[h]
def Cu{k:AM}{a n:Int}(d:Int)(h:2^min n.toNat k.bits=d)(h1:0<=a*d)(h2:a*d<nC k):Value.int k (shl k a n)= .int k (a*d):=by rw[zY d h,Mj h1 h2]
def L5{a n:Int}(d:Int)(h:2^min n.toNat 8=d):Value.int .u8 (shl .u8 a n)= .int .u8 (a*d%256):=by rw[zY d h,nW]
def aMV{a n:Int}(d:Int)(h:2^min n.toNat 16=d):Value.int .u16 (shl .u16 a n)= .int .u16 (a*d%65536):=by rw[zY d h,qC]
def aAn{k:AM}{a b:Int}(h1:0<=a)(h2:a<nC k)(h3:0<=b)(h4:b<nC k):aQ k a b=((a.toNat &&& b.toNat:Nat):Int):=by
 unfold aQ
 rw[ie,Ux h1 h2,Ux h3 h4]
 refine Mj (im _) ?_
 have:=Nat.and_le_left (n:=a.toNat) (m:=b.toNat)
 omega
def Wn{k:AM}{a b:Int}(h1:0<=a)(h2:a<nC k)(h3:0<=b)(h4:b<nC k):bI k a b=((a.toNat ||| b.toNat:Nat):Int):=by
 unfold bI
 rw[BitVec.toNat_or,Ux h1 h2,Ux h3 h4]
 refine Mj (im _) ?_
 have hm:∃m:Nat,nC k=((2^m:Nat):Int)\/nC k=0:=by
  cases k<;>first|exact⟨8,.inl rfl⟩|exact⟨16,.inl rfl⟩|exact⟨64,.inl rfl⟩|exact⟨63,.inl rfl⟩|exact⟨0,.inr rfl⟩
 obtain⟨m,hm|hm⟩:=hm
 ·have h5:a.toNat<2^m:=by rw[hm]at h2;omega
  have h6:b.toNat<2^m:=by rw[hm]at h4;omega
  have:=Nat.or_lt_two_pow h5 h6
  rw[hm];omega
 ·omega
def aM4{k:AM}{a b:Int}(n:Nat)(d:Int)(hd:((2^n:Nat):Int)=d)(hb:b=d-1)(h1:0<=a)(h2:a<nC k)(h4:b<nC k):aQ k a b=a%d:=by
 have hp:0<(2:Nat)^n:=ke n
 rw[aAn h1 h2 (by omega) h4]
 have:b.toNat=2^n-1:=by omega
 rw[this,fy,<-hd]
 obtain⟨m,rfl⟩:∃m:Nat,a=m:=⟨a.toNat,by omega⟩
 simp
def rE{k:AM}{a b:Int}(n:Nat)(d:Int)(hd:((2^n:Nat):Int)=d)(hb:b=d-1)(h1:0<=a)(h2:a<nC k)(h4:b<nC k):Value.int k (aQ k a b)= .int k (a%d):=congrArg _ (aM4 n d hd hb h1 h2 h4)
def aNf{k:AM}{a b:Int}(n:Nat)(hb:((2^n:Nat):Int)=b)(h1:0<=a)(h2:a<nC k)(h4:b<nC k):aQ k a b=a/b%2*b:=by
 have hp:0<(2:Nat)^n:=ke n
 rw[aAn h1 h2 (by omega) h4]
 have hbn:b.toNat=2^n:=by omega
 rw[hbn]
 have key:a.toNat &&& 2^n=(a.toNat/2^n%2)*2^n:=by
  apply je
  intro i
  rw[kf,Nat.testBit_two_pow]
  by_cases hi:n=i
  ·subst hi
   simp only[decide_true,iw]
   rw[Nat.testBit_mul_two_pow]
   simp[Nat.testBit_eq_decide_div_mod_eq]
  ·simp only[hi,decide_false,Bool.and_false]
   rw[Nat.testBit_mul_two_pow]
   rcases du i n with h|h
   ·simp[show ¬n<=i by omega]
   ·rcases Nat.mod_two_eq_zero_or_one (a.toNat/2^n)with h3|h3<;>rw[h3]
    ·simp
    ·obtain⟨q,hq⟩:∃q,i-n=q+1:=⟨i-n-1,by omega⟩
     rw[hq,Nat.testBit_succ]
     simp
 rw[key]
 obtain⟨m,rfl⟩:∃m:Nat,a=m:=⟨a.toNat,by omega⟩
 rw[<-hb]
 simp
def Ct{k:AM}{a b:Int}(n:Nat)(hb:((2^n:Nat):Int)=b)(h1:0<=a)(h2:a<nC k)(h4:b<nC k):Value.int k (aQ k a b)= .int k (a/b%2*b):=congrArg _ (aNf n hb h1 h2 h4)
section
variable {P:AL}{e:bE}{d:AD}{ty t u:AJ}{pos:String}{af:AG}{g:Option (Nat×Bool)}{x y:AK}{k:AM}{a b:Int}
def nD(hx:bA (ev e x)=some (.int k a))(hy:bA (ev e y)=some (.int k b)):dL P e ⟨d,.binOp .add t x y u,ty,pos,af,g⟩=some (.int k (k.wrap (a+b))):=by
 refine iY ?_ U
 simp[execOp,eqGuard,bM hx,bM hy,binOp,Op.intArith,eO,bind,Sem.bind,pure]
def mM(hx:bA (ev e x)=some (.int k a))(hy:bA (ev e y)=some (.int k b)):dL P e ⟨d,.binOp .sub t x y u,ty,pos,af,g⟩=some (.int k (k.wrap (a-b))):=by
 refine iY ?_ U
 simp[execOp,eqGuard,bM hx,bM hy,binOp,Op.intArith,eO,bind,Sem.bind,pure]
def zH(hx:bA (ev e x)=some (.int k a))(hy:bA (ev e y)=some (.int k b)):dL P e ⟨d,.binOp .mul t x y u,ty,pos,af,g⟩=some (.int k (k.wrap (a*b))):=by
 refine iY ?_ U
 simp[execOp,eqGuard,bM hx,bM hy,binOp,Op.intArith,eO,bind,Sem.bind,pure]
def cM(hx:bA (ev e x)=some (.int k a))(hy:bA (ev e y)=some (.int k b)):dL P e ⟨d,.binOp .and t x y u,ty,pos,af,g⟩=some (.int k (aQ k a b)):=by
 refine iY ?_ U
 simp[execOp,eqGuard,bM hx,bM hy,binOp,Op.intBits,eO,bind,Sem.bind,pure,aQ]
def dE(hx:bA (ev e x)=some (.int k a))(hy:bA (ev e y)=some (.int k b)):dL P e ⟨d,.binOp .or t x y u,ty,pos,af,g⟩=some (.int k (bI k a b)):=by
 refine iY ?_ U
 simp[execOp,eqGuard,bM hx,bM hy,binOp,Op.intBits,eO,bind,Sem.bind,pure,bI]
def Rs(hx:bA (ev e x)=some (.int k a))(hy:bA (ev e y)=some (.int k b)):dL P e ⟨d,.binOp .xor t x y u,ty,pos,af,g⟩=some (.int k (lK k a b)):=by
 refine iY ?_ U
 simp[execOp,eqGuard,bM hx,bM hy,binOp,Op.intBits,eO,bind,Sem.bind,pure,lK]
def zS(hx:bA (ev e x)=some (.int k a))(hy:bA (ev e y)=some (.int k b)):dL P e ⟨d,.binOp .andNot t x y u,ty,pos,af,g⟩=some (.int k (lD k a b)):=by
 refine iY ?_ U
 simp[execOp,eqGuard,bM hx,bM hy,binOp,Op.intBits,eO,bind,Sem.bind,pure,lD]
def O7(P:AL)(t:AJ):Option AM:=match P.underlying t with
 |some (.int k)=>some k
 |_=>none
def gF{src dst:AJ}{k2:AM}{n:Int}(hx:bA (ev e x)=some (.int k n))(hs:O7 P src=some k)(hd:O7 P dst=some k2):dL P e ⟨d,.convert src dst x,ty,pos,af,g⟩=some (.int k2 (k2.wrap n)):=by
 refine iY ?_ U
 unfold O7 at hs hd
 split at hs<;>try cases hs
 split at hd<;>try cases hd
 rename_i h1 _ h2
 simp only[execOp,convert,bind_assoc,nA h1,nA h2,bM hx]
 rfl
end
end Go.VV
namespace Go.VV
def Qs{a b:Int}(h:(a != b)=true):a≠b:=by simpa using h
def Pe{a b:Int}(h:(a != b)=false):a=b:=by simpa using h
end Go.VV
namespace Go.VV
def bS.cap_le{T s n m c:Nat}{a:AC}{xs:AA}{G:aF}(h:bS T s (.slice a m c) n xs G):n<=c/\m=n:=by
 cases h with
 |nil=>exact⟨be _,rfl⟩
 |row b n cap xs sp hn hc hm hle=>exact⟨hle,rfl⟩
section
variable {Γ:dJ}{e:bE}{H:aF}{d:AD}{t:AJ}{pos:String}{af:AG}{g:Option (Nat×Bool)}
def Eu{x y:AK}{ts:Array AJ}{tx ty el:AJ}{b off dl dc m:Nat}{u:AH}{l l' ys:AA}{T:AJ}(i:Nat)
  (hx:bA (ev e x)=some (.slice (some ⟨b,off,none⟩) dl dc)) (hy:ev e y=u) (hts:ts= #[tx,ty]) (hu:qV Γ.P tx=some (el,1))
  (hi:H[i]? =some (b,J l T)) (hs:∀w,St Γ.w0 Γ.ms H w->vA w 1 u m ys) (h1:fJ ys=true) (hl:off+min m dl<=l.length) (hp:aV l off (ys.take (min m dl))=l'):
  dU Γ ⟨d,.call ⟨.builtin .copy,#[x,y],ts⟩,t,pos,af,g⟩ e H (λv H'=>v= .int .i64 (min m dl:Nat)/\H'=H.set i (b,J l' T)):=by
 subst hp
 exact C7 i hx hy hts hu hi hs h1 hl
end
def tH{off l c:Nat}(h:c≠l):cut1 off l c=off+l:=by unfold cut1;rw[ae h]
def aK.dropK{k:AM}{w:AI}{b off:Nat}{l:AB}(h:aK w b off (l.map (.int k)))(n:Nat):aK w b (off+n) ((l.drop n).map (.int k)):=λj v hv=>by
 have:=h (n+j) v (by
  rw[de,ee]at hv
  rw[de];exact hv)
 rwa[<-ec]at this
def aK.takeK{k:AM}{w:AI}{b off:Nat}{l:AB}(h:aK w b off (l.map (.int k)))(n:Nat):aK w b off ((l.take n).map (.int k)):=λj v hv=>h j v (by
 rw[de,fe]at hv
 split at hv
 ·rw[de];exact hv
 ·simp at hv)
def Z9{A Z B:AB}{n:Nat}(h:A.length=n):iR (A++Z) n B=A++B++Z.drop B.length:=by
 subst h
 unfold iR
 rw[io,iz]
 simp
def aE9{l vs:AB}(h:vs.length=l.length):iR l 0 vs=vs:=by
 unfold iR;simp[h]
def Do(l:AB)(n j:Nat):(l.drop n).getD j 0=l.getD (n+j) 0:=by simp[da,ee]
def Ji(l:AB){n j:Nat}(h:j<n):(l.take n).getD j 0=l.getD j 0:=by rw[da,List.getElem?_take_of_lt h,<-da]
end Go.VV
namespace Go.VV
open Go Go.RowKit
def aL5{l:AB}{i:Nat}(hi:i<l.length)(h:3<l.getD i 0):(l.any λx=>decide (3<x))=true:=by
 rw[List.any_eq_true]
 refine⟨l[i],fi hi,?_⟩
 rw[da,ap hi]at h
 simpa using h
def aRe{l:AB}(h:∀j,j<l.length->¬3<l.getD j 0):(l.any λx=>decide (3<x))=false:=by
 rw[List.any_eq_false]
 intro x hx
 obtain⟨i,hi,rfl⟩:=gj hx
 have:=h i hi
 rw[da,ap hi]at this
 simpa using this
def aQU{x y:Int}(hx:0<=x/\x<256)(hy:0<=y/\y<256):bI .i64 x (256*y)=x+256*y:=by
 rw[Wn hx.1 (by show _<(9223372036854775808:Int);omega) (by omega) (by show _<(9223372036854775808:Int);omega)]
 have h1:(256*y).toNat=2^8*y.toNat:=by omega
 rw[h1,kg,<-f5 (by omega)]
 omega
def aE{p:Prop}(h:p:=by repeat(first|exact .head _|refine .tail _ ?_|refine d8 _ ?_)):p:=h
def bB{p:Prop}(h:p:=by repeat(first|exact jF.refl _ _|exact jF.mix rfl|refine jF.put rfl ?_|refine jF.keep rfl ?_)):p:=h
def r_f{p q:Prop}(h:p)(k:p->q:=by first|exact df|exact dk|exact eq_of_beq|exact ne_of_beq_false|exact Qs|exact Pe|exact id):q:=k h
def Mn{p:Prop}(h:p:=by first|rfl|exact ah rfl|(simp;done)):p:=h
def iF{p:Prop}(h:p:=by first|exact hQ 0 rfl rfl rfl rfl rfl rfl Mn|exact hQ 1 rfl rfl rfl rfl rfl rfl Mn|exact hQ 2 rfl rfl rfl rfl rfl rfl Mn|exact hQ 3 rfl rfl rfl rfl rfl rfl Mn):p:=h
def gT{p:Prop}(h:p:=by first|exact W9 rfl rfl|exact aPo rfl rfl|rfl):p:=h
def I{p:Prop}(h:p:=by omega):p:=h
def jL{p q:Prop}(k:p)(h:p->q:=by intro k;simp only[cw,cg,al,bg];exact k):q:=h k
def aY{p:Prop}(h:p:=by intro h;cases h):p:=h
section
variable {P:AL}{Γ:dJ}{k:fK}{e:bE}{H F:aF}{ops rest:List Oper}{d:AD}{op:Op}{t:AJ}{pos:String}{af:AG}{g:Option (Nat×Bool)}
  {need:AE} {pl:kB} {i:Nat} {S:AI->Prop}
def Rl {v:AH} (h:L1 Γ ops rest k (e.put d v) H) (hl:dL Γ.P e ⟨d,op,t,pos,af,g⟩=some v:=by exact rfl) (hg:eS ops e ⟨d,op,t,pos,af,g⟩=true:=by exact rfl) (hd:eQ Γ.n d=true:=by exact rfl):
    L1 Γ ops (⟨d,op,t,pos,af,g⟩::rest) k e H:=Hx hl hg hd h
def RLa {u f:Nat} {x:AK} {v:AH} (h:L1 Γ ops rest k (e.put d v) H) (hl:dL Γ.P e ⟨d,.fieldAddr u x f,t,pos,af,g⟩=some v:=by exact Gc rfl rfl) (hg:eS ops e ⟨d,.fieldAddr u x f,t,pos,af,g⟩=true:=by exact rfl) (hd:eQ Γ.n d=true:=by exact rfl):
    L1 Γ ops (⟨d,.fieldAddr u x f,t,pos,af,g⟩::rest) k e H:=Hx hl hg hd h
def RLp(h:L1 Γ ops rest k (e.put d undef) H)(hg:eS ops e ⟨d,op,t,pos,af,g⟩=false:=by exact rfl)(hd:eQ Γ.n d=true:=by exact rfl):L1 Γ ops (⟨d,op,t,pos,af,g⟩::rest) k e H:=l_p hg hd h
def RD {v:AH} (h:L2 Γ ops S need pl k (e.put d v) H) (ho:ops[i]? =some ⟨d,op,t,pos,af,g⟩:=by exact rfl) (hl:dL Γ.P e ⟨d,op,t,pos,af,g⟩=some v:=by exact rfl) (hv:Br v=true:=by exact rfl)
    (hg:eS ops e ⟨d,op,t,pos,af,g⟩=true:=by exact rfl) (hd:eQ Γ.n d=true:=by exact rfl):L2 Γ ops S need (.step true i pl) k e H:=Dt ho hl hv hg hd h
def RDa {v:AH} (h:L2 Γ ops S need pl k (e.put d v) H) (ho:ops[i]? =some ⟨d,op,t,pos,af,g⟩:=by exact rfl) (hl:dL Γ.P e ⟨d,op,t,pos,af,g⟩=some v:=by exact Gc rfl rfl) (hv:Br v=true:=by exact rfl)
    (hg:eS ops e ⟨d,op,t,pos,af,g⟩=true:=by exact rfl) (hd:eQ Γ.n d=true:=by exact rfl):L2 Γ ops S need (.step true i pl) k e H:=Dt ho hl hv hg hd h
def RLo {T:AJ} {x:AK} {b off:Nat} {l:AA} {U:AJ} {fr:Nat×Nat} {v:AH} (h:L1 Γ ops rest k (e.put d v) H) (hx:bA (ev e x)=some (.pointer (some ⟨b,off,none⟩)):=by exact rfl) (hs:xR Γ.P T=true:=by exact rfl)
    (hm:(b,Obj.cells l.toArray U fr)∈H:=by exact aE) (hv:l[off]? =some v:=by exact rfl) (hg:eS ops e ⟨d,.load T x,t,pos,af,g⟩=true:=by exact rfl) (hd:eQ Γ.n d=true:=by exact rfl):
    L1 Γ ops (⟨d,.load T x,t,pos,af,g⟩::rest) k e H:=I0 (aW hx hs (bT hm hv)) hg hd (by rintro _ _ ⟨rfl,rfl⟩;exact h)
def RDo {T:AJ} {x:AK} {b off:Nat} {l:AA} {U:AJ} {fr:Nat×Nat} {v:AH} (h:L2 Γ ops (kH Γ F) need pl k (e.put d v) H) (ho:ops[i]? =some ⟨d,.load T x,t,pos,af,g⟩:=by exact rfl) (hx:bA (ev e x)=some (.pointer (some ⟨b,off,none⟩)):=by exact rfl) (hs:xR Γ.P T=true:=by exact rfl)
    (hm:(b,Obj.cells l.toArray U fr)∈F:=by exact aE) (hv:l[off]? =some v:=by exact rfl) (hg:eS ops e ⟨d,.load T x,t,pos,af,g⟩=true:=by exact rfl) (hd:eQ Γ.n d=true:=by exact rfl):
    L2 Γ ops (kH Γ F) need (.step true i pl) k e H:=aAa ho hx hs (dQ hm hv) hg hd h
def RLb {b:Bool} (ht:b=true->L1 Γ ops rest k (e.put d (.bool true)) H) (hf:b=false->L1 Γ ops rest k (e.put d (.bool false)) H) (hl:dL Γ.P e ⟨d,op,t,pos,af,g⟩=some (.bool b):=by exact rfl) (hg:eS ops e ⟨d,op,t,pos,af,g⟩=true:=by exact rfl) (hd:eQ Γ.n d=true:=by exact rfl):
    L1 Γ ops (⟨d,op,t,pos,af,g⟩::rest) k e H:=l_b hl hg hd ht hf
def aO {f:Nat} {l:AF} {ts:Array AJ} {vs:AA} {u:AH} (hc:iW Γ.P f=true) (hf:∀w,St Γ.w0 Γ.ms H w->aG Γ.P f vs w [] (λv H'=>H'=[]/\v=u))
    (h:L1 Γ ops rest k (e.put d u) H) (hv:lA e l=some vs:=by exact rfl) (hg:eS ops e ⟨d,.call ⟨.value (.func f),l.toArray,ts⟩,t,pos,af,g⟩=true:=by exact rfl) (hd:eQ Γ.n d=true:=by exact rfl):
    L1 Γ ops (⟨d,.call ⟨.value (.func f),l.toArray,ts⟩,t,pos,af,g⟩::rest) k e H:=I0 (cZ hc hv hf) hg hd (by rintro _ _ ⟨rfl,rfl⟩;exact h)
end
structure Wr(q:Prop):Prop where
  u:q
def G_L{p q:Prop}(k_:q)(h:Wr q->p:=by intro k_;(first|refine RLa ?_|refine RLo ?_|refine RLp ?_|refine Rl ?_);exact k_.u):p:=h ⟨k_⟩
def G_D{p q:Prop}(k_:q)(h:Wr q->p:=by intro k_;(first|refine RDa ?_|refine RDo ?_|refine aFn rfl rfl rfl ?_|refine RD ?_);exact k_.u):p:=h ⟨k_⟩
section
variable {P:AL}{Γ:dJ}{k:fK}{e:bE}{H F L:aF}{ops rest:List Oper}{d:AD}{op:Op}{t:AJ}{pos:String}{af:AG}{g:Option (Nat×Bool)}
  {need:AE} {pl:kB} {i:Nat} {S:AI->Prop} {T F1:Prop}
def KC {c:AK} {x y:Code} {b:Bool} (h1:b=true->T->C Γ x k e L) (h2:b=false->F1->C Γ y k e L) (hc:ev e c= .bool b:=by exact rfl)
    (k1:b=true->T:=by first|exact df|exact eq_of_beq|exact Qs|exact id) (k2:b=false->F1:=by first|exact dk|exact ne_of_beq_false|exact Pe|exact id):C Γ (.cond c x y) k e L:=
  Pc hc (λh=>h1 h (k1 h)) (λh=>h2 h (k2 h))
def KL {b:Bool} (ht:b=true->T->L1 Γ ops rest k (e.put d (.bool true)) H) (hf:b=false->F1->L1 Γ ops rest k (e.put d (.bool false)) H) (hl:dL Γ.P e ⟨d,op,t,pos,af,g⟩=some (.bool b):=by exact rfl) (hg:eS ops e ⟨d,op,t,pos,af,g⟩=true:=by exact rfl) (hd:eQ Γ.n d=true:=by exact rfl)
    (k1:b=true->T:=by first|exact df|exact eq_of_beq|exact Qs|exact id) (k2:b=false->F1:=by first|exact dk|exact ne_of_beq_false|exact Pe|exact id):
    L1 Γ ops (⟨d,op,t,pos,af,g⟩::rest) k e H:=l_b hl hg hd (λh=>ht h (k1 h)) (λh=>hf h (k2 h))
def KE {b:Bool} (ht:b=true->T->L2 Γ ops S need pl k (e.put d (.bool true)) H) (hf:b=false->F1->L2 Γ ops S need pl k (e.put d (.bool false)) H) (ho:ops[i]? =some ⟨d,op,t,pos,af,g⟩:=by exact rfl) (hl:dL Γ.P e ⟨d,op,t,pos,af,g⟩=some (.bool b):=by exact rfl) (hg:eS ops e ⟨d,op,t,pos,af,g⟩=true:=by exact rfl) (hd:eQ Γ.n d=true:=by exact rfl)
    (k1:b=true->T:=by first|exact df|exact eq_of_beq|exact Qs|exact id) (k2:b=false->F1:=by first|exact dk|exact ne_of_beq_false|exact Pe|exact id):
    L2 Γ ops S need (.step true i pl) k e H:=aPv ho hl hg hd (λh=>ht h (k1 h)) (λh=>hf h (k2 h))
def RX {K:AH->aF->Prop} (hop:dU Γ ⟨d,op,t,pos,af,g⟩ e H K) (hg:(eS ops e ⟨d,op,t,pos,af,g⟩&&eQ Γ.n d)=true) (hk:∀v H',K v H'->L1 Γ ops rest k (e.put d v) H'):
    L1 Γ ops (⟨d,op,t,pos,af,g⟩::rest) k e H:=I0 hop (Bool.and_eq_true_iff.1 hg).1 (Bool.and_eq_true_iff.1 hg).2 hk
def RY {v:AH} (hl:dL Γ.P e ⟨d,op,t,pos,af,g⟩=some v) (hg:(eS ops e ⟨d,op,t,pos,af,g⟩&&eQ Γ.n d)=true) (h:L1 Γ ops rest k (e.put d v) H):
    L1 Γ ops (⟨d,op,t,pos,af,g⟩::rest) k e H:=Hx hl (Bool.and_eq_true_iff.1 hg).1 (Bool.and_eq_true_iff.1 hg).2 h
def RW {v u:AH} (hl:dL Γ.P e ⟨d,op,t,pos,af,g⟩=some u) (hg:(eS ops e ⟨d,op,t,pos,af,g⟩&&eQ Γ.n d)=true) (hv:u=v) (h:L1 Γ ops rest k (e.put d v) H):
    L1 Γ ops (⟨d,op,t,pos,af,g⟩::rest) k e H:=aLI hl (Bool.and_eq_true_iff.1 hg).1 (Bool.and_eq_true_iff.1 hg).2 hv h
def DX {K:AH->aF->Prop} (ho:ops[i]? =some ⟨d,op,t,pos,af,g⟩) (hop:dU Γ ⟨d,op,t,pos,af,g⟩ e H K) (hg:(eS ops e ⟨d,op,t,pos,af,g⟩&&eQ Γ.n d)=true) (hn:need.any (Nat.beq i)=true->∀v H',K v H'->∀x∈F,x∈H')
    (hk:∀v H',K v H'->L2 Γ ops (kH Γ F) need pl k (e.put d v) H'):
    L2 Γ ops (kH Γ F) need (.step false i pl) k e H:=d_x ho hop (Bool.and_eq_true_iff.1 hg).1 (Bool.and_eq_true_iff.1 hg).2 hn hk
def DW {v u:AH} (ho:ops[i]? =some ⟨d,op,t,pos,af,g⟩) (hl:dL Γ.P e ⟨d,op,t,pos,af,g⟩=some u) (hg:(Br u&&(eS ops e ⟨d,op,t,pos,af,g⟩&&eQ Γ.n d))=true) (hv:u=v) (h:L2 Γ ops S need pl k (e.put d v) H):
    L2 Γ ops S need (.step true i pl) k e H:=aMp ho hl (Bool.and_eq_true_iff.1 hg).1 (Bool.and_eq_true_iff.1 (Bool.and_eq_true_iff.1 hg).2).1 (Bool.and_eq_true_iff.1 (Bool.and_eq_true_iff.1 hg).2).2 hv h
def DY {v:AH} (ho:ops[i]? =some ⟨d,op,t,pos,af,g⟩) (hl:dL Γ.P e ⟨d,op,t,pos,af,g⟩=some v) (hg:(Br v&&(eS ops e ⟨d,op,t,pos,af,g⟩&&eQ Γ.n d))=true) (h:L2 Γ ops S need pl k (e.put d v) H):
    L2 Γ ops S need (.step true i pl) k e H:=Dt ho hl (Bool.and_eq_true_iff.1 hg).1 (Bool.and_eq_true_iff.1 (Bool.and_eq_true_iff.1 hg).2).1 (Bool.and_eq_true_iff.1 (Bool.and_eq_true_iff.1 hg).2).2 h
def DL {T:AJ} {x:AK} {b off:Nat} {v:AH} (ho:ops[i]? =some ⟨d,.load T x,t,pos,af,g⟩) (hx:bA (ev e x)=some (.pointer (some ⟨b,off,none⟩))) (hs:xR Γ.P T=true)
    (hc:∀w,kH Γ F w->w.cell? ⟨b,off,none⟩=some v) (hg:(eS ops e ⟨d,.load T x,t,pos,af,g⟩&&eQ Γ.n d)=true) (h:L2 Γ ops (kH Γ F) need pl k (e.put d v) H):
    L2 Γ ops (kH Γ F) need (.step true i pl) k e H:=aAa ho hx hs hc (Bool.and_eq_true_iff.1 hg).1 (Bool.and_eq_true_iff.1 hg).2 h
def W {v:AH} {H2:aF} (hop:dU Γ ⟨d,op,t,pos,af,g⟩ e H (λu H'=>u=v/\H'=H2)) (hg:(eS ops e ⟨d,op,t,pos,af,g⟩&&eQ Γ.n d)=true) (hk:L1 Γ ops rest k (e.put d v) H2):
    L1 Γ ops (⟨d,op,t,pos,af,g⟩::rest) k e H:=RX hop hg (by rintro _ _ ⟨rfl,rfl⟩;exact hk)
def DZ {v:AH} {H2:aF} (ho:ops[i]? =some ⟨d,op,t,pos,af,g⟩) (hop:dU Γ ⟨d,op,t,pos,af,g⟩ e H (λu H'=>u=v/\H'=H2)) (hg:(eS ops e ⟨d,op,t,pos,af,g⟩&&eQ Γ.n d)=true) (hn:need.any (Nat.beq i)=true->∀u H',(u=v/\H'=H2)->∀x∈F,x∈H')
    (hk:L2 Γ ops (kH Γ F) need pl k (e.put d v) H2):L2 Γ ops (kH Γ F) need (.step false i pl) k e H:=DX ho hop hg hn (by rintro _ _ ⟨rfl,rfl⟩;exact hk)
def RS {v:AH} (h:L1 Γ ops rest k (e.put d v) H) (hl:dL Γ.P e ⟨d,op,t,pos,af,g⟩=some v:=by exact qJ rfl rfl rfl rfl) (hg:(eS ops e ⟨d,op,t,pos,af,g⟩&&eQ Γ.n d)=true:=by exact rfl):
    L1 Γ ops (⟨d,op,t,pos,af,g⟩::rest) k e H:=RY hl hg h
def E0{Γ:dJ}{s:Nat}{R:AH->aF->Prop}{v:AH}(hv:bA (e s)=some v)(h:R v []):rW Γ [.tmp s] R e H:=aU (λ_ _=>yE hv) h
def EV{Γ:dJ}{s:Nat}{R:AH->aF->Prop}{H':aF}{v:AH}(hv:bA (e s)=some v)(hh:H'.Sublist H)(h:R v H'):rW Γ [.tmp s] R e H:=iM (λ_ _=>yE hv) hh h
def EN{Γ:dJ}{R:AH->aF->Prop}{H':aF}(hh:H'.Sublist H)(h:R (.tuple #[]) H'):rW Γ [] R e H:=iM (λ_ _=>pJ) hh h
end
@[reducible] def bQ : AE → kB
  | []=> .done
  |n::l=> .step (Nat.beq (n%2) 0) (n/2) (bQ l)
def DR {Γ:dJ} {k:fK} {e:bE} {H:aF} {id:Nat} {l:List Oper} (need:AE) (pl:kB) (h:L2 Γ l (kH Γ H) need pl k e H) (hm:Γ.P.follows .mixedOrders=true:=by exact rfl) (hs:Tl l.toArray=true:=by kernel_rfl)
    (hB:mD .any l.toArray (λi=>need.any (Nat.beq i)) pl l.toArray.size true (Array.replicate l.toArray.size false) true=true:=by kernel_rfl):C Γ (.region id l.toArray true) k e H:=nH H need pl hm hs hB (λ_ h=>h) h
end Go.VV
namespace Go.VV
open Go Go.ChangeShapes Go.WideShapes Go.ChangeAt Go.RowKit
inductive NK where
 |int (k:AM)
 |bool
 |str
 |ints (k:AM)
 |rows (ks:List CK)
def aIF(W:AI):NK->AH->Prop
 | .int k,v=>∃n,v= .int k n/\(Lit.int k n).wf=true
 | .bool,v=>∃b,v= .bool b
 | .str,v=>∃s:ByteArray,v= .string s/\s.size<=maxLen
 | .ints k,v=>∃(a:AC) (c:Nat) (l:AB),v= .slice a l.length c/\l.length<=c/\l.length<=maxLen/\(∀x∈l,(Lit.int k x).wf=true)/\Ns W k a l
 | .rows ks,v=>∃(a:AC) (c:Nat) (l:List (List AH)),v= .slice a l.length c/\l.length<=c/\l.length<=maxLen/\(∀x∈l,lY ks x)/\eX W id a l
def sV(W:AI):List NK->AA->Prop
 | [],[]=>True
 |k::ks,v::vs=>aIF W k v/\sV W ks vs
 |_,_=>False
def sV.app{W:AI}:∀{a b:List NK} {x y:AA},sV W a x->sV W b y->sV W (a++b) (x++y)
 | [],_,[],_,_,h=>h
 |_::_,_,_::_,_,h,h2=>⟨h.1,sV.app h.2 h2⟩
 | [],_,_::_,_,h,_=>h.elim
 |_::_,_,[],_,h,_=>h.elim
section
variable (P:AL)
def Un(f:AJ->Option (List NK)):List Field->Nat->Option (List NK)
 | [],_=>some []
 |fd::r,off=>match f fd.type with
  |some ks=>bif Nat.beq fd.offset off&&Nat.beq (P.cellsOf fd.type) ks.length then(match Un f r (off+ks.length)with
   |some rs=>some (ks++rs)
   |none=>none)else none
  |none=>none
def Rk :Nat->AJ->Option (List NK)
 |0,_=>none
 |n+1,t=>match P.underlying t with
  |some (.int k)=>some [.int k]
  |some .bool=>some [.bool]
  |some .string=>some [.str]
  |some (.slice e)=>match P.underlying e with
   |some (.int k)=>bif Nat.beq (P.cellsOf e) 1 then some [.ints k]else none
   |_=>match tJ P 9 e with
    |some ks=>bif Nat.blt 0 (P.cellsOf e)then some [.rows ks]else none
    |none=>none
  |some (.struct ⟨fs⟩)=>match Un P (Rk n) fs 0 with
   |some ks=>bif Nat.beq (P.cellsOf t) ks.length then some ks else none
   |none=>none
  |_=>none
end
def aMX{H:Type}{enc:AJ×AH->H}{P:AL}{W:AI}{n:Nat}{t e:AJ}{k:AM}{cs:AA}{y:DataW H×List MemPlace}(ht:P.underlying t=some (.slice e))(he:P.underlying e=some (.int k))(hc:P.cellsOf e=1)
  (hf:DataW.trod enc P W 0 (λ_=>true) true n t cs=some y):sV W [NK.ints k] cs:=by
 rcases open_ints ht he hc hf with⟨rfl,_⟩|⟨x,l,c,zs,rfl,_,hl,hm,hz,_,hcell,hwz⟩
 ·exact⟨⟨none,0,[],U,be _,aq _,by simp,Ns.nil _ _ _⟩,trivial⟩
 ·have hz':zs.length=c:=by simpa using hz
  have hlen:(zs.take l).length=l:=by rw[f2];omega
  refine⟨⟨some x,c,zs.take l,by rw[hlen],by omega,by omega,λy hy=>hwz y (dd hy),λh0=>?_⟩,trivial⟩
  obtain⟨b,off,spot⟩:=x
  have h1:=hcell 0 (by omega)
  have hspot:spot=none:=by simpa[Addr.add] using World.cell?_spot h1
  subst hspot
  refine⟨b,off,U,λj v hv=>?_⟩
  rw[de]at hv
  rw[fe]at hv
  split at hv
  ·have hj:j<zs.length:=by omega
   have:=hcell j hj
   have hadd:(⟨b,off,none⟩:Addr).add j=⟨b,off+j,none⟩:=by unfold Addr.add;split<;>simp_all
   rw[hadd]at this
   rw[ap hj]at hv
   simp only[i4,Option.some.injEq]at hv
   subst hv
   simpa[da,hj] using this
  ·cases hv
section
variable {H:Type}{enc:AJ×AH->H}{P:AL}{W:AI}
def aB9{f:AJ->Option (List NK)}{n:Nat}{cs:AA}(hf:∀{t:AJ} {ks:List NK} {xs:AA} {y:DataW H×List MemPlace},f t=some ks->DataW.trod enc P W 0 (λ_=>true) true n t xs=some y->sV W ks xs):
  ∀(fs:List Field) (off:Nat) (ks:List NK),Un P f fs off=some ks->(∀fd∈fs,∃y,DataW.trod enc P W 0 (λ_=>true) true n fd.type ((cs.drop fd.offset).take (P.cellsOf fd.type))=some y)->sV W ks ((cs.drop off).take ks.length)
 | [],off,ks,h,_=>by cases h;simp[sV]
 |fd::r,off,ks,h,hy=>by
  simp only[Un]at h
  split at h
  ·rename_i k1 hk1
   by_cases hb:(Nat.beq fd.offset off&&Nat.beq (P.cellsOf fd.type) k1.length)=true
   ·rw[hb,cond_true]at h
    simp only[ax]at hb
    have h1:=ci hb.1
    have h2:=ci hb.2
    split at h
    ·rename_i rs hrs
     cases h
     obtain⟨y,hy1⟩:=hy fd (.head _)
     have a1:=hf hk1 hy1
     have a2:=aB9 hf r _ rs hrs λg hg=>hy g (.tail _ hg)
     rw[h1,h2]at a1
     rw[ef,iv,bi]
     exact a1.app a2
    ·cases h
   ·simp only[fh]at hb
    rw[hb,cond_false]at h
    cases h
  ·cases h
def aFQ :∀(m:Nat) {n:Nat} {t:AJ} {ks:List NK} {cs:AA} {y:DataW H×List MemPlace},Rk P m t=some ks->DataW.trod enc P W 0 (λ_=>true) true n t cs=some y->sV W ks cs
 |0,_,_,_,_,_,h,_=>by cases h
 |m+1,n,t,ks,cs,y,h,hy=>by
  simp only[Rk]at h
  split at h
  ·rename_i k ht
   cases h
   obtain⟨x,rfl,_,hw⟩:=DataW.trod_int ht hy
   exact⟨⟨x,U,hw⟩,trivial⟩
  ·rename_i ht
   cases h
   obtain⟨b,rfl,_⟩:=DataW.trod_bool ht hy
   exact⟨⟨b,U⟩,trivial⟩
  ·rename_i ht
   cases h
   obtain⟨s,rfl,_,hs⟩:=DataW.trod_string ht hy
   exact⟨⟨s,U,hs⟩,trivial⟩
  ·rename_i e ht
   split at h
   ·rename_i k he
    by_cases hb:Nat.beq (P.cellsOf e) 1=true
    ·rw[hb,cond_true]at h
     cases h
     exact aMX ht he (ci hb) hy
    ·simp only[fh]at hb
     rw[hb,cond_false]at h
     cases h
   ·split at h
    ·rename_i ks1 hk1
     by_cases hb:Nat.blt 0 (P.cellsOf e)=true
     ·rw[hb,cond_true]at h
      cases h
      obtain⟨a,cp,l,rfl,h1⟩:=aNn (c:=id) (p:=lY ks1) _ ht hk1 rfl hb (λcs hc=>⟨cs,rfl,hc⟩) hy
      exact⟨⟨a,cp,l,U,h1⟩,trivial⟩
     ·simp only[fh]at hb
      rw[hb,cond_false]at h
      cases h
    ·cases h
  ·rename_i fs ht
   split at h
   ·rename_i k1 hk1
    by_cases hb:Nat.beq (P.cellsOf t) k1.length=true
    ·rw[hb,cond_true]at h
     cases h
     obtain⟨xs,n',rfl,_,hl,hlen,hf⟩:=DataW.trod_struct ht hy
     have:=aB9 (cs:=cs) (λh1 h2=>aFQ m h1 h2) fs 0 _ hk1 (λfd hfd=>by
      obtain⟨i,hi,rfl⟩:=gj hfd
      have h3:=hf i fs[i] (by simp[hi])
      have hi':i<xs.length:=by rw[hlen];simpa using hi
      rw[ap hi']at h3
      exact⟨_,h3⟩)
     rw[kh,<-ci hb,<-hl,dj]at this
     exact this
    ·simp only[fh]at hb
     rw[hb,cond_false]at h
     cases h
   ·cases h
  ·cases h
def U1{α:Type}{r:Reach}{b0:Nat}{t:AJ}{fs:Array Field}{ks:List NK}{c:α->AA}{p:α->Prop}{v:AH}{d:DataW H}{q:List MemPlace}(ht:P.underlying t=some (.struct fs))(hk:Rk P 9 t=some ks)
  (hp:∀cs,sV W ks cs->∃x,cs=c x/\p x) (hv:Value.okWide P W r b0 t v) (h:DataW.Trod enc P W 0 (λ_=>true) true t v d q):∃x:α,v= .agg (c x).toArray/\p x:=by
 obtain⟨⟨cs⟩,rfl,_⟩:=okWide_struct ht hv
 obtain⟨fuel,hf⟩:=h
 have h1:=aFQ 9 hk hf
 simp only[Value.cells]at h1
 obtain⟨x,hx,hpx⟩:=hp _ h1
 exact⟨x,by rw[<-hx],hpx⟩
def aE5{α:Type}{ks:List CK}{c:α->AA}{p:α->Prop}{a:AC}{L:List (List AH)}(hp:∀cs,lY ks cs->∃x,cs=c x/\p x)(h:∀x∈L,lY ks x)(he:eX W id a L):∃l:List α,L.length=l.length/\(∀x∈l,p x)/\eX W c a l:=by
 obtain⟨l,rfl,hl⟩:=Zi (f:=c) (p:=p) λx hx=>hp x (h x hx)
 refine⟨l,jb _,hl,λh0=>?_⟩
 obtain⟨b,o,h1,h2⟩:=he (by simpa using h0)
 exact⟨b,o,h1,by simpa[aM,List.flatMap_map] using h2⟩
end
end Go.VV
namespace Go.VV
open Go Go.RowKit
section
variable {Γ:dJ}{e:bE}{d:AD}{t:AJ}{pos:String}{af:AG}{g:Option (Nat×Bool)}
def aCm{F A G:aF}{f:Nat}{l:AF}{ts:Array AJ}{vs:AA}(ms2:AE)(hc:iW Γ.P f=true)(hv:lA e l=some vs){R:AH->aF->Prop}
  (hms:∀b∈ms2,∃o,(b,o)∈A) (hf:∀w,St Γ.w0 Γ.ms (A++(F++G)) w->aG Γ.P f vs w ms2 R):
  dU Γ ⟨d,.call ⟨.value (.func f),l.toArray,ts⟩,t,pos,af,g⟩ e (F++(A++G)) (λv H2=>∃H',R v H'/\H2=F++(H'++G)):=by
 have key:=kP (Γ:=Γ) (e:=e) (d:=d) (t:=t) (pos:=pos) (af:=af) (g:=g) (A:=A) (G:=F++G) (ts:=ts) (vs:=vs) ms2 hc hv hms hf
 intro w hw
 have hw2:St Γ.w0 Γ.ms (A++(F++G)) w:=hw.perm (by
  rw[<-cx,<-cx]
  exact dz _ bf)
 refine xL (key w hw2) ?_
 rintro v w' ⟨H2,h2,H',hR,rfl⟩
 refine⟨F++(H'++G),h2.perm ?_,H',hR,U⟩
 rw[<-cx,<-cx]
 exact dz _ bf
end
def aK.apart{w0 w:AI}{b off:Nat}{l:AA}(h:aK w0 b off l)(hl:0<l.length){H:aF}(hw:St w0 [] H w){x:Nat×Obj}(hm:x∈H):b≠x.1:=by
 rintro rfl
 have h1:=h 0 (l[0]) (by rw[ap hl])
 have h2:=(hw.own x hm).resolve_left (by simp)
 have h3:w0.heap[x.1]? =none:=fp (by omega)
 simp[World.cell?,h3]at h1
section
variable {P:AL}{e:bE}{d:AD}{ty:AJ}{pos:String}{af:AG}{g:Option (Nat×Bool)}
def aBJ{α:Type}{t:AJ}{b:Bool}(h:sG P t=b)(hu:(P.underlying t).isSome=true)(K:Bool->Sem α):eO P (isAgg t >>= K)=eO P (K b):=by
 subst h
 unfold sG
 cases hd:P.underlying t with
 |none=>rw[hd]at hu;cases hu
 |some D=>
  simp only[isAgg,bind_assoc,nA hd]
  cases D<;>rfl
def Oo{t el n:Nat}{x i:AK}{k:AM}{j:Int}{l:AA}{u v:AH}(m:Nat)(hu:xC P t=some (n,el,1))(hs:sG P el=false)(hsu:(P.underlying el).isSome=true)(hx:bA (ev e x)=some (.agg ⟨l⟩))(hi:bA (ev e i)=some (.int k j))(hj:j=(m:Int))(hm:m<n)(hv:l[m]? =some u)(hw:bA u=some v):
  dL P e ⟨d,.index t x i,ty,pos,af,g⟩=some v:=by
 have hn:=bM hw
 subst hn
 obtain⟨h1,h2⟩:=Lu hu
 have hx:=bM hx
 have hi:=bM hi
 subst hj
 refine iY ?_ hw
 have h3:(0:Int)<=(m:Int)/\(m:Int)<(n:Int):=⟨by omega,by omega⟩
 simp only[execOp,hx,hi,Instr.index,asIntOf,rU,bind_assoc,nA h1,h3,and_self,if_true,vQ h2,c8,part,aBJ hs hsu,fw]
 have h6:(Array.mk l)[m]? =some u:=by simpa using hv
 simp[h6,eO,pure,bind,Sem.bind]
def Qe{t el n s:Nat}{x i:AK}{k:AM}{j:Int}{l c:AA}(m:Nat)(hu:xC P t=some (n,el,s))(hs:sG P el=true)(hsu:(P.underlying el).isSome=true)(hx:bA (ev e x)=some (.agg ⟨l⟩))(hi:bA (ev e i)=some (.int k j))(hj:j=(m:Int))(hm:m<n)(hv:(l.drop (m*s)).take s=c):
  dL P e ⟨d,.index t x i,ty,pos,af,g⟩=some (.agg ⟨c⟩):=by
 obtain⟨h1,h2⟩:=Lu hu
 have hx:=bM hx
 have hi:=bM hi
 subst hj
 refine iY ?_ U
 have h3:(0:Int)<=(m:Int)/\(m:Int)<(n:Int):=⟨by omega,by omega⟩
 simp only[execOp,hx,hi,Instr.index,asIntOf,rU,bind_assoc,nA h1,h3,and_self,if_true,vQ h2,c8,part,aBJ hs hsu]
 have h6:(Array.mk l).extract (m*s) (m*s+s)=Array.mk c:=by
  rw[<-hv]
  simp
 rw[h6]
 rfl
end
abbrev hY :=Int×AH×Nat
def mL(k:AM)(e:hY):MapEntry:={key:= .int k e.1,val:=e.2.1,born:=e.2.2}
def cY(k:AM)(l:List hY)(c:Nat):Obj:= .map (l.map (mL k)).toArray c
def kI(a:Int):List hY->Nat->Option (Nat×AH)
 | [],_=>none
 |e::l,i=>if a=e.1 then some (i,e.2.1)else kI a l (i+1)
def aEz(k:AM)(a:Int):∀(l:List hY) (i:Nat),Instr.findNow (.int k) (.int k a) (l.map (mL k)) i=some (kI a l i)
 | [],_=>rfl
 |e::l,i=>by
  show(match Instr.sameNow (.int k) (.int k a) (mL k e).key with
   |some true=>some (some (i,(mL k e).val))
   |some false=>Instr.findNow (.int k) (.int k a) (l.map (mL k)) (i+1)
   |none=>none)=_
  have h1:Instr.sameNow (.int k) (.int k a) (mL k e).key=some (a==e.1):=by show(if k=k then some (a==e.1)else none)=_;rw[ag rfl]
  rw[h1]
  unfold kI
  by_cases h:a=e.1
  ·rw[show(a==e.1)=true by simpa using h,ag h];rfl
  ·rw[show(a==e.1)=false by simpa using h,ae h];exact aEz k a l (i+1)
def Ax(P:AL)(t:AJ):Option (Nat×Nat×AM):=match P.underlying t with
 |some (.map kt el)=>match P.underlying kt with
  |some (.int k)=>some (kt,el,k)
  |_=>none
 |_=>none
def Ju{P:AL}{t kt el:Nat}{k:AM}(h:Ax P t=some (kt,el,k)):P.underlying t=some (.map kt el)/\P.underlying kt=some (.int k):=by
 unfold Ax at h
 split at h
 ·split at h
  ·rename_i h1 _ _ h2
   cases h
   exact⟨h1,h2⟩
  ·cases h
 ·cases h
def M6(P:AL)(t:AJ):Option AH:=(P.info? t).bind (·.zero)
def aMT{P:AL}{t:AJ}{z:AH}(h:M6 P t=some z)(w:AI):(zeroValue t).run P w= .ok z w:=by
 unfold M6 at h
 cases hi:P.info? t with
 |none=>rw[hi]at h;cases h
 |some i=>
  rw[hi]at h
  simp[zeroValue,typeInfo,hi,show i.zero=some z from h]
def Nz{P:AL}{w:AI}{b:Nat}{es:Array MapEntry}{c:Nat}(h:w.heap[b]? =some (.map es c)):(getObj b).run P w= .ok (.map es c) w:=by
 simp[getObj,Sem.run,h]
def I2{P:AL}{w:AI}{b:Nat}{es:Array MapEntry}{c:Nat}(h:w.heap[b]? =some (.map es c))(o:Obj):(setObj b o).run P w= .ok () {w with heap:=w.heap.setIfInBounds b o}:=by
 simp[setObj,Sem.run,h]
def Mt{P:AL}{w:AI}{em:Bool}{kt:Nat}{k:AM}{a:Int}(h:P.underlying kt=some (.int k)):(Instr.checkKey em 10000 kt (.int k a)).run P w= .ok () w:=by
 show(Instr.checkKey em (9999+1) kt (.int k a)).run P w=_
 unfold Instr.checkKey
 simp only[ay,run_underlying h,ar]
 rfl
def Uk{P:AL}{w:AI}{kt:Nat}{k:AM}{a:Int}(h:P.underlying kt=some (.int k))(l:List hY):(Instr.findKey kt (.int k a) (l.map (mL k))).run P w= .ok (kI a l 0) w:=by
 unfold Instr.findKey
 simp only[ay,run_underlying h,ar,aEz,ca]
section
variable {Γ:dJ}{e:bE}{H:aF}{d:AD}{ty:AJ}{pos:String}{af:AG}{g:Option (Nat×Bool)}
def aAo{t:AJ}(k:AM):dU Γ ⟨d,.makeMap t none,ty,pos,af,g⟩ e H (λu H'=>∃b,u= .map (some b)/\H'=(b,cY k [] 0)::H):=by
 intro w hw
 refine gP (v:= .map (some w.heap.size)) (w':=w.alloc (cY k [] 0)) ?_ ⟨_,hw.alloc _,_,U,U⟩
 simp[execOp,Instr.makeMap,newObj]
 rfl
def St.setObj{w0 w:AI}{ms:AE}{i b:Nat}{o o':Obj}(hw:St w0 ms H w)(hi:H[i]? =some (b,o)):St w0 ms (H.set i (b,o')) {w with heap:=w.heap.setIfInBounds b o'}:=by
 have hb:w.heap[b]? =some o:=hw.holds (b,o) (cr hi)
 have hlt:b<w.heap.size:=(Array.getElem?_eq_some_iff.1 hb).1
 exact hw.setAt hi U U U (by simp) (λk hk=>by simp[gk (Ne.symm hk)]) (by simp[hlt])
def aAJ{t kt el:AJ}{m x y:AK}{b c:Nat}{k:AM}{a:Int}{v:AH}{l:List hY}(i:Nat)(hu:Ax Γ.P t=some (kt,el,k))(hm:bA (ev e m)=some (.map (some b)))(hx:bA (ev e x)=some (.int k a))(hy:bA (ev e y)=some v)
  (hi:H[i]? =some (b,cY k l c)) (hf:kI a l 0=none):dU Γ ⟨d,.mapUpdate t m x y,ty,pos,af,g⟩ e H (λu H'=>u=undef/\H'=H.set i (b,cY k (l++[(a,v,c)]) (c+1))):=by
 intro w hw
 obtain⟨h1,h2⟩:=Ju hu
 have hm:=bM hm
 have hx:=bM hx
 have hy:=bM hy
 have hb:w.heap[b]? =some (cY k l c):=hw.holds (b,_) (cr hi)
 have hS:=hw.setObj (o':=cY k (l++[(a,v,c)]) (c+1)) hi
 have e1:((l.map (mL k)).toArray.push {key:= .int k a,val:=v,born:=c})=((l++[(a,v,c)]).map (mL k)).toArray:=by simp[mL]
 refine Zr (w':={w with heap:=w.heap.setIfInBounds b (cY k (l++[(a,v,c)]) (c+1))}) ?_ ⟨_,hS,U,U⟩
 have key:(Instr.mapUpdate t (.map (some b)) (.int k a) v).run Γ.P w= .ok () {w with heap:=w.heap.setIfInBounds b (cY k (l++[(a,v,c)]) (c+1))}:=by
  unfold Instr.mapUpdate
  simp only[ay,run_underlying h1,ar,Nz hb,Mt h2,ey,Uk h2,hf,e1,I2 hb]
  rfl
 simp only[execOp,hm,hx,hy,ay,key,ar,ca]
def nT{t kt el:AJ}{m x y:AK}{b c:Nat}{k:AM}{a:Int}{v:AH}{l:List hY}(i:Nat)(hu:Ax Γ.P t=some (kt,el,k))(hm:bA (ev e m)=some (.map (some b)))(hx:bA (ev e x)=some (.int k a))(hy:bA (ev e y)=some v)
  (hi:H[i]? =some (b,cY k l c)) (hf:kI a l 0=none):dU Γ ⟨d,.insert t m x y,ty,pos,af,g⟩ e H (λu H'=>u=undef/\H'=H.set i (b,cY k (l++[(a,v,c)]) (c+1))):=aAJ (d:=d) (ty:=ty) (pos:=pos) (af:=af) (g:=g) i hu hm hx hy hi hf
def Lv(z:AH):Option (Nat×AH)->Array AH
 |some (_,v)=> #[v,.bool true]
 |none=> #[z,.bool false]
def aER{t kt el:AJ}{m x:AK}{b c:Nat}{k:AM}{a:Int}{z:AH}{l:List hY}(hu:Ax Γ.P t=some (kt,el,k))(hm:bA (ev e m)=some (.map (some b)))(hx:bA (ev e x)=some (.int k a))(hz:M6 Γ.P el=some z)
  (hi:(b,cY k l c)∈H):dU Γ ⟨d,.lookup t m x true,ty,pos,af,g⟩ e H (λu H'=>u= .tuple (Lv z (kI a l 0))/\H'=H):=by
 intro w hw
 obtain⟨h1,h2⟩:=Ju hu
 have hm:=bM hm
 have hx:=bM hx
 have hb:w.heap[b]? =some (cY k l c):=hw.holds (b,_) hi
 refine gP (v:= .tuple (Lv z (kI a l 0))) (w':=w) ?_ ⟨_,hw,U,U⟩
 have key:(Instr.lookup t (.map (some b)) (.int k a) true).run Γ.P w= .ok (.tuple (Lv z (kI a l 0))) w:=by
  unfold Instr.lookup
  simp only[ay,run_underlying h1,ar,Nz hb,Mt h2,ca,ey,Uk h2]
  cases hf:kI a l 0 with
  |none=>simp only[ay,aMT hz,ar,ca];rfl
  |some p=>simp only[ca,ar];rfl
 simp only[execOp,hm,hx,ay,key,ar,ca]
end
section
variable {Γ:dJ}{e:bE}{H:aF}{d:AD}{t:AJ}{pos:String}{af:AG}{g:Option (Nat×Bool)}
def aLA{f:Nat}{fn:Func}{l:AF}{ts:Array AJ}{vs:AA}{E:Array AH->Sem AH}{u:AH}(hf:Γ.P.funcs[f]? =some fn) (hname:(fn.name== "runtime.NumGoroutine")=false)
  (hb:fn.body.isNone=true) (hn:Extern.findNext fn=none) (he:Extern.find fn=some E) (hv:lA e l=some vs) (hr:∀w,(E vs.toArray).run Γ.P w= .ok u w):
  dU Γ ⟨d,.call ⟨.value (.func f),l.toArray,ts⟩,t,pos,af,g⟩ e H (λv H'=>v=u/\H'=H):=by
 intro w hw
 refine gP (v:=u) (w':=w) ?_ ⟨H,hw,U,U⟩
 have hargs:l.map (ev e)=vs:=Dj hv
 have h1:=run_callFunc_extern hf hname hb hn he vs.toArray w
 rw[hr w]at h1
 simp only[ar]at h1
 subst hargs
 simp[execOp,resolve,Deferred.ofValue,ev,invoke,h1]
def aPl{x y:AK}{ts:Array AJ}{pt it el:AJ}{b:Nat}{a:List UInt8}{sp:AA}(hx:bA (ev e x)=some (.pointer (some ⟨b,0,none⟩)))(hy:bA (ev e y)=some (.int .i64 a.length))(hts:ts= #[pt,it])
  (hp:Γ.P.underlying pt=some (.pointer el)) (hc:Γ.P.cellsOf el=1) (h0:a≠[]) (hl:a.length<=1000000):
  dU Γ ⟨d,.call ⟨.builtin .unsafeString,#[x,y],ts⟩,t,pos,af,g⟩ e ((b,J (a.map (λc=> .int .u8 c.toNat)++sp) el)::H) (λv H'=>v= .string (bs a)/\∃o,H'=(b,o)::H):=by
 intro w hw
 subst hts
 have hx:=bM hx
 have hy:=bM hy
 have hg:w.heap[b]? =some (J (a.map (λc=> .int .u8 c.toNat)++sp) el):=hw.own_blk (.head _)
 have hpos:=List.length_pos_iff.2 h0
 have hsh:w.shape? b=some (el,(a.map (λc=>Value.int .u8 c.toNat)++sp).toArray.size):=by unfold World.shape?; rw[hg]
 have hrun:=Lib.run_unsafeString_row (P:=Γ.P) (w:=w) pt it t el hp hc b _ hsh a h0 (by simp) (by omega) (λj c hj=>by
  have:=aI (H:=(b,J (a.map (λc=> .int .u8 c.toNat)++sp) el)::H) (.head _) w hw j (.int .u8 c.toNat) (by
   rw[di (by rw[jb];exact(List.getElem?_eq_some_iff.1 hj).1),de,hj];rfl)
  rw[yN,bj]
  simpa using this)
 refine gP (v:= .string (bs a)) (w':=w.freeze ⟨b,0,none⟩ a.length) ?_ ?_
 ·simp only[execOp,resolve,ay,ca,ar,invoke,builtin,dg,cq,dh,hx,hy,hrun]
  rfl
 ·refine⟨(b,Obj.cells (a.map (λc=>Value.int .u8 c.toNat)++sp).toArray el (0,0+a.length))::H,?_,U,_,U⟩
  refine hw.turn ?_ ?_ ?_ ?_ ?_ ?_
  all_goals unfold World.freeze;rw[ae (by omega)]
  ·simp
  ·intro k hk
   simp only
   rw[gz,ae (Ne.symm hk)]
  ·simp only
   rw[gz,ag rfl,hg]
   rfl
end
section
variable {Γ:dJ}{P:AL}{e:bE}{H:aF}{d:AD}{t:AJ}{pos:String}{af:AG}{g:Option (Nat×Bool)}
def aN1{x:AK}{ts:Array AJ}(hx:bA (ev e x)=some (.slice none 0 0)):
  dU Γ ⟨d,.call ⟨.builtin .unsafeSliceData,#[x],ts⟩,t,pos,af,g⟩ e H (λv H'=>v= .pointer none/\H'=H):=by
 intro w hw
 have hx:=bM hx
 refine gP (v:= .pointer none) (w':=w) ?_ ⟨_,hw,U,U⟩
 simp only[execOp,resolve,ay,ca,ar,invoke,builtin,dg,cq,dh,hx]
 rfl
def aNN{x:AK}{ts:Array AJ}{b off n k:Nat}(hx:bA (ev e x)=some (.slice (some ⟨b,off,none⟩) n (k+1))):
  dU Γ ⟨d,.call ⟨.builtin .unsafeSliceData,#[x],ts⟩,t,pos,af,g⟩ e H (λv H'=>v= .pointer (some ⟨b,off,none⟩)/\H'=H):=by
 intro w hw
 have hx:=bM hx
 refine gP (v:= .pointer (some ⟨b,off,none⟩)) (w':=w) ?_ ⟨_,hw,U,U⟩
 simp only[execOp,resolve,ay,ca,ar,invoke,builtin,dg,cq,dh,hx]
 rfl
def aGB{tp te u:AJ}{x y:AK}{a:Addr}(hx:bA (ev e x)=some (.pointer (some a)))(hy:bA (ev e y)=some (.pointer (some a)))(hp:Γ.P.underlying tp=some (.pointer te))(hte:(Γ.P.info? te).isSome=true):
  dU Γ ⟨d,.binOp .neq tp x y u,t,pos,af,g⟩ e H (λv H'=>v= .bool false/\H'=H):=by
 intro w hw
 have hx:=bM hx
 have hy:=bM hy
 obtain⟨j,hj⟩:=Option.isSome_iff_exists.1 hte
 have hg:(eqGuard .neq tp x y (.pointer (some a)) (.pointer (some a))).run Γ.P w= .ok () w:=rfl
 refine gP (v:= .bool false) (w':=w) ?_ ⟨_,hw,U,U⟩
 simp only[execOp,hx,hy,ay,hg,Lib.run_neq_ptr_same w a hp hj,ar,ca]
def aBV{w:AI}{b:Nat}{l:AA}{T:AJ}{fr:Nat×Nat}(h:w.heap[b]? =some (.cells l.toArray T fr)):w.shape? b=some (T,l.length):=by unfold World.shape?; rw[h];rfl
def aKA{src dst u:AJ}{x:AK}{b:Nat}{l:AA}{T:AJ}{fr:Nat×Nat}{n:Nat}(hx:bA (ev e x)=some (.pointer (some ⟨b,0,none⟩)))(hs:Γ.P.underlying src=some (.pointer u))(hd:Γ.P.underlying dst=some .unsafePointer)(hn:jZ Γ.P u=some n)(h0:Nat.blt 0 n=true)
  (hm:(b,Obj.cells l.toArray T fr)∈H) (hl:0<l.length):dU Γ ⟨d,.convert src dst x,t,pos,af,g⟩ e H (λv H'=>v= .pointer (some ⟨b,0,none⟩)/\H'=H):=by
 intro w hw
 have hx:=bM hx
 unfold jZ at hn
 obtain⟨j,hj,hjn⟩:=Option.map_eq_some_iff.1 hn
 have hpos:j.size≠0:=by have:0<n:=ah h0;omega
 refine gP (v:= .pointer (some ⟨b,0,none⟩)) (w':=w) ?_ ⟨_,hw,U,U⟩
 simp only[execOp,hx,ay,Lib.run_to_unsafe w ⟨b,0,none⟩ hs hd hj hpos (aBV (hw.holds _ hm)) hl,ar,ca]
def aQs{src dst u:AJ}{x:AK}{b n:Nat}{l:AA}{T:AJ}{fr:Nat×Nat}(hx:bA (ev e x)=some (.pointer (some ⟨b,0,none⟩)))(hs:Γ.P.underlying src=some .unsafePointer)(hd:Γ.P.underlying dst=some (.pointer u))(hu:(Γ.P.info? u).isSome=true)
  (hm:(b,Obj.cells l.toArray T fr)∈H) (hl:l.length=n) (hli:liesAt Γ.P Γ.P.depth T (n/Γ.P.cellsOf T) 0 u 1=true):dU Γ ⟨d,.convert src dst x,t,pos,af,g⟩ e H (λv H'=>v= .pointer (some ⟨b,0,none⟩)/\H'=H):=by
 intro w hw
 have hx:=bM hx
 obtain⟨j,hj⟩:=Option.isSome_iff_exists.1 hu
 subst hl
 refine gP (v:= .pointer (some ⟨b,0,none⟩)) (w':=w) ?_ ⟨_,hw,U,U⟩
 simp only[execOp,hx,ay,Lib.run_from_unsafe w ⟨b,0,none⟩ hs hd hj (aBV (hw.holds _ hm)) hli,ar,ca]
def aKo{x y:AK}{ts:Array AJ}{pt it:AJ}(hx:bA (ev e x)=some (.pointer none))(hy:bA (ev e y)=some (.int .i64 0))(hts:ts= #[pt,it]):
  dU Γ ⟨d,.call ⟨.builtin .unsafeString,#[x,y],ts⟩,t,pos,af,g⟩ e H (λv H'=>v= .string (bs [])/\H'=H):=by
 intro w hw
 subst hts
 have hx:=bM hx
 have hy:=bM hy
 refine gP (v:= .string (bs [])) (w':=w) ?_ ⟨_,hw,U,U⟩
 simp only[execOp,resolve,ay,ca,ar,invoke,builtin,dg,cq,dh,hx,hy]
 rfl
def U3{tt el n:Nat}{x y:AK}{z:AH}{i:TypeInfo}(hx:bA (ev e x)=some (.int .i64 n))(hy:bA (ev e y)=some (.int .i64 n))(hn:n<=1000000000)(hu:qV Γ.P tt=some (el,1))(hz:uR Γ.P el=some [z])(hi:Γ.P.info? el=some i)(hb:i.bytes=1):
  dU Γ ⟨d,.makeSlice tt x y,t,pos,af,g⟩ e H (λu H'=>∃b,u= .slice (some ⟨b,0,none⟩) n n/\H'=(b,J (List.replicate n z) el)::H):=by
 rcases d6 n with h0|h0
 ·subst h0
  intro w hw
  obtain⟨h1,h2⟩:=wL hu
  have hx:=bM hx
  have hy:=bM hy
  have key:(Instr.makeSlice tt (.int .i64 (0:Nat)) (.int .i64 (0:Nat))).run Γ.P w= .ok (.slice (some ⟨w.heap.size,0,none⟩) 0 0) (w.alloc (J [] el)):=by
   unfold Instr.makeSlice
   have e1:(typeInfo el).run Γ.P w= .ok i w:=by simp[typeInfo,hi]
   have hw1:IntKind.i64.wrap ((0:Nat):Int)=0:=by decide
   have hpow:((2:Int)^48)=281474976710656:=by decide
   have hbad:(decide ((0:Int)<0)||decide ((i.bytes:Int)*0>281474976710656)||decide ((0:Int)<0)||decide ((0:Int)>0))=false:=by rw[hb];decide
   simp only[ay,run_underlying h1,ar,asInt,asIntOf,ca,e1,hw1]
   simp only[hpow,hbad,eq,if_false,ay,run_askRoom,vC h2,ar,ca]
   rw[ag (show(0:Int).toNat*1=0 from rfl)]
   simp[newRow,newObj]
   rw[show(Array.map (λx=>(default:AH)) (Array.range 0))= #[]from by simp]
   rfl
  refine gP (v:= .slice (some ⟨w.heap.size,0,none⟩) 0 0) (w':=w.alloc (J [] el)) ?_ ⟨_,hw.alloc _,_,U,U⟩
  simp only[execOp,hx,hy,ay,key,ar,ca]
 ·have hby:Ly Γ.P el n=true:=by
   unfold Ly
   rw[hi]
   simp only[hb,fw]
   simp
   omega
  have h:=aO3 (Γ:=Γ) (e:=e) (H:=H) (d:=d) (t:=t) (pos:=pos) (af:=af) (g:=g) hx hy rfl rfl (be n) hu hz (Nat.ble_eq_true_of_le (show 0+1<=n*1 by omega)) hby
  rw[fw,aJx]at h
  exact h
def bS.parts{T:Nat}{v:AH}{xs:AA}{G:aF}{n:Nat}(h:bS T 1 v n xs G)(h0:n=0->v= .slice none 0 0/\G=[]):(n=0/\v= .slice none 0 0/\G=[])\/∃b k sp,n≠0/\v= .slice (some ⟨b,0,none⟩) n (k+1)/\G=[(b,J (xs++sp) T)]:=by
 by_cases hn:n=0
 ·exact .inl ⟨hn,h0 hn⟩
 ·obtain⟨b,cp,sp,h1,h2,_,h4,_⟩:=h.full hn
  obtain⟨k,rfl⟩:∃k,cp=k+1:=⟨cp-1,by omega⟩
  exact .inr ⟨b,k,sp,hn,h1,h2⟩
end
section
variable {P:AL}{e:bE}
def aFb{a b s u r:Nat}{T:AJ}{l:AA}{v v2 v3:AH}{w:AI}(h:bA (e a)=some (.pointer (some ⟨b,0,none⟩)))(hs:sG P T=true)(hn:jZ P T=some l.length)(hr:aK w b 0 l)(h2:bA (e s)=some v)(h3:bA (e u)=some v2)(h4:bA (e r)=some v3):
  kS P [.cell a T,.tmp s,.tmp u,.tmp r] e w (.tuple #[.agg l.toArray,v,v2,v3]):=by
 have h:=bM h
 have hl:=run_loadCells_list (P:=P) w ⟨b,0,none⟩ l hr.add
 have h2:=bM h2
 have h3:=bM h3
 have h4:=bM h4
 simp[kS,vW,h,h2,h3,h4,asAddr,loadVar,ay,Fx hs,vC hn,hl]
end
section
variable {Γ:dJ}{e:bE}{F A G:aF}{d:AD}{t:AJ}{pos:String}{af:AG}{g:Option (Nat×Bool)}{f:Nat}{l:AF}{ts:Array AJ}
def gZ{vs:AA}(hc:iW Γ.P f=true)(hv:lA e l=some vs){R:AH->aF->Prop}(hf:∀w,St w (A.map (·.1)) A w->St Γ.w0 Γ.ms (A++(F++G)) w->aG Γ.P f vs w (A.map (·.1)) R):
  dU Γ ⟨d,.call ⟨.value (.func f),l.toArray,ts⟩,t,pos,af,g⟩ e (F++(A++G)) (λv H2=>∃H',R v H'/\H2=F++(H'++G)):=
 aCm (F:=F) (A:=A) (G:=G) (A.map (·.1)) hc hv (λ_ hb=>kA hb) (λw hw=>hf w (St.lentV hw) hw)
end
end Go.VV
namespace Go.VV
open Go
def aG.frame{P:AL}{f:Nat}{vs:AA}{w:AI}{ms ms2:AE}{F G:aF}{R R':AH->aF->Prop}(hw:St w ms (F++G) w)(hms:∀b∈ms2,∃o,(b,o)∈F)(hf:aG P f vs w ms2 R)
  (hr:∀v H' w',R v H'->St w ms (H'++G) w'->∃H2,St w ms H2 w'/\R' v H2):aG P f vs w ms R':=
 Calls.mono hf λ_ _ ⟨v,H',he,h1,h2⟩=>by
  obtain⟨H2,h3,h4⟩:=hr v H' _ h2 (hw.call hms h1)
  exact⟨v,H2,he,h3,h4⟩
def aG.turn{P:AL}{f:Nat}{vs:AA}{w:AI}{ms:AE}{R R':AH->aF->Prop}(hf:aG P f vs w ms R)(hr:∀v H' w',R v H'->St w ms H' w'->∃H2,St w ms H2 w'/\R' v H2):aG P f vs w ms R':=
 Calls.mono hf λ_ _ ⟨v,H',he,h1,h2⟩=>by
  obtain⟨H2,h3,h4⟩:=hr v H' _ h2 h1
  exact⟨v,H2,he,h3,h4⟩
end Go.VV
namespace Go.VV
open Go Go.RowKit
def qA(l:List hY)(seen:AE):List hY:=l.filter λe=> !(seen.contains e.2.2)
def oH(b since:Nat)(seen:AE)(c:Nat):Obj:= .mapIter (some b) since seen.toArray c
def aFg(k:AM)(l:List hY)(seen:AE):(leftOf (l.map (mL k)).toArray seen.toArray).toList=(qA l seen).map (mL k):=by
 unfold leftOf qA
 rw[Array.toList_filter,ey,List.filter_map]
 congr 1
 refine List.filter_congr λx _=>?_
 show(!seen.toArray.contains x.2.2)=(!seen.contains x.2.2)
 rw[List.contains_toArray]
def pH(a:Int):List hY->List hY
 | []=>[]
 |e::l=>if a=e.1 then l else e::pH a l
def Z8(k:AM)(a:Int):∀(l:List hY) (i:Nat),(∀j v,kI a l i=some (j,v)->i<=j/\((l.map (mL k)).eraseIdx (j-i))=(pH a l).map (mL k))/\(kI a l i=none->pH a l=l)
 | [],i=>⟨λ_ _ h=>(by cases h),λ_=>rfl⟩
 |e::l,i=>by
  obtain⟨h1,h2⟩:=Z8 k a l (i+1)
  unfold kI pH
  by_cases h:a=e.1
  ·rw[ag h,ag h]
   refine⟨λj v h3=>?_,λh3=>(by cases h3)⟩
   cases h3
   exact⟨be _,by rw[j4];rfl⟩
  ·rw[ae h,ae h]
   refine⟨λj v h3=>?_,λh3=>by rw[h2 h3]⟩
   obtain⟨h4,h5⟩:=h1 j v h3
   refine⟨by omega,?_⟩
   rw[show j-i=(j-(i+1))+1 by omega,cq,cq,List.eraseIdx_cons_succ,h5]
def aFj(a:Int):∀(l:List hY) (i j:Nat) (v:AH),kI a l i=some (j,v)->j<i+l.length
 | [],_,_,_,h=>by cases h
 |e::l,i,j,v,h=>by
  unfold kI at h
  split at h
  ·cases h;simp
  ·have:=aFj a l (i+1) j v h;simp only[iy];omega
section
variable {Γ:dJ}{e:bE}{H:aF}{d:AD}{ty:AJ}{pos:String}{af:AG}{g:Option (Nat×Bool)}{k:AM}{l:List hY}{b c:Nat}
def aGh{t kt el:AJ}{x:AK}(hu:Ax Γ.P t=some (kt,el,k))(hm:bA (ev e x)=some (.map (some b)))(hb:(b,cY k l c)∈H):
  dU Γ ⟨d,.range t x,ty,pos,af,g⟩ e H (λu H'=>∃r,u= .pointer (some ⟨r,0,none⟩)/\H'=(r,oH b c [] c)::H):=by
 intro w hw
 have hb':w.heap[b]? =some (cY k l c):=hw.holds (b,_) hb
 refine gP (v:= .pointer (some ⟨w.heap.size,0,none⟩)) (w':=w.alloc (oH b c [] c)) ?_ ⟨_,hw.alloc _,_,U,U⟩
 simp only[execOp,bM hm,ay,run_range_map w t kt el b _ c (Ju hu).1 hb',ar,ca]
 rfl
def aCD{x:AK}{r since c0:Nat}{seen:AE}(i:Nat)(hx:bA (ev e x)=some (.pointer (some ⟨r,0,none⟩)))(hr:H[i]? =some (r,oH b since seen c0))(hb:(b,cY k l c)∈H)(hold:∀y∈l,y.2.2<since)(hsc:since<=c0):
  dU Γ ⟨d,.next x false,ty,pos,af,g⟩ e H (λu H'=>(qA l seen=[]/\u= .tuple #[.bool false]/\H'=H)\/∃y∈qA l seen,u= .tuple #[.bool true,.int k y.1,y.2.1]/\H'=H.set i (r,oH b since (seen++[y.2.2]) c)):=by
 intro w hw
 have hr':w.heap[r]? =some (oH b since seen c0):=hw.holds (r,_) (cr hr)
 have hb':w.heap[b]? =some (cY k l c):=hw.holds (b,_) hb
 have hold':∀y∈(l.map (mL k)).toArray.toList,y.born<since:=by
  intro y hy
  rw[ey]at hy
  obtain⟨z,hz,rfl⟩:=List.mem_map.1 hy
  exact hold z hz
 rcases run_next_at (P:=Γ.P) w ty r b since c0 seen.toArray (l.map (mL k)).toArray c hr' hb' hold' hsc with⟨h0,hrun⟩|⟨y,hy,w1,hw1,hrun⟩
 ·refine gP (v:= .tuple #[.bool false]) (w':=w) ?_ ⟨H,hw,.inl ⟨?_,U,U⟩⟩
  ·simp only[execOp,bM hx,ay,hrun,ar,ca]
  ·have h1:=aFg k l seen
   have h2:(leftOf (l.map (mL k)).toArray seen.toArray).toList=[]:=by rw[<-Array.length_toList]at h0;exact List.length_eq_zero_iff.1 h0
   rw[h2]at h1
   exact List.map_eq_nil_iff.1 h1.symm
 ·rw[aFg]at hy
  obtain⟨z,hz,rfl⟩:=List.mem_map.1 hy
  have hs1:St Γ.w0 Γ.ms H w1:=by
   rcases hw1 with rfl|rfl
   ·exact hw
   ·exact hw.drew
  have hr1:w1.heap[r]? =some (oH b since seen c0):=hs1.holds (r,_) (cr hr)
  have hlt:r<w1.heap.size:=(Array.getElem?_eq_some_iff.1 hr1).1
  refine gP (v:= .tuple #[.bool true,.int k z.1,z.2.1]) (w':=ChangeMaps.setBlock w1 r (oH b since (seen++[z.2.2]) c)) ?_ ⟨_,hs1.setAt hr U U U (by simp[ChangeMaps.setBlock]) (λj hj=>by simp[ChangeMaps.setBlock,gk (Ne.symm hj)]) (by simp[ChangeMaps.setBlock,hlt]),.inr ⟨z,hz,U,U⟩⟩
  simp only[execOp,bM hx,ay,hrun,ar,ca]
  unfold oH
  rw[<-List.push_toArray]
  rfl
def aQF{x:AK}{r since c0:Nat}{seen:AE}(i:Nat)(hx:bA (ev e x)=some (.pointer (some ⟨r,0,none⟩)))(hr:H[i]? =some (r,oH b since seen c0))(hb:(b,cY k l c)∈H)(hold:∀y∈l,y.2.2<since)(hsc:since<=c0)(h0:qA l seen=[]):
  dU Γ ⟨d,.next x false,ty,pos,af,g⟩ e H (λu H'=>u= .tuple #[.bool false]/\H'=H):=λw hw=>by
 refine xL (aCD i hx hr hb hold hsc w hw) ?_
 rintro v w' ⟨H',h1,⟨_,h2,h3⟩|⟨y,hy,_⟩⟩
 ·exact⟨H',h1,h2,h3⟩
 ·rw[h0]at hy;cases hy
def aNA{x:AK}{r since c0:Nat}{seen:AE}(i:Nat)(hx:bA (ev e x)=some (.pointer (some ⟨r,0,none⟩)))(hr:H[i]? =some (r,oH b since seen c0))(hb:(b,cY k l c)∈H)(hold:∀y∈l,y.2.2<since)(hsc:since<=c0)(h0:qA l seen≠[]):
  dU Γ ⟨d,.next x false,ty,pos,af,g⟩ e H (λu H'=>∃y,y∈qA l seen/\u= .tuple #[.bool true,.int k y.1,y.2.1]/\H'=H.set i (r,oH b since (seen++[y.2.2]) c)):=λw hw=>by
 refine xL (aCD i hx hr hb hold hsc w hw) ?_
 rintro v w' ⟨H',h1,⟨h2,_⟩|⟨y,hy,h2,h3⟩⟩
 ·exact absurd h2 h0
 ·exact⟨H',h1,y,hy,h2,h3⟩
def aNE{x:AK}{r since:Nat}{seen:AE}{y:hY}(hx:bA (ev e x)=some (.pointer (some ⟨r,0,none⟩)))(hr:(r,oH b since (seen++[y.2.2]) c)∈H)(hb:(b,cY k l c)∈H)(hy:y∈l)(hn:(l.map (·.2.2)).Nodup):
  dU Γ ⟨d,.entry x,ty,pos,af,g⟩ e H (λu H'=>u= .tuple #[.int k y.1,y.2.1]/\H'=H):=by
 intro w hw
 have hr':w.heap[r]? =some (oH b since (seen++[y.2.2]) c):=hw.holds (r,_) hr
 have hb':w.heap[b]? =some (cY k l c):=hw.holds (b,_) hb
 have e1:(seen++[y.2.2]).toArray=seen.toArray.push y.2.2:=(List.push_toArray ..).symm
 unfold oH at hr'
 rw[e1]at hr'
 have hrun:=run_entry_at (P:=Γ.P) w r b since seen.toArray (l.map (mL k)).toArray c (mL k y) hr' hb' (by rw[ey];exact List.mem_map.2 ⟨y,hy,rfl⟩) (by rw[ey,j1];exact hn)
 refine gP (v:= .tuple #[.int k y.1,y.2.1]) (w':=w) ?_ ⟨H,hw,U,U⟩
 simp only[execOp,bM hx,ay,hrun,ar,ca]
 rfl
def aHk{t kt el:AJ}{m x:AK}{a:Int}{ts:Array AJ}(i:Nat)(hu:Ax Γ.P t=some (kt,el,k))(hts:ts= #[t,kt])(hm:bA (ev e m)=some (.map (some b)))(hx:bA (ev e x)=some (.int k a))(hi:H[i]? =some (b,cY k l c)):
  dU Γ ⟨d,.call ⟨.builtin .delete,#[m,x],ts⟩,ty,pos,af,g⟩ e H (λu H'=>u= .tuple #[]/\H'=H.set i (b,cY k (pH a l) c)):=by
 intro w hw
 subst hts
 obtain⟨h1,h2⟩:=Ju hu
 have hb:w.heap[b]? =some (cY k l c):=hw.holds (b,_) (cr hi)
 obtain⟨h3,h4⟩:=Z8 k a l 0
 have key:(Builtin.delete_ #[t,kt] ty #[.map (some b),.int k a]).run Γ.P w= .ok (.tuple #[]) {w with heap:=w.heap.setIfInBounds b (cY k (pH a l) c)}:=by
  unfold Builtin.delete_
  simp only[dr,fk,er,ay,run_underlying h1,ar,Nz hb,Mt h2,ey,Uk h2]
  cases hf:kI a l 0 with
  |none=>
   rw[h4 hf]
   show(setObj b (cY k l c) >>= λ_=>pure (Value.tuple #[])).run Γ.P w=_
   rw[ay,I2 hb,ar,ca]
  |some p=>
   obtain⟨j,v⟩:=p
   have hj:j<l.length:=by have:=aFj a l 0 j v hf;omega
   have e1:((l.map (mL k)).toArray.eraseIdxIfInBounds j)=((pH a l).map (mL k)).toArray:=by
    have:=(h3 j v hf).2
    rw[Nat.sub_zero]at this
    rw[<-this]
    simp[Array.eraseIdxIfInBounds,hj]
   simp only[e1]
   show(setObj b (cY k (pH a l) c) >>= λ_=>pure (Value.tuple #[])).run Γ.P w=_
   rw[ay,I2 hb,ar,ca]
 refine gP (v:= .tuple #[]) (w':={w with heap:=w.heap.setIfInBounds b (cY k (pH a l) c)}) ?_ ⟨_,hw.setObj (o':=cY k (pH a l) c) hi,U,U⟩
 simp only[execOp,resolve,ay,ca,ar,invoke,builtin,dg,cq,dh,bM hm,bM hx,key]
end
def World.ext_run{P:AL}{e:bE}{f:Nat}{l:AF}{ts:Array AJ}{d:AD}{t:AJ}{pos:String}{af:AG}{g:Option (Nat×Bool)}{w w':AI}{v:AH}{vs:AA}
  (hv:lA e l=some vs) (h:(callFunc f vs.toArray).run P w= .ok (.value v) w'):(execOp (ev e) ⟨d,.call ⟨.value (.func f),l.toArray,ts⟩,t,pos,af,g⟩).run P w= .ok (.value v) w':=by
 rw[<-Dj hv]at h
 simpa[execOp,resolve,Deferred.ofValue,ev,invoke,bind,Sem.bind,Sem.run,pure] using h
def aNQ{P:AL}{f:FuncId}{fn:Func}(hf:P.funcs[f]? =some fn) (hname:(fn.name== "runtime.NumGoroutine")=false) (hb:fn.body.isNone=true) (hn:Extern.findNext fn=none) (k:AM)
  (he:Extern.find fn=some (Extern.Atomic.swapT (.int k))) {a:Addr} {x y:Int} {w:AI} (hc:w.cell? a=some (.int k x)) (hz:w.frozen? a=false):
  (callFunc f #[.pointer (some a),.int k y]).run P w= .ok (.value (.int k x)) (w.setCell a (.int k y)):=by
 rw[run_callFunc_extern hf hname hb hn he]
 change (Sem.run P (do
  let a' <-asAddr (.pointer (some a))
  let old <-Extern.Atomic.read (.int k) a'
  store a' (.int k y) .atomic
  pure old) w).andThen _=_
 simp[Extern.Atomic.read,asAddr,hc,hz,run_store P w a (.int k y) .atomic rfl,Result.andThen]
section
variable {Γ:dJ}{e:bE}{H:aF}{d:AD}{ty:AJ}{pos:String}{af:AG}{g:Option (Nat×Bool)}{f:Nat}{fn:Func}{l:AF}{ts:Array AJ}{b off:Nat}{cs:AA}{T:AJ}
def St.setIx{w0 w:AI}{ms:AE}{H:aF}(hw:St w0 ms H w)(i:Nat)(hi:H[i]? =some (b,J cs T))(v:AH):St w0 ms (H.set i (b,J (cs.set off v) T)) (w.setCell ⟨b,off,none⟩ v):=by
 have hg:w.heap[b]? =some (J cs T):=hw.own_blk (cr hi)
 exact hw.setAt hi U U U (by simp[World.setCell]) (λk hk=>aCK k hk) (aAZ hg v)
def aGG(i:Nat)(k:AM){x y:Int}(hf:Γ.P.funcs[f]? =some fn) (hname:(fn.name== "runtime.NumGoroutine")=false) (hb:fn.body.isNone=true) (hn:Extern.findNext fn=none)
  (he:Extern.find fn=some (Extern.Atomic.swapT (.int k))) (hv:lA e l=some [.pointer (some ⟨b,off,none⟩),.int k y]) (hi:H[i]? =some (b,J cs T)) (hc:cs[off]? =some (.int k x)):
  dU Γ ⟨d,.call ⟨.value (.func f),l.toArray,ts⟩,ty,pos,af,g⟩ e H (λu H'=>u= .int k x/\H'=H.set i (b,J (cs.set off (.int k y)) T)):=λw hw=>by
 have hg:w.heap[b]? =some (J cs T):=hw.own_blk (cr hi)
 exact gP (World.ext_run hv (aNQ hf hname hb hn k he (by rw[tI hg];simpa using hc) (Lp hg))) ⟨_,hw.setIx i hi _,U,U⟩
def aLY(i:Nat)(k:AM){x y s:Int}(hf:Γ.P.funcs[f]? =some fn) (hname:(fn.name== "runtime.NumGoroutine")=false) (hb:fn.body.isNone=true) (hn:Extern.findNext fn=none)
  (he:Extern.find fn=some (Extern.Atomic.update (Op.intArith .add) k true)) (hv:lA e l=some [.pointer (some ⟨b,off,none⟩),.int k y]) (hi:H[i]? =some (b,J cs T)) (hc:cs[off]? =some (.int k x))
  (hs:eO Γ.P (Op.intArith .add k x y)=some (.int k s)):
  dU Γ ⟨d,.call ⟨.value (.func f),l.toArray,ts⟩,ty,pos,af,g⟩ e H (λu H'=>u= .int k s/\H'=H.set i (b,J (cs.set off (.int k s)) T)):=λw hw=>by
 have hg:w.heap[b]? =some (J cs T):=hw.own_blk (cr hi)
 exact gP (World.ext_run hv (run_call_add hf hname hb hn k he (by rw[tI hg];simpa using hc) (Lp hg) (I7 hs w))) ⟨_,hw.setIx i hi _,U,U⟩
end
def Cs{P:AL}{b:Frame}{a:Act}{k:List Item}{cs:List Frame}{w:AI}{c:Code}:step P (lone (b.atR a (.code (.scope c)::k)) cs w)= .next (lone (b.atR a (.code c:: .inScope c::k)) cs w):=
 step_lone_go (by simp[stepG,stepG.exec,Frame.atR])
def aEm{P:AL}{b:Frame}{a:Act}{k:List Item}{cs:List Frame}{w:AI}{c:Code}:step P (lone (b.atR a (.inScope c::k)) cs w)= .next (lone (b.atR a k) cs w):=
 step_lone_go (by simp[stepG,stepG.exec,Frame.atR])
def aQj{F:Fence}{n:Nat}{P:AL}{Q:Exit->Act->AI->Prop}{a:Act}{w:AI}{c rest:Code}(l:Nat)(J:Act->AI->Prop)(μ:Act->AI->Nat)(hf:findLabel c l=some rest)
  (first:c.wpIn F n P (Exit.jump l J Q) a w)
  (pass:∀a w,J a w->rest.wpIn F n P (Exit.jump l (λa' w'=>J a' w'/\μ a' w'<μ a w) Q) a w):(Code.scope c).wpIn F n P Q a w:=by
 intro b k cs hro hb hr
 have hg:gotoIn l (.inScope c::k)=some (.code rest:: .inScope c::k):=by simp[gotoIn,hf]
 have hx:∀id,exitTo id (.inScope c::k)=exitTo id k:=λid=>by simp[exitTo]
 have key:∀j a w,μ a w=j->J a w->∃e a' w',Q e a' w'/\ArrivesIn (Machine.fenced P F) P (lone (b.atR a (.code rest:: .inScope c::k)) cs w) b k cs e a' w':=by
  intro j
  induction j using Nat.strongRecOn with
  |_ j ih=>
   intro a w hn hJ
   obtain⟨e,a₁,w₁,hq,harr⟩:=pass a w hJ b (.inScope c::k) cs hro hb hr
   cases e with
   |normal=>exact⟨.normal,a₁,w₁,hq,StepsIn.trans harr (.one (fenced_calm hb hr rfl) aEm)⟩
   |exit id=>exact⟨.exit id,a₁,w₁,hq,λk' hk=>harr.1 k' (by rw[hx];exact hk),λh1 hk=>harr.2 h1 (by rw[hx];exact hk)⟩
   |goto l'=>
    obtain⟨rfl,hJ',hlt⟩:=hq
    obtain⟨e₂,a₂,w₂,hq₂,harr₂⟩:=ih _ (by omega) a₁ w₁ rfl hJ'
    exact⟨e₂,a₂,w₂,hq₂,.of_steps (harr.1 _ hg) harr₂⟩
   |ret=>exact⟨_,a₁,w₁,hq,harr⟩
   |panic ch=>exact⟨_,a₁,w₁,hq,harr⟩
   |outgrown=>exact⟨_,a₁,w₁,hq,harr⟩
 have h0:(lone (b.atR a (.code (.scope c)::k)) cs w).fenced P F:=fenced_calm hb hr rfl
 obtain⟨e,a₁,w₁,hq,harr⟩:=first b (.inScope c::k) cs hro hb hr
 cases e with
 |normal=>exact⟨.normal,a₁,w₁,hq,.head h0 Cs (StepsIn.trans harr (.one (fenced_calm hb hr rfl) aEm))⟩
 |exit id=>exact⟨.exit id,a₁,w₁,hq,λk' hk=> .head h0 Cs (harr.1 k' (by rw[hx];exact hk)),λh1 hk=>let⟨k₁,h2,h3⟩:=harr.2 h1 (by rw[hx];exact hk);⟨k₁,h2,.head h0 Cs h3⟩⟩
 |goto l'=>
  obtain⟨rfl,hJ'⟩:=hq
  obtain⟨e₂,a₂,w₂,hq₂,harr₂⟩:=key _ a₁ w₁ rfl hJ'
  exact⟨e₂,a₂,w₂,hq₂,.of_steps (.head h0 Cs (harr.1 _ hg)) harr₂⟩
 |ret=>exact⟨_,a₁,w₁,hq,.of_steps (.one h0 Cs) harr⟩
 |panic ch=>exact⟨_,a₁,w₁,hq,.of_steps (.one h0 Cs) harr⟩
 |outgrown=>exact⟨_,a₁,w₁,hq,.of_steps (.one h0 Cs) harr⟩
def aGc {Γ:dJ} {k:fK} {e:bE} {L:aF} {σ:Type} {c B:Code} (l:Nat) (M:AE) (vs:σ->List (Nat×AH)) (H:σ->aF) (J:σ->Prop) (μ:σ->Nat) (hf:findLabel c l=some (.seq .skip B)) (hX:∀j,pQ k.X (2*j+1)=none)
    (first:(∀s e1 L1,J s->oY e1 (vs s)->jF M e1 e->(∀w,St Γ.w0 Γ.ms L1 w->St Γ.w0 Γ.ms (H s) w)->
        C Γ B ⟨k.N,k.R,(2*l+1,λe' L'=>∃s,J s/\oY e' (vs s)/\jF M e' e/\(∀w,St Γ.w0 Γ.ms L' w->St Γ.w0 Γ.ms (H s) w))::k.X⟩ e1 L1)->
      C Γ c ⟨k.N,k.R,(2*l+1,λe' L'=>∃s,J s/\oY e' (vs s)/\jF M e' e/\(∀w,St Γ.w0 Γ.ms L' w->St Γ.w0 Γ.ms (H s) w))::k.X⟩ e L)
    (pass:∀s x,J s->C Γ B ⟨k.N,k.R,(2*l+1,λe' L'=>∃s',J s'/\μ s'<μ s/\oY e' (vs s')/\jF M e' e/\(∀w,St Γ.w0 Γ.ms L' w->St Γ.w0 Γ.ms (H s') w))::k.X⟩ (mix M (vs s) x e) (H s)):
    C Γ (.scope c) k e L:=by
  have hp:∀s e1 L1,J s->oY e1 (vs s)->jF M e1 e->(∀w,St Γ.w0 Γ.ms L1 w->St Γ.w0 Γ.ms (H s) w)->
        C Γ B ⟨k.N,k.R,(2*l+1,λe' L'=>∃s,J s/\oY e' (vs s)/\jF M e' e/\(∀w,St Γ.w0 Γ.ms L' w->St Γ.w0 Γ.ms (H s) w))::k.X⟩ e1 L1:=λs e1 L1 hJ hs hA hH=>by
    rw[Gb hs hA]
    refine kO hH (W6 (pass s e1 hJ) ?_)
    rintro(_|id|l'|_|_|_) e2 L2 h2<;>simp only[fK.at]at h2⊢
    · exact h2
    · rw[zE (by omega)]at h2⊢; exact h2
    · by_cases hl:l'=l
      · subst hl
        rw[Ki]at h2⊢
        obtain⟨s',h3,_,h4⟩:=h2
        exact⟨s',h3,h4⟩
      · rw[zE (by omega)]at h2⊢; exact h2
    · exact h2
  have first:=first hp
  intro a w ha hw
  classical
  let I:σ->Act->AI->Prop:=λs a w=>J s/\∃x,lI Γ.n Γ.D (mix M (vs s) x e) a/\St Γ.w0 Γ.ms (H s) w
  let p:Act->AI->Nat->Prop:=λa w m=>∃i,I i a w/\μ i=m
  let f:Act->AI->Nat:=λa w=>if h:∃m,p a w m then Classical.choose (Om h)else 0
  have hff:∀a w,(∃m,p a w m)->p a w (f a w)/\∀k,k<f a w->¬p a w k:=λa w h=>by
    have:=Classical.choose_spec (Om h)
    simp only[f,dif_pos h]
    exact this
  refine aQj l (λa w=>∃s,I s a w) f hf ?_ ?_
  · refine wpIn_mono (first a w ha hw) ?_
    rintro ex a' w' ⟨e',L',h1,h2,h3⟩
    cases ex<;>simp only[fK.at,Exit.jump]at h3⊢
    case normal=>exact⟨e',L',h1,h2,h3⟩
    case ret=>exact⟨e',L',h1,h2,h3⟩
    case exit id=>rw[zE (by omega)]at h3;exact⟨e',L',h1,h2,h3⟩
    case goto l'=>
      by_cases hl:l'=l
      · subst hl
        rw[Ki]at h3
        obtain⟨s,hJ,hs,hA,hH⟩:=h3
        exact⟨U,s,hJ,e',by rw[<-Gb hs hA];exact h1,hH _ h2⟩
      · rw[zE (by omega),hX]at h3
        exact h3.elim
  · intro a w hI
    obtain⟨i1,hi1⟩:=hI
    obtain⟨⟨s,⟨hJ,x,ha,hw⟩,hm⟩,_⟩:=hff a w ⟨_,i1,hi1,rfl⟩
    refine wpIn_mono (F4 (aBw (k:=⟨λe L=>C Γ B _ e L,_,_⟩) (pass s x hJ)) a w ha hw) ?_
    rintro ex a' w' ⟨e',L',h1,h2,h3⟩
    cases ex<;>simp only[fK.at,Exit.jump]at h3⊢
    case normal=>exact⟨e',L',h1,h2,h3⟩
    case ret=>exact⟨e',L',h1,h2,h3⟩
    case exit id=>rw[zE (by omega)]at h3;exact⟨e',L',h1,h2,h3⟩
    case goto l'=>
      by_cases hl:l'=l
      · subst hl
        rw[Ki]at h3
        obtain⟨s',hJ',hlt,hs,hA,hH⟩:=h3
        have hI':I s' a' w':=⟨hJ',e',by rw[<-Gb hs hA];exact h1,hH _ h2⟩
        refine⟨U,⟨s',hI'⟩,?_⟩
        have h4:=(hff a' w' ⟨_,s',hI',rfl⟩).2
        rcases du (f a' w') (f a w)with h5|h5
        · exact h5
        · exact absurd ⟨s',hI',U⟩ (h4 (μ s') (by omega))
      · rw[zE (by omega),hX]at h3
        exact h3.elim
section
variable {Γ:dJ}{e:bE}{H:aF}{d:AD}{ty:AJ}{pos:String}{af:AG}{g:Option (Nat×Bool)}
def aG3{t kt el:AJ}{m x:AK}{b c j:Nat}{k:AM}{a:Int}{v:AH}{l:List hY}(hu:Ax Γ.P t=some (kt,el,k))(hm:bA (ev e m)=some (.map (some b)))(hx:bA (ev e x)=some (.int k a))
  (hf:kI a l 0=some (j,v)) (hi:(b,cY k l c)∈H):dU Γ ⟨d,.lookup t m x false,ty,pos,af,g⟩ e H (λu H'=>u=v/\H'=H):=by
 intro w hw
 obtain⟨h1,h2⟩:=Ju hu
 have hm:=bM hm
 have hx:=bM hx
 have hb:w.heap[b]? =some (cY k l c):=hw.holds (b,_) hi
 refine gP (v:=v) (w':=w) ?_ ⟨_,hw,U,U⟩
 have key:(Instr.lookup t (.map (some b)) (.int k a) false).run Γ.P w= .ok v w:=by
  unfold Instr.lookup
  simp only[ay,run_underlying h1,ar,Nz hb,Mt h2,ca,ey,Uk h2,hf]
  rfl
 simp only[execOp,hm,hx,ay,key,ar,ca]
end
end Go.VV

/- Parts. -/
import Derived.Test.YtacejanlmhbddaaGreatQrD
set_option maxRecDepth 100000
set_option maxHeartbeats 1000000
set_option linter.all false
namespace Go.Proofs.YtacejanlmhbddaaGreat
open Go Go.VV Go.Proofs Go.RowKit
structure PU where
 V:AB
 O:AB
 R:AB
 line:Int
 dot:Int
 own:Int
 frames:Int
 sig:Bool
 P:AB
def cU(u:PU):AA:=u.V.map (.int .u8)++(u.O.map (.int .u8)++(u.R.map (.int .u8)++([.int .i64 u.line,.int .i64 u.dot,.int .i64 u.own,.int .i64 u.frames,.bool u.sig]++u.P.map (.int .u8))))
abbrev PU.r(u:PU)(j:Nat):Int:=u.R.getD j 0
structure PU.Wf(u:PU):Prop where
 lV:u.V.length=8192
 lO:u.O.length=160
 lR:u.R.length=12
 lP:u.P.length=23040
 bV:bF u.V
 bO:bF u.O
 bR:bF u.R
 bP:bF u.P
 line:0<=u.line/\u.line<=154
 dot:0<=u.dot/\u.dot<=114
 own:0<=u.own/\u.own<=600
 frames:0<=u.frames/\u.frames<65536
 how:aQ .u8 (u.R.getD 1 0) 120=u.R.getD 1 0
structure PU.Ok(u:PU):Prop where
 wf:u.Wf
 line:u.line<154
 dot:u.dot<114
 own:u.own<=255+u.line+(if 63<=u.dot then 1 else 0)
def cU_len{u:PU}(h:u.Wf):(cU u).length=31409:=by
 simp[cU,h.lV,h.lO,h.lR,h.lP]
section
variable {u:PU}
def aLQ(h:u.Wf){j:Nat}(hj:j<8192):(cU u)[j]? =some (.int .u8 (u.V.getD j 0)):=kM (gD (by rw[h.lV];exact hj))
def aKP(h:u.Wf){j:Nat}(hj:j<160):(cU u)[8192+j]? =some (.int .u8 (u.O.getD j 0)):=
 iN (n:=j) Fm (kM (gD (by rw[h.lO];exact hj)))
def sI(h:u.Wf){j:Nat}(hj:j<12):(cU u)[8352+j]? =some (.int .u8 (u.R.getD j 0)):=
 iN (n:=160+j) wJ (iN (n:=j) Em (kM (gD Kk)))
def Jj(h:u.Wf){j:Nat}{v:AH}(hv:([.int .i64 u.line,.int .i64 u.dot,.int .i64 u.own,.int .i64 u.frames,.bool u.sig]:AA)[j]? =some v):(cU u)[8364+j]? =some v:=
 iN (n:=172+j) wJ (iN (n:=12+j) Ht (iN (n:=j) Bt (kM hv)))
def cU_line(h:u.Wf):(cU u)[8364]? =some (.int .i64 u.line):=Jj h (j:=0) rfl
def cU_dot(h:u.Wf):(cU u)[8365]? =some (.int .i64 u.dot):=Jj h (j:=1) rfl
def Sy(h:u.Wf):(cU u)[8366]? =some (.int .i64 u.own):=Jj h (j:=2) rfl
def H3(h:u.Wf):(cU u)[8367]? =some (.int .i64 u.frames):=Jj h (j:=3) rfl
def cU_sig(h:u.Wf):(cU u)[8368]? =some (.bool u.sig):=Jj h (j:=4) rfl
def rowV{w:AI}{b:Nat}(hr:aK w b 0 (cU u)):aK w b 0 (u.V.map (.int .u8)):=hr.left
def rowO(h:u.Wf){w:AI}{b:Nat}(hr:aK w b 0 (cU u)):aK w b 8192 (u.O.map (.int .u8)):=
 (hr.right (n:=8192) Fm).left
def aKL(h:u.Wf){w:AI}{b:Nat}(hr:aK w b 0 (cU u)):aK w b 8352 (u.R.map (.int .u8)):=
 ((hr.right (n:=8192) Fm).right (n:=8352) Em).left
def aM7(h:u.Wf){w:AI}{b:Nat}(hr:aK w b 0 (cU u)):aK w b 8369 (u.P.map (.int .u8)):=
 (((hr.right (n:=8192) Fm).right (n:=8352) Em).right (n:=8364) Bt).right (n:=8369) rfl
def aPe(h:u.Wf){j:Nat}(hj:j<8192)(x:Int):aV (cU u) j [.int .u8 x]=cU {u with V:=u.V.set j x}:=by
 unfold cU
 rw[mQ (by simp[h.lV];omega),vP .u8 (by rw[h.lV];exact hj)]
def aA1(h:u.Wf){j:Nat}(hj:j<160)(x:Int):aV (cU u) (8192+j) [.int .u8 x]=cU {u with O:=u.O.set j x}:=by
 unfold cU
 rw[gE (n:=j) Fm Us,mQ Us,vP .u8 (by rw[h.lO];exact hj)]
def aDd(h:u.Wf){j:Nat}(hj:j<12)(x:Int):aV (cU u) (8352+j) [.int .u8 x]=cU {u with R:=u.R.set j x}:=by
 unfold cU
 rw[gE (n:=160+j) wJ Na,gE (n:=j) Em Hb,mQ Hb,vP .u8 Kk]
def Jv(h:u.Wf){j:Nat}{v:AH}(hj:j<5):aV (cU u) (8364+j) [v]=u.V.map (.int .u8)++(u.O.map (.int .u8)++(u.R.map (.int .u8)++(aV [.int .i64 u.line,.int .i64 u.dot,.int .i64 u.own,.int .i64 u.frames,.bool u.sig] j [v]++u.P.map (.int .u8)))):=by
 unfold cU
 rw[gE (n:=172+j) wJ Na,gE (n:=12+j) Ht Hb,gE (n:=j) Bt lH,mQ lH]
def Lb(h:u.Wf)(x:Int):aV (cU u) 8364 [.int .i64 x]=cU {u with line:=x}:=Jv h (j:=0) aD
def Ih(h:u.Wf)(x:Int):aV (cU u) 8365 [.int .i64 x]=cU {u with dot:=x}:=Jv h (j:=1) aD
def Fp(h:u.Wf)(x:Int):aV (cU u) 8366 [.int .i64 x]=cU {u with own:=x}:=Jv h (j:=2) aD
def aJI(h:u.Wf)(x:Int):aV (cU u) 8367 [.int .i64 x]=cU {u with frames:=x}:=Jv h (j:=3) aD
def aQJ(h:u.Wf)(x:Bool):aV (cU u) 8368 [.bool x]=cU {u with sig:=x}:=Jv h (j:=4) aD
def putU_P(h:u.Wf){j:Nat}{r:AB}(hj:j+r.length<=23040):aV (cU u) (8369+j) (r.map (.int .u8))=cU {u with P:=iR u.P j r}:=by
 unfold cU
 rw[gE (n:=177+j) wJ (by simp[h.lO,h.lR,h.lP];omega),gE (n:=17+j) Ht (by simp[h.lR,h.lP];omega),gE (n:=5+j) Cg Nl,gE (n:=j) aP Nl,Fw]
end
def jC(u:PU):Bool:=decide (128<=u.r 0)
def modeU(u:PU):Int:=if jC u=true then(if 144<=u.line then 1 else if u.dot<20 then 2 else if u.dot<63 then 3 else 0)else 0
def Cz(u:PU):Bool:=jC u&&(u.line==u.r 5)
def Ir(m:Int):Int:=if m=0 then 8 else if m=1 then 16 else if m=2 then 32 else 0
def sigU(u:PU):Bool:=jC u&&((aQ .u8 (u.r 1) (Ir (modeU u)) != 0)||((aQ .u8 (u.r 1) 64 != 0)&&Cz u))
def askU(u:PU):PU:={u with sig:=sigU u}
def askV(u:PU):Int:=if sigU u=true/\u.sig=false then 2 else 0
def viewU(u:PU):Vw:=⟨u.r 0,u.r 3,u.r 2,u.r 11,u.r 10⟩
def belowU(u:PU):AB:=Aq u.V (viewU u) u.line u.own
def rowU(u:PU):AB:=(List.range 160).map (zM u.V u.O (u.r 0) (u.r 7) (u.r 8) (u.r 9) u.line (belowU u))
def sR(u:PU):PU:={u with P:=iR u.P (u.line.toNat*160) (rowU u),own:=if pS (viewU u) u.line=true then u.own+1 else u.own}
def qF(u:PU):PU:=if u.line=143 then {u with dot:=0,line:=144,frames:=(u.frames+1)%65536} else if u.line=153 then {u with dot:=0,line:=0,own:=0} else {u with dot:=0,line:=u.line+1}
def Ag(u:PU):Int:=if u.line=143 then 1 else 0
def oneU(u:PU):PU:={u with dot:=u.dot+1}
def stepU(u:PU):PU:=if u.dot=62/\u.line<144 then sR (oneU u)else if u.dot=113 then qF (oneU u)else oneU u
def stepV(u:PU):Int:=if u.dot=113/\u.line=143 then 1 else 0
def tickU(u:PU):PU:=if jC u=true then askU (stepU u)else u
def tickV(u:PU):Int:=if jC u=true then stepV u+askV (stepU u)else 0
def jV :PU:=⟨List.replicate 8192 0,List.replicate 160 0,List.replicate 12 0,0,0,0,0,false,List.replicate 23040 0⟩
def Vg(n:Nat):bF (List.replicate n 0):=λx hx=>by rw[(List.mem_replicate.1 hx).2];omega
def Oj :jV.Wf:=by
 refine⟨ct,ct,ct,ct,Vg _,Vg _,Vg _,Vg _,?_,?_,?_,?_,?_⟩<;>decide +kernel
def aCZ :jV.Ok:=⟨Oj,iH,iH,iH⟩
section
variable {u:PU}
def PU.Wf.look(h:u.Wf)(j:Nat):0<=u.r j/\u.r j<256:=h.bR.get j
def viewU_ok(h:u.Wf):(viewU u).Ok:=⟨h.look 0,h.look 3,h.look 2,h.look 11,h.look 10⟩
def aHh(h:u.Wf):(aQ .u8 (u.r 0) 128 != 0)=jC u:=by
 have:=eI (p:=λc=>(aQ .u8 c 128 != 0)=decide (128<=c)) eW (h.look 0).1 (h.look 0).2
 exact this
def L9(u:PU):0<=modeU u/\modeU u<4:=by
 unfold modeU;repeat' split
 all_goals omega
def rowU_len(u:PU):(rowU u).length=160:=by simp[rowU]
def aKY(u:PU):([.int .u8 8,.int .u8 16,.int .u8 32,.int .u8 0]:AA)[0+(modeU u).toNat]? =some (.int .u8 (Ir (modeU u))):=by
 obtain⟨h1,h2⟩:=L9 u
 rcases(show modeU u=0\/modeU u=1\/modeU u=2\/modeU u=3 by omega)with h|h|h|h<;>rw[h]<;>rfl
def Ml(h:u.Wf){X:Bool}(hX:X=sigU u):aV (cU u) 8368 [.bool X]=cU (askU u):=by subst hX;exact aQJ h _
def PU.Wf.sig_(h:u.Wf)(x:Bool):({u with sig:=x}:PU).Wf:=⟨h.lV,h.lO,h.lR,h.lP,h.bV,h.bO,h.bR,h.bP,h.line,h.dot,h.own,h.frames,h.how⟩
def PU.Wf.ask(h:u.Wf):(askU u).Wf:=h.sig_ _
def PU.Wf.dot_(h:u.Wf){x:Int}(hx:0<=x/\x<=114):({u with dot:=x}:PU).Wf:=⟨h.lV,h.lO,h.lR,h.lP,h.bV,h.bO,h.bR,h.bP,h.line,hx,h.own,h.frames,h.how⟩
def PU.Wf.line_(h:u.Wf){x:Int}(hx:0<=x/\x<=154):({u with line:=x}:PU).Wf:=⟨h.lV,h.lO,h.lR,h.lP,h.bV,h.bO,h.bR,h.bP,hx,h.dot,h.own,h.frames,h.how⟩
def PU.Wf.own_(h:u.Wf){x:Int}(hx:0<=x/\x<=600):({u with own:=x}:PU).Wf:=⟨h.lV,h.lO,h.lR,h.lP,h.bV,h.bO,h.bR,h.bP,h.line,h.dot,hx,h.frames,h.how⟩
def PU.Wf.frames_(h:u.Wf){x:Int}(hx:0<=x/\x<65536):({u with frames:=x}:PU).Wf:=⟨h.lV,h.lO,h.lR,h.lP,h.bV,h.bO,h.bR,h.bP,h.line,h.dot,h.own,hx,h.how⟩
def xW{l:AB}(h:bF l)(j:Nat){x:Int}(hx:0<=x/\x<256):bF (l.set j x):=λy hy=>by
 rcases ez hy with hy|rfl
 ·exact h y hy
 ·exact hx
def aG0{l r:AB}(h:bF l)(hr:bF r)(o:Nat):bF (iR l o r):=λy hy=>by
 unfold iR at hy
 rcases List.mem_append.1 hy with hy|hy
 ·rcases List.mem_append.1 hy with hy|hy
  ·exact h y (dd hy)
  ·exact hr y hy
 ·exact h y (dm hy)
def PU.Wf.V_(h:u.Wf)(j:Nat){x:Int}(hx:0<=x/\x<256):({u with V:=u.V.set j x}:PU).Wf:=⟨by simpa using h.lV,h.lO,h.lR,h.lP,xW h.bV j hx,h.bO,h.bR,h.bP,h.line,h.dot,h.own,h.frames,h.how⟩
def PU.Wf.O_(h:u.Wf)(j:Nat){x:Int}(hx:0<=x/\x<256):({u with O:=u.O.set j x}:PU).Wf:=⟨h.lV,by simpa using h.lO,h.lR,h.lP,h.bV,xW h.bO j hx,h.bR,h.bP,h.line,h.dot,h.own,h.frames,h.how⟩
def PU.Wf.R_(h:u.Wf)(j:Nat){x:Int}(hx:0<=x/\x<256)(hj:j=1->aQ .u8 x 120=x):({u with R:=u.R.set j x}:PU).Wf:=
 ⟨h.lV,h.lO,by simpa using h.lR,h.lP,h.bV,h.bO,xW h.bR j hx,h.bP,h.line,h.dot,h.own,h.frames,by
  by_cases h1:j=1
  ·subst h1
   have:(u.R.set 1 x).getD 1 0=x:=by rw[gU,ir (by rw[h.lR];decide)];rfl
   show aQ .u8 ((u.R.set 1 x).getD 1 0) 120=(u.R.set 1 x).getD 1 0
   rw[this];exact hj rfl
  ·have:(u.R.set j x).getD 1 0=u.R.getD 1 0:=by rw[gU,ge h1,<-gU]
   show aQ .u8 ((u.R.set j x).getD 1 0) 120=(u.R.set j x).getD 1 0
   rw[this];exact h.how⟩
def PU.Wf.P_(h:u.Wf)(j:Nat){r:AB}(hr:bF r)(hj:j+r.length<=23040):({u with P:=iR u.P j r}:PU).Wf:=
 ⟨h.lV,h.lO,h.lR,by show(iR u.P j r).length=23040;rw[aKU (by rw[h.lP];exact hj),h.lP],h.bV,h.bO,h.bR,aG0 h.bP hr j,h.line,h.dot,h.own,h.frames,h.how⟩
def placeV(b:Nat)(a:Int):AH:=
 if 32768<=a/\a<40960 then .tuple #[.pointer (some ⟨b,0+(a-32768).toNat,none⟩),.int .i64 3]
 else if 65024<=a/\a<65184 then .tuple #[.pointer (some ⟨b,8192+(a-65024).toNat,none⟩),.int .i64 2]else .tuple #[.pointer none,.int .i64 0]
def numU(a:Int):Int:=if a<65344\/65355<a\/a=65350 then -1 else a-65344
def P3{a:Int}(_h:0<=a/\a<65536):(∃j:Nat,j<8192/\a=32768+j)\/(∃j:Nat,j<160/\a=65024+j)\/(¬(32768<=a/\a<40960)/\¬(65024<=a/\a<65184)):=by
 by_cases h1:32768<=a/\a<40960
 ·exact .inl ⟨(a-32768).toNat,aR,aR⟩
 ·by_cases h2:65024<=a/\a<65184
  ·exact .inr (.inl ⟨(a-65024).toNat,aR,aR⟩)
  ·exact .inr (.inr ⟨h1,h2⟩)
def L8{b j:Nat}(hj:j<8192):placeV b (32768+j)= .tuple #[.pointer (some ⟨b,0+j,none⟩),.int .i64 3]:=by
 unfold placeV
 rw[ag I,show((32768:Int)+j-32768).toNat=j by omega]
def Yo{b j:Nat}(hj:j<160):placeV b (65024+j)= .tuple #[.pointer (some ⟨b,8192+j,none⟩),.int .i64 2]:=by
 unfold placeV
 rw[ae I,ag I,show((65024:Int)+j-65024).toNat=j by omega]
def D8{b:Nat}{a:Int}(h:¬(32768<=a/\a<40960)/\¬(65024<=a/\a<65184)):placeV b a= .tuple #[.pointer none,.int .i64 0]:=by
 unfold placeV
 rw[ae h.1,ae h.2]
def Ox(a:Int):numU a= -1\/(0<=numU a/\numU a<12/\numU a≠6):=by unfold numU;split<;>omega
def rowU_vals(u:PU):Wo u.V u.O (u.r 0) (u.r 7) (u.r 8) (u.r 9) u.line (belowU u)=(rowU u).map (.int .u8):=by simp[Wo,rowU]
def B8(p c:Int):0<=rX p c/\rX p c<4:=by unfold rX;omega
def aDo(l:AB)(c bk f s2 x line below:Int)(o:Option Sp):0<=wE l c bk f s2 x line below o/\wE l c bk f s2 x line below o<4:=by
 unfold wE
 split
 ·exact B8 _ _
 ·split
  ·exact B8 _ _
  ·split<;>exact B8 _ _
def rowU_byts(u:PU):bF (rowU u):=λx hx=>by
 obtain⟨k,_,rfl⟩:=List.mem_map.1 hx
 have:=aDo u.V (u.r 0) (u.r 7) (u.r 8) (u.r 9) k u.line ((belowU u).getD k 0) ((jI (rI u.O (u.r 0) u.line)).find? (hit u.V (u.r 0) k u.line))
 unfold zM;omega
def Nd(h1:u.dot=62)(h2:u.line<144):stepU u=sR (oneU u):=by unfold stepU;rw[ag ⟨h1,h2⟩]
def Js(h1:u.dot=113):stepU u=qF (oneU u):=by unfold stepU;rw[ae I,ag h1]
def Mf(h1:¬(u.dot=62/\u.line<144))(h2:¬u.dot=113):stepU u=oneU u:=by unfold stepU;rw[ae h1,ae h2]
def PU.Wf.one(h:u.Wf)(hd:u.dot<114):(oneU u).Wf:=h.dot_ (by have:=h.dot;omega)
def PU.Wf.paint(h:u.Wf)(hl:u.line<144)(ho:u.own<600):(sR u).Wf:=by
 have h1:=h.P_ (u.line.toNat*160) (rowU_byts u) (by rw[rowU_len];have:=h.line;omega)
 unfold sR
 by_cases hs:pS (viewU u) u.line=true
 ·rw[ag hs];exact h1.own_ (by have:=h.own;omega)
 ·rw[ae hs];exact h1
def aDp(h:u.line=143):qF u={u with dot:=0,line:=144,frames:=(u.frames+1)%65536}:=by unfold qF;rw[ag h]
def aCu(h:u.line=153):qF u={u with dot:=0,line:=0,own:=0}:=by unfold qF;rw[ae I,ag h]
def R3(h1:¬u.line=143)(h2:¬u.line=153):qF u={u with dot:=0,line:=u.line+1}:=by unfold qF;rw[ae h1,ae h2]
def PU.Wf.next(h:u.Wf)(hl:u.line<154):(qF u).Wf:=by
 have hb:=h.line
 by_cases h1:u.line=143
 ·rw[aDp h1];exact((h.dot_ (x:=0) aD).line_ (x:=144) aD).frames_ I
 ·by_cases h2:u.line=153
  ·rw[aCu h2];exact((h.dot_ (x:=0) aD).line_ (x:=0) aD).own_ aD
  ·rw[R3 h1 h2];exact(h.dot_ (x:=0) aD).line_ I
def PU.Ok.own599(h:u.Ok):u.own<600:=by
 have:=h.own;have:=h.line;split at* <;>omega
def PU.Ok.step(h:u.Ok):(stepU u).Wf:=by
 have hd:=h.dot
 by_cases h1:u.dot=62/\u.line<144
 ·rw[Nd h1.1 h1.2];exact(h.wf.one hd).paint h1.2 h.own599
 ·by_cases h2:u.dot=113
  ·rw[Js h2];exact(h.wf.one hd).next h.line
  ·rw[Mf h1 h2];exact h.wf.one hd
def PU.Ok.tick(h:u.Ok):(tickU u).Ok:=by
 unfold tickU
 by_cases hl:jC u=true
 ·rw[ag hl]
  have hs:=h.step
  have hd:=h.dot
  have hn:=h.line
  have ho:=h.own
  have hz:=h.wf.dot
  have hy:=h.wf.line
  refine⟨hs.ask,?_,?_,?_⟩
  all_goals
   show _
   unfold askU
   by_cases h1:u.dot=62/\u.line<144
   ·rw[Nd h1.1 h1.2]
    simp only[sR,oneU]
    split at ho<;>(try split)<;>(try split)<;>omega
   ·by_cases h2:u.dot=113
    ·rw[Js h2]
     unfold qF oneU
     dsimp only
     by_cases h3:u.line=143
     ·rw[ag h3];dsimp only;split at ho<;>(try split)<;>omega
     ·rw[ae h3]
      by_cases h4:u.line=153
      ·rw[ag h4];dsimp only;(try split)<;>omega
      ·rw[ae h4];dsimp only;split at ho<;>(try split)<;>omega
    ·rw[Mf h1 h2]
     unfold oneU
     dsimp only
     split at ho<;>(try split)<;>omega
 ·rw[ae hl];exact h
def bor_ask{x y:Int}(hx:x=0\/x=1)(hy:y=0\/y=2):bI .u8 x y=x+y:=by
 rcases hx with rfl|rfl<;>rcases hy with rfl|rfl<;>decide
def askV_two(u:PU):askV u=0\/askV u=2:=by unfold askV;split<;>simp
def stepV_one(u:PU):stepV u=0\/stepV u=1:=by unfold stepV;split<;>simp
def aRi(h1:jC u=false):false=sigU u:=by unfold sigU;rw[h1];rfl
def aMh(h1:jC u=true)(h2:(aQ .u8 (u.r 1) (Ir (modeU u)) != 0)=true):true=sigU u:=by unfold sigU;rw[h1,h2];rfl
def aKd(h1:jC u=true)(h2:(aQ .u8 (u.r 1) (Ir (modeU u)) != 0)=false)(h3:(aQ .u8 (u.r 1) 64 != 0)=false):false=sigU u:=by unfold sigU;rw[h1,h2,h3];rfl
def aIr(h1:jC u=true)(h2:(aQ .u8 (u.r 1) (Ir (modeU u)) != 0)=false)(h3:(aQ .u8 (u.r 1) 64 != 0)=true):Cz u=sigU u:=by unfold sigU;rw[h1,h2,h3];rfl
def aDk(h:pS (viewU u) u.line=true):sR u={u with P:=iR u.P (u.line.toNat*160) (rowU u),own:=u.own+1}:=by unfold sR;rw[ag h]
def aDq(h:pS (viewU u) u.line=false):sR u={u with P:=iR u.P (u.line.toNat*160) (rowU u)}:=by unfold sR;rw[ae Ft]
end
def qE{w:AI}{b j:Nat}{l:AA}{v:AH}(h:aK w b 0 l)(hv:l[j]? =some v):w.cell? ⟨b,j,none⟩=some v:=by
 simpa using h j v hv
def Cc(u:PU):Int:=bI .u8 (bI .u8 128 (u.r 1)) (modeU u)
def qX(u:PU)(a:Int):Int:=
 if 32768<=a/\a<40960 then u.V.getD (a-32768).toNat 0 else if 65024<=a/\a<65184 then u.O.getD (a-65024).toNat 0
 else if numU a= -1 then 255 else if numU a=4 then u.line%256 else if numU a=1 then(if Cz u=true then bI .u8 (Cc u) 4 else Cc u)else u.r (numU a).toNat
def vH(u:PU)(a:Int):Int:=
 if(32768<=a/\a<40960/\3<=modeU u)\/(65024<=a/\a<65184/\2<=modeU u)then 255 else qX u a
def jU(u:PU)(n:Int)(x:Int):PU:=if n=1 then {u with R:=u.R.set 1 (aQ .u8 x 120)} else if n=4 then u else {u with R:=u.R.set n.toNat x}
def yX(was:Bool)(u:PU):PU:=if was=true/\jC u=false then {u with line:=0,dot:=0,own:=0} else u
def putU(u:PU)(n:Int)(x:Int):PU:=yX (jC u) (jU u n x)
def lF(u:PU)(a x:Int):PU:=
 if 32768<=a/\a<40960 then(if modeU u<3 then {u with V:=u.V.set (a-32768).toNat x} else u)
 else if 65024<=a/\a<65184 then(if modeU u<2 then {u with O:=u.O.set (a-65024).toNat x} else u)
 else if numU a= -1 then u else askU (putU u (numU a) x)
def rJ(u:PU)(a x:Int):Int:=
 if 32768<=a/\a<40960 then 0 else if 65024<=a/\a<65184 then 0 else if numU a= -1 then 0 else askV (putU u (numU a) x)
def wC(u:PU)(n x:Int):PU:=if 0<=n/\n<160 then {u with O:=u.O.set n.toNat x} else u
section
variable {u:PU}{x:Int}
def Xq(hx:0<=x/\x<256):0<=aQ .u8 x 120/\aQ .u8 x 120<256/\aQ .u8 (aQ .u8 x 120) 120=aQ .u8 x 120:=
 eI (p:=λx=>0<=aQ .u8 x 120/\aQ .u8 x 120<256/\aQ .u8 (aQ .u8 x 120) 120=aQ .u8 x 120) eW hx.1 hx.2
def PU.Wf.set1(h:u.Wf)(hx:0<=x/\x<256):({u with R:=u.R.set 1 (aQ .u8 x 120)}:PU).Wf:=h.R_ 1 ⟨(Xq hx).1,(Xq hx).2.1⟩ λ_=>(Xq hx).2.2
def PU.Wf.setn(h:u.Wf)(hx:0<=x/\x<256){n:Int}(_hn:0<=n)(h1:¬n=1):({u with R:=u.R.set n.toNat x}:PU).Wf:=h.R_ n.toNat hx λh2=>absurd h2 I
def PU.Wf.zero(h:u.Wf):({u with line:=0,dot:=0,own:=0}:PU).Wf:=((h.line_ (x:=0) aD).dot_ (x:=0) aD).own_ (x:=0) aD
def set_1{n:Int}(h:n=1):jU u n x={u with R:=u.R.set 1 (aQ .u8 x 120)}:=by unfold jU;rw[ag h]
def Lq{n:Int}(h:n=4):jU u n x=u:=by unfold jU;rw[ae I,ag h]
def set_n{n:Int}(h1:¬n=1)(h4:¬n=4):jU u n x={u with R:=u.R.set n.toNat x}:=by unfold jU;rw[ae h1,ae h4]
def PU.Wf.set(h:u.Wf)(hx:0<=x/\x<256){n:Int}(hn:0<=n):(jU u n x).Wf:=by
 by_cases h1:n=1
 ·rw[set_1 h1];exact h.set1 hx
 ·by_cases h4:n=4
  ·rw[Lq h4];exact h
  ·rw[set_n h1 h4];exact h.setn hx hn h1
def Nm{was:Bool}(h1:was=true)(h2:jC u=false):yX was u={u with line:=0,dot:=0,own:=0}:=by unfold yX;rw[ag ⟨h1,h2⟩]
def off_no{was:Bool}(h:was=false\/jC u=true):yX was u=u:=by
 unfold yX;rw[ae];rintro⟨h1,h2⟩;rcases h with h|h<;>simp_all
def PU.Wf.off(h:u.Wf)(was:Bool):(yX was u).Wf:=by
 unfold yX;split
 ·exact h.zero
 ·exact h
def aBC(b:Int){j:Nat}(hj:j<8192):lF u (32768+j) b=if modeU u<3 then {u with V:=u.V.set j b} else u:=by
 unfold lF
 rw[ag I,show((32768:Int)+j-32768).toNat=j by omega]
def aFd(b:Int){j:Nat}(hj:j<160):lF u (65024+j) b=if modeU u<2 then {u with O:=u.O.set j b} else u:=by
 unfold lF
 rw[ae I,ag I,show((65024:Int)+j-65024).toNat=j by omega]
def aIL{a:Int}(b:Int)(h:¬(32768<=a/\a<40960)/\¬(65024<=a/\a<65184))(hn:numU a= -1):lF u a b=u:=by
 unfold lF;rw[ae h.1,ae h.2,ag hn]
def write_R{a:Int}(b:Int)(h:¬(32768<=a/\a<40960)/\¬(65024<=a/\a<65184))(hn:¬numU a= -1):lF u a b=askU (putU u (numU a) b):=by
 unfold lF;rw[ae h.1,ae h.2,ae hn]
def U7(b:Int){j:Nat}(hj:j<8192):rJ u (32768+j) b=0:=by unfold rJ;rw[ag I]
def aAd(b:Int){j:Nat}(hj:j<160):rJ u (65024+j) b=0:=by unfold rJ;rw[ae I,ag I]
def aKF{a:Int}(b:Int)(h:¬(32768<=a/\a<40960)/\¬(65024<=a/\a<65184))(hn:numU a= -1):rJ u a b=0:=by
 unfold rJ;rw[ae h.1,ae h.2,ag hn]
def wv_R{a:Int}(b:Int)(h:¬(32768<=a/\a<40960)/\¬(65024<=a/\a<65184))(hn:¬numU a= -1):rJ u a b=askV (putU u (numU a) b):=by
 unfold rJ;rw[ae h.1,ae h.2,ae hn]
def aNj{j:Nat}(hj:j<8192):qX u (32768+j)=u.V.getD j 0:=by
 unfold qX;rw[ag I,show((32768:Int)+j-32768).toNat=j by omega]
def aQG{j:Nat}(hj:j<160):qX u (65024+j)=u.O.getD j 0:=by
 unfold qX;rw[ae I,ag I,show((65024:Int)+j-65024).toNat=j by omega]
def Ij{a:Int}(h:¬(32768<=a/\a<40960)/\¬(65024<=a/\a<65184)):
  qX u a=if numU a= -1 then 255 else if numU a=4 then u.line%256 else if numU a=1 then(if Cz u=true then bI .u8 (Cc u) 4 else Cc u)else u.r (numU a).toNat:=by
 unfold qX;rw[ae h.1,ae h.2]
def aFi{j:Nat}(hj:j<8192):vH u (32768+j)=if 3<=modeU u then 255 else qX u (32768+j):=by
 unfold vH;by_cases h:3<=modeU u
 ·rw[ag I,ag h]
 ·rw[ae I,ae h]
def aFt{j:Nat}(hj:j<160):vH u (65024+j)=if 2<=modeU u then 255 else qX u (65024+j):=by
 unfold vH;by_cases h:2<=modeU u
 ·rw[ag I,ag h]
 ·rw[ae I,ae h]
def aOF{a:Int}(h:¬(32768<=a/\a<40960)/\¬(65024<=a/\a<65184)):vH u a=qX u a:=by
 unfold vH;rw[ae I]
def PU.Ok.ask(h:u.Ok):(askU u).Ok:=⟨h.wf.ask,h.line,h.dot,h.own⟩
def PU.Ok.write(h:u.Ok){a:Int}(hx:0<=x/\x<256):(lF u a x).Ok:=by
 have hl:=h.line;have hd:=h.dot;have ho:=h.own
 unfold lF
 split
 ·split
  ·exact⟨h.wf.V_ _ hx,hl,hd,ho⟩
  ·exact h
 ·split
  ·split
   ·exact⟨h.wf.O_ _ hx,hl,hd,ho⟩
   ·exact h
  ·split
   ·exact h
   ·rename_i hn
    have hr:=Ox a
    refine PU.Ok.ask ?_
    have hs:(jU u (numU a) x).Ok:=by
     refine⟨h.wf.set hx I,?_,?_,?_⟩<;>(unfold jU;split; · assumption)<;>split<;>assumption
    unfold putU yX
    split
    ·exact⟨hs.wf.zero,by show(0:Int)<154;decide,by show(0:Int)<114;decide,by show(0:Int)<=255+0+(if(63:Int)<=0 then 1 else 0);decide⟩
    ·exact hs
def PU.Ok.sprite(h:u.Ok)(n:Int)(hx:0<=x/\x<256):(wC u n x).Ok:=by
 have hl:=h.line;have hd:=h.dot;have ho:=h.own
 unfold wC
 split
 ·exact⟨h.wf.O_ _ hx,hl,hd,ho⟩
 ·exact h
end
structure aRT(β:Type) extends aRU β where
 ok:Nat->β->Prop
 oF:∀{n:Nat} {m:β} {a:Int},ok (n+1) m->0<=a/\a<65536->ok n (fetch a m).2/\0<=(fetch a m).1/\(fetch a m).1<256
 oR:∀{n:Nat} {m:β} {a:Int},ok (n+1) m->0<=a/\a<65536->ok n (read a m).2/\0<=(read a m).1/\(read a m).1<256
 oW:∀{n:Nat} {m:β} {a x:Int},ok (n+1) m->0<=a/\a<65536->0<=x/\x<256->ok n (write a x m)
 oI:∀{n:Nat} {m:β},ok (n+1) m->ok n (idle m)
 oP:∀{n:Nat} {m:β},ok n m->0<=pend m/\pend m<32
 oA:∀{k:Nat} {m:β} {n:Int},ok k m->0<=n/\n<5->ok k (ack n m)
 oL:∀{n k:Nat} {m:β},ok n m->k<=n->ok k m
structure mH(P:AL)(β:Type) extends aRT β where
 t0:AJ
 v:AH
 rep:β->aF->Prop
 fF:Nat
 fR:Nat
 fW:Nat
 fI:Nat
 fP:Nat
 fA:Nat
 mF:xX P t0 "Fetch" fF
 mR:xX P t0 "Read" fR
 mW:xX P t0 "Write" fW
 mI:xX P t0 "Idle" fI
 mP:xX P t0 "Pending" fP
 mA:xX P t0 "Ack" fA
 cF:iW P fF=true
 cR:iW P fR=true
 cW:iW P fW=true
 cI:iW P fI=true
 cP:iW P fP=true
 cA:iW P fA=true
 dF:∀{n:Nat} {m:β} {H:aF} {w:AI} {a:Int},ok (n+1) m->rep m H->St w (H.map (·.1)) H w->0<=a/\a<65536->aG P fF [v,.int .u16 a] w (H.map (·.1)) (λu H'=>u= .int .u8 (fetch a m).1/\rep (fetch a m).2 H')
 dR:∀{n:Nat} {m:β} {H:aF} {w:AI} {a:Int},ok (n+1) m->rep m H->St w (H.map (·.1)) H w->0<=a/\a<65536->aG P fR [v,.int .u16 a] w (H.map (·.1)) (λu H'=>u= .int .u8 (read a m).1/\rep (read a m).2 H')
 dW:∀{n:Nat} {m:β} {H:aF} {w:AI} {a x:Int},ok (n+1) m->rep m H->St w (H.map (·.1)) H w->0<=a/\a<65536->0<=x/\x<256->aG P fW [v,.int .u16 a,.int .u8 x] w (H.map (·.1)) (λu H'=>u= .tuple #[]/\rep (write a x m) H')
 dI:∀{n:Nat} {m:β} {H:aF} {w:AI},ok (n+1) m->rep m H->St w (H.map (·.1)) H w->aG P fI [v] w (H.map (·.1)) (λu H'=>u= .tuple #[]/\rep (idle m) H')
 dP:∀{n:Nat} {m:β} {H:aF} {w:AI},ok n m->rep m H->St w (H.map (·.1)) H w->aG P fP [v] w (H.map (·.1)) (λu H'=>u= .int .u8 (pend m)/\H'=H)
 dA:∀{k:Nat} {m:β} {H:aF} {w:AI} {n:Int},ok k m->rep m H->St w (H.map (·.1)) H w->0<=n/\n<5->aG P fA [v,.int .i64 n] w (H.map (·.1)) (λu H'=>u= .tuple #[]/\rep (ack n m) H')
instance {P :AL} {β:Type}:CoeOut (mH P β) (aRT β):=⟨λK=>K.toaRT⟩
section
variable {P:AL}{β:Type}(K:mH P β)
def cN(s:CS):AA:=cS s++[.iface K.t0 K.v]
def sU(rb:Nat)(x:Rn β)(H:aF):Prop:=∃G,H=(rb,J (cN K x.s) 321)::G/\K.rep x.m G
def Kw(w:Int)(i:Nat):Int:=if i=0 then w/256 else w%256
def pushN(A:aRU β)(w:Int)(x:Rn β):Nat->Rn β
 |0=>x
 |i+1=>push1 A (Kw w i) (pushN A w x i)
def aH5(w:Int){i:Nat}(h:i<2):([.int .u8 (w/256),.int .u8 (w%256)]:AA)[0+i]? =some (.int .u8 (Kw w i)):=by
 match i,h with
 |0,_=>rfl
 |1,_=>rfl
def aBU{w:Int}(h:0<=w/\w<65536)(i:Nat):0<=Kw w i/\Kw w i<256:=by unfold Kw;split<;>omega
def popN(A:aRU β)(x:Rn β):Nat->Int×Rn β
 |0=>(0,x)
 |i+1=>((popN A x i).1+(pop1 A (popN A x i).2).1*(if i=0 then 1 else 256),(pop1 A (popN A x i).2).2)
end
section
variable {β:Type}(K:aRT β)
structure RunOk(n:Nat)(x:Rn β):Prop where
 r:x.s.r.Ok
 m:K.ok n x.m
end
section
variable {β:Type}{K:aRT β}{x:Rn β}{n:Nat}
def RunOk.le{k:Nat}(h:RunOk K n x)(hk:k<=n):RunOk K k x:=⟨h.r,K.oL h.m hk⟩
def RunOk.reg(h:RunOk K n x){r:CR}(hr:r.Ok):RunOk K n (x.reg r):=⟨hr,h.m⟩
def RunOk.mem(h:RunOk K n x){k:Nat}{m:β}(hm:K.ok k m):RunOk K k (x.mem m):=⟨h.r,hm⟩
def zA{w:Int}:0<=nE w/\nE w<65536:=by unfold nE;omega
def Aw{w:Int}:0<=rN w/\rN w<65536:=by unfold rN;omega
def CR.Ok.sp_{r:CR}(h:r.Ok){w:Int}(hw:0<=w/\w<65536):({r with sp:=w}:CR).Ok:=⟨h.a,h.f,h.b,h.c,h.d,h.e,h.h,h.l,hw,h.pc⟩
def CR.Ok.pc_{r:CR}(h:r.Ok){w:Int}(hw:0<=w/\w<65536):({r with pc:=w}:CR).Ok:=⟨h.a,h.f,h.b,h.c,h.d,h.e,h.h,h.l,h.sp,hw⟩
def CR.Ok.f_{r:CR}(h:r.Ok){w:Int}(hw:0<=w/\w<256):({r with f:=w}:CR).Ok:=⟨h.a,hw,h.b,h.c,h.d,h.e,h.h,h.l,h.sp,h.pc⟩
def CR.Ok.a_{r:CR}(h:r.Ok){w:Int}(hw:0<=w/\w<256):({r with a:=w}:CR).Ok:=⟨hw,h.f,h.b,h.c,h.d,h.e,h.h,h.l,h.sp,h.pc⟩
def RunOk.gett(h:RunOk K (n+1) x)(k:Int):RunOk K n (gett K.toaRU k x).2/\0<=(gett K.toaRU k x).1/\(gett K.toaRU k x).1<256:=by
 unfold Go.Proofs.YtacejanlmhbddaaGreat.gett
 split
 ·have:=K.oR h.m (tF h.r 2)
  exact⟨h.mem this.1,this.2⟩
 ·exact⟨h.le I,aQI h.r k⟩
def aFF(k:Int):(gett K.toaRU k x).2.s=x.s:=by
 unfold Go.Proofs.YtacejanlmhbddaaGreat.gett;split<;>rfl
def Cq(k:Int):(gett K.toaRU k x).2=x.mem (gett K.toaRU k x).2.m:=by
 unfold Go.Proofs.YtacejanlmhbddaaGreat.gett;split<;>rfl
def RunOk.gmem(h:RunOk K (n+1) x)(k:Int):RunOk K n (x.mem (Go.Proofs.YtacejanlmhbddaaGreat.gett K.toaRU k x).2.m):=by rw[<-Cq];exact(h.gett k).1
def Yf{a v:Int}{i:Nat}(hi:i<2)(ha:0<=a/\a<256)(hz:i=0->a=0)(hv:0<=v/\v<256):bI .u16 a (shl .u16 v (8*(i:Int)))=a+v*(if i=0 then 1 else 256):=by
 match i,hi with
 |0,_=>
  obtain rfl:=hz rfl
  rw[ag rfl]
  have e:shl .u16 v (8*((0:Nat):Int))=v:=by unfold shl;exact(tW (by show 0<=v*2^0;omega) (by show v*2^0<65536;omega)).trans (by show v*2^0=v;omega)
  rw[e]
  have:=Az (h:=0) (l:=v) aD hv
  simpa using this
 |1,_=>
  rw[ae aD]
  have:=L3 ha hv
  rw[show(8*((1:Nat):Int))=8 by rfl,this]
  omega
def RunOk.far(h:RunOk K n x)(k:Int):RunOk K n (Go.Proofs.YtacejanlmhbddaaGreat.far k x).2/\0<=(Go.Proofs.YtacejanlmhbddaaGreat.far k x).1/\(Go.Proofs.YtacejanlmhbddaaGreat.far k x).1<65536:=by
 unfold Go.Proofs.YtacejanlmhbddaaGreat.far
 split
 ·exact⟨h,tF h.r k⟩
 ·refine⟨h.reg (h.r.setP 2 ?_),tF h.r 2⟩
  split
  ·exact zA
  ·exact Aw
def RunOk.sett(h:RunOk K (n+1) x)(k:Int){v:Int}(hv:0<=v/\v<256):RunOk K n (sett K.toaRU k v x):=by
 unfold Go.Proofs.YtacejanlmhbddaaGreat.sett
 split
 ·exact h.mem (K.oW h.m (tF h.r 2) hv)
 ·exact(h.le I).reg (h.r.set k hv)
def RunOk.push1(h:RunOk K (n+1) x){v:Int}(hv:0<=v/\v<256):RunOk K n (push1 K.toaRU v x):=⟨h.r.sp_ Aw,K.oW h.m Aw hv⟩
def RunOk.push(h:RunOk K (n+2) x){w:Int}(hw:0<=w/\w<65536):RunOk K n (push K.toaRU w x):=(h.push1 (v:=w/256) I).push1 (v:=w%256) I
def RunOk.pop1(h:RunOk K (n+1) x):RunOk K n (pop1 K.toaRU x).2/\0<=(pop1 K.toaRU x).1/\(pop1 K.toaRU x).1<256:=by
 have:=K.oR h.m h.r.sp
 exact⟨⟨h.r.sp_ zA,this.1⟩,this.2⟩
def RunOk.pop(h:RunOk K (n+2) x):RunOk K n (pop K.toaRU x).2/\0<=(pop K.toaRU x).1/\(pop K.toaRU x).1<65536:=by
 have h1:=h.pop1
 have h2:=h1.1.pop1
 refine⟨h2.1,?_⟩
 unfold Go.Proofs.YtacejanlmhbddaaGreat.pop
 dsimp only
 omega
def RunOk.pushN(h:RunOk K (n+2) x){w:Int}(hw:0<=w/\w<65536):∀i,i<=2->RunOk K (n+(2-i)) (pushN K.toaRU w x i)
 |0,_=>h
 |i+1,hi=>RunOk.push1 ((h.pushN hw i I).le I) (aBU hw i)
def RunOk.popN(h:RunOk K (n+2) x):∀i,i<=2->RunOk K (n+(2-i)) (popN K.toaRU x i).2
 |0,_=>h
 |i+1,hi=>(RunOk.pop1 ((h.popN i I).le I)).1
def Yj :popN K.toaRU x 2=pop K.toaRU x:=by
 unfold Go.Proofs.YtacejanlmhbddaaGreat.pop
 simp only[Go.Proofs.YtacejanlmhbddaaGreat.popN]
 simp only[if_true,Int.zero_add,Int.mul_one]
 rw[ae aD,Int.add_comm]
def aK5(h:RunOk K (n+1) x){i:Nat}(hi:i<2):0<=(popN K.toaRU x i).1/\(popN K.toaRU x i).1<256:=by
 match i,hi with
 |0,_=>exact⟨iu 0,show(0:Int)<256 by decide⟩
 |1,_=>
  have:=h.pop1.2
  simp only[Go.Proofs.YtacejanlmhbddaaGreat.popN,if_true,Int.zero_add,Int.mul_one]
  exact this
def RunOk.idles{k:Nat}(h:RunOk K (n+k) x):∀i,i<=k->RunOk K (n+(k-i)) (idles K.toaRU i x)
 |0,_=>h
 |i+1,hi=>(h.idles i I).mem (K.oI (K.oL (h.idles i I).m I))
def RunOk.idleK(k:Nat)(h:RunOk K (n+k) x):RunOk K n (Go.Proofs.YtacejanlmhbddaaGreat.idles K.toaRU k x):=(h.idles k (be _)).le I
def RunOk.fetch1(h:RunOk K (n+1) x):RunOk K n (fetch1 K.toaRU x).2/\0<=(fetch1 K.toaRU x).1/\(fetch1 K.toaRU x).1<256:=by
 have:=K.oF h.m h.r.pc
 exact⟨⟨h.r.pc_ zA,this.1⟩,this.2⟩
end
structure rB(o:cJ):Prop where
 n:0<=o.n/\o.n<65536
 x:0<=o.x/\o.x<8
 small:o.kind=34\/o.kind=35->o.n<256
def aN3(o:cJ):Bool:=decide (0<=o.n/\o.n<256/\0<=o.x/\o.x<8/\((o.kind=34\/o.kind=35)->o.size=2))
def aO8 :tS.all aN3=true:=by kernel_rfl
def aHH{a b c:Int}(ha:0<=a/\a<256)(hb:0<=b/\b<256)(hc:0<=c/\c<256):rB (zT a b c):=by
 by_cases h:a=203
 ·rw[Ym h];unfold Bo
  split<;>exact⟨⟨fU,fU⟩,⟨fU,fU⟩,λhk=>by dsimp only at hk⊢; omega⟩
 ·obtain⟨m,o,hm,_,ho⟩:=Yu ha.1 ha.2
  have hr:0<=o.n/\o.n<256/\0<=o.x/\o.x<8/\((o.kind=34\/o.kind=35)->o.size=2):=df (List.all_eq_true.1 aO8 o (cr ho))
  rw[Mc hm h ho]
  by_cases h2:o.size=2
  ·rw[Yr h2];exact⟨⟨hb.1,fU⟩,⟨hr.2.2.1,hr.2.2.2.1⟩,λ_=>hb.2⟩
  ·by_cases h3:o.size=3
   ·rw[P0 h3];exact⟨⟨fU,fU⟩,⟨hr.2.2.1,hr.2.2.2.1⟩,λhk=>absurd (hr.2.2.2.2 hk) h2⟩
   ·rw[Zj h2 h3];exact⟨⟨hr.1,aR⟩,⟨hr.2.2.1,hr.2.2.2.1⟩,λhk=>absurd (hr.2.2.2.2 hk) h2⟩
def St.notin{A B:aF}{w0 w:AI}{ms:AE}(h:St w0 ms (A++B) w){x:Nat×Obj}(hx:x∈B):x.1∉A.map (·.1):=λhm=>by
 have:=h.nodup
 rw[bz,dx]at this
 exact this.2.2 _ hm _ (List.mem_map_of_mem hx) U
def aPf(z n h c:Bool):aQ .u8 (fl z n h c) 16=fl false false false c:=by cases z<;>cases n<;>cases h<;>cases c<;>decide
def aBR{v n:Int}(hv:0<=v/\v<256)(hn:0<=n/\n<8):lD .u8 v (shl .u8 1 n)=tU v n:=by
 rcases(show n=0\/n=1\/n=2\/n=3\/n=4\/n=5\/n=6\/n=7 by omega)with rfl|rfl|rfl|rfl|rfl|rfl|rfl|rfl
 all_goals revert v;intro v hv;refine eI (p:=λv=>lD .u8 v (shl .u8 1 _)=tU v _) ?_ hv.1 hv.2;decide +kernel
def aNv{v n:Int}(hv:0<=v/\v<256)(hn:0<=n/\n<8):bI .u8 v (shl .u8 1 n)=wR v n:=by
 rcases(show n=0\/n=1\/n=2\/n=3\/n=4\/n=5\/n=6\/n=7 by omega)with rfl|rfl|rfl|rfl|rfl|rfl|rfl|rfl
 all_goals revert v;intro v hv;refine eI (p:=λv=>bI .u8 v (shl .u8 1 _)=wR v _) ?_ hv.1 hv.2;decide +kernel
def Tn{v n:Int}(hv:0<=v/\v<256)(hn:0<=n/\n<8):(0<=tU v n/\tU v n<256)/\(0<=wR v n/\wR v n<256):=by
 rcases(show n=0\/n=1\/n=2\/n=3\/n=4\/n=5\/n=6\/n=7 by omega)with rfl|rfl|rfl|rfl|rfl|rfl|rfl|rfl
 all_goals revert v;intro v hv;refine eI (p:=λv=>(0<=tU v _/\tU v _<256)/\(0<=wR v _/\wR v _<256)) ?_ hv.1 hv.2;decide +kernel
def aLq{f:Int}(h:0<=f/\f<256):bI .u8 (bI .u8 (aQ .u8 f 144) 64) 32=fl (zF f) true true (cF f):=eI (p:=λf=>bI .u8 (bI .u8 (aQ .u8 f 144) 64) 32=fl (zF f) true true (cF f)) eW h.1 h.2
def aNH{f:Int}(h:0<=f/\f<256):bI .u8 (aQ .u8 f 128) 16=fl (zF f) false false true:=eI (p:=λf=>bI .u8 (aQ .u8 f 128) 16=fl (zF f) false false true) eW h.1 h.2
def aMs{f:Int}(h:0<=f/\f<256):lK .u8 (aQ .u8 f 144) 16=fl (zF f) false false (!cF f):=eI (p:=λf=>lK .u8 (aQ .u8 f 144) 16=fl (zF f) false false (!cF f)) eW h.1 h.2
def aJ8{a b:Int}{c:Bool}:0<=rQ a b c/\rQ a b c<256:=by unfold rQ;omega
def aJc{a b:Int}{c:Bool}:0<=rT a b c/\rT a b c<256:=by unfold rT;omega
def aCC{a:Int}:0<=zN a/\zN a<256:=by unfold zN;omega
def V9{a:Int}:0<=Av a/\Av a<256:=by unfold Av;omega
def aOj{a f:Int}:0<=tY a f/\tY a f<256:=by unfold tY;split<;>omega
def Yy{k a f:Int}(h:0<=a/\a<256):0<=gQ k a f/\gQ k a f<256:=by
 have:=Mo (cF f)
 unfold gQ;repeat' split
 all_goals omega
def Zf{a b:Int}:0<=zP a b/\zP a b<65536:=by unfold zP;omega
def Lm{a b:Int}:0<=rK a b/\rK a b<65536:=by unfold rK;omega
def aJW(n:Int):IntKind.i8.wrap n=s8 (n%256):=by
 show(if(true&&decide (n%256>=128))=true then n%256-256 else n%256)=_
 unfold s8
 split
 ·rename_i h;simp at h;rw[ag I]
 ·rename_i h;simp at h;rw[ae I]
def aH1{a:Int}(h:0<=a/\a<256):lK .u8 255 a=255-a:=eI (p:=λa=>lK .u8 255 a=255-a) eW h.1 h.2
def Rh{n:Int}(h:0<=n/\n<256):bI .u16 65280 n=65280+n:=by
 have:=Az (h:=255) (l:=n) aD h
 simpa using this
section
variable {β:Type}(A:aRU β)
def Jz{o:cJ}(h:kW o.kind=false)(x:Rn β):gR A o x=x:=by
 have:=dk h
 unfold gR;repeat rw[ae I]
def Np{o:cJ}(h:pA o.kind=false)(x:Rn β):jX A o x=x:=by
 have:=dk h
 unfold jX;repeat rw[ae I]
end
section
variable {β:Type}{K:aRT β}{x:Rn β}{n:Nat}
def aCT{r:CR}(h:r.Ok)(k:Int){b:Int}:(kU r k b).Ok:=by
 have hf:∀z n h c,0<=fl z n h c/\fl z n h c<256:=vR
 have b1:0<=aQ .u8 r.a b/\aQ .u8 r.a b<256:=by unfold aQ;rw[nW];omega
 have b2:0<=lK .u8 r.a b/\lK .u8 r.a b<256:=by unfold lK;rw[nW];omega
 have b3:0<=bI .u8 r.a b/\bI .u8 r.a b<256:=by unfold bI;rw[nW];omega
 unfold kU Au tP tA
 repeat' split
 all_goals first|exact h|exact(h.a_ aJ8).f_ (hf _ _ _ _)|exact(h.a_ aJc).f_ (hf _ _ _ _)|exact h.f_ (hf _ _ _ _)|exact(h.a_ b1).f_ (hf _ _ _ _)|exact(h.a_ b2).f_ (hf _ _ _ _)|exact(h.a_ b3).f_ (hf _ _ _ _)
end
section
variable {β:Type}{K:aRT β}{x:Rn β}{n:Nat}
structure yP(K:aRT β)(n:Nat)(q:Nx β):Prop where
 x:RunOk K n q.x
 len:q.b.length=3
 by_:bF q.b
 o:rB q.o
 sz:q.o.size<=3
def yP.le{q:Nx β}{k:Nat}(h:yP K n q)(hk:k<=n):yP K k q:=⟨h.x.le hk,h.len,h.by_,h.o,h.sz⟩
def yP.next{q:Nx β}(h:yP K (n+1) q)(i:Nat):yP K n (Zp K.toaRU q i):=by
 have hf:=h.x.fetch1
 have hb:=xW h.by_ i hf.2
 exact⟨hf.1,by simp[Zp,h.len],hb,aHH (hb.get 0) (hb.get 1) (hb.get 2),(aC9 (hb.get 0) (hb.get 1) (hb.get 2)).size.2⟩
def RunOk.nx(h:RunOk K (n+3) x):∀i,i<=3->yP K (n+(3-i)) (iQ K.toaRU x i)
 |0,_=>⟨h,rfl,by intro y hy;simp[nx0,iQ]at hy;omega,show rB ⟨0,0,0,1,0⟩from⟨iH,iH,iH⟩,show(1:Int)<=3 by decide⟩
 |i+1,hi=>yP.next (by rw[show n+(3-(i+1))+1=n+(3-i)by omega];exact h.nx i I) i
def aGx(A:aRU β){i:Nat}(hi:i<=3)(hp:∀j:Nat,j<i->(j:Int)<(iQ A x j).o.size)(he:¬(i:Int)<(iQ A x i).o.size):nextT A x=((iQ A x i).o,(iQ A x i).x):=by
 unfold nextT
 match i,hi with
 |0,_=>exact absurd (show(0:Int)<1 by decide) he
 |1,_=>rw[ag I]
 |2,_=>
  have:=hp 1 I
  rw[ae I,ag I]
 |3,_=>
  have:=hp 1 I
  have:=hp 2 I
  rw[ae I,ae I]
def aBu(h:RunOk K (n+3) x):RunOk K n (nextT K.toaRU x).2/\rB (nextT K.toaRU x).1:=by
 have h1:=h.nx 1 I
 have h2:=h.nx 2 I
 have h3:=h.nx 3 I
 unfold nextT
 split
 ·exact⟨h1.x.le I,h1.o⟩
 ·split
  ·exact⟨h2.x.le I,h2.o⟩
  ·exact⟨h3.x.le I,h3.o⟩
def aQP{p:Int}(h:0<=p/\p<32):(aQ .u8 p 16==0)=(p/16%2==0):=eI (p:=λp=>(aQ .u8 p 16==0)=(p/16%2==0)) eW h.1 I
def aBe(p:Int):0<=oC p/\oC p<5:=by
 unfold oC;repeat' split
 all_goals decide
end
section
variable {β:Type}{K:aRT β}{x:Rn β}{n:Nat}
def Xd(h:RunOk K (n+2) x)(k:Int){g:Int->Int->Int×Int}(hg:∀a f,0<=a/\a<256->0<=f/\f<256->(0<=(g a f).1/\(g a f).1<256)/\(0<=(g a f).2/\(g a f).2<256)):RunOk K n (change K.toaRU k g x):=by
 have h1:=h.gett k
 have h2:=hg _ _ h1.2 h1.1.r.f
 have h3:=RunOk.sett h1.1 k h2.1
 exact h3.reg (h3.r.f_ h2.2)
def qT{c:Prop}[Decidable c]{a b:Rn β}(h1:RunOk K n a)(h2:RunOk K n b):RunOk K n (if c then a else b):=by split<;>assumption
def aOh(h:RunOk K (n+2) x){o:cJ}(ho:rB o):RunOk K n (gR K.toaRU o x):=by
 have h0:=h.le (k:=n) I
 have h1:=h.le (k:=n+1) I
 have gy:=h1.gett o.y
 have gy2:=h.gett o.y
 have hn:0<=o.n%256/\o.n%256<256:=by omega
 have hb:=Tn gy.2 ho.x
 have fb:=λz n h c=>vR z n h c
 unfold gR
 refine qT (RunOk.sett gy2.1 _ gy.2) ?_
 refine qT (h1.sett _ hn) ?_
 refine qT (gy.1.reg (aCT gy.1.r _)) ?_
 refine qT (h0.reg (aCT h.r _)) ?_
 refine qT (Xd h _ λa f _ _=>⟨aCC,fb _ _ _ _⟩) ?_
 refine qT (Xd h _ λa f _ _=>⟨V9,fb _ _ _ _⟩) ?_
 refine qT (Xd h _ λa f ha _=>⟨Yy ha,fb _ _ _ _⟩) ?_
 refine qT (h0.reg ((h.r.a_ (Yy h.r.a)).f_ (fb _ _ _ _))) ?_
 refine qT (gy.1.reg (gy.1.r.f_ (fb _ _ _ _))) ?_
 refine qT (RunOk.sett gy2.1 _ hb.1) ?_
 refine qT (RunOk.sett gy2.1 _ hb.2) ?_
 refine qT (h0.reg ((h.r.a_ aOj).f_ (fb _ _ _ _))) ?_
 refine qT (h0.reg ((h.r.a_ (w:=255-x.s.r.a) (by have:=h.r.a;omega)).f_ (fb _ _ _ _))) ?_
 refine qT (h0.reg (h.r.f_ (fb _ _ _ _))) ?_
 refine qT (h0.reg (h.r.f_ (fb _ _ _ _))) ?_
 exact h0
def aH8(h:RunOk K (n+3) x){o:cJ}(ho:rB o):RunOk K n (jX K.toaRU o x):=by
 have h0:=h.le (k:=n) I
 have h1:=h.le (k:=n+1) I
 have h2:=h.le (k:=n+2) I
 have fb:=λz n h c=>vR z n h c
 have hs:=h.r.sp
 unfold jX
 repeat' split
 ·exact h0.reg (h.r.setP _ ho.n)
 ·exact RunOk.idleK 1 (h1.reg (h.r.setP _ zA))
 ·exact RunOk.idleK 1 (h1.reg (h.r.setP _ Aw))
 ·exact RunOk.idleK 1 (h1.reg ((h.r.f_ (fb _ _ _ _)).setP _ Zf))
 ·exact RunOk.idleK 2 (h2.reg ((h.r.sp_ Lm).f_ (fb _ _ _ _)))
 ·exact RunOk.idleK 1 (h1.reg ((h.r.f_ (fb _ _ _ _)).setP _ Lm))
 ·exact RunOk.idleK 1 (h1.reg (h.r.sp_ (tF h.r _)))
 ·exact RunOk.push (h.idleK 1) (tF (h.idleK 1).r _)
 ·exact h2.pop.1.reg (h2.pop.1.r.setP _ h2.pop.2)
 ·exact h0.mem (K.oW (K.oW h2.m ho.n I) zA I)
 ·exact h0
def aJO(h:RunOk K n x){o:cJ}(ho:rB o):RunOk K n (place o x).2/\0<=(place o x).1/\(place o x).1<65536:=by
 have hc:=h.r.c
 unfold place
 repeat' split
 ·exact h.far _
 ·exact⟨h,fU,fU⟩
 ·exact⟨h,fU,fU⟩
 ·exact⟨h,ho.n⟩
def aQO(h:RunOk K (n+1) x){o:cJ}(ho:rB o):RunOk K n (mO K.toaRU o x):=by
 have hp:=aJO h ho
 unfold mO
 dsimp only
 split
 ·have:=K.oR hp.1.m hp.2
  exact⟨hp.1.r.a_ this.2,this.1⟩
 ·exact hp.1.mem (K.oW hp.1.m hp.2 hp.1.r.a)
def aHf(h:RunOk K (n+4) x){o:cJ}(ho:rB o):RunOk K n (effJ K.toaRU o x):=by
 have hx:RunOk K (n+3) (if o.kind=26/\o.x≠4 then idles K.toaRU 1 x else x):=by
  split
  ·exact h.idleK 1
  ·exact h.le I
 unfold effJ
 dsimp only
 generalize (if o.kind=26/\o.x≠4 then idles K.toaRU 1 x else x)=y at hx⊢
 have h1:=hx.idleK 1
 have hg:∀{k:Nat} {z:Rn β} {w:Int},RunOk K k z->0<=w/\w<65536->RunOk K k (goto w z):=λhz hw=>hz.reg (hz.r.pc_ hw)
 repeat' split
 ·exact hx.le I
 ·exact hg (h1.le I) I
 ·exact hg (h1.le I) ho.n
 ·exact hg (RunOk.push h1 hx.r.pc) ho.n
 ·have hq:RunOk K (n+1+2) ⟨{y.s with ime:=true},y.m⟩:=⟨hx.r,hx.m⟩
  exact RunOk.idleK 1 (hg hq.pop.1 hq.pop.2)
 ·have hq:RunOk K (n+1+2) y:=hx
  exact RunOk.idleK 1 (hg hq.pop.1 hq.pop.2)
 ·exact hg (hx.le I) (tF hx.r 2)
 ·exact hx.le I
def aOs(h:RunOk K (n+4) x){o:cJ}(ho:rB o){p:Int}(hp:0<=p/\p<65536):RunOk K n (ordT K.toaRU o p x).2:=by
 have h0:=h.le (k:=n) I
 unfold ordT
 repeat' split
 ·exact⟨h.r,h0.m⟩
 ·exact⟨h.r,h0.m⟩
 ·exact h0.reg (h.r.pc_ hp)
 ·exact⟨h.r,h0.m⟩
 ·exact⟨h.r,h0.m⟩
 ·exact aOh (h.le I) ho
 ·exact aH8 (h.le I) ho
 ·exact aQO (h.le I) ho
 ·exact aHf h ho
def aHK(h:RunOk K (n+5) x)(p:Int):RunOk K n (An K.toaRU p x):=by
 have h1:=RunOk.push (n:=n+1) (h.idleK 2) h.r.pc
 have hl:=aBe p
 have h2:=RunOk.idleK (n:=n) 1 (h1.mem (K.oA h1.m hl))
 exact⟨h2.r.pc_ I,h2.m⟩
def M9(h:RunOk K (n+7) x):RunOk K n (fL K.toaRU x).2:=by
 have h0:=h.le (k:=n) I
 have h1:=h.le (k:=n+1) I
 unfold fL
 dsimp only
 repeat' split
 ·exact⟨h.r,K.oI h1.m⟩
 ·exact h0.mem (K.oI h1.m)
 ·exact aHK (n:=n) (x:=⟨{x.s with halt:=false},x.m⟩) ⟨h.r,K.oL h.m I⟩ _
 all_goals
  have hq:=aBu (n:=n+4) (K:=K) (x:=⟨{x.s with halt:=false,soon:=false},x.m⟩) ⟨h.r,h.m⟩
  have ho:=aOs hq.1 hq.2 h.r.pc
  first|exact ho|exact⟨ho.r,ho.m⟩
end
structure Ac where
 kind:Int
 addr:Int
 val:Int
deriving DecidableEq
def cAc(a:Ac):AA:=[.int .i64 a.kind,.int .u16 a.addr,.int .u8 a.val]
def aPE(a:Ac):(cAc a).length=3:=rfl
structure Hd where
 title:List UInt8
 kind:Int
 clock:Bool
 battery:Bool
 banks:Int
 ram:Int
 whole:Bool
deriving DecidableEq
def cHd(h:Hd):AA:=[.string (bs h.title),.int .i64 h.kind,.bool h.clock,.bool h.battery,.int .i64 h.banks,.int .i64 h.ram,.bool h.whole]
structure Mm where
 cpu:CS
 bk:Bk
 ck:Ck
 tm:Tm
 pd:Pd
 pt:Pt
 cp:Cp
 bd:Bd
 flags:Int
 lets:Int
 steps:Int
 cycles:Int
 hd:Hd
 u:PU
 rom:AB
 ram:AB
 work:AB
 high:AB
 acc:List Ac
def pictured(a:Int):Bool:=decide ((32768<=a/\a<40960)\/(65024<=a/\a<65184)\/(65344<=a/\a<65356/\a≠65350))
def askM(k:Int)(is:Bool)(m:Mm):Mm:=if is=true then {m with flags:=bI .u8 m.flags k} else m
def yY(a:Int)(m:Mm):Int:=match clockB m.bk with
 |some p=>Ee p m.ck
 |none=>match atB_ a m.bk with
  |none=>255
  |some n=>if m.hd.kind=2 then bI .u8 (m.ram.getD n.toNat 0) 240 else m.ram.getD n.toNat 0
def deviceM(a:Int)(m:Mm):Int:=
 if a=65280 then So m.pd else if a<65283 then readPt (a-65281) m.pt else if 65284<=a/\a<65288 then readTm (a-65284) m.tm
 else if a=65295 then bI .u8 m.flags 224 else if 65296<=a/\a<65344 then readB (a-65296) m.bd else if a=65350 then m.cp.page
 else if a=65535 then m.lets else if 65408<=a then m.high.getD (a-65408).toNat 0 else 255
def qG(a:Int)(m:Mm):Int:=
 if a<32768 then m.rom.getD (Cr a m.bk).toNat 0 else if pictured a=true then qX m.u a else if a<49152 then yY a m
 else if a<65024 then m.work.getD (a%8192).toNat 0 else if a<65280 then 255 else deviceM a m
def nY(a x:Int)(m:Mm):Mm:=match clockB m.bk with
 |some p=>{m with ck:=writeCk p x m.ck}
 |none=>match atB_ a m.bk with
  |none=>m
  |some n=>{m with ram:=m.ram.set n.toNat x}
def setDeviceM(a x:Int)(m:Mm):Mm:=
 if a=65280 then askM 16 (zD m.pd (rD x m.pd)) {m with pd:=rD x m.pd} else if a<65283 then {m with pt:=writePt (a-65281) x m.pt}
 else if 65284<=a/\a<65288 then {m with tm:=writeTm (a-65284) x m.tm} else if a=65295 then {m with flags:=aQ .u8 x 31}
 else if 65296<=a/\a<65344 then {m with bd:=writeBd (a-65296) x m.bd} else if a=65350 then {m with cp:=Ep x}
 else if a=65535 then {m with lets:=x} else if 65408<=a then {m with high:=m.high.set (a-65408).toNat x} else m
def wQ(is:Bool)(m:Mm):Mm:=if is=true then {m with ck:=Bx m.ck} else m
def pokeM(a x:Int)(m:Mm):Mm:=
 if a<32768 then wQ (latchB a x m.bk) {m with bk:=writeB a x m.bk} else if pictured a=true then askM 2 (aQ .u8 (rJ m.u a x) 2 != 0) {m with u:=lF m.u a x}
 else if a<49152 then nY a x m else if a<65024 then {m with work:=m.work.set (a%8192).toNat x} else if a<65280 then m else setDeviceM a x m
def cyc1(m:Mm):Mm:=askM 4 m.tm.over {m with cycles:=(m.cycles+1)%18446744073709551616,tm:=vE m.tm}
def cyc2(m:Mm):Mm:=askM 8 (uO m.pt) {m with pt:=tickPt m.pt}
def cyc3(m:Mm):Mm:=if 0<m.cp.left then {m with cp:=tickCp m.cp,u:=wC m.u (Ci m.cp) (qG (wI m.cp) {m with cp:=tickCp m.cp})} else m
def cyc4(m:Mm):Mm:={m with bd:=tickB m.bd}
def cyc5(m:Mm):Mm:=askM 2 (aQ .u8 (tickV m.u) 2 != 0) (askM 1 (aQ .u8 (tickV m.u) 1 != 0) {m with u:=tickU m.u})
def qU(m:Mm):Mm:=if m.hd.clock=true then {m with ck:=tickCk m.ck} else m
def cycleM(m:Mm):Mm:=qU (cyc5 (cyc4 (cyc3 (cyc2 (cyc1 m)))))
def xK(k a x:Int)(m:Mm):Mm:={m with acc:=m.acc++[⟨k,a,x⟩]}
def seenM(a:Int)(m:Mm):Int:=if letsCp m.cp a=false then 255 else if pictured a=true then vH m.u a else qG a m
def fE :aRU Mm where
 fetch a m:=(seenM a (cycleM m),xK 3 a (seenM a (cycleM m)) (cycleM m))
 read a m:=(seenM a (cycleM m),xK 1 a (seenM a (cycleM m)) (cycleM m))
 write a x m:=xK 2 a x (if letsCp (cycleM m).cp a=true then pokeM a x (cycleM m)else cycleM m)
 idle m:=xK 0 0 0 (cycleM m)
 pend m:=aQ .u8 (aQ .u8 m.flags m.lets) 31
 ack n m:={m with flags:=tU m.flags n}
def sY(x:Int)(m:Mm):Mm:=askM 16 (zD m.pd (rA x m.pd)) {m with pd:=rA x m.pd}
def fB(plan:List gG)(m:Mm):Mm:={sY (jQ plan m.steps) m with acc:=[]}
def eP(plan:List gG)(m:Mm):Dd×Mm:=
 let q:=fL fE (⟨m.cpu,fB plan m⟩:Rn Mm)
 (q.1,{q.2.m with cpu:=q.2.s,steps:=(q.2.m.steps+1)%18446744073709551616})
structure Mm.Wf(m:Mm):Prop where
 bk:m.bk.Ok
 ck:m.ck.Ok
 tm:m.tm.Ok
 pd:m.pd.Ok
 pt:m.pt.Ok
 cp:m.cp.Ok
 bd:m.bd.Wf
 flags:0<=m.flags/\m.flags<256
 lets:0<=m.lets/\m.lets<256
 steps:0<=m.steps/\m.steps<18446744073709551616
 cycles:0<=m.cycles/\m.cycles<18446744073709551616
 u:m.u.Ok
 banks:0<m.bk.banks
 lRom:(m.rom.length:Int)=16384*m.bk.banks
 bRom:bF m.rom
 lRam:(m.ram.length:Int)=m.bk.ram
 bRam:bF m.ram
 lWork:m.work.length=8192
 bWork:bF m.work
 lHigh:m.high.length=127
 bHigh:bF m.high
structure iS(n:Nat)(m:Mm):Prop where
 wf:m.Wf
 room:m.acc.length+n<=1000000
 accs:∀e∈m.acc,(0<=e.addr/\e.addr<65536)/\0<=e.val/\e.val<256
section
variable {m:Mm}
def Mm.Wf.flags_(h:m.Wf){x:Int}(hx:0<=x/\x<256):({m with flags:=x}:Mm).Wf:=⟨h.bk,h.ck,h.tm,h.pd,h.pt,h.cp,h.bd,hx,h.lets,h.steps,h.cycles,h.u,h.banks,h.lRom,h.bRom,h.lRam,h.bRam,h.lWork,h.bWork,h.lHigh,h.bHigh⟩
def Mm.Wf.lets_(h:m.Wf){x:Int}(hx:0<=x/\x<256):({m with lets:=x}:Mm).Wf:=⟨h.bk,h.ck,h.tm,h.pd,h.pt,h.cp,h.bd,h.flags,hx,h.steps,h.cycles,h.u,h.banks,h.lRom,h.bRom,h.lRam,h.bRam,h.lWork,h.bWork,h.lHigh,h.bHigh⟩
def Mm.Wf.tm_(h:m.Wf){x:Tm}(hx:x.Ok):({m with tm:=x}:Mm).Wf:=⟨h.bk,h.ck,hx,h.pd,h.pt,h.cp,h.bd,h.flags,h.lets,h.steps,h.cycles,h.u,h.banks,h.lRom,h.bRom,h.lRam,h.bRam,h.lWork,h.bWork,h.lHigh,h.bHigh⟩
def Mm.Wf.ck_(h:m.Wf){x:Ck}(hx:x.Ok):({m with ck:=x}:Mm).Wf:=⟨h.bk,hx,h.tm,h.pd,h.pt,h.cp,h.bd,h.flags,h.lets,h.steps,h.cycles,h.u,h.banks,h.lRom,h.bRom,h.lRam,h.bRam,h.lWork,h.bWork,h.lHigh,h.bHigh⟩
def Mm.Wf.pd_(h:m.Wf){x:Pd}(hx:x.Ok):({m with pd:=x}:Mm).Wf:=⟨h.bk,h.ck,h.tm,hx,h.pt,h.cp,h.bd,h.flags,h.lets,h.steps,h.cycles,h.u,h.banks,h.lRom,h.bRom,h.lRam,h.bRam,h.lWork,h.bWork,h.lHigh,h.bHigh⟩
def Mm.Wf.pt_(h:m.Wf){x:Pt}(hx:x.Ok):({m with pt:=x}:Mm).Wf:=⟨h.bk,h.ck,h.tm,h.pd,hx,h.cp,h.bd,h.flags,h.lets,h.steps,h.cycles,h.u,h.banks,h.lRom,h.bRom,h.lRam,h.bRam,h.lWork,h.bWork,h.lHigh,h.bHigh⟩
def Mm.Wf.cp_(h:m.Wf){x:Cp}(hx:x.Ok):({m with cp:=x}:Mm).Wf:=⟨h.bk,h.ck,h.tm,h.pd,h.pt,hx,h.bd,h.flags,h.lets,h.steps,h.cycles,h.u,h.banks,h.lRom,h.bRom,h.lRam,h.bRam,h.lWork,h.bWork,h.lHigh,h.bHigh⟩
def Mm.Wf.bd_(h:m.Wf){x:Bd}(hx:x.Wf):({m with bd:=x}:Mm).Wf:=⟨h.bk,h.ck,h.tm,h.pd,h.pt,h.cp,hx,h.flags,h.lets,h.steps,h.cycles,h.u,h.banks,h.lRom,h.bRom,h.lRam,h.bRam,h.lWork,h.bWork,h.lHigh,h.bHigh⟩
def Mm.Wf.u_(h:m.Wf){x:PU}(hx:x.Ok):({m with u:=x}:Mm).Wf:=⟨h.bk,h.ck,h.tm,h.pd,h.pt,h.cp,h.bd,h.flags,h.lets,h.steps,h.cycles,hx,h.banks,h.lRom,h.bRom,h.lRam,h.bRam,h.lWork,h.bWork,h.lHigh,h.bHigh⟩
def Mm.Wf.cycles_(h:m.Wf){x:Int}(hx:0<=x/\x<18446744073709551616):({m with cycles:=x}:Mm).Wf:=⟨h.bk,h.ck,h.tm,h.pd,h.pt,h.cp,h.bd,h.flags,h.lets,h.steps,hx,h.u,h.banks,h.lRom,h.bRom,h.lRam,h.bRam,h.lWork,h.bWork,h.lHigh,h.bHigh⟩
def Mm.Wf.steps_(h:m.Wf){x:Int}(hx:0<=x/\x<18446744073709551616)(s:CS):({m with cpu:=s,steps:=x}:Mm).Wf:=⟨h.bk,h.ck,h.tm,h.pd,h.pt,h.cp,h.bd,h.flags,h.lets,hx,h.cycles,h.u,h.banks,h.lRom,h.bRom,h.lRam,h.bRam,h.lWork,h.bWork,h.lHigh,h.bHigh⟩
def Mm.Wf.acc_(h:m.Wf)(x:List Ac):({m with acc:=x}:Mm).Wf:=⟨h.bk,h.ck,h.tm,h.pd,h.pt,h.cp,h.bd,h.flags,h.lets,h.steps,h.cycles,h.u,h.banks,h.lRom,h.bRom,h.lRam,h.bRam,h.lWork,h.bWork,h.lHigh,h.bHigh⟩
def Mm.Wf.ram_(h:m.Wf)(n:Nat){x:Int}(hx:0<=x/\x<256):({m with ram:=m.ram.set n x}:Mm).Wf:=⟨h.bk,h.ck,h.tm,h.pd,h.pt,h.cp,h.bd,h.flags,h.lets,h.steps,h.cycles,h.u,h.banks,h.lRom,h.bRom,by show((m.ram.set n x).length:Int)=_;rw[c7];exact h.lRam,xW h.bRam n hx,h.lWork,h.bWork,h.lHigh,h.bHigh⟩
def Mm.Wf.work_(h:m.Wf)(n:Nat){x:Int}(hx:0<=x/\x<256):({m with work:=m.work.set n x}:Mm).Wf:=⟨h.bk,h.ck,h.tm,h.pd,h.pt,h.cp,h.bd,h.flags,h.lets,h.steps,h.cycles,h.u,h.banks,h.lRom,h.bRom,h.lRam,h.bRam,by show(m.work.set n x).length=_;rw[c7];exact h.lWork,xW h.bWork n hx,h.lHigh,h.bHigh⟩
def Mm.Wf.high_(h:m.Wf)(n:Nat){x:Int}(hx:0<=x/\x<256):({m with high:=m.high.set n x}:Mm).Wf:=⟨h.bk,h.ck,h.tm,h.pd,h.pt,h.cp,h.bd,h.flags,h.lets,h.steps,h.cycles,h.u,h.banks,h.lRom,h.bRom,h.lRam,h.bRam,h.lWork,h.bWork,by show(m.high.set n x).length=_;rw[c7];exact h.lHigh,xW h.bHigh n hx⟩
def Mm.Wf.bk_(h:m.Wf)(a:Int){x:Int}(hx:0<=x/\x<256):({m with bk:=writeB a x m.bk}:Mm).Wf:=by
 obtain⟨h1,h2,h3⟩:=V0 a x m.bk
 exact⟨h.bk.write a hx,h.ck,h.tm,h.pd,h.pt,h.cp,h.bd,h.flags,h.lets,h.steps,h.cycles,h.u,by show 0<(writeB a x m.bk).banks;rw[h2];exact h.banks,by show _=16384*(writeB a x m.bk).banks;rw[h2];exact h.lRom,h.bRom,by show _=(writeB a x m.bk).ram;rw[h3];exact h.lRam,h.bRam,h.lWork,h.bWork,h.lHigh,h.bHigh⟩
def Mm.Wf.ask(h:m.Wf)(k:Int)(is:Bool):(askM k is m).Wf:=by unfold askM;split;exact h.flags_ (Co _ _);exact h
def Mm.Wf.latch(h:m.Wf)(is:Bool):(wQ is m).Wf:=by unfold wQ;split;exact h.ck_ h.ck.hold;exact h
def Mm.Wf.save(h:m.Wf)(a:Int){x:Int}(hx:0<=x/\x<256):(nY a x m).Wf:=by
 unfold nY
 split
 ·exact h.ck_ (h.ck.write _ hx)
 split
 ·exact h
 ·exact h.ram_ _ hx
def Mm.Wf.setDevice(h:m.Wf)(a:Int){x:Int}(hx:0<=x/\x<256):(setDeviceM a x m).Wf:=by
 unfold setDeviceM
 split
 ·exact(h.pd_ (h.pd.sel_ x)).ask _ _
 split
 ·exact h.pt_ (h.pt.write _ hx)
 split
 ·exact h.tm_ (h.tm.write _ hx)
 split
 ·exact h.flags_ (Zd _ _)
 split
 ·exact h.bd_ (h.bd.write _ hx)
 split
 ·exact h.cp_ ⟨hx,show(0:Int)<=160/\(160:Int)<65536 by decide⟩
 split
 ·exact h.lets_ hx
 split
 ·exact h.high_ _ hx
 ·exact h
def Mm.Wf.poke(h:m.Wf)(a:Int){x:Int}(hx:0<=x/\x<256):(pokeM a x m).Wf:=by
 unfold pokeM
 split
 ·exact(h.bk_ a hx).latch _
 split
 ·exact(h.u_ (h.u.write hx)).ask _ _
 split
 ·exact h.save a hx
 split
 ·exact h.work_ _ hx
 split
 ·exact h
 ·exact h.setDevice a hx
def aPO(h:m.Wf)(a:Int):0<=yY a m/\yY a m<256:=by
 unfold yY
 split
 ·exact aG4 h.ck _
 split
 ·decide
 split
 ·exact Co _ _
 ·exact h.bRam.get _
def aJs(h:m.Wf)(a:Int):0<=deviceM a m/\deviceM a m<256:=by
 unfold deviceM
 split;exact aJu _
 split;exact aMW h.pt _
 split;exact aLV h.tm _
 split;exact Co _ _
 split;exact aP7 h.bd _
 split;exact h.cp.page
 split;exact h.lets
 split;exact h.bHigh.get _
 decide
def aOr(u:PU):0<=Cc u/\Cc u<256:=Co _ _
def aCc{u:PU}(h:u.Wf)(a:Int):0<=qX u a/\qX u a<256:=by
 unfold qX
 repeat' split
 all_goals first|exact h.bV.get _|exact h.bO.get _|exact h.bR.get _|exact Co _ _|exact aOr u|omega
def aLl{u:PU}(h:u.Wf)(a:Int):0<=vH u a/\vH u a<256:=by
 unfold vH
 repeat' split
 all_goals first|exact aCc h a|omega
def Ja(h:m.Wf)(a:Int):0<=qG a m/\qG a m<256:=by
 unfold qG
 split;exact h.bRom.get _
 split;exact aCc h.u.wf _
 split;exact aPO h _
 split;exact h.bWork.get _
 split;decide
 exact aJs h _
def Ix(h:m.Wf)(a:Int):0<=seenM a m/\seenM a m<256:=by
 unfold seenM
 split;decide
 split;exact aLl h.u.wf _
 exact Ja h _
def Mm.Wf.cyc1W(h:m.Wf):(cyc1 m).Wf:=Mm.Wf.ask (m:={m with cycles:=(m.cycles+1)%18446744073709551616,tm:=vE m.tm}) ((h.cycles_ (x:=(m.cycles+1)%18446744073709551616) I).tm_ h.tm.tick) _ _
def Mm.Wf.cyc2W(h:m.Wf):(cyc2 m).Wf:=(h.pt_ h.pt.tick).ask _ _
def Mm.Wf.cyc3W(h:m.Wf):(cyc3 m).Wf:=by
 unfold cyc3
 split
 ·exact Mm.Wf.u_ (m:={m with cp:=tickCp m.cp}) (h.cp_ h.cp.tick) (h.u.sprite _ (Ja (h.cp_ h.cp.tick) _))
 ·exact h
def Mm.Wf.cyc4W(h:m.Wf):(cyc4 m).Wf:=h.bd_ h.bd.tick
def Mm.Wf.cyc5W(h:m.Wf):(cyc5 m).Wf:=((h.u_ h.u.tick).ask _ _).ask _ _
def Mm.Wf.cyc6W(h:m.Wf):(qU m).Wf:=by unfold qU;split;exact h.ck_ h.ck.tick;exact h
def Mm.Wf.cycle(h:m.Wf):(cycleM m).Wf:=h.cyc1W.cyc2W.cyc3W.cyc4W.cyc5W.cyc6W
def I8(k:Int)(is:Bool)(m:Mm):(askM k is m).acc=m.acc:=by unfold askM;split<;>rfl
def cycleM_acc(m:Mm):(cycleM m).acc=m.acc:=by
 unfold cycleM qU cyc5 cyc4 cyc3 cyc2 cyc1
 repeat' split
 all_goals simp only[I8]
def aQX(is:Bool)(m:Mm):(wQ is m).acc=m.acc:=by unfold wQ;split<;>rfl
def aMd(a x:Int)(m:Mm):(nY a x m).acc=m.acc:=by
 unfold nY
 split
 ·rfl
 split<;>rfl
def aMZ(a x:Int)(m:Mm):(setDeviceM a x m).acc=m.acc:=by
 unfold setDeviceM
 split
 ·exact I8 _ _ _
 repeat' split
 all_goals rfl
def Rm(a x:Int)(m:Mm):(pokeM a x m).acc=m.acc:=by
 unfold pokeM
 split
 ·exact aQX _ _
 split
 ·exact I8 _ _ _
 split
 ·exact aMd _ _ _
 split
 ·rfl
 split
 ·rfl
 ·exact aMZ _ _ _
def iS.cycle{n:Nat}(h:iS n m):iS n (cycleM m):=⟨h.wf.cycle,by rw[cycleM_acc];exact h.room,by rw[cycleM_acc];exact h.accs⟩
def iS.note{n:Nat}(h:iS (n+1) m)(k:Int){a x:Int}(ha:0<=a/\a<65536)(hx:0<=x/\x<256):iS n (xK k a x m):=⟨h.wf.acc_ _,by have:=h.room;simp only[xK,bX,au];omega,λe he=>by
 rcases List.mem_append.1 he with he|he
 ·exact h.accs e he
 ·rw[List.mem_singleton.1 he];exact⟨ha,hx⟩⟩
def iS.poke{n:Nat}(h:iS n m)(a:Int){x:Int}(hx:0<=x/\x<256):iS n (pokeM a x m):=⟨h.wf.poke a hx,by rw[Rm];exact h.room,by rw[Rm];exact h.accs⟩
def iS.le{n k:Nat}(h:iS n m)(hk:k<=n):iS k m:=⟨h.wf,by have:=h.room;omega,h.accs⟩
def iS.get{n:Nat}(h:iS (n+1) m)(k:Int){a:Int}(ha:0<=a/\a<65536):iS n (xK k a (seenM a (cycleM m)) (cycleM m)):=h.cycle.note k ha (Ix h.wf.cycle a)
def iS.write{n:Nat}(h:iS (n+1) m){a x:Int}(ha:0<=a/\a<65536)(hx:0<=x/\x<256):iS n (fE.write a x m):=by
 show iS n (xK 2 a x (if letsCp (cycleM m).cp a=true then pokeM a x (cycleM m)else cycleM m))
 split
 ·exact(h.cycle.poke a hx).note 2 ha hx
 ·exact h.cycle.note 2 ha hx
def iS.ack{n:Nat}(h:iS n m){k:Int}(hk:0<=k/\k<5):iS n (fE.ack k m):=⟨h.wf.flags_ (Tn h.wf.flags ⟨hk.1,aR⟩).1,h.room,h.accs⟩
def aE1(m:Mm):0<=fE.pend m/\fE.pend m<32:=by
 have key:∀y:Int,0<=y/\y<256->(0<=aQ .u8 y 31/\aQ .u8 y 31<32):=λy hy=>eI (p:=λy=>0<=aQ .u8 y 31/\aQ .u8 y 31<32) eW hy.1 hy.2
 exact key _ (Zd _ _)
def Mm.Wf.press(h:m.Wf){x:Int}(hx:0<=x/\x<256):(sY x m).Wf:=(h.pd_ (h.pd.press hx)).ask _ _
def Mm.Wf.start(h:m.Wf){l:List gG}(hl:∀c∈l,sE c):(fB l m).Wf:=(h.press (aDl hl _)).acc_ []
end
def F5(n:Int):((BitVec.ofInt 64 n).toNat:Int)=n%18446744073709551616:=by
 rw[f4]
 have:(0:Int)<=n%18446744073709551616:=fz _ aD
 exact dw this
def aJM(a:Nat)(h:a<18446744073709551616):a &&& 18446744073709551360=a/256*256:=by
 have h1:(18446744073709551360:Nat)=(2^56-1) <<< 8:=by decide
 have h2:a/256*256=(a >>> 8) <<< 8:=by rw[j5,jx]
 rw[h1,h2]
 refine je λi=>?_
 rw[kf,gv,gv,Nat.testBit_two_pow_sub_one,Nat.testBit_shiftRight]
 by_cases h8:8<=i
 ·have h9:8+(i-8)=i:=by omega
  rw[h9]
  by_cases h64:i-8<56
  ·simp[h8,h64]
  ·have:a.testBit i=false:=Nat.testBit_lt_two_pow (d9 h (gr (by decide:18446744073709551616<=2^64) (gd aD I)))
   simp[this]
 ·simp[h8]
def X7{n:Int}(h1: -9223372036854775808<=n)(h2:n<=9223372036854775807):lD .i64 n 255=n/256*256:=by
 have ha:=F5 n
 have hb:(BitVec.ofInt 64 n &&& ~~~BitVec.ofInt 64 255).toNat=(BitVec.ofInt 64 n).toNat/256*256:=by
  rw[ie]
  exact aJM _ (BitVec.isLt _)
 show IntKind.i64.wrap ((BitVec.ofInt 64 n &&& ~~~BitVec.ofInt 64 255).toNat:Int)=_
 rw[hb,Pn]
 omega
def aLJ(q x:Nat)(hx:x<256):(256*q) ||| x=256*q+x:=(f5 (i:=8) hx q).symm
def Wj{A x:Int}(hA:A%256=0)(h1: -9223372036854775808<=A)(h2:A<=9223372036854775807)(hx:0<=x/\x<256):bI .i64 A x=A+x:=by
 have ha:=F5 A
 have hxx:=F5 x
 have hb:(BitVec.ofInt 64 A ||| BitVec.ofInt 64 x).toNat=(BitVec.ofInt 64 A).toNat+(BitVec.ofInt 64 x).toNat:=by
  rw[BitVec.toNat_or]
  have hq:(BitVec.ofInt 64 A).toNat=256*((BitVec.ofInt 64 A).toNat/256):=by omega
  rw[hq]
  exact aLJ _ _ I
 show IntKind.i64.wrap ((BitVec.ofInt 64 A ||| BitVec.ofInt 64 x).toNat:Int)=_
 rw[hb,Pn]
 omega
def Rb{A x:Int}(hA:A%256=0)(h1: -9223372036854775808<=A)(h2:A<=9223372036854775807)(hx:0<=x/\x<256):bI .i64 x A=x+A:=by
 have:=Wj hA h1 h2 hx
 unfold bI at this⊢
 rw[BitVec.or_comm,this];omega
def Y4(n:Int):aQ .i64 n 255=n%256:=Wk n 8 aD
def atT(o:Option Int):AH:=match o with
 |none=> .tuple #[.int .i64 0,.bool false]
 |some n=> .tuple #[.int .i64 n,.bool true]
def aOz(c:Ck)(y:Int):secCk {c with sub:=y}={secCk c with sub:=y}:=by
 unfold secCk dayCk
 repeat' split
 all_goals first|rfl|(exfalso;simp_all;done)
def aHU(c:Ck)(k:Nat):secCk {rR c k with sub:=(rR c k).sub-1048576}=rR c (k+1):=aOz _ _
def aF5{a:Int}(h:0<=a/\a<2)(x y:Bool):bI .u8 (bI .u8 a (mE x 64)) (mE y 128)=a+mE x 64+mE y 128:=by
 rcases(show a=0\/a=1 by omega)with rfl|rfl<;>cases x<;>cases y<;>decide
def aLM{x:Int}(h:0<=x/\x<256):aQ .u8 x 248=x/8*8:=eI (p:=λx=>aQ .u8 x 248=x/8*8) eW h.1 h.2
def aP3{x:Int}(h:0<=x/\x<256):bI .u8 (x*2%256) 1=x%128*2+1:=eI (p:=λx=>bI .u8 (x*2%256) 1=x%128*2+1) eW h.1 h.2
def aMH{x:Int}(h:0<=x/\x<256):lD .u8 x 128=x%128:=eI (p:=λx=>lD .u8 x 128=x%128) eW h.1 h.2
def aIT{x:Int}(h:0<=x/\x<256):aQ .u8 x 129=x/128*128+x%2:=eI (p:=λx=>aQ .u8 x 129=x/128*128+x%2) eW h.1 h.2
def aH3{x:Int}(h:0<=x/\x<256):bI .u8 x 126=x/128*128+126+x%2:=eI (p:=λx=>bI .u8 x 126=x/128*128+126+x%2) eW h.1 h.2
def aMu{x:Int}(h:0<=x/\x<256):bI .u8 x 248=248+x%8:=eI (p:=λx=>bI .u8 x 248=248+x%8) eW h.1 h.2
section
variable {b:Bd}
def flat4 :∀(l:List Vc),(aM dD l).length=4*l.length
 | []=>rfl
 |v::l=>by show(dD v++aM dD l).length=_;rw[bX,flat4 l,Gf,eZ];omega
def aAv :∀(l:List Vc) (n k:Nat) (x:AH),n<l.length->(dD (l.getD n Ca))[k]? =some x->(aM dD l)[n*4+k]? =some x
 |v::l,0,k,x,_,hx=>kM (A:=dD v) (by simpa using hx)
 |v::l,n+1,k,x,hn,hx=>iN (A:=dD v) (n:=n*4+k) (by rw[Gf];omega) (aAv l n k x (by simpa using hn) (by simpa using hx))
def aCl :∀(l:List Vc) (n k:Nat) (x:AH) (y:Vc),n<l.length->k<4->(dD (l.getD n Ca)).set k x=dD y->aV (aM dD l) (n*4+k) [x]=aM dD (l.set n y)
 |v::l,0,k,x,y,_,hk,hy=>by
  have h1:aV (dD v) k [x]=dD y:=by
   rw[<-hy,show((v::l).getD 0 Ca)=v from rfl]
   rcases(show k=0\/k=1\/k=2\/k=3 by omega)with rfl|rfl|rfl|rfl<;>rfl
  show aV (dD v++aM dD l) (0*4+k) [x]=dD y++aM dD l
  rw[gf,bj,mQ (by rw[Gf,au];omega),h1]
 |v::l,n+1,k,x,y,hn,hk,hy=>by
  show aV (dD v++aM dD l) ((n+1)*4+k) [x]=dD v++aM dD (l.set n y)
  have hn':n<l.length:=by simpa using hn
  rw[gE (n:=n*4+k) (by rw[Gf];omega) (by rw[flat4,au];omega),aCl l n k x y hn' hk (by simpa using hy)]
structure Bd.Ln(b:Bd):Prop where
 lR:b.regs.length=48
 bR:bF b.regs
 lV:b.vs.length=4
def Bd.Wf.ln(h:b.Wf):b.Ln:=⟨h.lR,h.bR,h.lV⟩
instance : Coe b.Wf b.Ln:=⟨Bd.Wf.ln⟩
def Bd.Ln.r_(h:b.Ln)(n:Nat):0<=b.r n/\b.r n<256:=h.bR.get n
def Bd.Ln.setV(h:b.Ln)(n:Nat)(x:Vc):(b.setV n x).Ln:=⟨h.lR,h.bR,aDh⟩
def Bd.Ln.slide_(h:b.Ln)(x:Int):({b with slide:=x}:Bd).Ln:=⟨h.lR,h.bR,h.lV⟩
def cBd_len(h:b.Ln):(cBd b).length=70:=by simp[cBd,h.lR,h.lV,flat4]
def cBd_r(h:b.Ln){j:Nat}(hj:j<48):(cBd b)[j]? =some (.int .u8 (b.r j)):=kM (gD Kk)
def E8(h:b.Ln){j:Nat}{v:AH}(hv:([.bool b.on,.int .i64 b.div,.int .i64 b.step]:AA)[j]? =some v):(cBd b)[48+j]? =some v:=iN (n:=j) Bt (kM hv)
def cBd_on(h:b.Ln):(cBd b)[48]? =some (.bool b.on):=E8 h (j:=0) rfl
def Xv(h:b.Ln):(cBd b)[49]? =some (.int .i64 b.div):=E8 h (j:=1) rfl
def cBd_step(h:b.Ln):(cBd b)[50]? =some (.int .i64 b.step):=E8 h (j:=2) rfl
def vI(h:b.Ln){n k:Nat}{x:AH}(hn:n<4)(hx:(dD (b.v n))[k]? =some x):(cBd b)[51+n*4+k]? =some x:=by
 rw[ec]
 exact iN (n:=3+(n*4+k)) Cg (iN (n:=n*4+k) U (kM (aAv _ _ _ _ (by rw[h.lV];exact hn) hx)))
def Xk(h:b.Ln){j:Nat}{v:AH}(hv:([.int .i64 b.pitch,.int .i64 b.slide,.bool b.slides]:AA)[j]? =some v):(cBd b)[67+j]? =some v:=
 iN (n:=19+j) Cg (iN (n:=16+j) (by show 19+j=3+(16+j);omega) (iN (n:=j) (by rw[flat4,h.lV]) hv))
def Me(h:b.Ln):(cBd b)[67]? =some (.int .i64 b.pitch):=Xk h (j:=0) rfl
def Ww(h:b.Ln):(cBd b)[68]? =some (.int .i64 b.slide):=Xk h (j:=1) rfl
def aQD(h:b.Ln):(cBd b)[69]? =some (.bool b.slides):=Xk h (j:=2) rfl
def putBd_r(h:b.Ln){j:Nat}(hj:j<48)(x:Int):aV (cBd b) j [.int .u8 x]=cBd (putB j x b):=by
 unfold cBd
 rw[mQ (by rw[eJ,h.lR,au];omega),vP .u8 Kk]
 rfl
def Ws(h:b.Ln){j:Nat}{v:AH}(hj:j<3):aV (cBd b) (48+j) [v]=b.regs.map (.int .u8)++(aV [.bool b.on,.int .i64 b.div,.int .i64 b.step] j [v]++(aM dD b.vs++[.int .i64 b.pitch,.int .i64 b.slide,.bool b.slides])):=by
 unfold cBd
 rw[gE (n:=j) Bt lH,mQ lH]
def aD1(h:b.Ln)(x:Bool):aV (cBd b) 48 [.bool x]=cBd {b with on:=x}:=Ws h (j:=0) aD
def Zn(h:b.Ln)(x:Int):aV (cBd b) 49 [.int .i64 x]=cBd {b with div:=x}:=Ws h (j:=1) aD
def putBd_step(h:b.Ln)(x:Int):aV (cBd b) 50 [.int .i64 x]=cBd {b with step:=x}:=Ws h (j:=2) aD
def putBd_v(h:b.Ln){n k:Nat}{x:AH}{y:Vc}(hn:n<4)(hk:k<4)(hy:(dD (b.v n)).set k x=dD y):aV (cBd b) (51+n*4+k) [x]=cBd (b.setV n y):=by
 rw[ec]
 unfold cBd
 rw[gE (n:=3+(n*4+k)) Cg Sr,gE (A:=[.bool b.on,.int .i64 b.div,.int .i64 b.step]) (o:=3+(n*4+k)) (n:=n*4+k) rfl Sr,mQ (by rw[flat4,h.lV,au];omega),
  aCl b.vs n k x y (by rw[h.lV];exact hn) hk hy]
 rfl
def Wl(h:b.Ln){j:Nat}{v:AH}(hj:j<3):aV (cBd b) (67+j) [v]=b.regs.map (.int .u8)++([.bool b.on,.int .i64 b.div,.int .i64 b.step]++(aM dD b.vs++aV [.int .i64 b.pitch,.int .i64 b.slide,.bool b.slides] j [v])):=by
 unfold cBd
 rw[gE (n:=19+j) Cg Sr,gE (A:=[.bool b.on,.int .i64 b.div,.int .i64 b.step]) (o:=19+j) (n:=16+j) (by show 19+j=3+(16+j);omega) Sr,gE (n:=j) (by rw[flat4,h.lV]) lH]
def Wi(h:b.Ln)(x:Int):aV (cBd b) 67 [.int .i64 x]=cBd {b with pitch:=x}:=Wl h (j:=0) aD
def E3(h:b.Ln)(x:Int):aV (cBd b) 68 [.int .i64 x]=cBd {b with slide:=x}:=Wl h (j:=1) aD
def Y2(h:b.Ln)(x:Bool):aV (cBd b) 69 [.bool x]=cBd {b with slides:=x}:=Wl h (j:=2) aD
def v_set(h:b.Ln){n:Nat}(hn:n<4)(x:Vc):(b.setV n x).v n=x:=by
 unfold Bd.v Bd.setV
 rw[gU,ir (by rw[h.lV];exact hn)];rfl
def setV_same(h:b.Ln){n:Nat}(hn:n<4):b.setV n (b.v n)=b:=by
 have hl:n<b.vs.length:=by rw[h.lV];exact hn
 have h1:b.v n=b.vs[n]:=by unfold Bd.v;rw[gU,ap hl];rfl
 show({b with vs:=b.vs.set n (b.v n)}:Bd)=b
 rw[h1,List.set_getElem_self]
def setV_setV(b:Bd)(n:Nat)(x y:Vc):(b.setV n x).setV n y=b.setV n y:=by unfold Bd.setV;dsimp only;rw[List.set_set]
def aOB{v:Nat}{x:Vc}(h:¬(v=2\/b.r (5*v+2)%8=0))(h2:0<x.wait-1):levV b v x={x with wait:=x.wait-1}:=by unfold levV;rw[ae h,ag h2]
def aO1{v:Nat}{x:Vc}(h:¬(v=2\/b.r (5*v+2)%8=0))(h2:¬0<x.wait-1)(h3:b.r (5*v+2)/8%2=1):levV b v x={x with wait:=b.r (5*v+2)%8,lev:=min (x.lev+1) 15}:=by unfold levV;rw[ae h,ae h2,ag h3]
def aOl{v:Nat}{x:Vc}(h:¬(v=2\/b.r (5*v+2)%8=0))(h2:¬0<x.wait-1)(h3:¬b.r (5*v+2)/8%2=1):levV b v x={x with wait:=b.r (5*v+2)%8,lev:=max (x.lev-1) 0}:=by unfold levV;rw[ae h,ae h2,ae h3]
def aPG(h:b.slides=false):slideB b=b:=ag h
section
variable (h1:b.slides=true)
include h1
def aRE(h2:0<b.slide-1):slideB b={b with slide:=b.slide-1}:=by unfold slideB;rw[ae Jr,ag h2]
def aF7(h2:¬0<b.slide-1)(h3:everyB b=0):slideB b=dY {b with slide:=b.slide-1}:=by unfold slideB;rw[ae Jr,ae h2];dsimp only;rw[ag h3]
def aGD(h2:¬0<b.slide-1)(h3:¬everyB b=0)(h4:uD (dY {b with slide:=b.slide-1})=true):slideB b=tN (dY {b with slide:=b.slide-1}):=by unfold slideB tN;rw[ae Jr,ae h2];dsimp only;rw[ae h3,ag h4,ag h4]
def aIe(h2:¬0<b.slide-1)(h3:¬everyB b=0)(h4:uD (dY {b with slide:=b.slide-1})=false)(h5:byB b=0):slideB b=dY {b with slide:=b.slide-1}:=by unfold slideB;rw[ae Jr,ae h2];dsimp only;rw[ae h3,ae Qw,ag h5]
def aJ3(h2:¬0<b.slide-1)(h3:¬everyB b=0)(h4:uD (dY {b with slide:=b.slide-1})=false)(h5:¬byB b=0):slideB b=tN (Ld (dY {b with slide:=b.slide-1})):=by unfold slideB;rw[ae Jr,ae h2];dsimp only;rw[ae h3,ae Qw,ae h5]
end
def aRl(h:uD b=false):tN b=b:=by unfold tN;rw[ae Ft]
def aPA(h:b.Wf):(dY {b with slide:=b.slide-1}).Wf:=by
 have:=Fl b
 exact⟨h.lR,h.bR,h.lV,h.div,h.step,h.oV,h.pitch,S8⟩
def aHJ{x y:Int}(hx:0<=x/\x<256)(hy:0<=y/\y<8):bI .u8 (x/8*8) y=x/8*8+y:=by
 rcases(show y=0\/y=1\/y=2\/y=3\/y=4\/y=5\/y=6\/y=7 by omega)with rfl|rfl|rfl|rfl|rfl|rfl|rfl|rfl
 ·exact eI (p:=λx=>bI .u8 (x/8*8) 0=x/8*8+0) eW hx.1 hx.2
 ·exact eI (p:=λx=>bI .u8 (x/8*8) 1=x/8*8+1) eW hx.1 hx.2
 ·exact eI (p:=λx=>bI .u8 (x/8*8) 2=x/8*8+2) eW hx.1 hx.2
 ·exact eI (p:=λx=>bI .u8 (x/8*8) 3=x/8*8+3) eW hx.1 hx.2
 ·exact eI (p:=λx=>bI .u8 (x/8*8) 4=x/8*8+4) eW hx.1 hx.2
 ·exact eI (p:=λx=>bI .u8 (x/8*8) 5=x/8*8+5) eW hx.1 hx.2
 ·exact eI (p:=λx=>bI .u8 (x/8*8) 6=x/8*8+6) eW hx.1 hx.2
 ·exact eI (p:=λx=>bI .u8 (x/8*8) 7=x/8*8+7) eW hx.1 hx.2
def aKH{x:Int}(h:0<=x/\x<256):lD .u8 x 7=x/8*8:=eI (p:=λx=>lD .u8 x 7=x/8*8) eW h.1 h.2
def aDn{x y:Int}(hx:0<=x/\x<8)(hy:0<=y/\y<8):(bI .i64 x y != 0)=decide (x≠0\/y≠0):=by
 have key:∀a b:Fin 8,(bI .i64 (a.val:Int) (b.val:Int) != 0)=decide ((a.val:Int)≠0\/(b.val:Int)≠0):=by decide +kernel
 have h:=key ⟨x.toNat,aR⟩ ⟨y.toNat,aR⟩
 rw[show((x.toNat:Nat):Int)=x from dw hx.1,show((y.toNat:Nat):Int)=y from dw hy.1]at h
 exact h
def ones_cBd(b:Bd):fJ (cBd b)=true:=by
 have h4:∀l:List Vc,fJ (aM dD l)=true:=λl=>by
  induction l with
  |nil=>rfl
  |cons v l ih=>show fJ (dD v++aM dD l)=true;unfold fJ at ih⊢; rw[f8,ih];rfl
 have h1:=kX .u8 b.regs
 have h2:=h4 b.vs
 unfold fJ at h1 h2⊢
 unfold cBd
 rw[f8,f8,f8,h1,h2]
 rfl
def putZ(h:b.Ln):aV (cBd bdZ) 0 (cBd b)=cBd b:=by
 unfold aV
 rw[gu,cg,bj,d5 (by rw[cBd_len h,cBd_len bdZ_wf];decide),cn]
def aMC{w:AI}{bb:Nat}(hr:aK w bb 0 (cBd b)):aK w bb 22 ((b.regs.drop 22).map (.int .u8)):=λi v hi=>by
 have h1:(cBd b)[22+i]? =some v:=kM (by rw[ii,ee]at hi;exact hi)
 have:=hr (22+i) v h1
 rwa[bj]at this
def aPa(h:b.Ln):aV (cBd {bdZ with div:=b.div,step:=b.step}) 22 (((b.regs.drop 22).map Z).take (min 26 26))=cBd (offB b):=by
 have hl:((b.regs.drop 22).map Z).length=26:=by rw[eJ,dM,h.lR]
 rw[dq (by rw[hl];decide)]
 unfold cBd
 rw[mQ (by rw[hl];exact be 48)]
 have h1:aV ((List.replicate 48 (0:Int)).map Z) 22 ((b.regs.drop 22).map Z)=(offB b).regs.map (.int .u8):=by
  have e:(offB b).regs=List.replicate 22 0++b.regs.drop 22:=rfl
  have d:List.drop (22+26) ((List.replicate 48 (0:Int)).map Z)=[]:=d5 (by rw[eJ,ct];decide)
  unfold aV
  rw[hl,e,d,bz,cn]
  rfl
 exact M (· ++_) h1
def Ku :∀(l:List Vc) (n:Nat),n<l.length->((aM dD l).drop (n*4)).take 4=dD (l.getD n Ca)
 |v::l,0,_=>by show List.take 4 (dD v++aM dD l)=dD v;rw[ji (by rw[Gf];exact be 4)];rfl
 |v::l,n+1,hn=>by
  have h1:(n+1)*4=(dD v).length+n*4:=by rw[Gf];omega
  show List.take 4 (List.drop ((n+1)*4) (dD v++aM dD l))=_
  rw[h1,iz,d5 I,cg,show(dD v).length+n*4-(dD v).length=n*4 by omega,Ku l n (by simpa using hn)]
  rfl
def row_vs(h:b.Ln){w:AI}{bb:Nat}(hr:aK w bb 0 (cBd b)):aK w bb 51 (aM dD b.vs):=λi v hi=>by
 have h1:(cBd b)[51+i]? =some v:=iN (n:=3+i) Cg (iN (A:=[.bool b.on,.int .i64 b.div,.int .i64 b.step]) (n:=i) rfl (kM hi))
 have:=hr (51+i) v h1
 rwa[bj]at this
def qI(b:Bd){n:Nat}(hn:n<4)(h:(b.v n).on=true):bI .u8 (onV b n) (2^n)=onV b (n+1):=by
 have key:∀a x y z:Bool,bI .u8 (112+(if a=true then 128 else 0)) 1=112+(if a=true then 128 else 0)+1/\bI .u8 (112+(if a=true then 128 else 0)+(if x=true then 1 else 0)) 2=112+(if a=true then 128 else 0)+(if x=true then 1 else 0)+2/\
   bI .u8 (112+(if a=true then 128 else 0)+(if x=true then 1 else 0)+(if y=true then 2 else 0)) 4=112+(if a=true then 128 else 0)+(if x=true then 1 else 0)+(if y=true then 2 else 0)+4/\
   bI .u8 (112+(if a=true then 128 else 0)+(if x=true then 1 else 0)+(if y=true then 2 else 0)+(if z=true then 4 else 0)) 8=112+(if a=true then 128 else 0)+(if x=true then 1 else 0)+(if y=true then 2 else 0)+(if z=true then 4 else 0)+8:=by decide +kernel
 have k:=key b.on (b.v 0).on (b.v 1).on (b.v 2).on
 rcases(show n=0\/n=1\/n=2\/n=3 by omega)with rfl|rfl|rfl|rfl
 ·show bI .u8 (onV b 0) 1=onV b 0+(if(b.v 0).on=true then 1 else 0);rw[ag h];exact k.1
 ·show bI .u8 (onV b 1) 2=onV b 1+(if(b.v 1).on=true then 2 else 0);rw[ag h];exact k.2.1
 ·show bI .u8 (onV b 2) 4=onV b 2+(if(b.v 2).on=true then 4 else 0);rw[ag h];exact k.2.2.1
 ·show bI .u8 (onV b 3) 8=onV b 3+(if(b.v 3).on=true then 8 else 0);rw[ag h];exact k.2.2.2
def Tj(b:Bd){n:Nat}(h:(b.v n).on=false):onV b n=onV b (n+1):=by
 show onV b n=onV b n+(if(b.v n).on=true then 2^n else 0)
 rw[ae Ft];omega
def P5(f:Bd->Nat->Vc->Vc)(b:Bd):∀n,(turnV f b n).step=b.step
 |0=>rfl
 |n+1=>P5 f b n
def Jm(b:Bd):(halfB b).step=b.step:=by unfold halfB;split;exact P5 _ _ _;rfl
def aL4(b:Bd):(slideB b).step=b.step:=by
 unfold slideB tN
 dsimp only
 repeat' split
 all_goals rfl
def beat_step(b:Bd):(beatB b).step=b.step:=by
 unfold beatB
 split
 ·rw[aL4,Jm]
 split
 ·unfold Dv;rw[P5,Jm]
 ·exact Jm b
def aQt{x y:Int}(hy:0<=y/\y<8)(_hx:0<=x):shr .i64 x y=x/2^y.toNat:=by
 unfold shr
 have:min y.toNat IntKind.i64.bits=y.toNat:=fx (by show y.toNat<=64;omega)
 rw[this,eu]
 exact j6 (gp aD)
end
structure Ad where
 mb:Nat
 ub:Nat
 rb:Nat
 ob:Nat
 oc:Nat
 sp:AA
 rc:Nat
 rs:AA
 plan:AH
 tab:AH
def uL(A:Ad)(m:Mm):AA:=[.int .u8 m.flags,.int .u8 m.lets,.int .u64 m.steps,.int .u64 m.cycles,.slice (Q_ A.ob) m.rom.length A.oc,A.plan]++(cHd m.hd++[A.tab,P_ A.ub,.slice (Q_ A.rb) m.ram.length A.rc])
def jD(A:Ad)(acc:AH)(m:Mm):AA:=uL A m++(m.work.map (.int .u8)++(m.high.map (.int .u8)++[acc]))
def cMm(A:Ad)(acc:AH)(m:Mm):AA:=cS m.cpu++(jY m.bk++(nX m.ck++(iZ m.tm++(nB m.pd++(qD m.pt++(cCp m.cp++(cBd m.bd++jD A acc m)))))))
section
variable {A:Ad}{acc:AH}{m:Mm}
def mB(m:Mm):AA:=cS m.cpu++(jY m.bk++(nX m.ck++(iZ m.tm++(nB m.pd++(qD m.pt++cCp m.cp)))))
def vD :cMm A acc m=mB m++(cBd m.bd++jD A acc m):=rfl
def rM :(mB m).length=49:=rfl
def midM_len :(uL A m).length=16:=rfl
structure dV(m:Mm):Prop where
 bd:m.bd.Ln
 work:m.work.length=8192
 high:m.high.length=127
def Mm.Wf.ln(h:m.Wf):dV m:=⟨h.bd.ln,h.lWork,h.lHigh⟩
def cMm_len(h:dV m):(cMm A acc m).length=8455:=by
 rw[vD,bX,rM,bX,cBd_len h.bd]
 unfold jD
 rw[bX,midM_len,bX,eJ,bX,eJ,h.work,h.high,au]
def aMN(h:m.Wf){a:Int}(_ha:0<=a/\a<65536):0<=Cr a m.bk/\Cr a m.bk<m.rom.length:=by
 have h1:=aFJ h.bk a
 have h2:=h1.2.2 h.banks
 have h3:=h.lRom
 unfold Cr
 omega
def Di(k:Int)(is:Bool)(m:Mm):(askM k is m).u=m.u:=by unfold askM;split<;>rfl
def aKy(n:Nat)(x:Int):cMm A acc {m with ram:=m.ram.set n x}=cMm A acc m:=by
 unfold cMm jD uL
 dsimp only
 rw[c7]
def Eh(k:Int)(is:Bool)(m:Mm):(askM k is m).ram=m.ram:=by unfold askM;split<;>rfl
def Cn(k:Int)(is:Bool)(m:Mm):(askM k is m).rom=m.rom:=by unfold askM;split<;>rfl
def aPi(a x:Int)(m:Mm):(setDeviceM a x m).u=m.u:=by
 unfold setDeviceM
 split
 ·exact Di _ _ _
 repeat' split
 all_goals rfl
def aGO(a x:Int)(m:Mm):(setDeviceM a x m).ram=m.ram:=by
 unfold setDeviceM
 split
 ·exact Eh _ _ _
 repeat' split
 all_goals rfl
def aRo(a x:Int)(m:Mm):(pokeM a x m).rom=m.rom:=by
 unfold pokeM
 split
 ·unfold wQ;split<;>rfl
 split
 ·exact Cn _ _ _
 split
 ·unfold nY;split
  ·rfl
  split<;>rfl
 split
 ·rfl
 split
 ·rfl
 unfold setDeviceM
 split
 ·exact Cn _ _ _
 repeat' split
 all_goals rfl
def aAT(m:Mm):(cyc2 (cyc1 m)).ram=m.ram:=(Eh _ _ _).trans (Eh _ _ _)
def aDY(m:Mm):(cyc2 (cyc1 m)).rom=m.rom:=(Cn _ _ _).trans (Cn _ _ _)
def aAp(m:Mm):(cyc3 m).ram=m.ram/\(cyc3 m).rom=m.rom:=by unfold cyc3;split<;>exact⟨rfl,rfl⟩
def aA3(m:Mm):(qU m).ram=m.ram/\(qU m).rom=m.rom:=by unfold qU;split<;>exact⟨rfl,rfl⟩
def cycleM_ram(m:Mm):(cycleM m).ram=m.ram:=by
 unfold cycleM
 rw[(aA3 _).1]
 refine((Eh _ _ _).trans (Eh _ _ _)).trans ?_
 show(cyc3 (cyc2 (cyc1 m))).ram=m.ram
 rw[(aAp _).1,aAT]
def cycleM_rom(m:Mm):(cycleM m).rom=m.rom:=by
 unfold cycleM
 rw[(aA3 _).2]
 refine((Cn _ _ _).trans (Cn _ _ _)).trans ?_
 show(cyc3 (cyc2 (cyc1 m))).rom=m.rom
 rw[(aAp _).2,aDY]
def aGm(m:Mm):(cyc1 m).u=m.u:=Di _ _ _
def aLe(m:Mm):(cyc2 m).u=m.u:=Di _ _ _
def cyc5_u(m:Mm):(cyc5 m).u=tickU m.u:=(Di _ _ _).trans (Di _ _ _)
def aPD(hb:yT m.cp=true):cyc3 m={m with cp:=tickCp m.cp,u:=wC m.u (Ci m.cp) (qG (wI m.cp) {m with cp:=tickCp m.cp})}:=ag (df hb)
def aOx(hb:yT m.cp=false):cyc3 m=m/\({m with cp:=tickCp m.cp}:Mm)=m:=by
 have h0:=dk hb
 refine⟨ae h0,?_⟩
 have h1:tickCp m.cp=m.cp:=ae h0
 rw[h1]
def eX.laterM{α:Type}{w0 w:AI}{ms:AE}{H:aF}{c:α->AA}{a:AC}{l:List α}(h:eX w0 c a l)(hm:∀p,a=some p->p.block∉ms)(hw:St w0 ms H w):eX w c a l:=λhl=>by
 obtain⟨b,off,rfl,hr⟩:=h hl
 exact⟨b,off,U,bU hr (hm _ U) w hw⟩
def aRM{j:Nat}{v:AH}(hv:(mB m)[j]? =some v):(cMm A acc m)[j]? =some v:=kM (A:=mB m) hv
def Sb(h:dV m){j:Nat}{v:AH}(hv:(jD A acc m)[j]? =some v):(cMm A acc m)[119+j]? =some v:=
 iN (A:=mB m) (n:=70+j) (by rw[rM];omega) (iN (n:=j) (by rw[cBd_len h.bd]) hv)
def get_mid(h:dV m){j:Nat}{v:AH}(hv:(uL A m)[j]? =some v):(cMm A acc m)[119+j]? =some v:=Sb h (kM hv)
def aAi(h:dV m){j:Nat}(hj:j<8192):(cMm A acc m)[135+j]? =some (.int .u8 (m.work.getD j 0)):=by
 rw[show 135+j=119+(16+j)by omega]
 exact Sb h (iN (n:=j) Gz (kM (gD (by rw[h.work];exact hj))))
def get_high(h:dV m){j:Nat}(hj:j<127):(cMm A acc m)[8327+j]? =some (.int .u8 (m.high.getD j 0)):=by
 rw[show 8327+j=119+(16+(8192+j))by omega]
 exact Sb h (iN (n:=8192+j) Gz (iN (n:=j) Oc (kM (gD (by rw[h.high];exact hj)))))
def Z6(h:dV m):(cMm A acc m)[8454]? =some acc:=by
 rw[show(8454:Nat)=119+(16+(8192+127))by omega]
 exact Sb h (iN (n:=8192+127) Gz (iN (n:=127) Oc (iN (n:=0) (by rw[eJ,h.high]) U)))
def Aj{w:AI}{b n:Nat}{X S Y:AA}(hr:aK w b 0 (X++(S++Y)))(hn:X.length=n):aK w b n S:=λi v hi=>by
 have h1:(X++(S++Y))[n+i]? =some v:=iN (n:=i) (by rw[hn]) (kM hi)
 have:=hr (n+i) v h1
 rwa[bj]at this
variable {w:AI}{b:Nat}
def T3(hr:aK w b 0 (cMm A acc m)):aK w b 0 (cS m.cpu):=Aj (X:=[]) hr rfl
def rowM_bk(hr:aK w b 0 (cMm A acc m)):aK w b 14 (jY m.bk):=Aj (X:=cS m.cpu) hr rfl
def rowM_ck(hr:aK w b 0 (cMm A acc m)):aK w b 22 (nX m.ck):=Aj (X:=cS m.cpu++jY m.bk) (Y:=iZ m.tm++(nB m.pd++(qD m.pt++(cCp m.cp++(cBd m.bd++jD A acc m))))) hr rfl
def Xi(hr:aK w b 0 (cMm A acc m)):aK w b 34 (iZ m.tm):=Aj (X:=cS m.cpu++(jY m.bk++nX m.ck)) (Y:=nB m.pd++(qD m.pt++(cCp m.cp++(cBd m.bd++jD A acc m)))) hr rfl
def N3(hr:aK w b 0 (cMm A acc m)):aK w b 39 (nB m.pd):=Aj (X:=cS m.cpu++(jY m.bk++(nX m.ck++iZ m.tm))) (Y:=qD m.pt++(cCp m.cp++(cBd m.bd++jD A acc m))) hr rfl
def Zh(hr:aK w b 0 (cMm A acc m)):aK w b 41 (qD m.pt):=Aj (X:=cS m.cpu++(jY m.bk++(nX m.ck++(iZ m.tm++nB m.pd)))) (Y:=cCp m.cp++(cBd m.bd++jD A acc m)) hr rfl
def rowM_cp(hr:aK w b 0 (cMm A acc m)):aK w b 47 (cCp m.cp):=Aj (X:=cS m.cpu++(jY m.bk++(nX m.ck++(iZ m.tm++(nB m.pd++qD m.pt))))) (Y:=cBd m.bd++jD A acc m) hr rfl
def rowM_bd(hr:aK w b 0 (cMm A acc m)):aK w b 49 (cBd m.bd):=Aj (X:=mB m) (Y:=jD A acc m) hr rfl
def Bb{o:Nat}{vs:AA}(hv:o+vs.length<=49):aV (cMm A acc m) o vs=aV (mB m) o vs++(cBd m.bd++jD A acc m):=mQ (A:=mB m) (by rw[rM];exact hv)
def aJp(x:CS):aV (cMm A acc m) 0 (cS x)=cMm A acc {m with cpu:=x}:=(Bb (ah rfl)).trans rfl
def Q3(x:Bk):aV (cMm A acc m) 14 (jY x)=cMm A acc {m with bk:=x}:=(Bb (ah rfl)).trans rfl
def putM_ck(x:Ck):aV (cMm A acc m) 22 (nX x)=cMm A acc {m with ck:=x}:=(Bb (ah rfl)).trans rfl
def aFe(x:Tm):aV (cMm A acc m) 34 (iZ x)=cMm A acc {m with tm:=x}:=(Bb (ah rfl)).trans rfl
def T9(x:Pd):aV (cMm A acc m) 39 (nB x)=cMm A acc {m with pd:=x}:=(Bb (ah rfl)).trans rfl
def aDS(x:Pt):aV (cMm A acc m) 41 (qD x)=cMm A acc {m with pt:=x}:=(Bb (ah rfl)).trans rfl
def Kc(x:Cp):aV (cMm A acc m) 47 (cCp x)=cMm A acc {m with cp:=x}:=(Bb (ah rfl)).trans rfl
def putM_bd(h:dV m){x:Bd}(hx:x.Ln):aV (cMm A acc m) 49 (cBd x)=cMm A acc {m with bd:=x}:=by
 rw[vD,gE (n:=0) (by rw[rM]) (by rw[bX,cBd_len hx,cBd_len h.bd];omega),mQ (by rw[cBd_len hx,cBd_len h.bd];decide)]
 have h1:aV (cBd m.bd) 0 (cBd x)=cBd x:=by
  unfold aV
  rw[gu,cg,bj,d5 (by rw[cBd_len hx,cBd_len h.bd];decide),cn]
 rw[h1]
 rfl
def Uy(h:dV m){o:Nat}{vs:AA}(hv:o+vs.length<=(jD A acc m).length):aV (cMm A acc m) (119+o) vs=mB m++(cBd m.bd++aV (jD A acc m) o vs):=by
 rw[vD,gE (n:=70+o) (by rw[rM];omega) (by rw[bX,cBd_len h.bd];omega),gE (n:=o) (by rw[cBd_len h.bd]) hv]
def tailM_len(h:dV m):(jD A acc m).length=8336:=by
 unfold jD
 rw[bX,midM_len,bX,eJ,bX,eJ,h.work,h.high,au]
def Fq(h:dV m){o:Nat}{v:AH}(hv:o<16):aV (cMm A acc m) (119+o) [v]=mB m++(cBd m.bd++(aV (uL A m) o [v]++(m.work.map (.int .u8)++(m.high.map (.int .u8)++[acc])))):=by
 rw[Uy h Qc]
 unfold jD
 rw[mQ (by rw[midM_len,au];omega)]
def Jc(h:dV m)(x:Int):aV (cMm A acc m) 119 [.int .u8 x]=cMm A acc {m with flags:=x}:=(Fq h (o:=0) aD).trans rfl
def Lz(h:dV m)(x:Int):aV (cMm A acc m) 120 [.int .u8 x]=cMm A acc {m with lets:=x}:=(Fq h (o:=1) aD).trans rfl
def aCn(h:dV m)(x:Int):aV (cMm A acc m) 121 [.int .u64 x]=cMm A acc {m with steps:=x}:=(Fq h (o:=2) aD).trans rfl
def Y3(h:dV m)(x:Int):aV (cMm A acc m) 122 [.int .u64 x]=cMm A acc {m with cycles:=x}:=(Fq h (o:=3) aD).trans rfl
def aLr(h:dV m){j:Nat}(hj:j<8192)(x:Int):aV (cMm A acc m) (135+j) [.int .u8 x]=cMm A acc {m with work:=m.work.set j x}:=by
 rw[show 135+j=119+(16+j)by omega,Uy h Qc]
 unfold jD
 rw[gE (n:=j) Gz (by rw[bX,eJ,h.work,au];omega),mQ (by rw[eJ,h.work,au];omega),vP .u8 (by rw[h.work];exact hj)]
 rfl
def putM_high(h:dV m){j:Nat}(hj:j<127)(x:Int):aV (cMm A acc m) (8327+j) [.int .u8 x]=cMm A acc {m with high:=m.high.set j x}:=by
 rw[show 8327+j=119+(16+(8192+j))by omega,Uy h Qc]
 unfold jD
 rw[gE (n:=8192+j) Gz (by rw[bX,eJ,bX,eJ,h.work,h.high,au];omega),gE (n:=j) Oc (by rw[bX,eJ,h.high,au];omega),mQ (by rw[eJ,h.high,au];omega),vP .u8 (by rw[h.high];exact hj)]
 rfl
def J1(h:dV m)(x:AH):aV (cMm A acc m) 8454 [x]=cMm A x m:=by
 rw[show(8454:Nat)=119+(16+(8192+127))by omega,Uy h Qc]
 unfold jD
 rw[gE (n:=8192+127) Gz (by rw[bX,eJ,bX,eJ,h.work,h.high,au,au];omega),gE (n:=127) Oc (by rw[bX,eJ,h.high,au,au];omega),gE (A:=m.high.map (.int .u8)) (B:=[acc]) (vs:=[x]) (o:=127) (n:=0) (by rw[eJ,h.high]) (be 1)]
 rfl
end
def tL(A:Ad)(m:Mm)(H:aF):Prop:=∃va Ga,bS 298 3 va m.acc.length (aM cAc m.acc) Ga/\H=Ga++[(A.mb,J (cMm A va m) 156),(A.ub,J (cU m.u) 247),(A.rb,J (m.ram.map (.int .u8)++A.rs) 5),(A.ob,J (m.rom.map (.int .u8)++A.sp) 5)]
def gX(b:Bool):Int:=if b=true then 1 else 0
def r4(u:PU):AB:=u.R.set 4 u.line
def Fy(u:PU):AB:=(r4 u).take 6++(r4 u).drop 7
def sX(u:PU):AB:=[u.dot,u.own%256,u.frames%256,u.frames/256,gX u.sig]
def wB(u:PU):AB:=u.V++u.O++Fy u++sX u
def fM(u:PU):AB:=wB u++u.P
structure Sg where
 a:AC
 c:Nat
 l:AB
def cSg(s:Sg):AA:=[.slice s.a s.l.length s.c]
def cSg_len(s:Sg):(cSg s).length=1:=rfl
def nL(l:List Sg):AB:=l.flatMap (·.l)
def aCN(l:List Sg)(i:Nat){s:Sg}(h:l[i]? =some s):nL (l.take (i+1))=nL (l.take i)++s.l:=by
 rw[Tb h];simp[nL]
def F0(l:List Sg)(i:Nat):(nL (l.take i)).length<=(nL l).length:=by
 conv=>rhs;rw[<-dp i l]
 simp only[nL,List.flatMap_append,bX];omega
section
variable {u:PU}
def r4_len(h:u.Wf):(r4 u).length=12:=by simp[r4,h.lR]
def aBW(h:u.Wf):(Fy u).length=11:=by simp[Fy,r4_len h]
def F2(h:u.Wf):(wB u).length=8368:=by simp[wB,aBW h,sX,h.lV,h.lO]
def Ul(h:u.Wf):(fM u).length=31408:=by simp[fM,F2 h,h.lP]
def Bc(u:PU)(b b3:Nat):List Sg:=[⟨some ⟨b,0,none⟩,8192,u.V⟩,⟨some ⟨b,8192,none⟩,160,u.O⟩,⟨some ⟨b3,0,none⟩,12,(r4 u).take 6⟩,⟨some ⟨b3,7,none⟩,5,(r4 u).drop 7⟩]
def aDN(u:PU)(b b3:Nat):nL (Bc u b b3)=u.V++u.O++Fy u:=by simp[nL,Bc,Fy]
def aCi(h:u.Wf)(b b3:Nat):(nL (Bc u b b3)).length=8363:=by rw[aDN];simp[aBW h,h.lV,h.lO]
def aJd{w:AI}{b off:Nat}{l:AB}(h:aK w b off (l.map (.int .u8)))(n:Nat):aK w b off ((l.take n).map (.int .u8)):=λj v hv=>h j v (by
 rw[de,fe]at hv
 split at hv
 ·rw[de];exact hv
 ·simp at hv)
def aL2{w:AI}{b off:Nat}{l:AB}(h:aK w b off (l.map (.int .u8)))(n:Nat):aK w b (off+n) ((l.drop n).map (.int .u8)):=λj v hv=>by
 have:=h (n+j) v (by
  rw[de,ee]at hv
  rw[de];exact hv)
 rwa[<-ec]at this
def aGU(h:u.Wf){w:AI}{b b3:Nat}(hr:aK w b 0 (cU u))(h3:aK w b3 0 ((r4 u).map (.int .u8))):∀s∈Bc u b b3,Ns w .u8 s.a s.l/\s.l.length<=s.c:=by
 intro s hs
 simp only[Bc,ea,ei,or_false]at hs
 rcases hs with rfl|rfl|rfl|rfl
 ·exact⟨Ns.of (rowV hr),by rw[h.lV];exact be _⟩
 ·exact⟨Ns.of (rowO h hr),by rw[h.lO];exact be _⟩
 ·exact⟨Ns.of (aJd h3 6),by simp[r4_len h]⟩
 ·exact⟨Ns.of (by simpa using aL2 h3 7),by simp[r4_len h]⟩
def aK2(h:u.Wf){w:AI}{b:Nat}(hr:aK w b 0 (cU u)){i:Nat}(_hi:i<144):aK w b (8369+i*160) (((u.P.drop (i*160)).take 160).map (.int .u8)):=λj v hv=>by
 have:=aM7 h hr (i*160+j) v (by
  rw[de]at hv⊢
  rw[fe]at hv
  split at hv
  ·rw[ee]at hv;exact hv
  ·simp at hv)
 rw[ec];exact this
def B5(l:AB)(i:Nat):l.take (i*160)++(l.drop (i*160)).take 160=l.take ((i+1)*160):=by
 rw[jk,Nat.one_mul,iv]
end
def rS(l:AB):AB:=((l.drop 8352).take 6++0::(l.drop 8358).take 5).set 4 0
def uP(l:AB):PU:=⟨l.take 8192,(l.drop 8192).take 160,rS l,l.getD 8356 0,l.getD 8363 0,l.getD 8364 0,l.getD 8365 0+256*l.getD 8366 0,l.getD 8367 0==1,l.drop 8368⟩
def mX(l:AB):Bool:=decide (l.getD 8356 0<154)&&decide (l.getD 8363 0<114)&&(lD .u8 (l.getD 8353 0) 120==0)&&decide (l.getD 8367 0<=1)&&(l.drop 8368).all (λx=>decide (x<=3))
def lU(l:AB):Int:=if l.length≠31408 then 6 else if mX l=true then 0 else 5
def kZ(u:PU)(l:AB):PU:=if lU l=0 then uP l else u
def aZ(x:Int)(i:Nat):Int:=x/256^i%256
def dT(n:Nat)(x:Int):AB:=(List.range n).map (aZ x)
def val(l:AB):Nat->Int
 |0=>0
 |i+1=>val l i+l.getD i 0*256^i
def Ff(n:Nat)(x:Int):(dT n x).length=n:=by simp[dT]
def Y7(x:Int)(i:Nat):0<=aZ x i/\aZ x i<256:=⟨fz _ aD,f7 _ aD⟩
def vN(n:Nat)(x:Int):bF (dT n x):=λy hy=>by
 simp only[dT,jc,gw]at hy
 obtain⟨i,_,rfl⟩:=hy
 exact Y7 x i
def aFL(n:Nat)(x:Int):dT (n+1) x=dT n x++[aZ x n]:=by simp[dT,eo]
def Uv(i:Nat):(0:Int)<256^i:=gp aD
def val_ok{l:AB}(h:bF l):∀i,0<=val l i/\val l i<256^i
 |0=>by simp[val]
 |i+1=>by
  have h1:=val_ok h i
  have h2:=h.get i
  have hp:=Uv i
  have h3:l.getD i 0*256^i<=255*256^i:=jg I I
  have h4:0<=l.getD i 0*256^i:=Int.mul_nonneg h2.1 I
  have h5:(256:Int)^(i+1)=256^i*256:=Int.pow_succ ..
  unfold val
  rw[h5]
  constructor<;>omega
def aEM{l m:AB}:∀n,(∀j,j<n->l.getD j 0=m.getD j 0)->val l n=val m n
 |0,_=>rfl
 |n+1,h=>by unfold val;rw[aEM n λj hj=>h j I,h n I]
def aJh{n i:Nat}(h:i<n)(x:Int):(dT n x).getD i 0=aZ x i:=by
 unfold dT;rw[gU,de,ij h];rfl
def W3(x:Int):∀n m,n<=m->val (dT m x) n=x%256^n
 |0,_,_=>by show(0:Int)=x%1;omega
 |n+1,m,h=>by
  show val (dT m x) n+(dT m x).getD n 0*256^n=_
  rw[W3 x n m I,aJh I,Int.pow_succ]
  unfold aZ
  have hp:=Uv n
  have e1:=i2 x (256^n)
  have e2:=i2 (x/256^n) 256
  have e3:x/(256^n*256)=x/256^n/256:=(Int.ediv_ediv_of_nonneg I).symm
  have e4:=i2 x (256^n*256)
  rw[e3]at e4
  have e5:256^n*256*(x/256^n/256)=256^n*(256*(x/256^n/256)):=Int.mul_assoc ..
  have e6:256^n*(x/256^n)=256^n*(x/256^n%256)+256^n*(256*(x/256^n/256)):=by rw[<-Int.mul_add,e2]
  have e7:x/256^n%256*256^n=256^n*(x/256^n%256):=Int.mul_comm ..
  omega
def Mq{a b:Nat}(h:a<=b):(256:Int)^a<=256^b:=by
 have h1:=gd (n:=256) aD h
 have h2:((256^a:Nat):Int)<=((256^b:Nat):Int):=by omega
 simpa using h2
def aIX{b y:Int}{i:Nat}(hi:i<8)(hy:y=((8*i:Nat):Int))(hb:0<=b/\b<256):shl .u64 b y=b*256^i:=by
 subst hy
 have h:(2:Int)^min (((8*i:Nat):Int)).toNat IntKind.u64.bits=256^i:=by
  rcases(show i=0\/i=1\/i=2\/i=3\/i=4\/i=5\/i=6\/i=7 by omega)with rfl|rfl|rfl|rfl|rfl|rfl|rfl|rfl<;>decide
 have h1:=Uv i
 have h2:=Mq (show i<=7 by omega)
 have h3:b*256^i<=255*256^i:=jg I I
 have h4:0<=b*256^i:=Int.mul_nonneg hb.1 I
 rw[zY _ h,J9]
 exact Int.emod_eq_of_lt h4 I
def aLE{x y:Int}{i:Nat}(hi:i<8)(hy:y=((8*i:Nat):Int)):IntKind.u8.wrap (shr .u64 x y)=aZ x i:=by
 subst hy
 rw[nW]
 unfold aZ shr
 have hp:=Uv i
 rw[eu _ (j6 (gp aD))]
 rcases(show i=0\/i=1\/i=2\/i=3\/i=4\/i=5\/i=6\/i=7 by omega)with rfl|rfl|rfl|rfl|rfl|rfl|rfl|rfl
 all_goals rfl
def aGq{A b y:Int}{i:Nat}(hi:i<8)(hy:y=((8*i:Nat):Int))(hA:0<=A/\A<256^i)(hb:0<=b/\b<256):bI .u64 A (shl .u64 b y)=A+b*256^i:=by
 rw[aIX hi hy hb]
 have key:∀k:Nat,(256:Int)^i=((2^k:Nat):Int)->k<=56->bI .u64 A (b*256^i)=A+b*256^i:=by
  intro k hk hk2
  have hle:2^k<=2^56:=gd aD hk2
  have hpos:0<2^k:=iq aD
  rw[hk]at hA⊢
  obtain⟨a,rfl⟩:∃a:Nat,A=a:=⟨A.toNat,aR⟩
  obtain⟨n,rfl⟩:∃n:Nat,b=n:=⟨b.toNat,aR⟩
  have h1:n*2^k<=255*2^k:=gb _ I
  have h2:a<2^k:=by omega
  have e1:((n:Int)*((2^k:Nat):Int))=((n*2^k:Nat):Int):=(kb ..).symm
  rw[e1,Wn I (by show(a:Int)<18446744073709551616;omega) I (by show((n*2^k:Nat):Int)<18446744073709551616;omega)]
  have e2:a ||| n*2^k=n*2^k+a:=by rw[kg,gh];exact(f5 h2 n).symm
  rw[c8,c8,e2]
  omega
 rcases(show i=0\/i=1\/i=2\/i=3\/i=4\/i=5\/i=6\/i=7 by omega)with rfl|rfl|rfl|rfl|rfl|rfl|rfl|rfl
 ·exact key 0 U aD
 ·exact key 8 U aD
 ·exact key 16 U aD
 ·exact key 24 U aD
 ·exact key 32 U aD
 ·exact key 40 U aD
 ·exact key 48 U aD
 ·exact key 56 U aD
inductive FK where
 |byte
 |word
 |bool
 |int (n:Nat)
 |long (n:Nat)
deriving DecidableEq
def FK.many :FK->Nat
 | .byte=>1
 | .word=>2
 | .bool=>1
 | .int n=>n
 | .long n=>n
def FK.cell :FK->Int->AH
 | .byte,x=> .int .u8 x
 | .word,x=> .int .u16 x
 | .bool,x=> .bool (x==1)
 | .int _,x=> .int .i64 x
 | .long _,x=> .int .u64 x
def FK.at(L:AA)(o:Nat):Int:=match L[o]? with
 |some (.int _ x)=>x
 |some (.bool b)=>if b=true then 1 else 0
 |_=>0
def FK.ok :FK->Int->Prop
 | .byte,x=>0<=x/\x<256
 | .word,x=>0<=x/\x<65536
 | .bool,x=>x=0\/x=1
 | .int _,x=> -9223372036854775808<=x/\x<=9223372036854775807
 | .long _,x=>0<=x/\x<18446744073709551616
def gN(k:FK)(L:AA)(o:Nat):Prop:=∃x,L[o]? =some (k.cell x)/\k.ok x
abbrev Ps :=AA×AB
def pass1(r:Bool)(k:FK)(s:Ps)(o:Nat):Ps:=
 if r=true then(aV s.1 o [k.cell (val s.2 k.many)],s.2.drop k.many)else(s.1,s.2++dT k.many (FK.at s.1 o))
def bH(r:Bool)(k:FK)(os:AE)(s:Ps):Ps:=os.foldl (pass1 r k) s
def passes_snoc{r:Bool}{k:FK}{os:AE}{s:Ps}{i o:Nat}(h:os[i]? =some o):bH r k (os.take (i+1)) s=pass1 r k (bH r k (os.take i) s) o:=by
 unfold bH
 rw[f0,h,ip]
 rfl
def gN.at{k:FK}{L:AA}{o:Nat}(h:gN k L o):L[o]? =some (k.cell (FK.at L o))/\k.ok (FK.at L o):=by
 obtain⟨x,hx,hk⟩:=h
 have:FK.at L o=x:=by
  unfold FK.at;rw[hx]
  cases k<;>try rfl
  rcases hk with rfl|rfl<;>rfl
 rw[this];exact⟨hx,hk⟩
def gN.lt{k:FK}{L:AA}{o:Nat}(h:gN k L o):o<L.length:=by
 obtain⟨x,hx,_⟩:=h
 exact(List.getElem?_eq_some_iff.1 hx).1
def Ko{l:AA}{o j:Nat}{v:AH}(ho:o<l.length):(aV l o [v])[j]? =if j=o then some v else l[j]? :=by
 have e:aV l o [v]=l.set o v:=by
  unfold aV
  rw[dt,ag ho,eG];rfl
 rw[e,jv]
 split
 ·rename_i h;subst h;rw[ag rfl]
 ·rename_i h;rw[ae (Ne.symm h)]
def gN.put{k k':FK}{L:AA}{o o':Nat}{x:Int}(h:gN k L o)(h':gN k' L o')(hx:k'.ok x)(hk:o=o'->k=k'):gN k (aV L o' [k'.cell x]) o:=by
 by_cases ho:o=o'
 ·subst ho;cases hk rfl
  exact⟨x,by rw[Ko h.lt,ag rfl],hx⟩
 ·obtain⟨y,hy,hky⟩:=h
  exact⟨y,by rw[Ko h'.lt,ae ho];exact hy,hky⟩
def FK.fits :FK->Prop
 | .int n=>n<=4
 | .long n=>n<=8
 |_=>True
def FK.val_ok{k:FK}(hk:k.fits){l:AB}(h:bF l):∃y,k.cell (val l k.many)=k.cell y/\k.ok y:=by
 have hv:=Go.Proofs.YtacejanlmhbddaaGreat.val_ok h k.many
 cases k with
 |byte=>exact⟨_,rfl,hv⟩
 |word=>exact⟨_,rfl,hv⟩
 |bool=>
  by_cases h1:val l 1=1
  ·exact⟨1,by show Value.bool (val l 1==1)=_;rw[h1];rfl,.inr U⟩
  ·exact⟨0,by show Value.bool (val l 1==1)= .bool (0==1);rw[show(val l 1==1)=false by simpa using h1];rfl,.inl U⟩
 |int n=>
  have h4:=Mq (show n<=4 from hk)
  exact⟨_,U,by have:=hv.1;show -9223372036854775808<=val l n;simp only[FK.many]at this;omega,by have:=hv.2;show val l n<=9223372036854775807;simp only[FK.many]at this;omega⟩
 |long n=>
  have h8:=Mq (show n<=8 from hk)
  exact⟨_,U,hv.1,by have:=hv.2;show val l n<18446744073709551616;simp only[FK.many]at this;omega⟩
def qH{a b:AB}(ha:bF a)(hb:bF b):bF (a++b):=λx hx=>(List.mem_append.1 hx).elim (ha x) (hb x)
def vY{a:AB}(h:bF a)(n:Nat):bF (a.drop n):=λx hx=>h x (dm hx)
def Fv{a:AB}(h:bF a)(n:Nat):bF (a.take n):=λx hx=>h x (dd hx)
section
variable {r:Bool}{k:FK}{s:Ps}
def N5(h:bF s.2)(o:Nat):bF (pass1 r k s o).2:=by
 unfold pass1
 split
 ·exact vY h _
 ·exact qH h (vN _ _)
def Xz :∀{os:AE} {s:Ps},bF s.2->bF (bH r k os s).2
 | [],_,h=>h
 |o::os,_,h=>Xz (os:=os) (N5 h o)
def Jt(r:Bool)(n:Nat)(m:Nat):Nat:=if r=true then m-n else m+n
def Wy :∀{os:AE} {s:Ps},(bH r k os s).2.length=Jt r (os.length*k.many) s.2.length
 | [],s=>by unfold Jt;simp[bH]
 |o::os,s=>by
  show(bH r k os (pass1 r k s o)).2.length=_
  rw[Wy]
  unfold pass1 Jt
  rw[eZ,j7]
  cases r
  ·simp[Ff];omega
  ·simp;omega
def aFA(hf:k.fits)(hb:bF s.2){o:Nat}(ho:gN k s.1 o){k':FK}{o':Nat}(h:gN k' s.1 o')(hk:o'=o->k'=k):gN k' (pass1 r k s o).1 o':=by
 unfold pass1
 split
 ·obtain⟨y,hy,hok⟩:=FK.val_ok hf hb
  show gN k' (aV s.1 o [k.cell (val s.2 k.many)]) o'
  rw[hy]
  exact h.put ho hok hk
 ·exact h
def Uz(hf:k.fits){k':FK}{o':Nat}:∀{os:AE} {s:Ps},bF s.2->(∀o∈os,gN k s.1 o)->gN k' s.1 o'->(o'∈os->k'=k)->gN k' (bH r k os s).1 o'
 | [],_,_,_,h,_=>h
 |o::os,s,hb,hs,h,hk=>by
  show gN k' (bH r k os (pass1 r k s o)).1 o'
  have ho:=hs o (.head _)
  exact Uz hf (N5 hb o) (λx hx=>aFA hf hb ho (hs x (.tail _ hx)) (λ_=>U)) (aFA hf hb ho h (λe=>hk (e▸ .head _))) (λhx=>hk (.tail _ hx))
def M7{l:AA}{o:Nat}{v:AH}(h:o<l.length):(aV l o [v]).length=l.length:=yO E2
def aJJ(a b:AE):bH r k (a++b) s=bH r k b (bH r k a s):=ip ..
end
def goes(r:Bool)(n:Nat)(x:Int)(bs:AB):Int×AB:=if r=true then(val bs n,bs.drop n)else(x,bs++dT n x)
def aJT{L:AA}{o:Nat}{v:AH}(h:L[o]? =some v):aV L o [v]=L:=by
 have ho:=(List.getElem?_eq_some_iff.1 h).1
 refine List.ext_getElem? λj=>?_
 rw[Ko ho]
 split
 ·rename_i e;subst e;exact h.symm
 ·rfl
def pass1_goes{k:FK}{s:Ps}{o:Nat}(h:gN k s.1 o)(r:Bool):pass1 r k s o=(aV s.1 o [k.cell (goes r k.many (FK.at s.1 o) s.2).1],(goes r k.many (FK.at s.1 o) s.2).2):=by
 unfold pass1 goes
 cases r
 ·show(s.1,_)=(aV s.1 o [k.cell (FK.at s.1 o)],_);rw[aJT h.at.1];rfl
 ·rfl
def X6{r:Bool}{n:Nat}{x:Int}{bs:AB}(hx:0<=x/\x<256^n)(hb:bF bs):0<=(goes r n x bs).1/\(goes r n x bs).1<256^n:=by
 unfold goes;split
 ·exact Go.Proofs.YtacejanlmhbddaaGreat.val_ok hb n
 ·exact hx
def aKN{x:Int}{i:Nat}(hi:i<8):aZ (x%18446744073709551616) i=aZ x i:=by
 unfold aZ
 rcases(show i=0\/i=1\/i=2\/i=3\/i=4\/i=5\/i=6\/i=7 by omega)with rfl|rfl|rfl|rfl|rfl|rfl|rfl|rfl
 all_goals omega
def aQR{x:Int}{n:Nat}(hn:n<=8):dT n (x%18446744073709551616)=dT n x:=by
 unfold dT
 refine List.map_congr_left λi hi=>aKN ?_
 have:=List.mem_range.1 hi;omega
def aCQ{r:Bool}{n:Nat}{x:Int}{bs:AB}(hn:n<=4)(hx: -9223372036854775808<=x/\x<=9223372036854775807)(hb:bF bs):
  IntKind.i64.wrap (goes r n (x%18446744073709551616) bs).1=(goes r n x bs).1/\(goes r n (x%18446744073709551616) bs).2=(goes r n x bs).2:=by
 unfold goes
 cases r
 ·exact⟨by show IntKind.i64.wrap (x%18446744073709551616)=x;rw[Pn];omega,by show bs++dT n _=bs++dT n _;rw[aQR I]⟩
 ·have hv:=Go.Proofs.YtacejanlmhbddaaGreat.val_ok hb n
  have h4:=Mq hn
  exact⟨by show IntKind.i64.wrap (val bs n)=val bs n;rw[bZ I I],U⟩
def wU(ty:Nat->Option FK)(L:AA):Prop:=∀o k,ty o=some k->gN k L o
structure kT(r:Bool)(n:Nat)(s:Ps):Prop where
 byts:bF s.2
 en:r=true->n<=s.2.length
 sz:s.2.length+n<=1000000
def kT.pass{r:Bool}{k:FK}{os:AE}{n:Nat}{s:Ps}(h:kT r (os.length*k.many+n) s):kT r n (bH r k os s):=by
 have h1:=h.sz
 refine⟨Xz h.byts,λhr=>?_,?_⟩
 ·have h2:=h.en hr
  rw[Wy];unfold Jt;rw[ag hr];omega
 ·rw[Wy];unfold Jt;split<;>omega
def kT.le{r:Bool}{n m:Nat}{s:Ps}(h:kT r n s)(hm:m<=n):kT r m s:=⟨h.byts,λhr=>gr hm (h.en hr),by have:=h.sz;omega⟩
def wU.pass{ty:Nat->Option FK}{r:Bool}{k:FK}{os:AE}{s:Ps}(h:wU ty s.1)(hf:k.fits)(hb:bF s.2)(ho:∀o∈os,ty o=some k):wU ty (bH r k os s).1:=λo' k' h'=>
 Uz hf hb (λo hx=>h o k (ho o hx)) (h o' k' h') λhx=>by rw[ho o' hx]at h';exact(aj h').symm
def kT.at{r:Bool}{k:FK}{os:AE}{s:Ps}{i:Nat}(h:kT r (os.length*k.many) s)(hi:i<os.length):kT r k.many (bH r k (os.take i) s):=by
 have h1:i*k.many+k.many<=os.length*k.many:=by rw[<-j7];exact gb _ hi
 exact kT.pass (h.le (by rw[fT,fx I];exact h1))
def Vp{r:Bool}{k:FK}{os:AE}{s:Ps}{i o:Nat}(hk:k.fits)(hb:bF s.2)(hos:∀o∈os,gN k s.1 o)(ho:os[i]? =some o):gN k (bH r k (os.take i) s).1 o:=
 Uz hk hb (λx hx=>hos x (dd hx)) (hos o (cr ho)) (λ_=>rfl)
def cQ(o n:Nat):AE:=(List.range n).map (o+ ·)
def Jf(o n:Nat):(cQ o n).length=n:=by simp[cQ]
def Yn{o n x:Nat}(h:x∈cQ o n):∃i,i<n/\x=o+i:=by
 simp only[cQ,jc,gw]at h
 obtain⟨i,h1,h2⟩:=h
 exact⟨i,h1,h2.symm⟩
def It{o n i:Nat}(h:i<n):o+i∈cQ o n:=by
 simp only[cQ,jc,gw]
 exact⟨i,h,U⟩
def aEg(r:Bool)(k:FK)(o i:Nat)(s:Ps):bH r k (cQ o (i+1)) s=bH r k [o+i] (bH r k (cQ o i) s):=by
 unfold cQ
 rw[eo,bz,aJJ];rfl
def LineB(T:Nat)(r:Bool)(va:AH)(bs:AB)(G:aF):Prop:=
 if r=true then ∃(cb off c:Nat) (all:AA),va= .slice (some ⟨cb,off,none⟩) bs.length c/\bs.length<=c/\G=[(cb,J all T)]/\∀j v,(bs.map Z)[j]? =some v->all[off+j]? =some v
 else bS T 1 va bs.length (bs.map (.int .u8)) G
def LineB.read{T:Nat}{va:AH}{bs:AB}{G:aF}(h:LineB T true va bs G):∃(cb off c:Nat) (all:AA),va= .slice (some ⟨cb,off,none⟩) bs.length c/\bs.length<=c/\G=[(cb,J all T)]/\∀j v,(bs.map Z)[j]? =some v->all[off+j]? =some v:=h
def LineB.write{T:Nat}{va:AH}{bs:AB}{G:aF}(h:LineB T false va bs G):bS T 1 va bs.length (bs.map (.int .u8)) G:=h
def LineB.cut{T cb off c n:Nat}{bs:AB}{all:AA}(hle:bs.length<=c)(hn:n<=bs.length)(hall:∀j v,(bs.map Z)[j]? =some v->all[off+j]? =some v):
  LineB T true (.slice (some ⟨cb,cut1 off n c,none⟩) (bs.length-n) (c-n)) (bs.drop n) [(cb,J all T)]:=by
 refine⟨cb,cut1 off n c,c-n,all,by rw[dM],by rw[dM];omega,U,λj v hv=>?_⟩
 rw[ii,ee]at hv
 by_cases hc:c=n
 ·rw[d7 (by rw[eJ];omega)]at hv;cases hv
 ·rw[tH hc,ec];exact hall _ _ hv
def Lr(b:Nat)(o:Nat):AA:=[.pointer (some ⟨b,o,none⟩)]
def cPtr_len(b o:Nat):(Lr b o).length=1:=rfl
def St.apartT{w0 w:AI}{ms:AE}{A:aF}{x:Nat×Obj}{G:aF}(hw:St w0 ms (A++([x]++G)) w):x.1∉A.map (·.1):=λhx=>by
 have h:=hw.nodup
 rw[bz,dx]at h
 exact h.2.2 _ hx _ aP U
def eT(o:Nat):Option FK:=
 if o<8 then some .byte else if o<10 then some .word else if o<14 then some .bool else if o<17 then none else if o<19 then some .bool else if o<21 then some (.int 2)else if o<25 then some .byte
 else if o<26 then some (.int 2)else if o<27 then some (.int 4)else if o<29 then some .bool else if o<34 then some .byte else if o<35 then some .word else if o<38 then some .byte else if o<39 then some .bool
 else if o<44 then some .byte else if o<47 then some (.int 2)else if o<48 then some .byte else if o<49 then some (.int 2)else if o<97 then some .byte else if o<98 then some .bool else if o<100 then some (.int 2)
 else if o<116 then(if o%4=0 then some .bool else some (.int 2))else if o<118 then some (.int 2)else if o<119 then some .bool else if o<121 then some .byte else if o<123 then some (.long 8)else if o<135 then none
 else if o<8454 then some .byte else none
def gA :AE:=[0,1,2,3,4,5,6,7,119,120,21,39,40,47]
def gW :AE:=[8,9,34]
def gB :AE:=[10,11,12,13,17,18,38,27,28]
def gI :AE:=[19,20,25,44,45,46,48]
def gC :AE:=[22,23,24,35,36,37,41,42,43]
def rF(r:Bool)(s:Ps):Nat->Ps
 |0=>s
 |i+1=>bH r (.int 2) [101+4*i,102+4*i,103+4*i] (bH r .bool [100+4*i] (rF r s i))
def uU(r:Bool)(s:Ps):Ps:=rF r (bH r (.int 2) [98,99,116,117] (bH r .bool [97,118] (bH r .byte (cQ 49 48) s))) 4
def Dq(r:Bool)(s:Ps):Ps:=
 bH r .byte gC (bH r (.int 4) [26] (bH r (.int 2) gI (pass1 r (.long 8) (pass1 r (.long 8) (bH r .bool gB (bH r .word gW (bH r .byte gA s))) 121) 122)))
def vK(r:Bool)(s:Ps):Ps:=bH r .byte (cQ 8327 127) (bH r .byte (cQ 135 8192) (uU r (bH r .byte (cQ 29 5) (Dq r s))))
def aDj{α:Type}(G:List α)(x y:α):((G++[x])++[y]).Perm ((G++[y])++[x]):=by
 rw[eG,eG]
 exact List.Perm.append_left _ (List.Perm.swap _ _ _)
def I3 :∀o∈gA,eT o=some .byte:=by decide
def F6 :∀o∈gW,eT o=some .word:=by decide
def Yz :∀o∈gB,eT o=some .bool:=by decide
def Wu :∀o∈gI,eT o=some (.int 2):=by decide
def Yh :∀o∈gC,eT o=some .byte:=by decide
def Zm{a n:Nat}(h:∀i,i<n->eT (a+i)=some .byte):∀o∈cQ a n,eT o=some .byte:=λo ho=>by
 obtain⟨i,hi,rfl⟩:=Yn ho
 exact h i hi
def Wh :∀o∈cQ 29 5,eT o=some .byte:=by decide
def Lh :∀o∈cQ 49 48,eT o=some .byte:=Zm λi hi=>by
 have key:∀k:Fin 48,eT (49+k.val)=some .byte:=by decide
 exact key ⟨i,hi⟩
def Ou :∀o∈cQ 135 8192,eT o=some .byte:=Zm λi hi=>by unfold eT;repeat(first|rw[ae I]|rw[ag I])
def Rq :∀o∈cQ 8327 127,eT o=some .byte:=Zm λi hi=>by unfold eT;repeat(first|rw[ae I]|rw[ag I])
structure gM(r:Bool)(n:Nat)(s:Ps):Prop where
 ty:wU eT s.1
 ok:kT r n s
section
variable {r:Bool}{s:Ps}{n:Nat}
def gM.pass{k:FK}{os:AE}(h:gM r (os.length*k.many+n) s)(hk:k.fits)(ho:∀o∈os,eT o=some k):gM r n (bH r k os s):=⟨h.ty.pass hk h.ok.byts ho,h.ok.pass⟩
def gM.fit{k:FK}{os:AE}(h:gM r n s)(ho:∀o∈os,eT o=some k):∀o∈os,gN k s.1 o:=λo hx=>h.ty o k (ho o hx)
def gM.le{m:Nat}(h:gM r n s)(hm:m<=n):gM r m s:=⟨h.ty,h.ok.le hm⟩
def gM.one{k:FK}{o:Nat}(h:gM r (k.many+n) s)(hk:k.fits)(ho:eT o=some k):gM r n (pass1 r k s o):=
 gM.pass (os:=[o]) (k:=k) (h.le aP) hk aEZ
def Uf{i:Nat}(hi:i<4):∀o∈[100+4*i],eT o=some .bool:=by
 rcases(show i=0\/i=1\/i=2\/i=3 by omega)with rfl|rfl|rfl|rfl<;>decide
def Vz{i:Nat}(hi:i<4):∀o∈[101+4*i,102+4*i,103+4*i],eT o=some (.int 2):=by
 rcases(show i=0\/i=1\/i=2\/i=3 by omega)with rfl|rfl|rfl|rfl<;>decide
def gM.voices(h:gM r (28+n) s):∀i,i<=4->gM r (7*(4-i)+n) (rF r s i)
 |0,_=>h
 |i+1,hi=>((((h.voices i I).le (m:=1+(6+(7*(4-(i+1))+n))) I).pass (k:= .bool) (os:=[100+4*i]) trivial (Uf I)).pass (k:= .int 2) (os:=[101+4*i,102+4*i,103+4*i]) (show 2<=4 by decide) (Vz I))
def gM.board(h:gM r (86+n) s):gM r n (uU r s):=by
 have h1:=(h.le (m:=48*1+(38+n)) I).pass (k:= .byte) (os:=cQ 49 48) trivial Lh
 have h2:=(h1.le (m:=2+(36+n)) I).pass (k:= .bool) (os:=[97,118]) trivial (show ∀o∈[97,118],eT o=some .bool by decide)
 have h3:=(h2.le (m:=8+(28+n)) I).pass (k:= .int 2) (os:=[98,99,116,117]) (show 2<=4 by decide) (show ∀o∈[98,99,116,117],eT o=some (.int 2)by decide)
 exact(h3.voices 4 aD).le I
def aPr{k:FK}{o j:Nat}(h:gN k s.1 o)(hj:j≠o):(pass1 r k s o).1[j]? =s.1[j]? :=by
 unfold pass1
 split
 ·show(aV s.1 o _)[j]? =_;rw[Ko h.lt,ae hj]
 ·rfl
def S2{k:FK}{j:Nat}(hk:k.fits)(hj:eT j=none):∀{os:AE} {s:Ps},wU eT s.1->bF s.2->(∀o∈os,eT o=some k)->(bH r k os s).1[j]? =s.1[j]?
 | [],_,_,_,_=>rfl
 |o::os,s,h,hb,ho=>by
  show(bH r k os (pass1 r k s o)).1[j]? =_
  have h1:wU eT (pass1 r k s o).1:=wU.pass (os:=[o]) (k:=k) h hk hb (by intro x hx;rw[List.mem_singleton.1 hx];exact ho o (.head _))
  rw[S2 hk hj h1 (N5 hb o) (λx hx=>ho x (.tail _ hx)),aPr (h o k (ho o (.head _))) (by rintro rfl;rw[ho j (.head _)]at hj;cases hj)]
structure sM(j:Nat)(s s':Ps):Prop where
 ty:wU eT s'.1
 byts:bF s'.2
 at_:s'.1[j]? =s.1[j]?
def sM.pass{j:Nat}{s':Ps}(h:sM j s s')(hj:eT j=none){k:FK}{os:AE}(hk:k.fits)(ho:∀o∈os,eT o=some k):sM j s (bH r k os s'):=⟨h.ty.pass hk h.byts ho,Xz h.byts,(S2 hk hj h.ty h.byts ho).trans h.at_⟩
def sM.one{j:Nat}{s':Ps}(h:sM j s s')(hj:eT j=none){k:FK}{o:Nat}(hk:k.fits)(ho:eT o=some k):sM j s (pass1 r k s' o):=h.pass (os:=[o]) hj hk aEZ
def sM.voices{j:Nat}{s':Ps}(h:sM j s s')(hj:eT j=none):∀i,i<=4->sM j s (rF r s' i)
 |0,_=>h
 |i+1,hi=>((h.voices hj i I).pass hj (k:= .bool) trivial (Uf I)).pass hj (k:= .int 2) (show 2<=4 by decide) (Vz I)
def sM.all{j:Nat}(h:sM j s s)(hj:eT j=none):sM j s (vK r s):=by
 have h8:sM j s (Dq r s):=(((((((h.pass hj (k:= .byte) trivial I3).pass hj (k:= .word) trivial F6).pass hj (k:= .bool) trivial Yz).one hj (k:= .long 8) (o:=121) (show 8<=8 by decide) aD).one hj (k:= .long 8) (o:=122) (show 8<=8 by decide) aD).pass hj (k:= .int 2) (show 2<=4 by decide) Wu).pass hj (k:= .int 4) (show 4<=4 by decide) (show ∀o∈[26],eT o=some (.int 4)by decide)).pass hj (k:= .byte) trivial Yh
 have h9:=(((h8.pass hj (r:=r) (k:= .byte) trivial Wh).pass hj (r:=r) (k:= .byte) trivial Lh).pass hj (r:=r) (k:= .bool) (os:=[97,118]) trivial aD).pass hj (r:=r) (k:= .int 2) (os:=[98,99,116,117]) (show 2<=4 by decide) aD
 exact((h9.voices hj 4 aD).pass hj (k:= .byte) trivial Ou).pass hj (k:= .byte) trivial Rq
def aHD(r:Bool)(s:Ps){j:Nat}(hj:eT j=none)(ht:wU eT s.1)(hb:bF s.2):(vK r s).1[j]? =s.1[j]? :=(sM.all ⟨ht,hb,rfl⟩ hj).at_
end
def vt(bs:AB)(p n:Nat):Int:=val (bs.drop p) n
def bo(bs:AB)(p:Nat):Bool:=vt bs p 1==1
def eY(k:FK):AE->AA->AB->Nat->AA
 | [],L,_,_=>L
 |o::os,L,bs,p=>eY k os (aV L o [k.cell (vt bs p k.many)]) bs (p+k.many)
def qQ{k:FK}(bs:AB):∀{os:AE} {L:AA} {p q:Nat},q=p+os.length*k.many->bH true k os (L,bs.drop p)=(eY k os L bs p,bs.drop q)
 | [],L,p,q,h=>by
  have:q=p:=by simpa using h
  subst this;rfl
 |o::os,L,p,q,h=>by
  show bH true k os (aV L o [k.cell (val (bs.drop p) k.many)],(bs.drop p).drop k.many)=_
  rw[bi,qQ bs (q:=q) (by rw[h,eZ,j7];omega)]
  rfl
def aCU{o:Nat}(bs:AB){L:AA}{p q:Nat}(h:q=p+8):pass1 true (.long 8) (L,bs.drop p) o=(eY (.long 8) [o] L bs p,bs.drop q):=by
 subst h
 show(aV L o _,(bs.drop p).drop 8)=_
 rw[bi]
 rfl
def Xf{k:FK}:∀{a b:AE} {L:AA} {bs:AB} {p:Nat},eY k (a++b) L bs p=eY k b (eY k a L bs p) bs (p+a.length*k.many)
 | [],b,L,bs,p=>by simp[eY]
 |o::a,b,L,bs,p=>by
  show eY k (a++b) _ bs (p+k.many)=eY k b (eY k a _ bs (p+k.many)) bs _
  rw[Xf,eZ,j7,show p+k.many+a.length*k.many=p+(a.length*k.many+k.many)by omega]
def aBc{k:FK}{X:AA}{n:Nat}(hX:X.length=n):∀{os:AE} {Y:AA} {bs:AB} {p:Nat},(∀o∈os,o<Y.length)->eY k (os.map (n+ ·)) (X++Y) bs p=X++eY k os Y bs p
 | [],_,_,_,_=>rfl
 |o::os,Y,bs,p,h=>by
  have ho:=h o (.head _)
  show eY k (os.map (n+ ·)) (aV (X++Y) (n+o) _) bs (p+k.many)=X++eY k os (aV Y o _) bs (p+k.many)
  rw[gE (n:=o) (by rw[hX]) E2,aBc hX λx hx=>by rw[M7 ho];exact h x (.tail _ hx)]
def B6{k:FK}{Y:AA}:∀{os:AE} {X:AA} {bs:AB} {p:Nat},(∀o∈os,o<X.length)->eY k os (X++Y) bs p=eY k os X bs p++Y
 | [],_,_,_,_=>rfl
 |o::os,X,bs,p,h=>by
  have ho:=h o (.head _)
  show eY k os (aV (X++Y) o _) bs (p+k.many)=eY k os (aV X o _) bs (p+k.many)++Y
  rw[mQ E2,B6 λx hx=>by rw[M7 ho];exact h x (.tail _ hx)]
def aJP(bs:AB)(p:Nat):vt bs p 1=bs.getD p 0:=by
 unfold vt val val
 rw[Do]
 simp
def W1{X Y:AA}{n a:Nat}(hX:X.length=a)(bs:AB)(p:Nat)(hb:p+n<=bs.length):∀{l:AB},l.length=n->∀i,i<=n->
  eY .byte (cQ a i) (X++(l.map (.int .u8)++Y)) bs p=X++((((bs.drop p).take i)++l.drop i).map (.int .u8)++Y)
 |l,hl,0,_=>by simp[cQ,eY]
 |l,hl,i+1,hi=>by
  have hi':i<l.length:=by omega
  have e:cQ a (i+1)=cQ a i++[a+i]:=by unfold cQ;rw[eo,bz];rfl
  rw[e,Xf,W1 hX bs p hb hl i I,Jf]
  show aV _ (a+i) [.int .u8 (vt bs (p+i*1) 1)]=_
  rw[fw,aJP,gE (n:=i) (by rw[hX]) aEn,mQ aEn,vP .u8 (by simp only[bX,fT,dM];omega)]
  have hlen:((bs.drop p).take i).length=i:=by simp only[fT,dM];omega
  have e2:(((bs.drop p).take i)++l.drop i).set i (bs.getD p.succ.pred.succ.pred 0)=(((bs.drop p).take i)++l.drop i).set i (bs.getD p 0):=rfl
  have e3:(((bs.drop p).take i)++l.drop i).set i (bs.getD (p+i) 0)=(bs.drop p).take (i+1)++l.drop (i+1):=by
   rw[List.set_append_right _ _ I,hlen,j4,fv hi',al,f0,ee,eG]
   rw[gU,ap I]
   rfl
  rw[e3]
def Ta{X Y:AA}{n a:Nat}(hX:X.length=a){bs:AB}{p:Nat}(hb:p+n<=bs.length){l:AB}(hl:l.length=n):eY .byte (cQ a n) (X++(l.map (.int .u8)++Y)) bs p=X++(((bs.drop p).take n).map (.int .u8)++Y):=by
 rw[W1 hX bs p hb hl n (be _),show l.drop n=[]from d5 I,cn]
def xN(bs:AB)(p:Nat):List Vc:=[⟨bo bs p,vt bs (p+1) 2,vt bs (p+3) 2,vt bs (p+5) 2⟩,⟨bo bs (p+7),vt bs (p+8) 2,vt bs (p+10) 2,vt bs (p+12) 2⟩,⟨bo bs (p+14),vt bs (p+15) 2,vt bs (p+17) 2,vt bs (p+19) 2⟩,⟨bo bs (p+21),vt bs (p+22) 2,vt bs (p+24) 2,vt bs (p+26) 2⟩]
def Fk(bs:AB):Bd:=⟨(bs.drop 77).take 48,bo bs 125,vt bs 127 2,vt bs 129 2,xN bs 135,vt bs 131 2,vt bs 133 2,bo bs 126⟩
def M4(m:Mm)(bs:AB):Mm:={m with
 cpu:=⟨⟨vt bs 0 1,vt bs 1 1,vt bs 2 1,vt bs 3 1,vt bs 4 1,vt bs 5 1,vt bs 6 1,vt bs 7 1,vt bs 14 2,vt bs 16 2⟩,bo bs 20,bo bs 21,bo bs 22,bo bs 23⟩,
 bk:={m.bk with last:=vt bs 10 1,on:=bo bs 24,mode:=bo bs 25,low:=vt bs 45 2,high:=vt bs 47 2},
 ck:=⟨vt bs 63 1,vt bs 64 1,vt bs 65 1,vt bs 49 2,vt bs 59 4,bo bs 27,bo bs 28,vt bs 72 1,vt bs 73 1,vt bs 74 1,vt bs 75 1,vt bs 76 1⟩,
 tm:=⟨vt bs 18 2,vt bs 66 1,vt bs 67 1,vt bs 68 1,bo bs 26⟩,
 pd:=⟨vt bs 11 1,vt bs 12 1⟩,pt:=⟨vt bs 69 1,vt bs 70 1,vt bs 71 1,vt bs 51 2,vt bs 53 2,vt bs 55 2⟩,cp:=⟨vt bs 13 1,vt bs 57 2⟩,
 flags:=vt bs 8 1,lets:=vt bs 9 1,steps:=vt bs 29 8,cycles:=vt bs 37 8}
def Bg(m:Mm)(bs:AB):Mm:={M4 m bs with bd:=Fk bs,work:=(bs.drop 163).take 8192,high:=(bs.drop 8355).take 127}
section
variable {A:Ad}{acc:AH}{m:Mm}(h:dV m)(bs:AB)
def Be{k:FK}{os:AE}{m':Mm}{p:Nat}(ho:(os.all λo=>Nat.blt o 49)=true)(h1:eY k os (mB m) bs p=mB m')(h2:cBd m.bd++jD A acc m=cBd m'.bd++jD A acc m'):eY k os (cMm A acc m) bs p=cMm A acc m':=by
 rw[vD,B6 (λo hx=>by rw[rM];exact ah (List.all_eq_true.1 ho o hx)),h1,h2,<-vD]
def dA(m:Mm)(bs:AB)(p:Nat):Mm:={m with cpu:={m.cpu with r:={m.cpu.r with a:=vt bs p 1,f:=vt bs (p+1) 1,b:=vt bs (p+2) 1,c:=vt bs (p+3) 1,d:=vt bs (p+4) 1,e:=vt bs (p+5) 1,h:=vt bs (p+6) 1,l:=vt bs (p+7) 1} } }
def Ez(m:Mm)(bs:AB)(p:Nat):Mm:={m with bk:={m.bk with last:=vt bs p 1},pd:=⟨vt bs (p+1) 1,vt bs (p+2) 1⟩,cp:={m.cp with page:=vt bs (p+3) 1} }
def dW(m:Mm)(bs:AB)(p:Nat):Mm:={m with cpu:={m.cpu with r:={m.cpu.r with sp:=vt bs p 2,pc:=vt bs (p+2) 2} },tm:={m.tm with cnt:=vt bs (p+4) 2} }
def dB(m:Mm)(bs:AB)(p:Nat):Mm:={m with cpu:={m.cpu with ime:=bo bs p,soon:=bo bs (p+1),halt:=bo bs (p+2),stop:=bo bs (p+3)},bk:={m.bk with on:=bo bs (p+4),mode:=bo bs (p+5)},tm:={m.tm with over:=bo bs (p+6)},ck:={m.ck with halt:=bo bs (p+7),carry:=bo bs (p+8)} }
def dI(m:Mm)(bs:AB)(p:Nat):Mm:={m with bk:={m.bk with low:=vt bs p 2,high:=vt bs (p+2) 2},ck:={m.ck with day:=vt bs (p+4) 2},pt:={m.pt with bits:=vt bs (p+6) 2,count:=vt bs (p+8) 2,sent:=vt bs (p+10) 2},cp:={m.cp with left:=vt bs (p+12) 2} }
def dS(m:Mm)(bs:AB)(p:Nat):Mm:={m with ck:={m.ck with sub:=vt bs p 4} }
def dC(m:Mm)(bs:AB)(p:Nat):Mm:={m with ck:={m.ck with s:=vt bs p 1,m:=vt bs (p+1) 1,h:=vt bs (p+2) 1},tm:={m.tm with tima:=vt bs (p+3) 1,tma:=vt bs (p+4) 1,tac:=vt bs (p+5) 1},pt:={m.pt with data:=vt bs (p+6) 1,control:=vt bs (p+7) 1,last:=vt bs (p+8) 1} }
def dH(m:Mm)(bs:AB)(p:Nat):Mm:={m with ck:={m.ck with h0:=vt bs p 1,h1:=vt bs (p+1) 1,h2:=vt bs (p+2) 1,h3:=vt bs (p+3) 1,h4:=vt bs (p+4) 1} }
def aGd(p:Nat):eY .byte [0,1,2,3,4,5,6,7] (cMm A acc m) bs p=cMm A acc (dA m bs p):=Be bs rfl aN rfl
def aMF(p:Nat):eY .byte [21,39,40,47] (cMm A acc m) bs p=cMm A acc (Ez m bs p):=Be bs rfl aN rfl
def aJG(p:Nat):eY .word gW (cMm A acc m) bs p=cMm A acc (dW m bs p):=Be bs rfl aN rfl
def aHu(p:Nat):eY .bool gB (cMm A acc m) bs p=cMm A acc (dB m bs p):=Be bs rfl aN rfl
def aMl(p:Nat):eY (.int 2) gI (cMm A acc m) bs p=cMm A acc (dI m bs p):=Be bs rfl aN rfl
def aON(p:Nat):eY (.int 4) [26] (cMm A acc m) bs p=cMm A acc (dS m bs p):=Be bs rfl aN rfl
def aQ4(p:Nat):eY .byte gC (cMm A acc m) bs p=cMm A acc (dC m bs p):=Be bs rfl aN rfl
def aG1(p:Nat):eY .byte (cQ 29 5) (cMm A acc m) bs p=cMm A acc (dH m bs p):=Be bs aD aN rfl
include h
def aKt(p:Nat):eY (.long 8) [121] (cMm A acc m) bs p=cMm A acc {m with steps:=vt bs p 8}:=aCn h _
def aPM(p:Nat):eY (.long 8) [122] (cMm A acc m) bs p=cMm A acc {m with cycles:=vt bs p 8}:=Y3 h _
def aMt(p:Nat):eY .byte [119] (cMm A acc m) bs p=cMm A acc {m with flags:=vt bs p 1}:=Jc h _
def aMm(p:Nat):eY .byte [120] (cMm A acc m) bs p=cMm A acc {m with lets:=vt bs p 1}:=Lz h _
omit h in
def N2{k:FK}{a b:AE}{L:AA}{p q:Nat}(hq:q=p+a.length*k.many):eY k (a++b) L bs p=eY k b (eY k a L bs p) bs q:=by rw[Xf,hq]
def aNM :eY .byte gA (cMm A acc m) bs 0=cMm A acc (Ez {dA m bs 0 with flags:=vt bs 8 1,lets:=vt bs 9 1} bs 10):=by
 have e:gA=[0,1,2,3,4,5,6,7]++([119]++([120]++[21,39,40,47])):=rfl
 have h1:dV (dA m bs 0):=⟨h.bd,h.work,h.high⟩
 have h2:dV {dA m bs 0 with flags:=vt bs 8 1}:=⟨h.bd,h.work,h.high⟩
 rw[e,N2 bs (q:=8) rfl,aGd,N2 bs (q:=9) rfl,aMt h1,N2 bs (q:=10) rfl,aMm h2,aMF]
end
def qY(b:Bd):AA:=[.bool b.on,.int .i64 b.div,.int .i64 b.step]++(aM dD b.vs++[.int .i64 b.pitch,.int .i64 b.slide,.bool b.slides])
def aD4{b:Bd}(h:b.Ln):(qY b).length=22:=by
 unfold qY
 rw[bX,bX,flat4,h.lV];rfl
section
variable {A:Ad}{acc:AH}{m:Mm}(h:dV m)(bs:AB)
def El :cMm A acc m=(mB m++m.bd.regs.map (.int .u8))++(qY m.bd++jD A acc m):=by
 rw[vD]
 show mB m++((m.bd.regs.map (.int .u8)++qY m.bd)++jD A acc m)=_
 simp only[eG]
include h
def aPU{p:Nat}(hb:p+48<=bs.length):eY .byte (cQ 49 48) (cMm A acc m) bs p=cMm A acc {m with bd:={m.bd with regs:=(bs.drop p).take 48} }:=by
 rw[El,eG,Ta rM hb h.bd.lR,El,eG]
 rfl
def Rx{k:FK}{os os':AE}{b':Bd}{p:Nat}(he:os=os'.map (97+ ·))(ho:(os'.all λo=>Nat.blt o 22)=true)(h1:eY k os' (qY m.bd) bs p=qY b')(hr:m.bd.regs=b'.regs):eY k os (cMm A acc m) bs p=cMm A acc {m with bd:=b'}:=by
 have hlt:∀o∈os',o<22:=λo hx=>ah (List.all_eq_true.1 ho o hx)
 rw[El,he,aBc (X:=mB m++m.bd.regs.map Z) (n:=97) (by rw[bX,rM,eJ,h.bd.lR]) (λo hx=>by rw[bX,aD4 h.bd];have:=hlt o hx;omega),
  B6 (λo hx=>by rw[aD4 h.bd];exact hlt o hx),h1,El,hr]
 rfl
def Hn :∃a b c d,m.bd.vs=[a,b,c,d]:=by
 have h4:=h.bd.lV
 match e:m.bd.vs,h4 with
 | [a,b,c,d],_=>exact⟨a,b,c,d,rfl⟩
def aNx(p:Nat):eY .bool [97,118] (cMm A acc m) bs p=cMm A acc {m with bd:={m.bd with on:=bo bs p,slides:=bo bs (p+1)} }:=by
 obtain⟨a,b,c,d,e⟩:=Hn h
 refine Rx h bs (os':=[0,21]) U U ?_ U
 unfold qY;rw[e];kernel_rfl
def aIa(p:Nat):eY (.int 2) [98,99,116,117] (cMm A acc m) bs p=cMm A acc {m with bd:={m.bd with div:=vt bs p 2,step:=vt bs (p+2) 2,pitch:=vt bs (p+4) 2,slide:=vt bs (p+6) 2} }:=by
 obtain⟨a,b,c,d,e⟩:=Hn h
 refine Rx h bs (os':=[1,2,19,20]) U U ?_ U
 unfold qY;rw[e];kernel_rfl
def Vm(v:Vc)(x:Bool):Vc:={v with on:=x}
def aAE(v:Vc)(x y z:Int):Vc:={v with len:=x,lev:=y,wait:=z}
def aQC{i:Nat}(hi:i<4)(p:Nat):eY .bool [100+4*i] (cMm A acc m) bs p=cMm A acc {m with bd:=m.bd.setV i (Vm (m.bd.v i) (bo bs p))}:=by
 obtain⟨a,b,c,d,e⟩:=Hn h
 refine Rx h bs (os':=[3+4*i]) (by simp only[cq,dh];congr 1;omega) aDw ?_ U
 unfold qY Bd.setV Bd.v;rw[e]
 rcases(show i=0\/i=1\/i=2\/i=3 by omega)with rfl|rfl|rfl|rfl<;>kernel_rfl
def aN0{i:Nat}(hi:i<4)(p:Nat):eY (.int 2) [101+4*i,102+4*i,103+4*i] (cMm A acc m) bs p=cMm A acc {m with bd:=m.bd.setV i (aAE (m.bd.v i) (vt bs p 2) (vt bs (p+2) 2) (vt bs (p+4) 2))}:=by
 obtain⟨a,b,c,d,e⟩:=Hn h
 refine Rx h bs (os':=[4+4*i,5+4*i,6+4*i]) (by simp only[cq,dh];congr 1;omega;congr 1;omega;congr 1;omega) aDw ?_ U
 unfold qY Bd.setV Bd.v;rw[e]
 rcases(show i=0\/i=1\/i=2\/i=3 by omega)with rfl|rfl|rfl|rfl<;>kernel_rfl
def aKe{p:Nat}(hb:p+8192<=bs.length):eY .byte (cQ 135 8192) (cMm A acc m) bs p=cMm A acc {m with work:=(bs.drop p).take 8192}:=by
 have e:∀m':Mm,cMm A acc m'=(mB m'++(cBd m'.bd++uL A m'))++(m'.work.map (.int .u8)++(m'.high.map (.int .u8)++[acc])):=λm'=>by
  rw[vD];unfold jD;simp only[eG]
 rw[e,Ta (by rw[bX,rM,bX,cBd_len h.bd,midM_len]) hb h.work,e]
 rfl
def aIv{p:Nat}(hb:p+127<=bs.length):eY .byte (cQ 8327 127) (cMm A acc m) bs p=cMm A acc {m with high:=(bs.drop p).take 127}:=by
 have e:∀m':Mm,cMm A acc m'=(mB m'++(cBd m'.bd++(uL A m'++m'.work.map (.int .u8))))++(m'.high.map (.int .u8)++[acc]):=λm'=>by
  rw[vD];unfold jD;simp only[eG]
 rw[e,Ta (by rw[bX,rM,bX,cBd_len h.bd,bX,midM_len,eJ,h.work]) hb h.high,e]
 rfl
end
section
variable {A:Ad}{acc:AH}{m:Mm}(bs:AB)
def aQq(h:dV m):Dq true (cMm A acc m,bs)=(cMm A acc (dC (dS (dI {dB (dW (Ez {dA m bs 0 with flags:=vt bs 8 1,lets:=vt bs 9 1} bs 10) bs 14) bs 20 with steps:=vt bs 29 8,cycles:=vt bs 37 8} bs 45) bs 59) bs 63),bs.drop 72):=by
 have h1:dV (dB (dW (Ez {dA m bs 0 with flags:=vt bs 8 1,lets:=vt bs 9 1} bs 10) bs 14) bs 20):=⟨h.bd,h.work,h.high⟩
 have h2:dV {dB (dW (Ez {dA m bs 0 with flags:=vt bs 8 1,lets:=vt bs 9 1} bs 10) bs 14) bs 20 with steps:=vt bs 29 8}:=⟨h.bd,h.work,h.high⟩
 unfold Dq
 have e0:(cMm A acc m,bs)=(cMm A acc m,bs.drop 0):=rfl
 rw[e0,qQ bs (q:=14) rfl,aNM h,qQ bs (q:=20) rfl,aJG,qQ bs (q:=29) rfl,aHu,aCU bs (q:=37) rfl,aKt h1,aCU bs (q:=45) rfl,aPM h2,qQ bs (q:=59) rfl,aMl,
  qQ bs (q:=63) rfl,aON,qQ bs (q:=72) rfl,aQ4]
def aCY(h:dV m)(p:Nat):∀i,i<=4->∃b':Bd,rF true (cMm A acc m,bs.drop p) i=(cMm A acc {m with bd:=b'},bs.drop (p+7*i))/\b'.Ln/\b'.regs=m.bd.regs/\b'.on=m.bd.on/\b'.div=m.bd.div/\b'.step=m.bd.step/\b'.pitch=m.bd.pitch/\b'.slide=m.bd.slide/\b'.slides=m.bd.slides/\b'.vs=(xN bs p).take i++m.bd.vs.drop i
 |0,_=>⟨m.bd,rfl,h.bd,rfl,rfl,rfl,rfl,rfl,rfl,rfl,rfl⟩
 |i+1,hi=>by
  obtain⟨b',e,hl,g1,g2,g3,g4,g5,g6,g7,g8⟩:=aCY h p i I
  have hi4:i<4:=by omega
  have h1:dV {m with bd:=b'}:=⟨hl,h.work,h.high⟩
  have h2:dV {m with bd:=b'.setV i (Vm (b'.v i) (bo bs (p+7*i)))}:=⟨⟨hl.lR,hl.bR,by show(b'.vs.set i _).length=4;rw[c7];exact hl.lV⟩,h.work,h.high⟩
  refine⟨(b'.setV i (Vm (b'.v i) (bo bs (p+7*i)))).setV i (aAE ((b'.setV i (Vm (b'.v i) (bo bs (p+7*i)))).v i) (vt bs (p+7*i+1) 2) (vt bs (p+7*i+3) 2) (vt bs (p+7*i+5) 2)),?_,⟨hl.lR,hl.bR,by show((b'.vs.set i _).set i _).length=4;rw[c7,c7];exact hl.lV⟩,g1,g2,g3,g4,g5,g6,g7,?_⟩
  ·show bH true (.int 2) _ (bH true .bool _ (rF true (cMm A acc m,bs.drop p) i))=_
   rw[e,qQ bs (q:=p+7*i+1) rfl,aQC h1 bs hi4,qQ bs (q:=p+7*(i+1)) (by show _=p+7*i+1+6;omega),aN0 h2 bs hi4]
  ·rw[v_set hl hi4,setV_setV]
   show b'.vs.set i _=_
   rw[g8]
   have hv:=h.bd.lV
   have ht:((xN bs p).take i).length=i:=by rw[fT];show min i 4=i;omega
   rw[List.set_append_right _ _ I,ht,j4,fv I,al,f0]
   have key:(xN bs p)[i]? =some ⟨bo bs (p+7*i),vt bs (p+7*i+1) 2,vt bs (p+7*i+3) 2,vt bs (p+7*i+5) 2⟩:=by
    rcases(show i=0\/i=1\/i=2\/i=3 by omega)with rfl|rfl|rfl|rfl<;>rfl
   rw[key,eG]
   rfl
def aQd(hby:bF bs)(h:dV m){p:Nat}(hb:p+86<=bs.length):uU true (cMm A acc m,bs.drop p)=(cMm A acc {m with bd:=⟨(bs.drop p).take 48,bo bs (p+48),vt bs (p+50) 2,vt bs (p+52) 2,xN bs (p+58),vt bs (p+54) 2,vt bs (p+56) 2,bo bs (p+49)⟩},bs.drop (p+86)):=by
 have h1:dV {m with bd:={m.bd with regs:=(bs.drop p).take 48} }:=⟨⟨by show((bs.drop p).take 48).length=48;rw[fT,dM];omega,Fv (vY hby p) 48,h.bd.lV⟩,h.work,h.high⟩
 have h2:dV {m with bd:={m.bd with regs:=(bs.drop p).take 48,on:=bo bs (p+48),slides:=bo bs (p+48+1)} }:=⟨⟨h1.bd.lR,h1.bd.bR,h.bd.lV⟩,h.work,h.high⟩
 have h3:dV {m with bd:={m.bd with regs:=(bs.drop p).take 48,on:=bo bs (p+48),slides:=bo bs (p+48+1),div:=vt bs (p+50) 2,step:=vt bs (p+50+2) 2,pitch:=vt bs (p+50+4) 2,slide:=vt bs (p+50+6) 2} }:=⟨⟨h1.bd.lR,h1.bd.bR,h.bd.lV⟩,h.work,h.high⟩
 unfold uU
 rw[qQ bs (q:=p+48) rfl,aPU h bs I,qQ bs (q:=p+50) rfl,aNx h1,qQ bs (q:=p+58) rfl,aIa h2]
 obtain⟨b',e,hl,g1,g2,g3,g4,g5,g6,g7,g8⟩:=aCY (A:=A) (acc:=acc) bs h3 (p+58) 4 (be _)
 rw[e]
 have e4:(xN bs (p+58)).take 4++m.bd.vs.drop 4=xN bs (p+58):=by rw[d5 (by rw[h.bd.lV];exact be _),cn];rfl
 obtain⟨r,o,d,s,v,pi,sl,ss⟩:=b'
 dsimp only at g1 g2 g3 g4 g5 g6 g7 g8
 rw[e4]at g8
 subst g1 g2 g3 g4 g5 g6 g7 g8
 rfl
def aBD(hby:bF bs)(h:dV m)(hb:8482<=bs.length):vK true (cMm A acc m,bs)=(cMm A acc (Bg m bs),bs.drop 8482):=by
 obtain⟨m8,e8⟩:∃m8,m8=dC (dS (dI {dB (dW (Ez {dA m bs 0 with flags:=vt bs 8 1,lets:=vt bs 9 1} bs 10) bs 14) bs 20 with steps:=vt bs 29 8,cycles:=vt bs 37 8} bs 45) bs 59) bs 63:=⟨_,rfl⟩
 have h8:dV m8:=e8▸⟨h.bd,h.work,h.high⟩
 have h9:dV (dH m8 bs 72):=⟨h8.bd,h8.work,h8.high⟩
 have hB:dV {dH m8 bs 72 with bd:=Fk bs}:=⟨⟨by show((bs.drop 77).take 48).length=48;rw[fT,dM];omega,Fv (vY hby 77) 48,rfl⟩,h8.work,h8.high⟩
 have hC:dV {dH m8 bs 72 with bd:=Fk bs,work:=(bs.drop 163).take 8192}:=⟨hB.bd,by show((bs.drop 163).take 8192).length=8192;rw[fT,dM];omega,h8.high⟩
 unfold vK
 rw[aQq bs h,<-e8,qQ bs (q:=77) rfl,aG1,aQd bs hby h9 (p:=77) I]
 show bH true .byte (cQ 8327 127) (bH true .byte (cQ 135 8192) (cMm A acc {dH m8 bs 72 with bd:=Fk bs},bs.drop 163))=_
 rw[qQ bs (q:=8355) (by rw[Jf];rfl),aKe hB bs I,qQ bs (q:=8482) (by rw[Jf];rfl),aIv hC bs I,e8]
 rfl
end
end Go.Proofs.YtacejanlmhbddaaGreat

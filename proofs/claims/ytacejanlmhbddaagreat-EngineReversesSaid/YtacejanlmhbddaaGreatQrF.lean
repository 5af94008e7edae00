/- Parts. -/
import Derived.Test.YtacejanlmhbddaaGreatQrE
set_option maxRecDepth 100000
set_option maxHeartbeats 1000000
set_option linter.all false
namespace Go.Proofs.YtacejanlmhbddaaGreat
open Go Go.VV Go.Proofs Go.RowKit Go.Proofs.Tryz
def iA(k:FK)(os:AE)(L:AA):AB:=os.flatMap λo=>dT k.many (FK.at L o)
def Ik{k:FK}{L:AA}:∀{os:AE} {bs:AB},bH false k os (L,bs)=(L,bs++iA k os L)
 | [],bs=>by simp[bH,iA]
 |o::os,bs=>by
  show bH false k os (L,bs++dT k.many (FK.at L o))=_
  rw[Ik]
  simp[iA]
def vF(L:AA):Nat->AB
 |0=>[]
 |i+1=>vF L i++(iA .bool [100+4*i] L++iA (.int 2) [101+4*i,102+4*i,103+4*i] L)
def aAe{L:AA}{bs:AB}:∀i,rF false (L,bs) i=(L,bs++vF L i)
 |0=>by simp[rF,vF]
 |i+1=>by
  show bH false (.int 2) _ (bH false .bool _ (rF false (L,bs) i))=_
  rw[aAe i,Ik,Ik]
  simp[vF]
def Tz(L:AA):AB:=iA .byte (cQ 49 48) L++(iA .bool [97,118] L++(iA (.int 2) [98,99,116,117] L++vF L 4))
def Rv(L:AA):AB:=iA .byte gA L++(iA .word gW L++(iA .bool gB L++(dT 8 (FK.at L 121)++(dT 8 (FK.at L 122)++(iA (.int 2) gI L++(iA (.int 4) [26] L++iA .byte gC L))))))
def Vb(L:AA):AB:=Rv L++(iA .byte (cQ 29 5) L++(Tz L++(iA .byte (cQ 135 8192) L++iA .byte (cQ 8327 127) L)))
def aOd{k:FK}{os:AE}(s:Ps):bH false k os s=(s.1,s.2++iA k os s.1):=Ik
def aG8{k:FK}{o:Nat}(s:Ps):pass1 false k s o=(s.1,s.2++dT k.many (FK.at s.1 o)):=rfl
def aMc{i:Nat}(s:Ps):rF false s i=(s.1,s.2++vF s.1 i):=aAe i
def aAM{α β:Type}{f g:α->List β}:∀{l:List α},(∀i∈l,f i=g i)->l.flatMap f=l.flatMap g
 | [],_=>rfl
 |a::l,h=>by rw[ga,ga,h a (.head _),aAM λi hi=>h i (.tail _ hi)]
def aBl{α β:Type}(f:α->β):∀l:List α,(l.flatMap λi=>[f i])=l.map f
 | []=>rfl
 |a::l=>by rw[ga,aBl f l];rfl
def aCW{L:AA}{bs:AB}:vK false (L,bs)=(L,bs++Vb L):=by
 unfold vK uU Dq Vb Rv Tz
 simp only[aOd,aG8,aMc,eG,FK.many]
def mK{L:AA}{o:Nat}{k:AM}{x:Int}(h:L[o]? =some (.int k x)):FK.at L o=x:=by unfold FK.at;rw[h]
def Er{L:AA}{o:Nat}{b:Bool}(h:L[o]? =some (.bool b)):FK.at L o=gX b:=by unfold FK.at;rw[h];rfl
def aPs{x:Int}(h:0<=x/\x<256):dT 1 x=[x]:=by
 show [x/256^0%256]=[x]
 rw[show x/256^0%256=x by show x/1%256=x;omega]
def Of{X Y:AA}{l:AB}{a n:Nat}(hX:X.length=a)(hl:l.length=n)(hb:bF l):iA .byte (cQ a n) (X++(l.map (.int .u8)++Y))=l:=by
 have e1:iA .byte (cQ a n) (X++(l.map (.int .u8)++Y))=(List.range n).flatMap λi=>[l.getD i 0]:=by
  unfold iA cQ
  rw[List.flatMap_map]
  have:∀i∈List.range n,dT FK.byte.many (FK.at (X++(l.map (.int .u8)++Y)) (a+i))=[l.getD i 0]:=λi hi=>by
   rw[mK (k:= .u8) (iN (n:=i) (by rw[hX]) (kM (gD (by rw[hl];exact List.mem_range.1 hi))))]
   exact aPs (hb.get i)
  exact aAM this
 rw[e1]
 subst hl
 refine List.ext_getElem? λi=>?_
 rw[aBl,de]
 by_cases hi:i<l.length
 ·rw[ij hi,ap hi]
  simp[gU,ap hi]
 ·rw[d7 (by simpa using hi),d7 I];rfl
def Lo(v:Vc):AB:=dT 1 (gX v.on)++(dT 2 v.len++(dT 2 v.lev++dT 2 v.wait))
def vT(b:Bd):AB:=b.regs++((dT 1 (gX b.on)++dT 1 (gX b.slides))++((dT 2 b.div++(dT 2 b.step++(dT 2 b.pitch++dT 2 b.slide)))++b.vs.flatMap Lo))
def eH(m:Mm)(t:AB):AB:=
 aZ m.cpu.r.a 0::aZ m.cpu.r.f 0::aZ m.cpu.r.b 0::aZ m.cpu.r.c 0::aZ m.cpu.r.d 0::aZ m.cpu.r.e 0::aZ m.cpu.r.h 0::aZ m.cpu.r.l 0::aZ m.flags 0::aZ m.lets 0::aZ m.bk.last 0::aZ m.pd.sel 0::aZ m.pd.down 0::aZ m.cp.page 0::
 aZ m.cpu.r.sp 0::aZ m.cpu.r.sp 1::aZ m.cpu.r.pc 0::aZ m.cpu.r.pc 1::aZ m.tm.cnt 0::aZ m.tm.cnt 1::
 aZ (gX m.cpu.ime) 0::aZ (gX m.cpu.soon) 0::aZ (gX m.cpu.halt) 0::aZ (gX m.cpu.stop) 0::aZ (gX m.bk.on) 0::aZ (gX m.bk.mode) 0::aZ (gX m.tm.over) 0::aZ (gX m.ck.halt) 0::aZ (gX m.ck.carry) 0::
 (dT 8 m.steps++(dT 8 m.cycles++
 (aZ m.bk.low 0::aZ m.bk.low 1::aZ m.bk.high 0::aZ m.bk.high 1::aZ m.ck.day 0::aZ m.ck.day 1::aZ m.pt.bits 0::aZ m.pt.bits 1::aZ m.pt.count 0::aZ m.pt.count 1::aZ m.pt.sent 0::aZ m.pt.sent 1::aZ m.cp.left 0::aZ m.cp.left 1::
 aZ m.ck.sub 0::aZ m.ck.sub 1::aZ m.ck.sub 2::aZ m.ck.sub 3::
 aZ m.ck.s 0::aZ m.ck.m 0::aZ m.ck.h 0::aZ m.tm.tima 0::aZ m.tm.tma 0::aZ m.tm.tac 0::aZ m.pt.data 0::aZ m.pt.control 0::aZ m.pt.last 0::
 aZ m.ck.h0 0::aZ m.ck.h1 0::aZ m.ck.h2 0::aZ m.ck.h3 0::aZ m.ck.h4 0::t)))
def oS(m:Mm):AB:=eH m (vT m.bd++(m.work++m.high))
section
variable {A:Ad}{acc:AH}{m:Mm}
def aNe :iA .word gW (cMm A acc m)=[aZ m.cpu.r.sp 0,aZ m.cpu.r.sp 1,aZ m.cpu.r.pc 0,aZ m.cpu.r.pc 1,aZ m.tm.cnt 0,aZ m.tm.cnt 1]:=by kernel_rfl
def aHO :iA .bool gB (cMm A acc m)=[aZ (gX m.cpu.ime) 0,aZ (gX m.cpu.soon) 0,aZ (gX m.cpu.halt) 0,aZ (gX m.cpu.stop) 0,aZ (gX m.bk.on) 0,aZ (gX m.bk.mode) 0,aZ (gX m.tm.over) 0,aZ (gX m.ck.halt) 0,aZ (gX m.ck.carry) 0]:=by kernel_rfl
def aJ7 :iA (.int 2) gI (cMm A acc m)=[aZ m.bk.low 0,aZ m.bk.low 1,aZ m.bk.high 0,aZ m.bk.high 1,aZ m.ck.day 0,aZ m.ck.day 1,aZ m.pt.bits 0,aZ m.pt.bits 1,aZ m.pt.count 0,aZ m.pt.count 1,aZ m.pt.sent 0,aZ m.pt.sent 1,aZ m.cp.left 0,aZ m.cp.left 1]:=by kernel_rfl
def aOn :iA (.int 4) [26] (cMm A acc m)=[aZ m.ck.sub 0,aZ m.ck.sub 1,aZ m.ck.sub 2,aZ m.ck.sub 3]:=by kernel_rfl
def aJ4 :iA .byte gC (cMm A acc m)=[aZ m.ck.s 0,aZ m.ck.m 0,aZ m.ck.h 0,aZ m.tm.tima 0,aZ m.tm.tma 0,aZ m.tm.tac 0,aZ m.pt.data 0,aZ m.pt.control 0,aZ m.pt.last 0]:=by kernel_rfl
def aOU :iA .byte (cQ 29 5) (cMm A acc m)=[aZ m.ck.h0 0,aZ m.ck.h1 0,aZ m.ck.h2 0,aZ m.ck.h3 0,aZ m.ck.h4 0]:=by kernel_rfl
def aF6(h:dV m):iA .byte gA (cMm A acc m)=[aZ m.cpu.r.a 0,aZ m.cpu.r.f 0,aZ m.cpu.r.b 0,aZ m.cpu.r.c 0,aZ m.cpu.r.d 0,aZ m.cpu.r.e 0,aZ m.cpu.r.h 0,aZ m.cpu.r.l 0,aZ m.flags 0,aZ m.lets 0,aZ m.bk.last 0,aZ m.pd.sel 0,aZ m.pd.down 0,aZ m.cp.page 0]:=by
 have e1:FK.at (cMm A acc m) 119=m.flags:=mK (get_mid h (j:=0) rfl)
 have e2:FK.at (cMm A acc m) 120=m.lets:=mK (get_mid h (j:=1) rfl)
 have key:iA .byte gA (cMm A acc m)=[aZ m.cpu.r.a 0,aZ m.cpu.r.f 0,aZ m.cpu.r.b 0,aZ m.cpu.r.c 0,aZ m.cpu.r.d 0,aZ m.cpu.r.e 0,aZ m.cpu.r.h 0,aZ m.cpu.r.l 0,aZ (FK.at (cMm A acc m) 119) 0,aZ (FK.at (cMm A acc m) 120) 0,aZ m.bk.last 0,aZ m.pd.sel 0,aZ m.pd.down 0,aZ m.cp.page 0]:=by kernel_rfl
 rw[key,e1,e2]
def aQl(h:dV m):FK.at (cMm A acc m) 121=m.steps:=mK (get_mid h (j:=2) rfl)
def aHS(h:dV m):FK.at (cMm A acc m) 122=m.cycles:=mK (get_mid h (j:=3) rfl)
def aHt(h:dV m)(t:AB):Rv (cMm A acc m)++(iA .byte (cQ 29 5) (cMm A acc m)++t)=eH m t:=by
 unfold Rv
 rw[aF6 h,aNe,aHO,aQl h,aHS h,aJ7,aOn,aJ4,aOU]
 unfold eH
 simp only[eG,cw,cg]
def aAY(h:dV m){j:Nat}{v:AH}(hv:(qY m.bd)[j]? =some v):(cMm A acc m)[97+j]? =some v:=by
 rw[El]
 exact iN (n:=j) (by rw[bX,rM,eJ,h.bd.lR]) (kM hv)
def aNi(h:dV m):Tz (cMm A acc m)=vT m.bd:=by
 obtain⟨a,b,c,d,e⟩:=Hn h
 have e1:iA .byte (cQ 49 48) (cMm A acc m)=m.bd.regs:=by rw[El,eG];exact Of rM h.bd.lR h.bd.bR
 have hE:qY m.bd=[.bool m.bd.on,.int .i64 m.bd.div,.int .i64 m.bd.step]++((dD a++(dD b++(dD c++(dD d++[]))))++[.int .i64 m.bd.pitch,.int .i64 m.bd.slide,.bool m.bd.slides]):=by unfold qY;rw[e];rfl
 have g:∀j v,([.bool m.bd.on,.int .i64 m.bd.div,.int .i64 m.bd.step]++((dD a++(dD b++(dD c++(dD d++[]))))++[.int .i64 m.bd.pitch,.int .i64 m.bd.slide,.bool m.bd.slides]):AA)[j]? =some v->(cMm A acc m)[97+j]? =some v:=λj v hv=>aAY h (by rw[hE];exact hv)
 have a0:=Er (g 0 _ rfl);have a1:=mK (g 1 _ rfl);have a2:=mK (g 2 _ rfl)
 have a3:=Er (g 3 _ rfl);have a4:=mK (g 4 _ rfl);have a5:=mK (g 5 _ rfl);have a6:=mK (g 6 _ rfl)
 have a7:=Er (g 7 _ rfl);have a8:=mK (g 8 _ rfl);have a9:=mK (g 9 _ rfl);have a10:=mK (g 10 _ rfl)
 have a11:=Er (g 11 _ rfl);have a12:=mK (g 12 _ rfl);have a13:=mK (g 13 _ rfl);have a14:=mK (g 14 _ rfl)
 have a15:=Er (g 15 _ rfl);have a16:=mK (g 16 _ rfl);have a17:=mK (g 17 _ rfl);have a18:=mK (g 18 _ rfl)
 have a19:=mK (g 19 _ rfl);have a20:=mK (g 20 _ rfl);have a21:=Er (g 21 _ rfl)
 unfold Tz vT vF vF vF vF vF
 rw[e1,e]
 simp only[iA,ga,List.flatMap_nil,cn,cg,FK.many,Nat.mul_zero,gt,Nat.reduceMul,Nat.reduceAdd]at a0 a1 a2 a3 a4 a5 a6 a7 a8 a9 a10 a11 a12 a13 a14 a15 a16 a17 a18 a19 a20 a21⊢
 rw[a0,a1,a2,a3,a4,a5,a6,a7,a8,a9,a10,a11,a12,a13,a14,a15,a16,a17,a18,a19,a20,a21]
 simp only[Lo,eG]
def aJ6(h:m.Wf):Vb (cMm A acc m)=oS m:=by
 unfold Vb oS
 have e1:iA .byte (cQ 135 8192) (cMm A acc m)=m.work:=by
  have e:cMm A acc m=(mB m++(cBd m.bd++uL A m))++(m.work.map (.int .u8)++(m.high.map (.int .u8)++[acc])):=by rw[vD];unfold jD;simp only[eG]
  rw[e];exact Of (by rw[bX,rM,bX,cBd_len h.ln.bd,midM_len]) h.lWork h.bWork
 have e2:iA .byte (cQ 8327 127) (cMm A acc m)=m.high:=by
  have e:cMm A acc m=(mB m++(cBd m.bd++(uL A m++m.work.map (.int .u8))))++(m.high.map (.int .u8)++[acc]):=by rw[vD];unfold jD;simp only[eG]
  rw[e];exact Of (by rw[bX,rM,bX,cBd_len h.ln.bd,bX,midM_len,eJ,h.lWork]) h.lHigh h.bHigh
 rw[aNi h.ln,e1,e2]
 exact aHt h.ln _
end
def sO{bs:AB}(h:bF bs)(p n:Nat):0<=vt bs p n/\vt bs p n<256^n:=val_ok (vY h p) n
def aIY{A B:AB}{j:Nat}(h:j<A.length):(A++B).getD j 0=A.getD j 0:=by
 rw[gU,di h,<-gU]
def Zy{bs:AB}{p n:Nat}{x:Int}{t:AB}(h:bs.drop p=dT n x++t):vt bs p n=x%256^n:=by
 unfold vt
 rw[h,aEM n (m:=dT n x) λj hj=>aIY (by rw[Ff];exact hj)]
 exact W3 x n n (be _)
section
variable {m:Mm}{t:AB}
def Li(p k:Nat)(x:Int)(h:(eH m t).drop p=dT k x++(eH m t).drop (p+k)):vt (eH m t) p k=x%256^k:=Zy h
def jG{p:Nat}{x:Int}(hx:0<=x/\x<256)(h:(eH m t).drop p=dT 1 x++(eH m t).drop (p+1)):vt (eH m t) p 1=x:=by rw[Li p 1 x h];show x%256=x;omega
def wX{p:Nat}{x:Int}(hx:0<=x/\x<65536)(h:(eH m t).drop p=dT 2 x++(eH m t).drop (p+2)):vt (eH m t) p 2=x:=by rw[Li p 2 x h];show x%65536=x;omega
def aEI{x:Int}{b:Bool}(h:x=gX b):(x==1)=b:=by subst h;cases b<;>rfl
def yI{p:Nat}{b:Bool}(h:(eH m t).drop p=dT 1 (gX b)++(eH m t).drop (p+1)):bo (eH m t) p=b:=aEI (jG (by cases b<;>decide) h)
def aLh(h:m.Wf)(hr:m.cpu.r.Ok)(hd:0<=m.ck.day/\m.ck.day<65536)(n:Mm):M4 n (eH m t)={n with cpu:=m.cpu,bk:={n.bk with last:=m.bk.last,on:=m.bk.on,mode:=m.bk.mode,low:=m.bk.low,high:=m.bk.high},ck:=m.ck,tm:=m.tm,pd:=m.pd,pt:=m.pt,cp:=m.cp,flags:=m.flags,lets:=m.lets,steps:=m.steps,cycles:=m.cycles}:=by
 have hb:=h.ck.byH
 have k:∀x∈m.ck.held,0<=x/\x<256:=hb
 have g0:=k m.ck.h0 wH;have g1:=k m.ck.h1 wH;have g2:=k m.ck.h2 wH;have g3:=k m.ck.h3 wH;have g4:=k m.ck.h4 wH
 have s8:vt (eH m t) 29 8=m.steps:=by rw[Li 29 8 m.steps aN];have:=h.steps;show m.steps%18446744073709551616=_;omega
 have s9:vt (eH m t) 37 8=m.cycles:=by rw[Li 37 8 m.cycles aN];have:=h.cycles;show m.cycles%18446744073709551616=_;omega
 have s4:vt (eH m t) 59 4=m.ck.sub:=by rw[Li 59 4 m.ck.sub aN];have:=h.ck.sub;show m.ck.sub%4294967296=_;omega
 unfold M4
 rw[jG (p:=0) hr.a aN,jG (p:=1) hr.f aN,jG (p:=2) hr.b aN,jG (p:=3) hr.c aN,jG (p:=4) hr.d aN,jG (p:=5) hr.e aN,jG (p:=6) hr.h aN,jG (p:=7) hr.l aN,
  wX (p:=14) hr.sp aN,wX (p:=16) hr.pc aN,yI (p:=20) (b:=m.cpu.ime) aN,yI (p:=21) (b:=m.cpu.soon) aN,yI (p:=22) (b:=m.cpu.halt) aN,yI (p:=23) (b:=m.cpu.stop) aN,
  jG (p:=10) h.bk.last aN,yI (p:=24) (b:=m.bk.on) aN,yI (p:=25) (b:=m.bk.mode) aN,wX (p:=45) h.bk.low aN,wX (p:=47) h.bk.high aN,
  jG (p:=63) h.ck.s aN,jG (p:=64) h.ck.m aN,jG (p:=65) h.ck.h aN,wX (p:=49) hd aN,s4,yI (p:=27) (b:=m.ck.halt) aN,yI (p:=28) (b:=m.ck.carry) aN,
  jG (p:=72) g0 aN,jG (p:=73) g1 aN,jG (p:=74) g2 aN,jG (p:=75) g3 aN,jG (p:=76) g4 aN,
  wX (p:=18) h.tm.cnt aN,jG (p:=66) h.tm.tima aN,jG (p:=67) h.tm.tma aN,jG (p:=68) h.tm.tac aN,yI (p:=26) (b:=m.tm.over) aN,
  jG (p:=11) h.pd.sel aN,jG (p:=12) h.pd.down aN,jG (p:=69) h.pt.data aN,jG (p:=70) h.pt.control aN,jG (p:=71) h.pt.last aN,wX (p:=51) h.pt.bits aN,wX (p:=53) h.pt.count aN,wX (p:=55) h.pt.sent aN,
  jG (p:=13) h.cp.page aN,wX (p:=57) h.cp.left aN,jG (p:=8) h.flags aN,jG (p:=9) h.lets aN,s8,s9]
def Ng :(eH m t).drop 77=t:=by kernel_rfl
def aKQ(j k:Nat):vt (eH m t) (77+j) k=vt t j k:=by unfold vt;rw[<-bi,Ng]
end
section
variable {b:Bd}(h:b.Wf)(t:AB)
def aDz(h:b.Ln):(vT b).length=86:=by
 have h4:=h.lV
 unfold vT
 have:∀l:List Vc,(l.flatMap Lo).length=7*l.length:=λl=>by
  induction l with
  |nil=>rfl
  |cons v l ih=>rw[ga,bX,ih,eZ];show 7+_=_;omega
 simp only[bX,this,Ff,h4,h.lR]
include h
def aI5{m:Mm}(X:AB)(e:m.bd=b):Fk (eH m (vT b++X))=b:=by
 obtain⟨R,on,div,step,vs,pitch,slide,slides⟩:=b
 have hR:R.length=48:=h.lR
 have h4:vs.length=4:=h.lV
 obtain⟨v0,v1,v2,v3,rfl⟩:∃a b c d,vs=[a,b,c,d]:=by
  match vs,h4 with
  | [a,b,c,d],_=>exact⟨a,b,c,d,rfl⟩
 have o0:=h.oV v0 aP;have o1:=h.oV v1 aP;have o2:=h.oV v2 aP;have o3:=h.oV v3 aP
 obtain⟨E,hE⟩:∃E,E=((dT 1 (gX on)++dT 1 (gX slides))++((dT 2 div++(dT 2 step++(dT 2 pitch++dT 2 slide)))++([v0,v1,v2,v3].flatMap Lo)))++X:=⟨_,rfl⟩
 have e1:vT ⟨R,on,div,step,[v0,v1,v2,v3],pitch,slide,slides⟩++X=R++E:=by rw[hE];unfold vT;simp only[eG]
 rw[e1]
 have d48:∀j k,vt (eH m (R++E)) (125+j) k=vt E j k:=λj k=>by
  rw[show 125+j=77+(48+j)by omega,aKQ];unfold vt;rw[<-bi,eg hR]
 have b48:∀j,bo (eH m (R++E)) (125+j)=bo E j:=λj=>by unfold bo;rw[d48]
 have w:∀{j:Nat} {x:Int} (T:AB),(0<=x/\x<65536)->E.drop j=dT 2 x++T->vt E j 2=x:=λT hx he=>by rw[Zy he];show _%65536=_;omega
 have z:∀{j:Nat} {x:Bool} (T:AB),E.drop j=dT 1 (gX x)++T->bo E j=x:=λ{j} {x} T he=>aEI (by rw[Zy he];cases x<;>rfl)
 unfold Fk xN
 have r:((eH m (R++E)).drop 77).take 48=R:=by rw[Ng,fo hR]
 rw[r]
 have f:=λj k=>d48 j k
 rw[show bo (eH m (R++E)) 125=on from(b48 0).trans (z (E.drop 1) lX),show bo (eH m (R++E)) 126=slides from(b48 1).trans (z (E.drop 2) lX),
  show vt (eH m (R++E)) 127 2=div from(d48 2 2).trans (w (E.drop 4) h.div lX),show vt (eH m (R++E)) 129 2=step from(d48 4 2).trans (w (E.drop 6) h.step lX),
  show vt (eH m (R++E)) 131 2=pitch from(d48 6 2).trans (w (E.drop 8) h.pitch lX),show vt (eH m (R++E)) 133 2=slide from(d48 8 2).trans (w (E.drop 10) h.slide lX),
  show bo (eH m (R++E)) 135=v0.on from(b48 10).trans (z (E.drop 11) lX),show vt (eH m (R++E)) (135+1) 2=v0.len from(d48 11 2).trans (w (E.drop 13) o0.len lX),show vt (eH m (R++E)) (135+3) 2=v0.lev from(d48 13 2).trans (w (E.drop 15) o0.lev lX),show vt (eH m (R++E)) (135+5) 2=v0.wait from(d48 15 2).trans (w (E.drop 17) o0.wait lX),
  show bo (eH m (R++E)) (135+7)=v1.on from(b48 17).trans (z (E.drop 18) lX),show vt (eH m (R++E)) (135+8) 2=v1.len from(d48 18 2).trans (w (E.drop 20) o1.len lX),show vt (eH m (R++E)) (135+10) 2=v1.lev from(d48 20 2).trans (w (E.drop 22) o1.lev lX),show vt (eH m (R++E)) (135+12) 2=v1.wait from(d48 22 2).trans (w (E.drop 24) o1.wait lX),
  show bo (eH m (R++E)) (135+14)=v2.on from(b48 24).trans (z (E.drop 25) lX),show vt (eH m (R++E)) (135+15) 2=v2.len from(d48 25 2).trans (w (E.drop 27) o2.len lX),show vt (eH m (R++E)) (135+17) 2=v2.lev from(d48 27 2).trans (w (E.drop 29) o2.lev lX),show vt (eH m (R++E)) (135+19) 2=v2.wait from(d48 29 2).trans (w (E.drop 31) o2.wait lX),
  show bo (eH m (R++E)) (135+21)=v3.on from(b48 31).trans (z (E.drop 32) lX),show vt (eH m (R++E)) (135+22) 2=v3.len from(d48 32 2).trans (w (E.drop 34) o3.len lX),show vt (eH m (R++E)) (135+24) 2=v3.lev from(d48 34 2).trans (w (E.drop 36) o3.lev lX),show vt (eH m (R++E)) (135+26) 2=v3.wait from(d48 36 2).trans (w (E.drop 38) o3.wait lX)]
end
section
variable {m:Mm}(h:m.Wf)
include h
omit h in
def aPk(t:AB):(eH m t).length=77+t.length:=by unfold eH;simp only[eZ,bX,Ff];omega
def C8 :(oS m).length=8482:=by unfold oS;rw[aPk,bX,bX,aDz h.ln.bd,h.lWork,h.lHigh]
omit h in
def aI0(t X:AB):eH m t++X=eH m (t++X):=by unfold eH;simp only[cw,eG]
omit h in
def aHR :∀{x:Int} {i:Nat} {l:AB},bF l->bF (aZ x i::l):=λhl y hy=>by
 rcases List.mem_cons.1 hy with rfl|hy
 ·exact Y7 _ _
 ·exact hl y hy
omit h in
def aOP{t:AB}(ht:bF t):bF (eH m t):=by
 unfold eH
 repeat refine aHR ?_
 exact ht
def aQ6 :bF (oS m):=by
 have hV:∀l:List Vc,bF (l.flatMap Lo):=λl=>by
  induction l with
  |nil=>intro x hx;cases hx
  |cons v l ih=>rw[ga];exact qH (qH (vN _ _) (qH (vN _ _) (qH (vN _ _) (vN _ _)))) ih
 have hB:bF (vT m.bd):=qH h.bd.bR (qH (qH (vN _ _) (vN _ _)) (qH (qH (vN _ _) (qH (vN _ _) (qH (vN _ _) (vN _ _)))) (hV _)))
 exact aOP (qH hB (qH h.bWork h.bHigh))
def aIS(hr:m.cpu.r.Ok)(hd:0<=m.ck.day/\m.ck.day<65536)(n:Mm)(X:AB):Bg n (oS m++X)={n with cpu:=m.cpu,bk:={n.bk with last:=m.bk.last,on:=m.bk.on,mode:=m.bk.mode,low:=m.bk.low,high:=m.bk.high},ck:=m.ck,tm:=m.tm,pd:=m.pd,pt:=m.pt,cp:=m.cp,bd:=m.bd,flags:=m.flags,lets:=m.lets,steps:=m.steps,cycles:=m.cycles,work:=m.work,high:=m.high}:=by
 unfold Bg oS
 rw[aI0,aLh h hr hd,eG,aI5 h.bd _ rfl]
 have hl:=aDz h.ln.bd
 have e1:((eH m (vT m.bd++(m.work++m.high++X))).drop 163).take 8192=m.work:=by
  rw[show 163=77+86 by rfl,<-bi,Ng,eg hl,eG,fo h.lWork]
 have e2:((eH m (vT m.bd++(m.work++m.high++X))).drop 8355).take 127=m.high:=by
  rw[show 8355=77+(86+8192)by rfl,<-bi,Ng,<-bi,eg hl,eG,eg h.lWork,fo h.lHigh]
 rw[e1,e2]
def aBd{bs:AB}(hb:bF bs)(hl:8482<=bs.length):(Bg m bs).Wf:=by
 have v1:=λp=>sO hb p 1
 have v2:=λp=>sO hb p 2
 have v4:=λp=>sO hb p 4
 have v8:=λp=>sO hb p 8
 have w2:∀p,-9223372036854775808<=vt bs p 2/\vt bs p 2<=9223372036854775807:=λp=>by have h2:=v2 p;omega
 refine⟨⟨h.bk.kind,h.bk.banks,h.bk.ram,v2 _,v2 _,v1 _⟩,⟨⟨v1 _,v1 _,v1 _,w2 _,λx hx=>?_⟩,v4 _⟩,⟨v2 _,v1 _,v1 _,v1 _⟩,⟨v1 _,v1 _⟩,⟨v1 _,v1 _,v1 _,v2 _,v2 _,v2 _⟩,⟨v1 _,v2 _⟩,⟨?_,Fv (vY hb 77) 48,U,v2 _,v2 _,λv hv=>?_,v2 _,v2 _⟩,v1 _,v1 _,v8 _,v8 _,h.u,h.banks,h.lRom,h.bRom,h.lRam,h.bRam,?_,Fv (vY hb 163) 8192,?_,Fv (vY hb 8355) 127⟩
 ·have hx':x∈[vt bs 72 1,vt bs 73 1,vt bs 74 1,vt bs 75 1,vt bs 76 1]:=hx
  simp only[ea,ei,or_false]at hx'
  rcases hx' with rfl|rfl|rfl|rfl|rfl<;>exact v1 _
 ·show((bs.drop 77).take 48).length=48
  rw[fT,dM];omega
 ·have hv':v∈xN bs 135:=hv
  simp only[xN,ea,ei,or_false]at hv'
  rcases hv' with rfl|rfl|rfl|rfl<;>exact⟨v2 _,v2 _,v2 _⟩
 ·show((bs.drop 163).take 8192).length=8192
  rw[fT,dM];omega
 ·show((bs.drop 8355).take 127).length=127
  rw[fT,dM];omega
omit h in
def aKl{bs:AB}(hb:bF bs):(Bg m bs).cpu.r.Ok:=⟨sO hb 0 1,sO hb 1 1,sO hb 2 1,sO hb 3 1,sO hb 4 1,sO hb 5 1,sO hb 6 1,sO hb 7 1,sO hb 14 2,sO hb 16 2⟩
end
def rV{L:AA}{o:Nat}{b:Bool}(h:L[o]? =some (.bool b)):gN .bool L o:=⟨gX b,by rw[h];cases b<;>rfl,by cases b;exact .inl rfl;exact .inr rfl⟩
def lQ{x:Int}(h:0<=x/\x<65536): -9223372036854775808<=x/\x<=9223372036854775807:=by omega
def aO7{x:Int}(h:0<=x/\x<4294967296): -9223372036854775808<=x/\x<=9223372036854775807:=by omega
section
variable {A:Ad}{acc:AH}{m:Mm}(h:m.Wf)(hr:m.cpu.r.Ok)
include h hr
def aLg{o:Nat}{k:FK}(ho:o<49)(hk:eT o=some k):gN k (mB m) o:=by
 rcases(show o=0\/o=1\/o=2\/o=3\/o=4\/o=5\/o=6\/o=7\/o=8\/o=9\/o=10\/o=11\/o=12\/o=13\/o=14\/o=15\/o=16\/o=17\/o=18\/o=19\/o=20\/o=21\/o=22\/o=23\/o=24\/o=25\/o=26\/o=27\/o=28\/o=29\/o=30\/o=31\/o=32\/o=33\/o=34\/o=35\/o=36\/o=37\/o=38\/o=39\/o=40\/o=41\/o=42\/o=43\/o=44\/o=45\/o=46\/o=47\/o=48 by omega)with rfl|rfl|rfl|rfl|rfl|rfl|rfl|rfl|rfl|rfl|rfl|rfl|rfl|rfl|rfl|rfl|rfl|rfl|rfl|rfl|rfl|rfl|rfl|rfl|rfl|rfl|rfl|rfl|rfl|rfl|rfl|rfl|rfl|rfl|rfl|rfl|rfl|rfl|rfl|rfl|rfl|rfl|rfl|rfl|rfl|rfl|rfl|rfl|rfl
 ·obtain rfl:FK.byte=k:=aj hk
  exact⟨_,U,hr.a⟩
 ·obtain rfl:FK.byte=k:=aj hk
  exact⟨_,U,hr.f⟩
 ·obtain rfl:FK.byte=k:=aj hk
  exact⟨_,U,hr.b⟩
 ·obtain rfl:FK.byte=k:=aj hk
  exact⟨_,U,hr.c⟩
 ·obtain rfl:FK.byte=k:=aj hk
  exact⟨_,U,hr.d⟩
 ·obtain rfl:FK.byte=k:=aj hk
  exact⟨_,U,hr.e⟩
 ·obtain rfl:FK.byte=k:=aj hk
  exact⟨_,U,hr.h⟩
 ·obtain rfl:FK.byte=k:=aj hk
  exact⟨_,U,hr.l⟩
 ·obtain rfl:FK.word=k:=aj hk
  exact⟨_,U,hr.sp⟩
 ·obtain rfl:FK.word=k:=aj hk
  exact⟨_,U,hr.pc⟩
 ·obtain rfl:FK.bool=k:=aj hk
  exact rV U
 ·obtain rfl:FK.bool=k:=aj hk
  exact rV U
 ·obtain rfl:FK.bool=k:=aj hk
  exact rV U
 ·obtain rfl:FK.bool=k:=aj hk
  exact rV U
 ·cases(show(none:Option FK)=some k from hk)
 ·cases(show(none:Option FK)=some k from hk)
 ·cases(show(none:Option FK)=some k from hk)
 ·obtain rfl:FK.bool=k:=aj hk
  exact rV U
 ·obtain rfl:FK.bool=k:=aj hk
  exact rV U
 ·obtain rfl:FK.int 2=k:=aj hk
  exact⟨_,U,(lQ h.bk.low)⟩
 ·obtain rfl:FK.int 2=k:=aj hk
  exact⟨_,U,(lQ h.bk.high)⟩
 ·obtain rfl:FK.byte=k:=aj hk
  exact⟨_,U,h.bk.last⟩
 ·obtain rfl:FK.byte=k:=aj hk
  exact⟨_,U,h.ck.s⟩
 ·obtain rfl:FK.byte=k:=aj hk
  exact⟨_,U,h.ck.m⟩
 ·obtain rfl:FK.byte=k:=aj hk
  exact⟨_,U,h.ck.h⟩
 ·obtain rfl:FK.int 2=k:=aj hk
  exact⟨_,U,h.ck.day⟩
 ·obtain rfl:FK.int 4=k:=aj hk
  exact⟨_,U,(aO7 h.ck.sub)⟩
 ·obtain rfl:FK.bool=k:=aj hk
  exact rV U
 ·obtain rfl:FK.bool=k:=aj hk
  exact rV U
 ·obtain rfl:FK.byte=k:=aj hk
  exact⟨_,U,(h.ck.byH m.ck.h0 wH)⟩
 ·obtain rfl:FK.byte=k:=aj hk
  exact⟨_,U,(h.ck.byH m.ck.h1 wH)⟩
 ·obtain rfl:FK.byte=k:=aj hk
  exact⟨_,U,(h.ck.byH m.ck.h2 wH)⟩
 ·obtain rfl:FK.byte=k:=aj hk
  exact⟨_,U,(h.ck.byH m.ck.h3 wH)⟩
 ·obtain rfl:FK.byte=k:=aj hk
  exact⟨_,U,(h.ck.byH m.ck.h4 wH)⟩
 ·obtain rfl:FK.word=k:=aj hk
  exact⟨_,U,h.tm.cnt⟩
 ·obtain rfl:FK.byte=k:=aj hk
  exact⟨_,U,h.tm.tima⟩
 ·obtain rfl:FK.byte=k:=aj hk
  exact⟨_,U,h.tm.tma⟩
 ·obtain rfl:FK.byte=k:=aj hk
  exact⟨_,U,h.tm.tac⟩
 ·obtain rfl:FK.bool=k:=aj hk
  exact rV U
 ·obtain rfl:FK.byte=k:=aj hk
  exact⟨_,U,h.pd.sel⟩
 ·obtain rfl:FK.byte=k:=aj hk
  exact⟨_,U,h.pd.down⟩
 ·obtain rfl:FK.byte=k:=aj hk
  exact⟨_,U,h.pt.data⟩
 ·obtain rfl:FK.byte=k:=aj hk
  exact⟨_,U,h.pt.control⟩
 ·obtain rfl:FK.byte=k:=aj hk
  exact⟨_,U,h.pt.last⟩
 ·obtain rfl:FK.int 2=k:=aj hk
  exact⟨_,U,(lQ h.pt.bits)⟩
 ·obtain rfl:FK.int 2=k:=aj hk
  exact⟨_,U,(lQ h.pt.count)⟩
 ·obtain rfl:FK.int 2=k:=aj hk
  exact⟨_,U,(lQ h.pt.sent)⟩
 ·obtain rfl:FK.byte=k:=aj hk
  exact⟨_,U,h.cp.page⟩
 ·obtain rfl:FK.int 2=k:=aj hk
  exact⟨_,U,(lQ h.cp.left)⟩
omit hr in
def aJH{o:Nat}{k:FK}(h1:97<=o)(h2:o<119)(hk:eT o=some k):gN k (cMm A acc m) o:=by
 obtain⟨a,b,c,d,e⟩:=Hn h.ln
 have o0:=h.bd.oV a (by rw[e];simp);have o1:=h.bd.oV b (by rw[e];simp);have o2:=h.bd.oV c (by rw[e];simp);have o3:=h.bd.oV d (by rw[e];simp)
 have hE:qY m.bd=[.bool m.bd.on,.int .i64 m.bd.div,.int .i64 m.bd.step]++((dD a++(dD b++(dD c++(dD d++[]))))++[.int .i64 m.bd.pitch,.int .i64 m.bd.slide,.bool m.bd.slides]):=by unfold qY;rw[e];rfl
 have g:∀j v,([.bool m.bd.on,.int .i64 m.bd.div,.int .i64 m.bd.step]++((dD a++(dD b++(dD c++(dD d++[]))))++[.int .i64 m.bd.pitch,.int .i64 m.bd.slide,.bool m.bd.slides]):AA)[j]? =some v->(cMm A acc m)[97+j]? =some v:=λj v hv=>aAY h.ln (by rw[hE];exact hv)
 rcases(show o=97\/o=98\/o=99\/o=100\/o=101\/o=102\/o=103\/o=104\/o=105\/o=106\/o=107\/o=108\/o=109\/o=110\/o=111\/o=112\/o=113\/o=114\/o=115\/o=116\/o=117\/o=118 by omega)with rfl|rfl|rfl|rfl|rfl|rfl|rfl|rfl|rfl|rfl|rfl|rfl|rfl|rfl|rfl|rfl|rfl|rfl|rfl|rfl|rfl|rfl
 ·obtain rfl:FK.bool=k:=aj hk
  exact rV (g 0 _ U)
 ·obtain rfl:FK.int 2=k:=aj hk
  exact⟨_,g 1 _ U,(lQ h.bd.div)⟩
 ·obtain rfl:FK.int 2=k:=aj hk
  exact⟨_,g 2 _ U,(lQ h.bd.step)⟩
 ·obtain rfl:FK.bool=k:=aj hk
  exact rV (g 3 _ U)
 ·obtain rfl:FK.int 2=k:=aj hk
  exact⟨_,g 4 _ U,(lQ o0.len)⟩
 ·obtain rfl:FK.int 2=k:=aj hk
  exact⟨_,g 5 _ U,(lQ o0.lev)⟩
 ·obtain rfl:FK.int 2=k:=aj hk
  exact⟨_,g 6 _ U,(lQ o0.wait)⟩
 ·obtain rfl:FK.bool=k:=aj hk
  exact rV (g 7 _ U)
 ·obtain rfl:FK.int 2=k:=aj hk
  exact⟨_,g 8 _ U,(lQ o1.len)⟩
 ·obtain rfl:FK.int 2=k:=aj hk
  exact⟨_,g 9 _ U,(lQ o1.lev)⟩
 ·obtain rfl:FK.int 2=k:=aj hk
  exact⟨_,g 10 _ U,(lQ o1.wait)⟩
 ·obtain rfl:FK.bool=k:=aj hk
  exact rV (g 11 _ U)
 ·obtain rfl:FK.int 2=k:=aj hk
  exact⟨_,g 12 _ U,(lQ o2.len)⟩
 ·obtain rfl:FK.int 2=k:=aj hk
  exact⟨_,g 13 _ U,(lQ o2.lev)⟩
 ·obtain rfl:FK.int 2=k:=aj hk
  exact⟨_,g 14 _ U,(lQ o2.wait)⟩
 ·obtain rfl:FK.bool=k:=aj hk
  exact rV (g 15 _ U)
 ·obtain rfl:FK.int 2=k:=aj hk
  exact⟨_,g 16 _ U,(lQ o3.len)⟩
 ·obtain rfl:FK.int 2=k:=aj hk
  exact⟨_,g 17 _ U,(lQ o3.lev)⟩
 ·obtain rfl:FK.int 2=k:=aj hk
  exact⟨_,g 18 _ U,(lQ o3.wait)⟩
 ·obtain rfl:FK.int 2=k:=aj hk
  exact⟨_,g 19 _ U,(lQ h.bd.pitch)⟩
 ·obtain rfl:FK.int 2=k:=aj hk
  exact⟨_,g 20 _ U,(lQ h.bd.slide)⟩
 ·obtain rfl:FK.bool=k:=aj hk
  exact rV (g 21 _ U)
def aBS :wU eT (cMm A acc m):=λo k hk=>by
 by_cases h1:o<49
 ·obtain⟨x,hx,hok⟩:=aLg h hr h1 hk
  exact⟨x,aRM hx,hok⟩
 by_cases h2:o<97
 ·obtain⟨i,rfl⟩:∃i,o=49+i:=⟨o-49,aR⟩
  have hk':eT (49+i)=some .byte:=Lh _ (It I)
  rw[hk']at hk;cases hk
  refine⟨m.bd.regs.getD i 0,?_,h.bd.bR.get i⟩
  rw[El,eG]
  exact iN (n:=i) (by rw[rM]) (kM (gD (by rw[h.bd.lR];omega)))
 by_cases h3:o<119
 ·exact aJH h I h3 hk
 by_cases h4:o<135
 ·rcases(show o=119\/o=120\/o=121\/o=122\/123<=o by omega)with rfl|rfl|rfl|rfl|h5
  ·obtain rfl:FK.byte=k:=aj hk
   exact⟨_,get_mid h.ln (j:=0) U,h.flags⟩
  ·obtain rfl:FK.byte=k:=aj hk
   exact⟨_,get_mid h.ln (j:=1) U,h.lets⟩
  ·obtain rfl:FK.long 8=k:=aj hk
   exact⟨_,get_mid h.ln (j:=2) U,h.steps⟩
  ·obtain rfl:FK.long 8=k:=aj hk
   exact⟨_,get_mid h.ln (j:=3) U,h.cycles⟩
  ·have:eT o=none:=by unfold eT;repeat(first|rw[ae I]|rw[ag I])
   rw[this]at hk;cases hk
 by_cases h5:o<8327
 ·obtain⟨i,rfl⟩:∃i,o=135+i:=⟨o-135,aR⟩
  rw[Ou _ (It (show i<8192 by omega))]at hk;cases hk
  exact⟨_,aAi h.ln I,h.bWork.get i⟩
 by_cases h6:o<8454
 ·obtain⟨i,rfl⟩:∃i,o=8327+i:=⟨o-8327,aR⟩
  rw[Rq _ (It (show i<127 by omega))]at hk;cases hk
  exact⟨_,get_high h.ln I,h.bHigh.get i⟩
 ·have:eT o=none:=by unfold eT;repeat(first|rw[ae I]|rw[ag I])
  rw[this]at hk;cases hk
end
section
variable {m:Mm}(h:m.Wf)(rs:AA)
include h
def aCt :∀o∈cQ 0 m.ram.length,gN .byte (m.ram.map (.int .u8)++rs) o:=λo ho=>by
 obtain⟨i,hi,rfl⟩:=Yn ho
 rw[bj]
 exact⟨_,kM (gD hi),h.bRam.get i⟩
def aEj(bs:AB):bH false .byte (cQ 0 m.ram.length) (m.ram.map (.int .u8)++rs,bs)=(m.ram.map (.int .u8)++rs,bs++m.ram):=by
 rw[Ik]
 exact M (λz=>(_,bs++z)) (Of (X:=[]) U U h.bRam)
omit h in
def aCM{bs:AB}{p:Nat}(hb:p+m.ram.length<=bs.length):bH true .byte (cQ 0 m.ram.length) (m.ram.map (.int .u8)++rs,bs.drop p)=(((bs.drop p).take m.ram.length).map (.int .u8)++rs,bs.drop (p+m.ram.length)):=by
 rw[qQ bs (q:=p+m.ram.length) (by rw[Jf];show _=p+m.ram.length*1;omega)]
 exact M (λz=>(z,_)) (Ta (X:=[]) U hb U)
end
def fQ(m:Mm):AB:=oS m++(m.ram++fM m.u)
def Ol(m:Mm)(bs:AB):Mm:={Bg m bs with ram:=(bs.drop 8482).take m.ram.length}
def sT(m:Mm)(bs:AB):Int:=
 if bs.length≠(fQ m).length then 6 else if lU (bs.drop (8482+m.ram.length))=0/\fQ {Ol m bs with u:=uP (bs.drop (8482+m.ram.length))}=bs then 0 else 5
def uK(m:Mm)(bs:AB):Mm:=if sT m bs=0 then {Ol m bs with u:=uP (bs.drop (8482+m.ram.length)),acc:=[]} else m
section
variable {u:PU}
def aPW(u:PU):(stepU u).V=u.V/\(stepU u).O=u.O/\(stepU u).R=u.R:=by
 unfold stepU sR qF oneU
 repeat' split
 all_goals exact⟨rfl,rfl,rfl⟩
def E7(u:PU):(tickU u).V=u.V/\(tickU u).O=u.O/\(tickU u).R=u.R:=by
 unfold tickU
 split
 ·exact aPW u
 ·exact⟨U,U,U⟩
end
structure PU.Ln(u:PU):Prop where
 lV:u.V.length=8192
 lO:u.O.length=160
 lR:u.R.length=12
 lP:u.P.length=23040
def PU.Wf.ln{u:PU}(h:u.Wf):u.Ln:=⟨h.lV,h.lO,h.lR,h.lP⟩
section
variable {u:PU}
def nU_len(h:u.Ln):(cU u).length=31409:=by simp[cU,h.lV,h.lO,h.lR,h.lP]
def aAf(h:u.Ln){j:Nat}(hj:j<12):(cU u)[8352+j]? =some (.int .u8 (u.R.getD j 0)):=
 iN (n:=160+j) wJ (iN (n:=j) Em (kM (gD Kk)))
def aBQ(h:u.Ln){j:Nat}{v:AH}(hv:([.int .i64 u.line,.int .i64 u.dot,.int .i64 u.own,.int .i64 u.frames,.bool u.sig]:AA)[j]? =some v):(cU u)[8364+j]? =some v:=
 iN (n:=172+j) wJ (iN (n:=12+j) Ht (iN (n:=j) Bt (kM hv)))
def aN7(h:u.Ln){j:Nat}{r:AB}(hj:j+r.length<=8192):aV (cU u) j (r.map (.int .u8))=cU {u with V:=iR u.V j r}:=by
 unfold cU
 rw[mQ (by simp[h.lV];omega),Fw]
def aK9(h:u.Ln){j:Nat}{r:AB}(hj:j+r.length<=160):aV (cU u) (8192+j) (r.map (.int .u8))=cU {u with O:=iR u.O j r}:=by
 unfold cU
 rw[gE (n:=j) Fm Us,mQ Us,Fw]
def A8(h:u.Ln){j:Nat}{r:AB}(hj:j+r.length<=12):aV (cU u) (8352+j) (r.map (.int .u8))=cU {u with R:=iR u.R j r}:=by
 unfold cU
 rw[gE (n:=160+j) wJ Na,gE (n:=j) Em Hb,mQ Hb,Fw]
def Kb(h:u.Ln){j:Nat}{v:AH}(hj:j<5):aV (cU u) (8364+j) [v]=u.V.map (.int .u8)++(u.O.map (.int .u8)++(u.R.map (.int .u8)++(aV [.int .i64 u.line,.int .i64 u.dot,.int .i64 u.own,.int .i64 u.frames,.bool u.sig] j [v]++u.P.map (.int .u8)))):=by
 unfold cU
 rw[gE (n:=172+j) wJ Na,gE (n:=12+j) Ht Hb,gE (n:=j) Bt lH,mQ lH]
def aPK(h:u.Ln){j:Nat}{r:AB}(hj:j+r.length<=23040):aV (cU u) (8369+j) (r.map (.int .u8))=cU {u with P:=iR u.P j r}:=by
 unfold cU
 rw[gE (n:=177+j) wJ (by simp[h.lO,h.lR,h.lP];omega),gE (n:=17+j) Ht (by simp[h.lR,h.lP];omega),gE (n:=5+j) Cg Nl,gE (n:=j) aP Nl,Fw]
def aRJ(u:PU):fJ (cU u)=true:=by
 unfold cU
 simp only[fJ,f8,ax]
 exact⟨kX _ _,kX _ _,kX _ _,U,kX _ _⟩
end
section
variable {l:AB}(hl:l.length=31408)
def z1(l:AB):PU:={jV with V:=l.take 8192}
def z2(l:AB):PU:={z1 l with O:=(l.drop 8192).take 160}
def z3(l:AB):PU:={z2 l with R:=(l.drop 8352).take 6++List.replicate 6 0}
def rZ(l:AB):AB:=(l.drop 8352).take 6++0::(l.drop 8358).take 5
def z4(l:AB):PU:={z3 l with R:=rZ l}
def z5(l:AB):PU:={z4 l with line:=l.getD 8356 0,dot:=l.getD 8363 0,own:=l.getD 8364 0}
def z6(l:AB):PU:={z5 l with frames:=l.getD 8365 0+256*l.getD 8366 0,sig:=l.getD 8367 0==1}
def z7(l:AB):PU:={z6 l with R:=rS l}
def pZ(l:AB)(i:Nat):AB:=(l.drop 8368).take (i*160)++List.replicate (23040-i*160) 0
def z8(l:AB)(i:Nat):PU:={z7 l with P:=pZ l i}
def Yg :jV.Ln:=Oj.ln
include hl
def En :(z1 l).Ln:=⟨by simp[z1,hl],ct,ct,ct⟩
def Jq :(z2 l).Ln:=⟨(En hl).lV,by simp[z2,hl],(En hl).lR,(En hl).lP⟩
def Lt :(z3 l).Ln:=⟨(Jq hl).lV,(Jq hl).lO,by simp[z3,hl],(Jq hl).lP⟩
def aBz :(rZ l).length=12:=by simp[rZ,hl]
def aFY :(rS l).length=12:=by
 have:=aBz hl;unfold rZ at this;simpa[rS] using this
def iE :(z4 l).Ln:=⟨(Lt hl).lV,(Lt hl).lO,aBz hl,(Lt hl).lP⟩
def Ho :(z5 l).Ln:=⟨(iE hl).lV,(iE hl).lO,(iE hl).lR,(iE hl).lP⟩
def F7 :(z6 l).Ln:=⟨(iE hl).lV,(iE hl).lO,(iE hl).lR,(iE hl).lP⟩
def Hc :(z7 l).Ln:=⟨(iE hl).lV,(iE hl).lO,aFY hl,(iE hl).lP⟩
def aKJ{i:Nat}(hi:i<=144):(pZ l i).length=23040:=by simp[pZ,hl];omega
def z8_ln{i:Nat}(hi:i<=144):(z8 l i).Ln:=⟨(Hc hl).lV,(Hc hl).lO,(Hc hl).lR,aKJ hl hi⟩
def p_1 :aV (cU jV) 0 ((l.map (.int .u8)).take 8192)=cU (z1 l):=by
 rw[<-fq,aN7 Yg lH,aE9 (by rw[Yg.lV];simp[hl])];rfl
def p_2 :aV (cU (z1 l)) 8192 (((l.drop 8192).map (.int .u8)).take 160)=cU (z2 l):=by
 rw[<-fq]
 have:=aK9 (En hl) (j:=0) (r:=(l.drop 8192).take 160) zC
 rw[gt]at this
 rw[this,aE9 (by rw[(En hl).lO];simp[hl])];rfl
def p_3 :aV (cU (z2 l)) 8352 (((l.drop 8352).map (.int .u8)).take 6)=cU (z3 l):=by
 rw[<-fq]
 have:=A8 (Jq hl) (j:=0) (r:=(l.drop 8352).take 6) lH
 rw[gt]at this
 rw[this]
 have h2:iR (z2 l).R 0 ((l.drop 8352).take 6)=(l.drop 8352).take 6++List.replicate 6 0:=by
  unfold iR
  have h3:(z2 l).R=List.replicate 12 0:=rfl
  rw[h3]
  simp[hl]
 rw[h2];rfl
def p_4 :aV (cU (z3 l)) 8359 ((((l.drop 8358).take 5).map (.int .u8)).take 5)=cU (z4 l):=by
 rw[<-fq,List.take_take]
 have:=A8 (Lt hl) (j:=7) (r:=(l.drop 8358).take 5) lH
 rw[show 8352+7=8359 by rfl]at this
 rw[show min 5 5=5 by rfl,this]
 have h2:iR (z3 l).R 7 ((l.drop 8358).take 5)=rZ l:=by
  have h3:(z3 l).R=(l.drop 8352).take 6++[0]++List.replicate 5 0:=by rw[eG];rfl
  have h5:((l.drop 8358).take 5).length=5:=by simp[hl]
  rw[h3,Z9 zC,h5]
  simp[rZ]
 rw[h2];rfl
def aPC :(cU (z4 l))[8352+4]? =some (.int .u8 (l.getD 8356 0)):=by
 rw[aAf (iE hl) aD]
 have:(z4 l).R.getD 4 0=l.getD 8356 0:=by
  show(rZ l).getD 4 0=_
  unfold rZ
  have h4:((l.drop 8352).take 6).length=6:=by simp[hl]
  rw[gU,di Qw,<-gU,Ji _ aD,Do]
 rw[this]
def aLW :(cU (z7 l))[8352+1]? =some (.int .u8 (l.getD 8353 0)):=by
 rw[aAf (Hc hl) aD]
 have:(z7 l).R.getD 1 0=l.getD 8353 0:=by
  show(rS l).getD 1 0=_
  unfold rS
  have h4:((l.drop 8352).take 6).length=6:=by simp[hl]
  rw[gU,ge aD,di Qw,<-gU,Ji _ aD,Do]
 rw[this]
def aHL :aV (cU (z4 l)) 8364 [.int .i64 (l.getD 8356 0)]=cU {z4 l with line:=l.getD 8356 0}:=Kb (iE hl) (j:=0) aD
def aN4 :aV (cU {z4 l with line:=l.getD 8356 0}) 8365 [.int .i64 (l.getD 8363 0)]=cU {z4 l with line:=l.getD 8356 0,dot:=l.getD 8363 0}:=
 Kb (u:={z4 l with line:=l.getD 8356 0}) ⟨(iE hl).lV,(iE hl).lO,(iE hl).lR,(iE hl).lP⟩ (j:=1) aD
def aIi :aV (cU {z4 l with line:=l.getD 8356 0,dot:=l.getD 8363 0}) 8366 [.int .i64 (l.getD 8364 0)]=cU (z5 l):=
 Kb (u:={z4 l with line:=l.getD 8356 0,dot:=l.getD 8363 0}) ⟨(iE hl).lV,(iE hl).lO,(iE hl).lR,(iE hl).lP⟩ (j:=2) aD
def aPS :aV (cU (z5 l)) 8367 [.int .i64 (l.getD 8365 0+256*l.getD 8366 0)]=cU {z5 l with frames:=l.getD 8365 0+256*l.getD 8366 0}:=Kb (Ho hl) (j:=3) aD
def aKI :aV (cU {z5 l with frames:=l.getD 8365 0+256*l.getD 8366 0}) 8368 [.bool (l.getD 8367 0==1)]=cU (z6 l):=
 Kb (u:={z5 l with frames:=l.getD 8365 0+256*l.getD 8366 0}) ⟨(iE hl).lV,(iE hl).lO,(iE hl).lR,(iE hl).lP⟩ (j:=4) aD
def p_7 :aV (cU (z6 l)) 8356 [.int .u8 0]=cU (z7 l):=by
 have:=A8 (F7 hl) (j:=4) (r:=[0]) aP
 rw[show 8352+4=8356 by rfl]at this
 rw[show([.int .u8 0]:AA)=[0].map (.int .u8)by rfl,this,aBL (by rw[(F7 hl).lR];decide)];rfl
def aIP :(cU (z7 l))[8364]? =some (.int .i64 (l.getD 8356 0)):=aBQ (Hc hl) (j:=0) rfl
def aJ2 :(cU (z7 l))[8365]? =some (.int .i64 (l.getD 8363 0)):=aBQ (Hc hl) (j:=1) rfl
omit hl in
def aGE :cU (z7 l)=cU (z8 l 0):=by
 have:pZ l 0=(z7 l).P:=by
  unfold pZ
  rw[gf,gu,cg,Nat.sub_zero];rfl
 unfold z8;rw[this]
def p_8{i:Nat}(hi:i<144):aV (cU (z8 l i)) (8369+i*160) (((l.drop (8368+i*160)).map (.int .u8)).take 160)=cU (z8 l (i+1)):=by
 rw[<-fq,aPK (z8_ln hl I) lH]
 have:iR (pZ l i) (i*160) ((l.drop (8368+i*160)).take 160)=pZ l (i+1):=by
  unfold pZ
  have h2:((l.drop (8368+i*160)).take 160).length=160:=by simp[hl];omega
  rw[Z9 (by simp[hl];omega),h2,List.drop_replicate,show 23040-i*160-160=23040-(i+1)*160 by omega,<-B5,bi]
 show cU {z8 l i with P:=iR (pZ l i) (i*160) _}=_
 rw[this];rfl
def z8_all :z8 l 144=uP l:=by
 have:pZ l 144=l.drop 8368:=by unfold pZ;rw[dq zC];simp
 unfold z8;rw[this];rfl
def wN(h:mX l=false):5=lU l:=by unfold lU;rw[ae I,ae Ft]
def K3(h:mX l=true):0=lU l:=by unfold lU;rw[ae I,ag h]
end
section
variable {l:AB}
def aEF(h:l.length≠31408):6=lU l:=by unfold lU;rw[ag h]
def R7(h:154<=l.getD 8356 0):mX l=false:=by unfold mX;rw[cu I];rfl
def aBt(h:114<=l.getD 8363 0):mX l=false:=by unfold mX;rw[cu (p:=l.getD 8363 0<114) I];simp
def aCE(h:(lD .u8 (l.getD 8353 0) 120 != 0)=true):mX l=false:=by unfold mX;rw[show(lD .u8 (l.getD 8353 0) 120==0)=false by simpa using h];simp
def aA5(h:1<l.getD 8367 0):mX l=false:=by unfold mX;rw[cu (p:=l.getD 8367 0<=1) I];simp
def aBX(l:AB):l.all (λx=>decide (x<=3))= !(l.any λx=>decide (3<x)):=by
 induction l with
 |nil=>rfl
 |cons x l ih=>
  rw[gn,List.any_cons,ih,Bool.not_or]
  congr 1
  by_cases h:x<=3
  ·have h2:¬3<x:=by omega
   simp[h,h2]
  ·have h2:3<x:=by omega
   simp[h,h2]
def aAm(h:((l.drop 8368).any λx=>decide (3<x))=true):mX l=false:=by unfold mX;rw[aBX,h];simp
def aFc(h1:l.getD 8356 0<154)(h2:l.getD 8363 0<114)(h3:(lD .u8 (l.getD 8353 0) 120 != 0)=false)(h4:l.getD 8367 0<=1)(h5:((l.drop 8368).any λx=>decide (3<x))=false):mX l=true:=by
 unfold mX
 rw[aBX,h5,am h1,am h2,am h4,show(lD .u8 (l.getD 8353 0) 120==0)=true by simpa using h3];rfl
def K7{u:PU}(h:0=lU l):kZ u l=uP l:=by unfold kZ;rw[ag h.symm]
def Fg{u:PU}{e:Int}(h:e=lU l)(h0:e≠0):kZ u l=u:=by unfold kZ;rw[ae I]
end
structure PU.Good(u:PU):Prop where
 ok:u.Ok
 own:u.own<=u.line+(if 63<=u.dot then 1 else 0)
 r4:u.R.getD 4 0=0
 r6:u.R.getD 6 0=0
 pic:∀x∈u.P,x<=3
 off:jC u=false->u.line=0/\u.dot=0
def aRC :jV.Good:=⟨aCZ,iH,rfl,rfl,λx hx=>by rw[(List.mem_replicate.1 hx).2];decide,λ_=>⟨rfl,rfl⟩⟩
section
variable {u:PU}
def PU.Good.own_lt(h:u.Good):u.own<256:=by
 have h1:=h.own;have h2:=h.ok.line
 split at h1<;>omega
def aK3(u:PU):∀x∈rowU u,x<=3:=λx hx=>by
 obtain⟨k,_,rfl⟩:=List.mem_map.1 hx
 have:=aDo u.V (u.r 0) (u.r 7) (u.r 8) (u.r 9) k u.line ((belowU u).getD k 0) ((jI (rI u.O (u.r 0) u.line)).find? (hit u.V (u.r 0) k u.line))
 unfold zM;omega
def aGK{l r:AB}{j:Nat}{x:Int}(h:x∈iR l j r):x∈l\/x∈r:=by
 unfold iR at h
 rcases List.mem_append.1 h with h|h
 ·rcases List.mem_append.1 h with h|h
  ·exact .inl (dd h)
  ·exact .inr h
 ·exact .inl (dm h)
def PU.Good.tick(h:u.Good):(tickU u).Good:=by
 have hk:=h.ok.tick
 by_cases hl:jC u=true
 ·have ht:tickU u=askU (stepU u):=by unfold tickU;rw[ag hl]
  refine⟨hk,?_,?_,?_,?_,λhf=>?_⟩
  ·rw[ht]
   show(stepU u).own<=(stepU u).line+(if 63<=(stepU u).dot then 1 else 0)
   have ho:=h.own;have hd:=h.ok.dot;have hn:=h.ok.line;have hd0:=h.ok.wf.dot;have hl0:=h.ok.wf.line
   by_cases h1:u.dot=62/\u.line<144
   ·rw[Nd h1.1 h1.2]
    simp only[sR,oneU]
    split at ho<;>(try split)<;>(try split)<;>omega
   ·by_cases h2:u.dot=113
    ·rw[Js h2]
     unfold qF oneU
     dsimp only
     by_cases h3:u.line=143
     ·rw[ag h3];dsimp only;split at ho<;>(try split)<;>omega
     ·rw[ae h3]
      by_cases h4:u.line=153
      ·rw[ag h4];dsimp only;(try split)<;>omega
      ·rw[ae h4];dsimp only;split at ho<;>(try split)<;>omega
    ·rw[Mf h1 h2]
     simp only[oneU]
     split at ho<;>(try split)<;>omega
  ·rw[(E7 u).2.2];exact h.r4
  ·rw[(E7 u).2.2];exact h.r6
  ·rw[ht]
   show ∀x∈(stepU u).P,x<=3
   intro x hx
   unfold stepU sR qF oneU at hx
   split at hx
   ·rcases aGK hx with hx|hx
    ·exact h.pic x hx
    ·exact aK3 _ x hx
   ·repeat' split at hx
    all_goals exact h.pic x hx
  ·have:jC (tickU u)=jC u:=by unfold jC PU.r;rw[(E7 u).2.2]
   rw[this,hl]at hf;cases hf
 ·have ht:tickU u=u:=by unfold tickU;rw[ae hl]
  rw[ht];exact h
def PU.Good.set(h:u.Good){n x:Int}(hn:n= -1\/(0<=n/\n<12/\n≠6))(h0:n≠ -1):(jU u n x).R.getD 4 0=0/\(jU u n x).R.getD 6 0=0:=by
 have e:∀(j k:Nat) (y:Int),k≠j->(u.R.set j y).getD k 0=u.R.getD k 0:=λj k y hk=>by
  rw[gU,ge (Ne.symm hk),<-gU]
 by_cases h1:n=1
 ·rw[set_1 h1];exact⟨(e 1 4 _ aD).trans h.r4,(e 1 6 _ aD).trans h.r6⟩
 ·by_cases h4:n=4
  ·rw[Lq h4];exact⟨h.r4,h.r6⟩
  ·rw[set_n h1 h4];exact⟨(e _ 4 _ I).trans h.r4,(e _ 6 _ I).trans h.r6⟩
def aRw(u:PU)(n x:Int):(jU u n x).P=u.P/\(jU u n x).line=u.line/\(jU u n x).dot=u.dot/\(jU u n x).own=u.own:=by
 unfold jU
 repeat' split
 all_goals exact⟨rfl,rfl,rfl,rfl⟩
def PU.Good.write(h:u.Good){a x:Int}(hx:0<=x/\x<256):(lF u a x).Good:=by
 have hk:=h.ok.write (a:=a) hx
 unfold lF at hk⊢
 split
 ·split
  ·rename_i h1 h2
   rw[ag h1,ag h2]at hk
   exact⟨hk,h.own,h.r4,h.r6,h.pic,h.off⟩
  ·exact h
 ·rename_i h1
  rw[ae h1]at hk
  split
  ·rename_i h2
   rw[ag h2]at hk
   split
   ·rename_i h3
    rw[ag h3]at hk
    exact⟨hk,h.own,h.r4,h.r6,h.pic,h.off⟩
   ·exact h
  ·rename_i h2
   rw[ae h2]at hk
   split
   ·exact h
   ·rename_i h3
    rw[ae h3]at hk
    obtain⟨e1,e2,e3,e4⟩:=aRw u (numU a) x
    obtain⟨g4,g6⟩:=h.set (x:=x) (Ox a) h3
    have hpic:∀y∈(jU u (numU a) x).P,y<=3:=by rw[e1];exact h.pic
    by_cases hz:jC u=true/\jC (jU u (numU a) x)=false
    ·have hp:putU u (numU a) x={jU u (numU a) x with line:=0,dot:=0,own:=0}:=Nm hz.1 hz.2
     rw[hp]at hk⊢
     exact⟨hk,by show(0:Int)<=0+(if(63:Int)<=0 then 1 else 0);decide,g4,g6,hpic,λ_=>⟨U,U⟩⟩
    ·have hp:putU u (numU a) x=jU u (numU a) x:=by unfold putU yX;rw[ae hz]
     rw[hp]at hk⊢
     refine⟨hk,?_,g4,g6,hpic,λhf=>?_⟩
     ·show(jU u (numU a) x).own<=(jU u (numU a) x).line+(if 63<=(jU u (numU a) x).dot then 1 else 0)
      rw[e2,e3,e4];exact h.own
     ·show(jU u (numU a) x).line=0/\(jU u (numU a) x).dot=0
      rw[e2,e3]
      have hf':jC (jU u (numU a) x)=false:=hf
      refine h.off ?_
      cases hq:jC u
      ·rfl
      ·exact absurd ⟨hq,hf'⟩ hz
def PU.Good.sprite(h:u.Good)(n:Int){x:Int}(hx:0<=x/\x<256):(wC u n x).Good:=by
 have hk:=h.ok.sprite n hx
 unfold wC at hk⊢
 split
 ·rename_i h1
  rw[ag h1]at hk
  exact⟨hk,h.own,h.r4,h.r6,h.pic,h.off⟩
 ·exact h
end
def aJC :∀(R:AB) (n:Int),R.length=12->R.getD 4 0=0->R.getD 6 0=0->(((R.set 4 n).take 6++0::((R.set 4 n).drop 7)).set 4 0)=R
 | [_,_,_,_,a,_,b,_,_,_,_,_],_,_,h4,h6=>by
  have h4:a=0:=h4
  have h6:b=0:=h6
  subst h4 h6;rfl
def aJR{x:Int}(hx:0<=x/\x<256):aQ .u8 x 120=x->lD .u8 x 120=0:=
 eI (p:=λx=>aQ .u8 x 120=x->lD .u8 x 120=0) eW hx.1 hx.2
def Tr{A B:AB}{j:Nat}(h:j<A.length):(A++B).getD j 0=A.getD j 0:=by
 rw[gU,di h,<-gU]
section
variable {u:PU}(h:u.Wf)
include h
omit h in
def O4 :fM u=u.V++(u.O++((r4 u).take 6++((r4 u).drop 7++(sX u++u.P)))):=by simp[fM,wB,Fy,eG]
def aBy :(fM u).drop 8192=u.O++((r4 u).take 6++((r4 u).drop 7++(sX u++u.P))):=by rw[O4,eg h.lV]
def Rz :(fM u).drop 8352=(r4 u).take 6++((r4 u).drop 7++(sX u++u.P)):=by rw[show 8352=8192+160 by rfl,<-bi,aBy h,eg h.lO]
def aAI :(fM u).drop 8358=(r4 u).drop 7++(sX u++u.P):=by rw[show 8358=8352+6 by rfl,<-bi,Rz h,eg Up]
def aC7 :(fM u).drop 8363=sX u++u.P:=by rw[show 8363=8358+5 by rfl,<-bi,aAI h,eg Up]
def aAr :(fM u).drop 8368=u.P:=by rw[show 8368=8363+5 by rfl,<-bi,aC7 h,eg (l₁:=sX u) (show(sX u).length=5 from rfl)]
def aAQ :(fM u).getD 8356 0=u.line:=by
 rw[show 8356=8352+4 by rfl,<-Do,Rz h,Tr Up,Ji _ aD]
 unfold r4
 rw[gU,ir (by rw[h.lR];decide)];rfl
def aP6 :(fM u).getD 8353 0=u.R.getD 1 0:=by
 rw[show 8353=8352+1 by rfl,<-Do,Rz h,Tr Up,Ji _ aD]
 unfold r4
 rw[gU,ge aD,<-gU]
def Ef{j:Nat}(hj:j<5):(fM u).getD (8363+j) 0=(sX u).getD j 0:=by rw[<-Do,aC7 h,Tr (by simpa[sX] using hj)]
def enc_byts :bF (fM u):=by
 have hb:∀{A B:AB},bF A->bF B->bF (A++B):=λha hb x hx=>(List.mem_append.1 hx).elim (ha x) (hb x)
 have h4:bF (r4 u):=λx hx=>by
  rcases ez hx with h1|rfl
  ·exact h.bR x h1
  ·have:=h.line;omega
 rw[O4]
 refine hb h.bV (hb h.bO (hb (λx hx=>h4 x (dd hx)) (hb (λx hx=>h4 x (dm hx)) (hb (λx hx=>?_) h.bP))))
 have h1:=h.dot;have h2:=h.own;have h3:=h.frames
 simp only[sX,ea,ei,or_false]at hx
 rcases hx with rfl|rfl|rfl|rfl|rfl
 ·omega
 ·omega
 ·omega
 ·omega
 ·unfold gX;split<;>decide
end
section
variable {u:PU}(h:u.Good)
include h
def aPI :uP (fM u)=u:=by
 have hw:=h.ok.wf
 unfold uP rS
 rw[show(fM u).take 8192=u.V by rw[O4,fo hw.lV],aBy hw,fo hw.lO,Rz hw,fo (by simp[r4_len hw]),aAI hw,fo (by simp[r4_len hw]),aAr hw,aAQ hw,
  show(fM u).getD 8363 0=u.dot from Ef hw (j:=0) aD,show(fM u).getD 8364 0=u.own%256 from Ef hw (j:=1) aD,show(fM u).getD 8365 0=u.frames%256 from Ef hw (j:=2) aD,
  show(fM u).getD 8366 0=u.frames/256 from Ef hw (j:=3) aD,show(fM u).getD 8367 0=gX u.sig from Ef hw (j:=4) aD]
 have e1:((r4 u).take 6++0::(r4 u).drop 7).set 4 0=u.R:=aJC u.R u.line hw.lR h.r4 h.r6
 have h1:=h.own_lt;have h2:=hw.own;have h3:=hw.frames
 rw[e1,show u.own%256=u.own by omega,show u.frames%256+256*(u.frames/256)=u.frames by omega]
 have e2:(gX u.sig==1)=u.sig:=by unfold gX;cases u.sig<;>rfl
 rw[e2]
def aHy :mX (fM u)=true:=by
 have hw:=h.ok.wf
 refine aFc (by rw[aAQ hw];exact h.ok.line) (by rw[show(fM u).getD 8363 0=u.dot from Ef hw (j:=0) aD];exact h.ok.dot) ?_ ?_ ?_
 ·rw[aP6 hw,aJR (hw.look 1) hw.how];rfl
 ·rw[show(fM u).getD 8367 0=gX u.sig from Ef hw (j:=4) aD];unfold gX;split<;>decide
 ·rw[aAr hw,List.any_eq_false]
  intro x hx
  have:=h.pic x hx
  simp;omega
def aOM :lU (fM u)=0:=(K3 (Ul h.ok.wf) (aHy h)).symm
end
def aRb{x:Int}(h1:0<=x)(h2:x<256):(lD .u8 x 120==0)=true->aQ .u8 x 120=x:=
 eI (p:=λx=>(lD .u8 x 120==0)=true->aQ .u8 x 120=x) eW h1 h2
def U2{l:AB}(hl:l.length=31408)(hb:bF l)(ho:mX l=true):(uP l).Wf:=by
 unfold mX at ho
 simp only[ax,ak]at ho
 obtain⟨⟨⟨⟨h1,h2⟩,h3⟩,h4⟩,h5⟩:=ho
 have c0:=hb.get 8356;have c1:=hb.get 8363;have c2:=hb.get 8364;have c3:=hb.get 8365;have c4:=hb.get 8366;have c5:=hb.get 8353
 have hR:bF (rS l):=λx hx=>by
  unfold rS at hx
  rcases ez hx with h9|rfl
  ·rcases List.mem_append.1 h9 with h8|h8
   ·exact hb x (dm (dd h8))
   ·rcases List.mem_cons.1 h8 with rfl|h7
    ·decide
    ·exact hb x (dm (dd h7))
  ·decide
 have hA:((l.drop 8352).take 6).length=6:=by simp[hl]
 have e1:(rS l).getD 1 0=l.getD 8353 0:=by
  unfold rS
  rw[gU,ge aD,<-gU,Tr (by rw[hA];decide),Ji _ aD,Do]
 refine⟨?_,?_,?_,?_,λx hx=>hb x (dd hx),λx hx=>hb x (dm (dd hx)),hR,λx hx=>hb x (dm hx),?_,?_,?_,?_,?_⟩
 ·show(l.take 8192).length=_;simp[hl]
 ·show((l.drop 8192).take 160).length=_;simp[hl]
 ·show(rS l).length=_;simp[rS,hl]
 ·show(l.drop 8368).length=_;simp[hl]
 ·show 0<=l.getD 8356 0/\l.getD 8356 0<=154;omega
 ·show 0<=l.getD 8363 0/\l.getD 8363 0<=114;omega
 ·show 0<=l.getD 8364 0/\l.getD 8364 0<=600;omega
 ·show 0<=l.getD 8365 0+256*l.getD 8366 0/\l.getD 8365 0+256*l.getD 8366 0<65536;omega
 ·show aQ .u8 ((rS l).getD 1 0) 120=(rS l).getD 1 0
  rw[e1];exact aRb c5.1 c5.2 h3
def Hi :AA:=cS ⟨r0,false,false,false,false⟩++(jY ⟨0,0,0,false,false,0,0,0⟩++(nX ⟨0,0,0,0,0,false,false,0,0,0,0,0⟩++(iZ ⟨0,0,0,0,false⟩++(nB ⟨0,0⟩++(qD ⟨0,0,0,0,0,0⟩++(cCp ⟨0,0⟩++(cBd bdZ++
 ([.int .u8 0,.int .u8 0,.int .u64 0,.int .u64 0,.slice none 0 0,.slice none 0 0]++(cHd ⟨[],0,false,false,0,0,false⟩++([.pointer none,.pointer none,.slice none 0 0]++((List.replicate 8192 (0:Int)).map (.int .u8)++((List.replicate 127 (0:Int)).map (.int .u8)++[.slice none 0 0]))))))))))))
def T7 :Hi.length=8455:=by
 unfold Hi
 simp only[bX,eJ,ct,eZ,az,cBd_len bdZ_wf.ln]
 rfl
section
variable {A:Ad}{acc:AH}{m:Mm}
def aKg(h:fJ [acc,A.plan,A.tab]=true):fJ (uL A m)=true:=by
 unfold fJ at h⊢
 simp only[gn,j8,iw,ax]at h
 unfold uL
 simp only[f8,gn,j8,h.2.1,h.2.2,iw,gm]
 rfl
def aCP(h:fJ [acc,A.plan,A.tab]=true):fJ (cMm A acc m)=true:=by
 have h1:=ones_cBd m.bd
 have h2:=kX .u8 m.work
 have h3:=kX .u8 m.high
 have h4:=aKg (m:=m) h
 have h5:fJ (mB m)=true:=rfl
 rw[vD]
 unfold jD
 unfold fJ at h h1 h2 h3 h4 h5⊢
 simp only[gn,j8,iw,ax]at h
 simp only[f8,h1,h2,h3,h4,h5,gn,j8,h.1,iw]
def aPT(h:dV m)(b c:Nat)(s:AA):aV (cMm A acc m) 134 [.slice (Q_ b) m.ram.length c]=cMm {A with rb:=b,rc:=c,rs:=s} acc m:=(Fq h (o:=15) aD).trans rfl
def aFE(h:dV m)(b:Nat):aV (cMm A acc m) 133 [P_ b]=cMm {A with ub:=b} acc m:=(Fq h (o:=14) aD).trans rfl
end
def aFV{α:Type}:∀L:List α,(List.range L.length).filterMap (λi=>L[i]?)=L:=λL=>by
 have key:∀n,n<=L.length->(List.range n).filterMap (λi=>L[i]?)=L.take n:=λn=>by
  induction n with
  |zero=>intro _;rfl
  |succ n ih=>intro hn;rw[eo,List.filterMap_append,ih I,f0];simp[ap (show n<L.length by omega)]
 rw[key _ (be _),dj]
def St.perm_ix{w0 w:AI}{ms:AE}{L L':aF}(n:Nat)(p:AE)(hp:p.Perm (List.range n))(hn:L.length=n)(hl:L'=p.filterMap (λi=>L[i]?))(hw:St w0 ms L w):St w0 ms L' w:=by
 subst hl hn
 refine hw.perm ?_
 have:=(hp.filterMap (λi=>L[i]?)).symm
 rwa[aFV]at this
def aFs{l:AB}(h:lU l=0):l.length=31408/\mX l=true:=by
 unfold lU at h
 split at h
 ·cases h
 ·rename_i h1
  split at h
  ·rename_i h2;exact⟨Decidable.byContradiction h1,h2⟩
  ·cases h
def aL9{l:AB}(hb:bF l)(h:lU l=0):(uP l).Ok:=by
 obtain⟨hl,ho⟩:=aFs h
 have hw:=U2 hl hb ho
 unfold mX at ho
 simp only[ax,ak]at ho
 have h1:=hb.get 8356;have h3:=hb.get 8364
 exact⟨hw,ho.1.1.1.1,ho.1.1.1.2,by show l.getD 8364 0<=255+l.getD 8356 0+_;split<;>omega⟩
def aOE{u:PU}(hu:u.Wf){l:AB}(hb:bF l):(kZ u l).Wf:=by
 unfold kZ
 split
 ·rename_i h;obtain⟨hl,ho⟩:=aFs h;exact U2 hl hb ho
 ·exact hu
section
variable {m:Mm}(h:m.Wf)
include h
def yJ :(fQ m).length=39890+m.ram.length:=by
 unfold fQ
 rw[bX,bX,C8 h,Ul h.u.wf];omega
def aJ1 :bF (fQ m):=qH (aQ6 h) (qH h.bRam (enc_byts h.u.wf))
def fH(m:Mm)(l:AB):Mm:={Ol m l with u:=uP (l.drop (8482+m.ram.length))}
variable {l:AB}(hb:bF l)(hl:l.length=(fQ m).length)
include hl
def Xp :((l.drop 8482).take m.ram.length).length=m.ram.length:=by
 rw[fT,dM,hl,yJ h];omega
def aHQ{A:Ad}{acc:AH}:cMm A acc (Bg m l)=cMm A acc (fH m l):=by
 have e:=Xp h hl
 unfold cMm jD uL
 rw[show(fH m l).ram.length=m.ram.length from e]
 rfl
include hb
def aNI(hd:lU (l.drop (8482+m.ram.length))=0):(fH m l).Wf:=by
 have e:=Xp h hl
 have w:=aBd h hb (by rw[hl,yJ h];omega)
 exact⟨w.bk,w.ck,w.tm,w.pd,w.pt,w.cp,w.bd,w.flags,w.lets,w.steps,w.cycles,aL9 (vY hb _) hd,w.banks,w.lRom,w.bRom,by show(((l.drop 8482).take m.ram.length).length:Int)=_;rw[e];exact h.lRam,Fv (vY hb _) _,w.lWork,w.bWork,w.lHigh,w.bHigh⟩
omit h hl in
def aRR :(fH m l).cpu.r.Ok:=aKl (m:=m) hb
end
def aPN{m:Mm}{l:AB}(h:l.length≠(fQ m).length):6=sT m l:=(ag h).symm
def aQM{m:Mm}{l:AB}(h:l.length=(fQ m).length)(hd:lU (l.drop (8482+m.ram.length))≠0):5=sT m l:=by
 unfold sT;rw[ae I,ae (λh=>hd h.1)]
def aQ5{m:Mm}{l:AB}(h:l.length=(fQ m).length)(hd:fQ (fH m l)≠l):5=sT m l:=by
 unfold sT;rw[ae I,ae (λh=>hd h.2)]
def Q9{m:Mm}{l:AB}(h:l.length=(fQ m).length)(hd:lU (l.drop (8482+m.ram.length))=0)(he:fQ (fH m l)=l):0=sT m l:=by
 unfold sT;rw[ae I,ag ⟨hd,he⟩]
def Yp{m:Mm}{l:AB}{e:Int}(h:e=sT m l)(h0:e≠0):uK m l=m:=by unfold uK;rw[ae I]
def aFm{m:Mm}{l:AB}(h:0=sT m l):uK m l={fH m l with acc:=[]}:=by unfold uK;rw[ag h.symm];rfl
structure Ad.Kept(A A':Ad):Prop where
 mb:A'.mb=A.mb
 ub:A'.ub=A.ub
 ob:A'.ob=A.ob
 oc:A'.oc=A.oc
 sp:A'.sp=A.sp
 plan:A'.plan=A.plan
 tab:A'.tab=A.tab
def aAN{w:AI}{b off:Nat}{L l:AA}(h:aK w b 0 L)(hl:∀(j:Nat) (v:AH),l[j]? =some v->L[off+j]? =some v):aK w b off l:=λj v hv=>by
 have:=h (off+j) v (hl j v hv)
 rwa[bj]at this
def chkH(rom:AB):Nat->Int
 |0=>0
 |i+1=>(chkH rom i-(rom.getD (308+i) 0+1))%256
def Bh(rom:AB):Nat->Int
 |0=>0
 |i+1=>(Bh rom i+rom.getD i 0)%65536
def Rg(rom:AB):Int:=(Bh rom rom.length-rom.getD 334 0-rom.getD 335 0)%65536
def Ud(rom:AB)(i:Nat):0<=chkH rom i/\chkH rom i<256:=by cases i with
 |zero=>exact⟨iu 0,(by decide:(0:Int)<256)⟩
 |succ i=>unfold chkH;omega
def aC8(rom:AB)(i:Nat):0<=Bh rom i/\Bh rom i<65536:=by cases i with
 |zero=>exact⟨iu 0,(by decide:(0:Int)<65536)⟩
 |succ i=>unfold Bh;omega
abbrev vU :=Int×Bool×Bool
def lC :List (Int×vU):=[(0,0,false,false),(8,0,false,false),(9,0,false,true),(1,1,false,false),(2,1,false,false),(3,1,false,true),(5,2,false,false),(6,2,false,true),(15,3,true,true),(16,3,true,true),(17,3,false,false),(18,3,false,false),(19,3,false,true),
 (25,5,false,false),(26,5,false,false),(27,5,false,true),(28,5,false,false),(29,5,false,false),(30,5,false,true)]
def cSrt(s:vU):AA:=[.int .i64 s.1,.bool s.2.1,.bool s.2.2]
def lG :List (Int×vU)->Nat->List hY
 | [],_=>[]
 |s::l,i=>(s.1,.agg (cSrt s.2).toArray,i)::lG l (i+1)
def sortE :List hY:=lG lC 0
def Fi(b:Int):List (Int×vU)->Option vU
 | []=>none
 |s::l=>if b=s.1 then some s.2 else Fi b l
def sortH(b:Int):Option vU:=Fi b lC
def aAx(o:Option vU):Array AH:= #[.agg (cSrt (o.getD (0,false,false))).toArray,.bool o.isSome]
def Z3(b:Int):∀(l:List (Int×vU)) (i j:Nat),Lv (.agg (cSrt (0,false,false)).toArray) (kI b (lG l i) j)=aAx (Fi b l)
 | [],_,_=>rfl
 |s::l,i,j=>by
  unfold lG kI Fi
  by_cases h:b=s.1
  ·rw[ag h,ag h];rfl
  ·rw[ae h,ae h];exact Z3 b l (i+1) (j+1)
def sort_ask(b:Int):Lv (.agg (cSrt (0,false,false)).toArray) (kI b sortE 0)=aAx (sortH b):=Z3 b lC 0 0
def sizesH :AB:=[0,2048,8192,32768,131072,65536]
def S1{b:Int}{s:vU}:∀{l:List (Int×vU)},Fi b l=some s->(b,s)∈l
 | [],h=>by cases h
 |x::l,h=>by
  unfold Fi at h
  split at h
  ·rename_i h1;cases h;rw[h1];exact .head _
  ·exact .tail _ (S1 h)
def aQ0{b:Int}{s:vU}(h:sortH b=some s):0<=s.1/\s.1<256:=by
 have key:∀x∈lC,0<=x.2.1/\x.2.1<256:=by decide
 exact key _ (S1 h)
def chrH(c:Int):UInt8:=if c<32\/126<c then 63 else c.toNat.toUInt8
def nameH :AB->List UInt8
 | []=>[]
 |c::l=>if c=0 then []else chrH c::nameH l
def xV(kind n:Int):Int:=if kind=2 then 512 else if n=0 then 0 else if n=1 then 2048 else if n=2 then 8192 else if n=3 then 32768 else if n=4 then 131072 else 65536
def errH(rom:AB):Int:=
 if rom.length<336 then 2 else if rom.getD 333 0≠chkH rom 25 then 4 else match sortH (rom.getD 327 0)with
  |none=>5
  |some _=>if 8<rom.getD 328 0\/6<=rom.getD 329 0 then 7 else if(rom.length:Int)≠32768*2^(rom.getD 328 0).toNat then 6 else 0
def hdH(rom:AB):Hd:=
 let s:=(sortH (rom.getD 327 0)).getD (0,false,false)
 ⟨nameH ((rom.drop 308).take 15),s.1,s.2.1,s.2.2,2*2^(rom.getD 328 0).toNat,xV s.1 (rom.getD 329 0),rom.getD 334 0*256+rom.getD 335 0==Rg rom⟩
def zHd :Hd:=⟨[],0,false,false,0,0,false⟩
def aES{c n:Int}(hc:c=2\/c=32768)(hn:0<=n/\n<=8):shl .i64 c n=c*2^n.toNat:=by
 rcases(show n=0\/n=1\/n=2\/n=3\/n=4\/n=5\/n=6\/n=7\/n=8 by omega)with rfl|rfl|rfl|rfl|rfl|rfl|rfl|rfl|rfl<;>rcases hc with rfl|rfl<;>decide
def aQb{l:AB}:∀{i:Nat},(∀j,j<i->l.getD j 0≠0)->i<l.length->l.getD i 0=0->nameH l=(l.take i).map chrH:=by
 induction l with
 |nil=>intro i _ hi _;simp at hi
 |cons c l ih=>
  intro i hj hi h0
  cases i with
  |zero=>have:c=0:=h0;unfold nameH;rw[ag this];rfl
  |succ i=>
   have h1:c≠0:=hj 0 I
   unfold nameH
   rw[ae h1,ih (i:=i) (λj hj'=>hj (j+1) I) (by simpa using hi) h0]
   rfl
def aHW{l:AB}(h:∀j,j<l.length->l.getD j 0≠0):nameH l=l.map chrH:=by
 induction l with
 |nil=>rfl
 |cons c l ih=>
  have h1:c≠0:=h 0 aP
  unfold nameH
  rw[ae h1,ih λj hj=>h (j+1) (by simpa using hj)];rfl
def aJe{c:Int}(h:0<=c/\c<256)(hp:¬(c<32\/126<c)):((chrH c).toNat:Int)=c:=by
 unfold chrH
 rw[ae hp]
 have:c.toNat<256:=by omega
 rw[show(c.toNat.toUInt8).toNat=c.toNat from by simp[Nat.toUInt8,UInt8.toNat_ofNat];omega]
 omega
def txV(l:List UInt8):AA:=l.map λc=> .int .u8 c.toNat
def aGl{k n:Int}(hk:k≠2)(hn:0<=n/\n<6):sizesH.getD n.toNat 0=xV k n:=by
 unfold xV
 rw[ae hk]
 rcases(show n=0\/n=1\/n=2\/n=3\/n=4\/n=5 by omega)with rfl|rfl|rfl|rfl|rfl|rfl<;>rfl
def aM6(kind n:Int):0<=xV kind n/\xV kind n<=131072:=by unfold xV;constructor<;>(repeat' split)<;>decide
structure Pl where
 at_:Int
 by_:Int
 many:Int
 kind:Int
 size:Int
 x:AH
def eK(p:Pl):AA:=[.int .i64 p.at_,.int .i64 p.by_,.int .i64 p.many,.int .i64 p.kind,.int .i64 p.size,p.x]
def aCV(p:Pl):(eK p).length=6:=rfl
def aCo(G:aF)(p:Pl)(q:Pq):Prop:=p.at_=q.at_/\p.by_=q.by_/\p.many=q.many/\p.kind=q.kind/\p.size=q.size/\match q.x with
 |none=>p.x= .slice none 0 0
 |some xs=>∃b,p.x= .slice (Q_ b) xs.length xs.length/\VV.RowsIn G b 0 (xs.map (Value.int .i64))
def Gd(G:aF):List Pl->List Pq->Prop
 | [],[]=>True
 |p::ps,q::qs=>aCo G p q/\Gd G ps qs
 |_,_=>False
def Gd.get{G:aF}:∀{ps:List Pl} {qs:List Pq} {k:Nat} {q:Pq},Gd G ps qs->qs[k]? =some q->∃p,ps[k]? =some p/\aCo G p q
 | [],[],_,_,_,h=>by simp at h
 |p::ps,q::qs,0,_,h,h1=>by
  simp only[fk,Option.some.injEq]at h1
  subst h1
  exact⟨p,U,h.1⟩
 |p::ps,q::qs,k+1,_,h,h1=>by
  rw[er]at h1
  rw[er]
  exact Gd.get h.2 h1
 |_::_,[],_,_,h,_=>h.elim
 | [],_::_,_,_,h,_=>h.elim
def Bw{G:aF}{b:Nat}{xs:AA}{T:AJ}(h:(b,J xs T)∈G):VV.RowsIn G b 0 xs:=λw hw=>aK.all (w:=w) (b:=b) (hw _ h)
def fO(b4 b5 b6 b10 b48 b59 b65:Nat):List Pl:=[⟨0,1,1,1,1,.slice none 0 0⟩,⟨8,1,1,40,3,.slice none 0 0⟩,⟨16,1,1,2,2,.slice none 0 0⟩,⟨24,1,1,23,2,.slice (Q_ b10) 1 1⟩,⟨32,8,4,23,2,.slice (Q_ b5) 4 4⟩,⟨1,16,4,9,3,.slice (Q_ b5) 4 4⟩,⟨9,16,4,16,1,.slice (Q_ b5) 4 4⟩,⟨2,16,4,33,1,.slice (Q_ b5) 4 4⟩,⟨10,16,4,32,1,.slice (Q_ b5) 4 4⟩,⟨3,16,4,14,1,.slice (Q_ b5) 4 4⟩,⟨11,16,4,15,1,.slice (Q_ b5) 4 4⟩,⟨4,8,8,12,1,.slice (Q_ b4) 8 8⟩,⟨5,8,8,13,1,.slice (Q_ b4) 8 8⟩,⟨6,8,8,8,2,.slice (Q_ b4) 8 8⟩,⟨7,8,4,18,1,.slice (Q_ b5) 4 4⟩,⟨39,1,1,19,1,.slice none 0 0⟩,⟨47,1,1,20,1,.slice none 0 0⟩,⟨55,1,1,21,1,.slice none 0 0⟩,⟨63,1,1,22,1,.slice none 0 0⟩,⟨192,8,4,26,1,.slice (Q_ b5) 4 4⟩,⟨224,1,1,35,2,.slice none 0 0⟩,⟨232,1,1,41,2,.slice none 0 0⟩,⟨240,1,1,34,2,.slice none 0 0⟩,⟨248,1,1,42,2,.slice none 0 0⟩,⟨193,16,4,31,1,.slice (Q_ b6) 4 4⟩,⟨197,16,4,30,1,.slice (Q_ b6) 4 4⟩,⟨201,1,1,26,1,.slice (Q_ b48) 1 1⟩,⟨217,1,1,27,1,.slice none 0 0⟩,⟨233,1,1,29,1,.slice none 0 0⟩,⟨249,1,1,43,1,.slice none 0 0⟩,⟨194,8,4,24,3,.slice (Q_ b5) 4 4⟩,⟨226,1,1,37,1,.slice none 0 0⟩,⟨234,1,1,39,3,.slice none 0 0⟩,⟨242,1,1,36,1,.slice none 0 0⟩,⟨250,1,1,38,3,.slice none 0 0⟩,⟨195,1,1,24,3,.slice (Q_ b59) 1 1⟩,⟨243,1,1,5,1,.slice none 0 0⟩,⟨251,1,1,6,1,.slice none 0 0⟩,⟨196,8,4,25,3,.slice (Q_ b5) 4 4⟩,⟨205,1,1,25,3,.slice (Q_ b65) 1 1⟩,⟨198,8,8,11,2,.slice (Q_ b4) 8 8⟩]
def aH2{G:aF}{b4 b5 b6 b10 b48 b59 b65:Nat}(r4:VV.RowsIn G b4 0 (([0,1,2,3,4,5,6,7]:AB).map (Value.int .i64)))(r5:VV.RowsIn G b5 0 (([0,1,2,3]:AB).map (Value.int .i64)))
  (r6:VV.RowsIn G b6 0 (([0,1,2,4]:AB).map (Value.int .i64))) (r10:VV.RowsIn G b10 0 (([4]:AB).map (Value.int .i64))) (r48:VV.RowsIn G b48 0 (([4]:AB).map (Value.int .i64)))
  (r59:VV.RowsIn G b59 0 (([4]:AB).map (Value.int .i64))) (r65:VV.RowsIn G b65 0 (([4]:AB).map (Value.int .i64))):Gd G (fO b4 b5 b6 b10 b48 b59 b65) PL:=
 ⟨⟨rfl,rfl,rfl,rfl,rfl,rfl⟩,⟨rfl,rfl,rfl,rfl,rfl,rfl⟩,⟨rfl,rfl,rfl,rfl,rfl,rfl⟩,⟨rfl,rfl,rfl,rfl,rfl,b10,rfl,r10⟩,⟨rfl,rfl,rfl,rfl,rfl,b5,rfl,r5⟩,⟨rfl,rfl,rfl,rfl,rfl,b5,rfl,r5⟩,⟨rfl,rfl,rfl,rfl,rfl,b5,rfl,r5⟩,⟨rfl,rfl,rfl,rfl,rfl,b5,rfl,r5⟩,⟨rfl,rfl,rfl,rfl,rfl,b5,rfl,r5⟩,⟨rfl,rfl,rfl,rfl,rfl,b5,rfl,r5⟩,⟨rfl,rfl,rfl,rfl,rfl,b5,rfl,r5⟩,⟨rfl,rfl,rfl,rfl,rfl,b4,rfl,r4⟩,⟨rfl,rfl,rfl,rfl,rfl,b4,rfl,r4⟩,⟨rfl,rfl,rfl,rfl,rfl,b4,rfl,r4⟩,⟨rfl,rfl,rfl,rfl,rfl,b5,rfl,r5⟩,⟨rfl,rfl,rfl,rfl,rfl,rfl⟩,⟨rfl,rfl,rfl,rfl,rfl,rfl⟩,⟨rfl,rfl,rfl,rfl,rfl,rfl⟩,⟨rfl,rfl,rfl,rfl,rfl,rfl⟩,⟨rfl,rfl,rfl,rfl,rfl,b5,rfl,r5⟩,⟨rfl,rfl,rfl,rfl,rfl,rfl⟩,⟨rfl,rfl,rfl,rfl,rfl,rfl⟩,⟨rfl,rfl,rfl,rfl,rfl,rfl⟩,⟨rfl,rfl,rfl,rfl,rfl,rfl⟩,⟨rfl,rfl,rfl,rfl,rfl,b6,rfl,r6⟩,⟨rfl,rfl,rfl,rfl,rfl,b6,rfl,r6⟩,⟨rfl,rfl,rfl,rfl,rfl,b48,rfl,r48⟩,⟨rfl,rfl,rfl,rfl,rfl,rfl⟩,⟨rfl,rfl,rfl,rfl,rfl,rfl⟩,⟨rfl,rfl,rfl,rfl,rfl,rfl⟩,⟨rfl,rfl,rfl,rfl,rfl,b5,rfl,r5⟩,⟨rfl,rfl,rfl,rfl,rfl,rfl⟩,⟨rfl,rfl,rfl,rfl,rfl,rfl⟩,⟨rfl,rfl,rfl,rfl,rfl,rfl⟩,⟨rfl,rfl,rfl,rfl,rfl,rfl⟩,⟨rfl,rfl,rfl,rfl,rfl,b59,rfl,r59⟩,⟨rfl,rfl,rfl,rfl,rfl,rfl⟩,⟨rfl,rfl,rfl,rfl,rfl,rfl⟩,⟨rfl,rfl,rfl,rfl,rfl,b5,rfl,r5⟩,⟨rfl,rfl,rfl,rfl,rfl,b65,rfl,r65⟩,⟨rfl,rfl,rfl,rfl,rfl,b4,rfl,r4⟩,trivial⟩
def aKV(b4 b5 b6 b10 b48 b59 b65:Nat):(fO b4 b5 b6 b10 b48 b59 b65).length=41:=rfl
def aJZ{q:Pq}(h:q.x=none)(i:Nat):At q i=⟨q.kind,0,0,q.size,0⟩:=by unfold At;rw[h]
def aLn{q:Pq}{x:AB}(h:q.x=some x)(i:Nat):At q i=⟨q.kind,x.getD i 0,0,q.size,0⟩:=by unfold At;rw[h]
def aJz(m:Nat)(h:m<4):([.int .i64 17,.int .i64 44,.int .i64 45,.int .i64 46]:AA)[m]? =some (.int .i64 (([17,44,45,46]:AB).getD m 0)):=by
 match m,h with
 |0,_=>rfl
 |1,_=>rfl
 |2,_=>rfl
 |3,_=>rfl
def aGA(m:Nat)(h:m<4):([.int .i64 17,.int .i64 44,.int .i64 45,.int .i64 46]:AA)[0+m*1]? =some (.int .i64 (([17,44,45,46]:AB).getD m 0)):=by
 rw[bj,fw];exact aJz m h
def Zw{i k:Nat}(h:k<=64):shr .i64 (i:Int) (k:Int)=((i/2^k:Nat):Int):=by
 unfold shr
 have e1:min (k:Int).toNat IntKind.i64.bits=k:=by
  have:IntKind.i64.bits=64:=rfl
  rw[this];omega
 rw[e1,eu _ (j6 (gp aD))]
 simp
def aBN{m:Nat}(h:m<1000000):aQ .i64 (m:Int) 7=((m%8:Nat):Int):=by
 unfold aQ
 have h1:(BitVec.ofInt IntKind.i64.bits (m:Int) &&& BitVec.ofInt IntKind.i64.bits 7).toNat=m%8:=by
  have e1:BitVec.ofInt IntKind.i64.bits (m:Int)=BitVec.ofNat 64 m:=by simp[IntKind.bits]
  have e2:BitVec.ofInt IntKind.i64.bits 7=BitVec.ofNat 64 7:=rfl
  rw[e1,e2]
  have e3:(BitVec.ofNat 64 m &&& BitVec.ofNat 64 7).toNat=(m%18446744073709551616) &&& 7:=by simp
  have e4:(m%18446744073709551616) &&& 7=m%18446744073709551616%8:=fy _ 3
  exact e3.trans (by rw[e4];omega)
 rw[h1,bZ I I]
set_option maxHeartbeats 4000000 in
def aKz(w:AI):
  aG prog 155 [] w [] (λv H=>∃b L G,v= .slice (Q_ b) 41 41/\H=(b,J (aM eK L) 307)::G/\L.length=41/\Gd G L PL):=by
 refine aT func155 ?_
 refine eD ?_
 refine RX (fY (z:=[.int .i64 0]) (l:=[.int .i64 0,.int .i64 1,.int .i64 2,.int .i64 3,.int .i64 4,.int .i64 5,.int .i64 6,.int .i64 7]) (ps:=[(0,.int .i64 0),(1,.int .i64 1),(2,.int .i64 2),(3,.int .i64 3),(4,.int .i64 4),(5,.int .i64 5),(6,.int .i64 6),(7,.int .i64 7)]) U U U U aN aN) U ?_
 rintro _ _ ⟨b4,rfl,rfl⟩
 refine eV ?_
 refine RX (fY (z:=[.int .i64 0]) (l:=[.int .i64 0,.int .i64 1,.int .i64 2,.int .i64 3]) (ps:=[(0,.int .i64 0),(1,.int .i64 1),(2,.int .i64 2),(3,.int .i64 3)]) U U U U aN aN) U ?_
 rintro _ _ ⟨b5,rfl,rfl⟩
 refine RX (fY (z:=[.int .i64 0]) (l:=[.int .i64 0,.int .i64 1,.int .i64 2,.int .i64 4]) (ps:=[(0,.int .i64 0),(1,.int .i64 1),(2,.int .i64 2),(3,.int .i64 4)]) U U U U aN aN) U ?_
 rintro _ _ ⟨b6,rfl,rfl⟩
 refine cT ?_
 refine RS ?_
 refine RS ?_
 refine RS ?_
 refine RX (fY U U U U U U) U ?_
 rintro _ _ ⟨b10,rfl,rfl⟩
 refine RS ?_
 refine bG ?_
 refine RS ?_
 refine bG ?_
 refine RS ?_
 refine bG ?_
 refine RS ?_
 refine bG ?_
 refine RS ?_
 refine bG ?_
 refine RS ?_
 refine bG ?_
 refine RS ?_
 refine bG ?_
 refine RS ?_
 refine bG ?_
 refine RS ?_
 refine bG ?_
 refine RS ?_
 refine bG ?_
 refine RS ?_
 refine bG ?_
 refine RS ?_
 refine RS ?_
 refine RS ?_
 refine RS ?_
 refine RS ?_
 refine bG ?_
 refine RS ?_
 refine RS ?_
 refine RS ?_
 refine RS ?_
 refine RS ?_
 refine bG ?_
 refine RS ?_
 refine bG ?_
 refine RS ?_
 refine RX (fY U U U U U U) U ?_
 rintro _ _ ⟨b48,rfl,rfl⟩
 refine RS ?_
 refine RS ?_
 refine RS ?_
 refine RS ?_
 refine bG ?_
 refine RS ?_
 refine RS ?_
 refine RS ?_
 refine RS ?_
 refine RS ?_
 refine RX (fY U U U U U U) U ?_
 rintro _ _ ⟨b59,rfl,rfl⟩
 refine RS ?_
 refine RS ?_
 refine RS ?_
 refine bG ?_
 refine RS ?_
 refine RX (fY U U U U U U) U ?_
 rintro _ _ ⟨b65,rfl,rfl⟩
 refine RS ?_
 refine bG ?_
 refine RS ?_
 refine RX (fY (z:=eK ⟨0,0,0,0,0,.slice none 0 0⟩) (l:=aM eK (fO b4 b5 b6 b10 b48 b59 b65)) (ps:=[(0,.agg (eK ((fO b4 b5 b6 b10 b48 b59 b65).getD 0 ⟨0,0,0,0,0,undef⟩)).toArray),(1,.agg (eK ((fO b4 b5 b6 b10 b48 b59 b65).getD 1 ⟨0,0,0,0,0,undef⟩)).toArray),(2,.agg (eK ((fO b4 b5 b6 b10 b48 b59 b65).getD 2 ⟨0,0,0,0,0,undef⟩)).toArray),(3,.agg (eK ((fO b4 b5 b6 b10 b48 b59 b65).getD 3 ⟨0,0,0,0,0,undef⟩)).toArray),(4,.agg (eK ((fO b4 b5 b6 b10 b48 b59 b65).getD 4 ⟨0,0,0,0,0,undef⟩)).toArray),(5,.agg (eK ((fO b4 b5 b6 b10 b48 b59 b65).getD 5 ⟨0,0,0,0,0,undef⟩)).toArray),(6,.agg (eK ((fO b4 b5 b6 b10 b48 b59 b65).getD 6 ⟨0,0,0,0,0,undef⟩)).toArray),(7,.agg (eK ((fO b4 b5 b6 b10 b48 b59 b65).getD 7 ⟨0,0,0,0,0,undef⟩)).toArray),(8,.agg (eK ((fO b4 b5 b6 b10 b48 b59 b65).getD 8 ⟨0,0,0,0,0,undef⟩)).toArray),(9,.agg (eK ((fO b4 b5 b6 b10 b48 b59 b65).getD 9 ⟨0,0,0,0,0,undef⟩)).toArray),(10,.agg (eK ((fO b4 b5 b6 b10 b48 b59 b65).getD 10 ⟨0,0,0,0,0,undef⟩)).toArray),(11,.agg (eK ((fO b4 b5 b6 b10 b48 b59 b65).getD 11 ⟨0,0,0,0,0,undef⟩)).toArray),(12,.agg (eK ((fO b4 b5 b6 b10 b48 b59 b65).getD 12 ⟨0,0,0,0,0,undef⟩)).toArray),(13,.agg (eK ((fO b4 b5 b6 b10 b48 b59 b65).getD 13 ⟨0,0,0,0,0,undef⟩)).toArray),(14,.agg (eK ((fO b4 b5 b6 b10 b48 b59 b65).getD 14 ⟨0,0,0,0,0,undef⟩)).toArray),(15,.agg (eK ((fO b4 b5 b6 b10 b48 b59 b65).getD 15 ⟨0,0,0,0,0,undef⟩)).toArray),(16,.agg (eK ((fO b4 b5 b6 b10 b48 b59 b65).getD 16 ⟨0,0,0,0,0,undef⟩)).toArray),(17,.agg (eK ((fO b4 b5 b6 b10 b48 b59 b65).getD 17 ⟨0,0,0,0,0,undef⟩)).toArray),(18,.agg (eK ((fO b4 b5 b6 b10 b48 b59 b65).getD 18 ⟨0,0,0,0,0,undef⟩)).toArray),(19,.agg (eK ((fO b4 b5 b6 b10 b48 b59 b65).getD 19 ⟨0,0,0,0,0,undef⟩)).toArray),(20,.agg (eK ((fO b4 b5 b6 b10 b48 b59 b65).getD 20 ⟨0,0,0,0,0,undef⟩)).toArray),(21,.agg (eK ((fO b4 b5 b6 b10 b48 b59 b65).getD 21 ⟨0,0,0,0,0,undef⟩)).toArray),(22,.agg (eK ((fO b4 b5 b6 b10 b48 b59 b65).getD 22 ⟨0,0,0,0,0,undef⟩)).toArray),(23,.agg (eK ((fO b4 b5 b6 b10 b48 b59 b65).getD 23 ⟨0,0,0,0,0,undef⟩)).toArray),(24,.agg (eK ((fO b4 b5 b6 b10 b48 b59 b65).getD 24 ⟨0,0,0,0,0,undef⟩)).toArray),(25,.agg (eK ((fO b4 b5 b6 b10 b48 b59 b65).getD 25 ⟨0,0,0,0,0,undef⟩)).toArray),(26,.agg (eK ((fO b4 b5 b6 b10 b48 b59 b65).getD 26 ⟨0,0,0,0,0,undef⟩)).toArray),(27,.agg (eK ((fO b4 b5 b6 b10 b48 b59 b65).getD 27 ⟨0,0,0,0,0,undef⟩)).toArray),(28,.agg (eK ((fO b4 b5 b6 b10 b48 b59 b65).getD 28 ⟨0,0,0,0,0,undef⟩)).toArray),(29,.agg (eK ((fO b4 b5 b6 b10 b48 b59 b65).getD 29 ⟨0,0,0,0,0,undef⟩)).toArray),(30,.agg (eK ((fO b4 b5 b6 b10 b48 b59 b65).getD 30 ⟨0,0,0,0,0,undef⟩)).toArray),(31,.agg (eK ((fO b4 b5 b6 b10 b48 b59 b65).getD 31 ⟨0,0,0,0,0,undef⟩)).toArray),(32,.agg (eK ((fO b4 b5 b6 b10 b48 b59 b65).getD 32 ⟨0,0,0,0,0,undef⟩)).toArray),(33,.agg (eK ((fO b4 b5 b6 b10 b48 b59 b65).getD 33 ⟨0,0,0,0,0,undef⟩)).toArray),(34,.agg (eK ((fO b4 b5 b6 b10 b48 b59 b65).getD 34 ⟨0,0,0,0,0,undef⟩)).toArray),(35,.agg (eK ((fO b4 b5 b6 b10 b48 b59 b65).getD 35 ⟨0,0,0,0,0,undef⟩)).toArray),(36,.agg (eK ((fO b4 b5 b6 b10 b48 b59 b65).getD 36 ⟨0,0,0,0,0,undef⟩)).toArray),(37,.agg (eK ((fO b4 b5 b6 b10 b48 b59 b65).getD 37 ⟨0,0,0,0,0,undef⟩)).toArray),(38,.agg (eK ((fO b4 b5 b6 b10 b48 b59 b65).getD 38 ⟨0,0,0,0,0,undef⟩)).toArray),(39,.agg (eK ((fO b4 b5 b6 b10 b48 b59 b65).getD 39 ⟨0,0,0,0,0,undef⟩)).toArray),(40,.agg (eK ((fO b4 b5 b6 b10 b48 b59 b65).getD 40 ⟨0,0,0,0,0,undef⟩)).toArray)]) U pE U U aN aN) U ?_
 rintro _ _ ⟨b69,rfl,rfl⟩
 refine bY ?_
 exact EV U aJ ⟨_,_,_,U,U,aKV ..,aH2 (Bw aE) (Bw aE) (Bw aE) (Bw aE) (Bw aE) (Bw aE) (Bw aE)⟩
def aGr{i:Nat}(h:i/64=1):p1 i=⟨7,((i/8%8:Nat):Int),((i%8:Nat):Int),1,0⟩:=by unfold p1;rw[ag h]
def aQH{i:Nat}(h:i/64=2):p1 i=⟨10,((i/8%8:Nat):Int),((i%8:Nat):Int),1,0⟩:=by unfold p1;rw[ae I,ag h]
def aIj{i:Nat}(h:¬i/64=1)(h2:¬i/64=2):p1 i=⟨4,0,0,1,0⟩:=by unfold p1;rw[ae h,ae h2]
def aHT(b:Nat)(u1 u2 u3:AH)(P B:List cJ)(hP0:P.length=256)(hB0:B.length=256)(w:AI)(hb:w.heap[b]? =some (J (jS u1 u2 u3 P B) 208)):
  aG prog 113 [P_ b] w [b] (λv H=>v= .tuple #[]/\H=[(b,J (jS u1 u2 u3 tS tabB) 208)]):=by
 refine yM func113 U U U (St.lent1 hb) ?_
 refine eD ?_
 refine dK (σ:=Nat×List cJ×List cJ) [2,3,4,10,11,12,13,14,15,16,17,18,19,20,21,22,23,24,25,26,27,28,29,30,31,32,33,34,35,36,37,38,39,40,41,42,43,44,45,46,47,48,49,50,51,52,53,54,55,56,57,58,59] (λs=>[(10,.int .i64 s.1)]) (λs=>[(b,J (jS u1 u2 u3 s.2.1 s.2.2) 208)]) (λs=>s.1<=256/\yV p1 s.2.1 s.1/\yV b1 s.2.2 s.1) (λs=>256-s.1) (0,P,B) ?_ ?_ ?_ ?_
 ·exact⟨aq _,.start _ hP0,.start _ hB0⟩
 ·exact .cons U .nil
 ·exact λ_ h=>h
 rintro⟨i,P,B⟩ y1 ⟨hi,hF,hG⟩
 dsimp only at hi hF hG⊢
 refine cT ?_
 refine KC (λh1 h1n=>?_) (λh1 h1n=>?_)
 ·refine bW ?_
  have hi':i<256:=by(try simp only[ak,ai,cj,av,co,aw,ne_eq]at *);omega
  have hP:=hF.len
  have hB:=hG.len
  refine bY ?_
  refine RS ?_
  refine aX ?_
  refine RY (iU (s:=5) i U U U U aL) U (W (hQ (vs:=cO ⟨4,0,0,1,0⟩) 0 U U U U U U Ge) U ?_)
  simp only[al,bg]
  rw[show 0+3+i*5=3+i*5 by omega,Bu hP hi']
  refine aX ?_
  have hP:(P.set i ⟨4,0,0,1,0⟩).length=256:=by rw[c7];exact hF.len
  refine aX ?_
  refine RW (v:=(.int .i64 ((i/8:Nat):Int))) (jB U U aD) U (M _ (Zw (k:=3) aD)) (RW (v:=(.int .i64 ((i/8%8:Nat):Int))) U U (M _ (aBN I)) (bG ?_))
  refine RW (v:=(.int .i64 ((i%8:Nat):Int))) U U (M _ (aBN I)) (eV ?_)
  refine DR [] (bQ [0,2,6,8,14,16,20,22,5,10,13,18,24,27]) ?_
  refine bY ?_
  refine DW (v:=(.int .i64 ((i/64:Nat):Int))) U (jB U U aD) U (M _ (Zw (k:=6) aD)) (eV ?_)
  refine DX U (fY (z:=[.int .i64 0]) (l:=[.int .i64 17,.int .i64 44,.int .i64 45,.int .i64 46]) (ps:=[(0,.int .i64 17),(1,.int .i64 44),(2,.int .i64 45),(3,.int .i64 46)]) U U U U aN aN) U aY ?_
  rintro _ _ ⟨b26,rfl,rfl⟩
  refine DY U (fV (s:=1) (i/64) U U U U I) U (DZ U (aW U U (bT (.head _) (aGA (i/64) I))) U aY (DY U (qJ U U U U) U (DY U (iU (s:=5) i U U U U aL) U ?_)))
  refine DZ U (hQ (vs:=cO (b1 i)) 1 U U U U U U Ge) U aY ?_
  simp only[al,bg]
  rw[show 0+1283+i*5=1283+i*5 by omega,aO9 hP hB hi']
  refine eV ?_
  refine RW (v:=(.int .i64 ((i/64:Nat):Int))) (jB U U aD) U (M _ (Zw (k:=6) aD)) (gL ?_)
  refine KC (λh2 h2n=>?_) (λh2 h2n=>?_)
  ·have hB:(B.set i (b1 i)).length=256:=by rw[c7];exact hG.len
   refine cT ?_
   refine RS ?_
   refine aX ?_
   refine RY (iU (s:=5) i U U U U aL) U (W (hQ (vs:=cO ⟨7,((i/8%8:Nat):Int),((i%8:Nat):Int),1,0⟩) 1 U U U U U U Ge) U ?_)
   simp only[al,bg]
   rw[show 0+3+i*5=3+i*5 by omega,Bu hP hi',List.set_set]
   refine aX ?_
   refine RW (v:=(.int .i64 ((i+1:Nat):Int))) U U (M _ (eU I)) (aX ?_)
   rw[<-aGr (i:=i) aL]
   exact⟨(i+1,_,_),⟨gO,hF.step hi',hG.step hi'⟩,gO,.cons U .nil,bB,λ_ h=>h.sub (ce _ _)⟩
  refine cT ?_
  refine KC (λh3 h3n=>?_) (λh3 h3n=>?_)
  ·have hB:(B.set i (b1 i)).length=256:=by rw[c7];exact hG.len
   refine cT ?_
   refine RS ?_
   refine aX ?_
   refine RY (iU (s:=5) i U U U U aL) U (W (hQ (vs:=cO ⟨10,((i/8%8:Nat):Int),((i%8:Nat):Int),1,0⟩) 1 U U U U U U Ge) U ?_)
   simp only[al,bg]
   rw[show 0+3+i*5=3+i*5 by omega,Bu hP hi',List.set_set]
   refine aX ?_
   refine RW (v:=(.int .i64 ((i+1:Nat):Int))) U U (M _ (eU I)) (aX ?_)
   rw[<-aQH (i:=i) aL]
   exact⟨(i+1,_,_),⟨gO,hF.step hi',hG.step hi'⟩,gO,.cons U .nil,bB,λ_ h=>h.sub (ce _ _)⟩
  refine aX ?_
  refine RW (v:=(.int .i64 ((i+1:Nat):Int))) U U (M _ (eU I)) (aX ?_)
  rw[<-aIj (i:=i) aL aL]
  exact⟨(i+1,_,_),⟨gO,hF.step hi',hG.step hi'⟩,gO,.cons U .nil,bB,λ_ h=>h.sub (ce _ _)⟩
 refine aX ?_
 obtain rfl:256=i:=by(try simp only[ak,ai,cj,av,co,aw,ne_eq]at *);omega
 obtain rfl:=hF.all
 obtain rfl:=hG.all
 have hP:=hF.len
 have hB:=hG.len
 refine aX ?_
 refine RS ?_
 refine aX ?_
 refine RY (iU (s:=5) 118 U U U U aD) U (W (hQ (vs:=cO ⟨3,0,0,1,0⟩) 0 U U U U U U Ge) U ?_)
 simp only[al]
 rw[show 0+3+118*5=3+118*5 from rfl,Bu hP aD]
 refine eV ?_
 refine RX (eN K_ U (aS aKz)) U ?_
 rintro _ _ ⟨_,⟨b65,L,GL,rfl,rfl,hLl,hok⟩,rfl⟩
 refine eA (H':=(b,J (jS u1 u2 u3 tX tabB) 208)::((b65,J (aM eK L) 307)::GL)) (λ_ h=>St.fl [((b65,J (aM eK L) 307)::GL),[_]] [1,0] U h) ?_
 refine RY gT U (bY ?_)
 refine dK (σ:=Nat) [6,7,8,67,68,69,70,71,72,73,74,75,76,77,78,79,80,81,82,83,84,85,86,87,88,89,90,91,92,93,94,95,96,97,98,99,100,101,102,103] (λk=>[(67,.int .i64 k)]) (λk=>(b,J (jS u1 u2 u3 ((PL.take k).foldl putQ tX) tabB) 208)::((b65,J (aM eK L) 307)::GL)) (λk=>k<=41) (λk=>41-k) 0 ?_ ?_ ?_ ?_
 ·exact aq _
 ·exact .cons U .nil
 ·exact λ_ h=>h
 intro k y14 hk
 refine cT ?_
 refine KC (λh4 h4n=>?_) (λh4 h4n=>?_)
 ·refine eV ?_
  obtain⟨q,hq⟩:∃q,PL[k]? =some q:=⟨_,Vk (by rw[aPy];(try simp only[ak,ai,cj,av,co,aw,ne_eq]at *);omega)⟩
  obtain⟨⟨pa,pb,pm,pk,ps,px⟩,hp,e1,e2,e3,e4,e5,e6⟩:=hok.get hq
  dsimp only at e1 e2 e3 e4 e5 e6
  subst e1 e2 e3 e4 e5
  obtain⟨hq1,hq2,hq3,hq4⟩:=aQS (aI8 hq)
  have hP2:((PL.take k).foldl putQ tX).length=256:=by rw[aCR,aBE]
  have e7:(q.x=none/\px= .slice none 0 0)\/∃xs bx,q.x=some xs/\px= .slice (Q_ bx) xs.length xs.length/\VV.RowsIn GL bx 0 (xs.map (.int .i64)):=by
   cases hx:q.x with
   |none=>rw[hx]at e6;exact .inl ⟨rfl,e6⟩
   |some xs=>rw[hx]at e6;obtain⟨bx,h1,h2⟩:=e6;exact .inr ⟨xs,bx,rfl,h1,h2⟩
  rcases e7 with⟨hx,rfl⟩|⟨xs,bx,hx,rfl,hrx⟩
  ·refine bG ?_
   refine RY (fV (s:=6) k U U U U aL) U (W (bJ U U U (λw hw=>(aI (.tail _ (.head _)) w hw).nth' aCV hp)) U (RX (gJ U) U ?_))
   rintro _ _ ⟨b6,rfl,rfl⟩
   refine W iF U (mG ?_)
   refine dK (σ:=Nat) [7,8,73,74,75,76,77,78,79,80,81,82,83,84,85,86,87,88,89,90,91,92,93,94,95,96,97,98,99,100,101,102] (λi=>[(73,.int .i64 i)]) (λi=>(b,J (jS u1 u2 u3 (xI q ((PL.take k).foldl putQ tX) i) tabB) 208)::(b6,J (eK ⟨q.at_,q.by_,q.many,q.kind,q.size,.slice none 0 0⟩) 307)::((b65,J (aM eK L) 307)::GL)) (λi=>i<=q.many) (λi=>q.many-i) 0 ?_ ?_ ?_ ?_
   ·exact aq _
   ·exact .cons U .nil
   ·exact λ_ h=>by simp only[aEi];exact St.fl [[_],[_],((b65,J (aM eK L) 307)::GL)] [1,0,2] rfl h
   intro i y17 hi
   refine cT ?_
   refine KC (λh5 h5n=>?_) (λh5 h5n=>?_)
   ·refine jJ ?_
    refine RS ?_
    refine RX (gJ U) U ?_
    rintro _ _ ⟨b8,rfl,rfl⟩
    refine W iF U (eD ?_)
    refine fX false U U U U ?_
    refine bY ?_
    have hP:(xI q ((PL.take k).foldl putQ tX) i).length=256:=by rw[E4];exact hP2
    refine DR [3,4,5,6,8,9,10] (bQ [0,2,4,6,8,10,12,14,16,18,20,22,25]) ?_
    refine eD ?_
    refine DW (v:=(.int .i64 ((q.by_*i:Nat):Int))) U U U (M _ aEu) (DW (v:=(.int .i64 ((q.at_+q.by_*i:Nat):Int))) U U U (M _ aCe) (fZ U U U U Ke U U ?_))
    refine aX ?_
    refine DY U (iU (s:=5) (q.at_+q.by_*i) U U U U (hq1 i aL)) U (DZ U (hQ (vs:=cO (At q i)) 1 U U (by rw[aJZ hx];rfl) U U U aAq) U aY ?_)
    simp only[al,bg]
    rw[show 0+3+(q.at_+q.by_*i)*5=3+(q.at_+q.by_*i)*5 by omega,Bu hP (hq1 i aL),<-C6]
    refine aX ?_
    refine RW (v:=(.int .i64 ((i+1:Nat):Int))) U U (M _ (eU I)) (aX ?_)
    exact⟨i+1,gO,gO,.cons U .nil,bB,λ_ h=>h.sub (ce _ _)⟩
   refine aX ?_
   refine RW (v:=(.int .i64 ((k+1:Nat):Int))) U U (M _ (eU I)) (aX ?_)
   obtain rfl:q.many=i:=by(try simp only[ak,ai,cj,av,co,aw,ne_eq]at *);omega
   exact⟨k+1,gO,gO,.cons U .nil,bB,λ_ h=>aB5⟩
  refine bG ?_
  refine RY (fV (s:=6) k U U U U aL) U (W (bJ U U U (λw hw=>(aI (.tail _ (.head _)) w hw).nth' aCV hp)) U (RX (gJ U) U ?_))
  rintro _ _ ⟨b6,rfl,rfl⟩
  refine W iF U (mG ?_)
  refine dK (σ:=Nat) [7,8,73,74,75,76,77,78,79,80,81,82,83,84,85,86,87,88,89,90,91,92,93,94,95,96,97,98,99,100,101,102] (λi=>[(73,.int .i64 i)]) (λi=>(b,J (jS u1 u2 u3 (xI q ((PL.take k).foldl putQ tX) i) tabB) 208)::(b6,J (eK ⟨q.at_,q.by_,q.many,q.kind,q.size,.slice (Q_ bx) xs.length xs.length⟩) 307)::((b65,J (aM eK L) 307)::GL)) (λi=>i<=q.many) (λi=>q.many-i) 0 ?_ ?_ ?_ ?_
  ·exact aq _
  ·exact .cons U .nil
  ·exact λ_ h=>by simp only[aEi];exact St.fl [[_],[_],((b65,J (aM eK L) 307)::GL)] [1,0,2] rfl h
  intro i y17 hi
  refine cT ?_
  refine KC (λh6 h6n=>?_) (λh6 h6n=>?_)
  ·refine jJ ?_
   refine RS ?_
   refine RX (gJ U) U ?_
   rintro _ _ ⟨b8,rfl,rfl⟩
   refine W iF U (eD ?_)
   refine fX true U U U U ?_
   refine eD ?_
   refine RY (fV (s:=1) i U U U U aBj) U (W (aW U U (λw hw=>by rw[fw];exact(hrx.row (λx hx=>by repeat(first|exact hx|refine .tail _ ?_|refine bL _ ?_)) w hw) i _ (aDR aBj))) U ?_)
   refine bG ?_
   refine W iF U (bG ?_)
   have hP:(xI q ((PL.take k).foldl putQ tX) i).length=256:=by rw[E4];exact hP2
   refine DR [3,4,5,6,8,9,10] (bQ [0,2,4,6,8,10,12,14,16,18,20,22,25]) ?_
   refine eD ?_
   refine DW (v:=(.int .i64 ((q.by_*i:Nat):Int))) U U U (M _ aEu) (DW (v:=(.int .i64 ((q.at_+q.by_*i:Nat):Int))) U U U (M _ aCe) (fZ U U U U Ke U U ?_))
   refine aX ?_
   refine DY U (iU (s:=5) (q.at_+q.by_*i) U U U U (hq1 i aL)) U (DZ U (hQ (vs:=cO (At q i)) 1 U U (by rw[aLn hx];rfl) U U U aAq) U aY ?_)
   simp only[al,bg]
   rw[show 0+3+(q.at_+q.by_*i)*5=3+(q.at_+q.by_*i)*5 by omega,Bu hP (hq1 i aL),<-C6]
   refine aX ?_
   refine RW (v:=(.int .i64 ((i+1:Nat):Int))) U U (M _ (eU I)) (aX ?_)
   exact⟨i+1,gO,gO,.cons U .nil,bB,λ_ h=>h.sub (ce _ _)⟩
  refine aX ?_
  refine RW (v:=(.int .i64 ((k+1:Nat):Int))) U U (M _ (eU I)) (aX ?_)
  obtain rfl:q.many=i:=by(try simp only[ak,ai,cj,av,co,aw,ne_eq]at *);omega
  exact⟨k+1,gO,gO,.cons U .nil,bB,λ_ h=>aB5⟩
 refine aX ?_
 obtain rfl:41=k:=by(try simp only[ak,ai,cj,av,co,aw,ne_eq]at *);omega
 rw[show PL.take 41=PL from rfl]
 have hQl:(PL.foldl putQ tX).length=256:=by rw[aCR,aBE]
 obtain⟨PQ,hPQ⟩:∃X,PL.foldl putQ tX=X:=⟨_,rfl⟩
 rw[hPQ]
 rw[hPQ]at hQl
 refine eV ?_
 refine dK (σ:=Nat) [9,104,105,106,107,108,109,110,111,112,113,114,115,116,117,118] (λy=>[(104,.int .i64 y)]) (λy=>(b,J (jS u1 u2 u3 (zJ PQ y) tabB) 208)::((b65,J (aM eK L) 307)::GL)) (λy=>y<=8) (λy=>8-y) 0 ?_ ?_ ?_ ?_
 ·exact aq _
 ·exact .cons U .nil
 ·exact λ_ h=>by simp only[aQY];exact h
 intro y y26 hy
 refine cT ?_
 refine KC (λh7 h7n=>?_) (λh7 h7n=>?_)
 ·refine mG ?_
  have hy8:y<8:=by(try simp only[ak,ai,cj,av,co,aw,ne_eq]at *);omega
  have hP:(zJ PQ y).length=256:=by rw[aLp];exact hQl
  have hB:tabB.length=256:=by simp[tabB]
  refine bY ?_
  refine RW (v:=(.int .i64 ((8*y:Nat):Int))) U U (M _ Zq) (RW (v:=(.int .i64 ((199+8*y:Nat):Int))) U U (M _ Zq) (bG ?_))
  refine RW (v:=(.int .i64 ((8*y:Nat):Int))) U U (M _ Zq) (RW (v:=(.int .u16 ((8*y:Nat):Int))) U U (M _ (tW I I)) (RS ?_))
  refine aX ?_
  refine RY (iU (s:=5) (199+8*y) U U U U aL) U (W (hQ (vs:=cO ⟨28,0,0,1,((8*y:Nat):Int)⟩) 0 U U U U U U Ge) U ?_)
  simp only[al]
  rw[show 0+3+(199+8*y)*5=3+(199+8*y)*5 by omega,Bu hP I,<-aB8]
  refine aX ?_
  refine RW (v:=(.int .i64 ((y+1:Nat):Int))) U U (M _ (eU I)) (aX ?_)
  exact⟨y+1,gO,gO,.cons U .nil,bB,λ_ h=>h⟩
 refine bG ?_
 obtain rfl:8=y:=by(try simp only[ak,ai,cj,av,co,aw,ne_eq]at *);omega
 rw[<-hPQ,aLz]
 exact EN (.cons_cons _ (ed _)) ⟨U,U⟩
def disable(w:AI):(callFunc 230 #[]).run prog w= .ok (.value (.tuple #[])) w:=run_call_mark0 func230 aN aN aN .disable aN w
def enable(w:AI):(callFunc 232 #[]).run prog w= .ok (.value (.tuple #[])) w:=run_call_mark0 func232 aN aN aN .enable aN w
def acquire(a:Addr)(w:AI):(callFunc 233 #[.pointer (some a)]).run prog w= .ok (.value (.tuple #[])) w:=run_call_marked func233 aN aN aN .acquire aN a w
def releaseMerge(a:Addr)(w:AI):(callFunc 235 #[.pointer (some a)]).run prog w= .ok (.value (.tuple #[])) w:=run_call_marked func235 aN aN aN .releaseMerge aN a w
def aGs(a:Addr)(x:AH)(u:FrameMode)(w:AI)(hc:w.cell? a=some x)(hz:w.frozen? a=false):
  CallsD prog 57 #[.pointer (some a),.bool true] u w λe u' w'=>u'=u/\(e= .returned (.tuple #[])/\w'=w.drew.setCell a (.int .u32 1)):=by
 have hc':w.drew.cell? a=some x:=by go_simp
 have hz':w.drew.frozen? a=false:=by go_simp
 have hst:=run_call_store (P:=prog) func106 aN aN aN aN (k:= .u32) (y:=1) hc' hz'
 go_enter_d func57,Tryz.ntmps57
 go_wp2
 go_region_calls
 all_goals (go_end0;exact⟨rfl,rfl⟩)
def aQK(a:Addr)(u:FrameMode)(w:AI)(hc:w.cell? a=some (.int .i32 1))(hz:w.frozen? a=false):
  CallsD prog 188 #[.pointer (some a)] u w λe u' w'=>u'=u/\(e= .returned (.tuple #[])/\w'=w.setCell a (.int .i32 0)):=by
 have hd:=disable
 have he:=enable
 have hr:=releaseMerge
 have hadd:=run_call_add (P:=prog) func236 aN aN aN .i32 aN (y:= -1) (s:=0) hc hz (by simp[go_sem];rfl)
 have hcv:=run_convert_to_unsafe (P:=prog) (src:=384) (dst:=379) Tryz.underlying384 Tryz.underlying379 aN hc
 go_enter_d func188,Tryz.ntmps188
 go_wp2
 go_end0
 go_wp2
 go_end0
 exact⟨U,U⟩
def aGH(a:Addr)(w:AI)(hc:w.cell? a=some (.int .i32 0))(hz:w.frozen? a=false):
  Calls prog 187 #[.pointer (some a)] w λe w'=>e= .returned (.tuple #[])/\w'=w.setCell a (.int .i32 1):=by
 have hd:=disable
 have he:=enable
 have ha:=acquire
 have hcas:=run_call_cas_hit (P:=prog) func231 aN aN aN .i32 aN (y:=1) hc hz
 have hc':(w.setCell a (.int .i32 1)).cell? a=some (.int .i32 1):=World.cell?_setCell_same w a _ hc
 have hcv:=run_convert_to_unsafe (P:=prog) (src:=384) (dst:=379) Tryz.underlying384 Tryz.underlying379 aN hc'
 go_enter func187,Tryz.ntmps187
 go_wp2
 first|go_end0|(simp only[Exit.inBlock,Exit.then];refine bodyPost_ret (results_none rfl _ _ _) rfl ?_)|refine bodyPost_ret (results_none rfl _ _ _) rfl ?_
 go_wp2
 go_end0
 exact⟨U,U⟩
set_option maxHeartbeats 1600000 in
def aNR(b:Nat)(w:AI)(F:AI->Prop)
  (h0:w.cell? ⟨b,0,none⟩=some (.int .u32 0)) (h1:w.cell? ⟨b,0+1,none⟩=some (.int .i32 0)) (f1:w.frozen? ⟨b,0+1,none⟩=false)
  (hf:Calls prog 113 #[P_ b] (w.setCell ⟨b,0+1,none⟩ (.int .i32 1)) λe w'=>e= .returned (.tuple #[])/\F w')
  (hF:∀w',F w'->w'.cell? ⟨b,0,none⟩=some (.int .u32 0)/\w'.cell? ⟨b,0+1,none⟩=some (.int .i32 1)/\w'.frozen? ⟨b,0,none⟩=false/\w'.frozen? ⟨b,0+1,none⟩=false):
  Calls prog 154 #[P_ b,.func (.func 113) #[P_ b] #[]] w λe w'=>e= .returned (.tuple #[])/\
   ∃w2,F w2/\w'=(w2.drew.setCell ⟨b,0,none⟩ (.int .u32 1)).setCell ⟨b,0+1,none⟩ (.int .i32 0):=by
 have hl:=run_call_load (P:=prog) func186 aN aN aN .u32 aN (w:=w.setCell ⟨b,0+1,none⟩ (.int .i32 1)) (a:=⟨b,0,none⟩) (x:=0) ((World.cell?_setCell_other _ ⟨b,0+1,none⟩ ⟨b,0,none⟩ _ aP).trans h0)
 have hnot:∀(x:Bool) (w:AI),(Op.unary .not (.bool x)).run prog w= .ok (.bool (!x)) w:=λ_ _=>rfl
 go_enter_defers func154,Tryz.ntmps154
 go_wp2_with (go_at_call 187;refine(aGH ⟨b,0+1,none⟩ _ (by go_simp) (by go_simp)).mono ?_;rintro e w' ⟨rfl,rfl⟩)
 go_wp2_with (first|(go_at_call 113;refine hf.mono ?_;rintro e w' ⟨rfl,hw2⟩)|(go_at_call 153;go_in))
 obtain⟨c0,c1,z0,z1⟩:=hF _ hw2
 refine leaves_cons (f:=57) (args:= #[P_ b,.bool true]) aP (by simp[go_sem]) ?_
 refine(aGs ⟨b,0,none⟩ (.int .u32 0) .returning _ c0 z0).mono ?_
 rintro e u' w'' ⟨rfl,rfl,rfl⟩
 refine leaves_cons (f:=188) (args:= #[.pointer (some ⟨b,0+1,none⟩)]) (by simp[settle]) (by simp[go_sem]) ?_
 refine(aQK ⟨b,0+1,none⟩ _ _ ?_ ?_).mono ?_
 ·refine(World.cell?_setCell_other _ ⟨b,0,none⟩ ⟨b,0+1,none⟩ _ aP).trans ?_
  rw[World.cell?_drew]
  exact c1
 ·simpa using z1
 rintro e u' w'' ⟨rfl,rfl,rfl⟩
 simp[Leaves,settle,results,Tryz.results154]
 exact⟨_,hw2,U⟩
def tT(b:Nat)(u3:AH):aF:=[(b,J (jS (.int .u32 1) (.int .i32 0) u3 tS tabB) 208)]
def kJ(b:Nat)(u3:AH)(H:aF):Prop:=
 (∃P B,P.length=256/\B.length=256/\H=[(b,J (jS (.int .u32 0) (.int .i32 0) u3 P B) 208)])\/H=tT b u3
def aId(b:Nat)(d:Int)(w:AI)(h0:w.cell? ⟨b,0,none⟩=some (.int .u32 d)):
  Calls prog 153 #[P_ b] w λe w'=>e= .returned (.bool (d != 0))/\w'=w:=by
 have hl:=run_call_load (P:=prog) func186 aN aN aN .u32 aN h0
 go_enter func153,Tryz.ntmps153
 go_wp2
 go_ret
 exact⟨U,U⟩
def aAK(b:Nat)(d:Int)(w:AI)(h0:w.cell? ⟨b,0,none⟩=some (.int .u32 d)):
  aG prog 153 [P_ b] w [] (V_ (.bool (d != 0))):=by
 refine Calls.mono (aId b d w h0) ?_
 rintro e w' ⟨rfl,rfl⟩
 exact⟨_,[],U,St.refl _,U,U⟩
def aIZ(b:Nat)(u3:AH)(P B:List cJ)(hP:P.length=256)(hB:B.length=256)(w:AI)(hb:w.heap[b]? =some (J (jS (.int .u32 0) (.int .i32 0) u3 P B) 208)):
  aG prog 154 [P_ b,.func (.func 113) #[P_ b] #[]] w [b] (λv H=>v= .tuple #[]/\H=tT b u3):=by
 have hst:=St.lent1 hb
 have h1:St w [b] [(b,J (jS (.int .u32 0) (.int .i32 1) u3 P B) 208)] (w.setCell ⟨b,0+1,none⟩ (.int .i32 1)):=hst.setCell (off:=0+1) (.int .i32 1)
 have hb1:=h1.holds _ (.head _)
 refine Calls.mono (aNR b w (λw2=>St (w.setCell ⟨b,0+1,none⟩ (.int .i32 1)) [b] [(b,J (jS (.int .u32 0) (.int .i32 1) u3 tS tabB) 208)] w2)
  (by rw[tI hb];rfl) (by rw[tI hb];rfl) (Lp hb) (Calls.mono (aHT b _ _ _ P B hP hB _ hb1) ?_) ?_) ?_
 ·rintro e w' ⟨v,H,rfl,h2,rfl,rfl⟩
  exact⟨U,h2⟩
 ·intro w2 h2
  have hb2:=h2.holds _ (.head _)
  exact⟨by rw[tI hb2];rfl,by rw[tI hb2];rfl,Lp hb2,Lp hb2⟩
 ·rintro e w' ⟨rfl,w2,h2,rfl⟩
  have hA:=h1.after h2
  have hC:=(hA.drew.setCell (off:=0) (.int .u32 1)).setCell (off:=0+1) (.int .i32 0)
  exact⟨_,_,U,hC,U,U⟩
def pX(mb ub rb tb ob oc:Nat)(sp:AA)(plan:AH)(n:Nat):Ad:={mb:=mb,ub:=ub,rb:=rb,ob:=ob,oc:=oc,sp:=sp,rc:=n,rs:=[],plan:=plan,tab:=P_ tb}
def aDv :CR:=⟨1,176,0,19,0,216,1,77,65534,256⟩
def newM0(rom:AB):Mm:={cpu:=⟨r0,false,false,false,false⟩,bk:=⟨0,0,0,false,false,0,0,0⟩,ck:=⟨0,0,0,0,0,false,false,0,0,0,0,0⟩,tm:=⟨0,0,0,0,false⟩,pd:=⟨0,0⟩,pt:=⟨0,0,0,0,0,0⟩,cp:=⟨0,0⟩,bd:=bdZ,flags:=0,lets:=0,steps:=0,cycles:=0,hd:=hdH rom,u:=jV,rom:=rom,ram:=List.replicate (hdH rom).ram.toNat 0,work:=List.replicate 8192 0,high:=List.replicate 127 0,acc:=[]}
def J2(rom:AB):Mm:={newM0 rom with bk:=⟨(hdH rom).kind,(hdH rom).banks,(hdH rom).ram,decide ((hdH rom).kind=0),false,1,0,255⟩}
def lM(rom:AB):Mm:={J2 rom with cpu:=⟨aDv,false,false,false,false⟩}
def Px(A:Ad)(acc:AH)(m:Mm)(n:Nat):AA:=mB m++(cBd m.bd++(([.int .u8 m.flags,.int .u8 m.lets,.int .u64 m.steps,.int .u64 m.cycles,.slice (Q_ A.ob) m.rom.length A.oc,A.plan]++(cHd m.hd++[A.tab,P_ A.ub,.slice (Q_ A.rb) n A.rc]))++(m.work.map (.int .u8)++(m.high.map (.int .u8)++[acc]))))
def cMmR_eq{A:Ad}{acc:AH}{m:Mm}{n:Nat}(h:m.ram.length=n):Px A acc m n=cMm A acc m:=by subst h;rfl
def Mr(rom:AB):dV (newM0 rom):=⟨bdZ_wf.ln,ct,ct⟩
def Yb(rom:AB):(hdH rom).ram=((hdH rom).ram.toNat:Int)/\(hdH rom).ram.toNat<=131072:=by
 have h:0<=(hdH rom).ram/\(hdH rom).ram<=131072:=aM6 _ _
 omega
def kJ.one{b:Nat}{u3:AH}{H:aF}(h:kJ b u3 H):∃o,H=[(b,o)]:=by
 rcases h with⟨P,B,_,_,rfl⟩|rfl
 ·exact⟨_,U⟩
 ·exact⟨_,U⟩
def vnf_int{k:AM}{x y:Int}(h:x=y):bA (.int k x)=some (.int k y):=by rw[h];rfl
structure Mm.Fr(R m:Mm):Prop where
 rom:m.rom=R.rom
 hd:m.hd=R.hd
 ram:m.ram.length=R.ram.length
 kind:m.bk.kind=R.bk.kind
 banks:m.bk.banks=R.bk.banks
 size:m.bk.ram=R.bk.ram
section
variable {R m:Mm}
def Mm.Fr.refl(m:Mm):Mm.Fr m m:=⟨rfl,rfl,rfl,rfl,rfl,rfl⟩
def Mm.Fr.ask(h:Mm.Fr R m)(k:Int)(is:Bool):Mm.Fr R (askM k is m):=by unfold askM;split;exact⟨h.rom,h.hd,h.ram,h.kind,h.banks,h.size⟩;exact h
def Mm.Fr.save(h:Mm.Fr R m)(a x:Int):Mm.Fr R (nY a x m):=by
 unfold nY
 split
 ·exact⟨h.rom,h.hd,h.ram,h.kind,h.banks,h.size⟩
 split
 ·exact h
 ·exact⟨h.rom,h.hd,by show(m.ram.set _ _).length=_;rw[c7];exact h.ram,h.kind,h.banks,h.size⟩
def Mm.Fr.setDevice(h:Mm.Fr R m)(a x:Int):Mm.Fr R (setDeviceM a x m):=by
 unfold setDeviceM
 split
 ·exact Mm.Fr.ask (m:={m with pd:=rD x m.pd}) ⟨h.rom,h.hd,h.ram,h.kind,h.banks,h.size⟩ _ _
 repeat' split
 all_goals first|exact h|exact⟨h.rom,h.hd,h.ram,h.kind,h.banks,h.size⟩
def Mm.Fr.poke(h:Mm.Fr R m)(a x:Int):Mm.Fr R (pokeM a x m):=by
 unfold pokeM
 split
 ·obtain⟨h1,h2,h3⟩:=V0 a x m.bk
  unfold wQ
  split<;>exact⟨h.rom,h.hd,h.ram,by first|exact h1.trans h.kind,by first|exact h2.trans h.banks,by first|exact h3.trans h.size⟩
 split
 ·exact Mm.Fr.ask (m:={m with u:=lF m.u a x}) ⟨h.rom,h.hd,h.ram,h.kind,h.banks,h.size⟩ _ _
 split
 ·exact h.save a x
 split
 ·exact⟨h.rom,h.hd,h.ram,h.kind,h.banks,h.size⟩
 split
 ·exact h
 ·exact h.setDevice a x
def Mm.Fr.cycle(h:Mm.Fr R m):Mm.Fr R (cycleM m):=by
 have h1:Mm.Fr R (cyc1 m):=Mm.Fr.ask (m:={m with cycles:=(m.cycles+1)%18446744073709551616,tm:=vE m.tm}) ⟨h.rom,h.hd,h.ram,h.kind,h.banks,h.size⟩ _ _
 have h2:Mm.Fr R (cyc2 (cyc1 m)):=Mm.Fr.ask (m:={cyc1 m with pt:=tickPt (cyc1 m).pt}) ⟨h1.rom,h1.hd,h1.ram,h1.kind,h1.banks,h1.size⟩ _ _
 have h3:Mm.Fr R (cyc3 (cyc2 (cyc1 m))):=by unfold cyc3;split;exact⟨h2.rom,h2.hd,h2.ram,h2.kind,h2.banks,h2.size⟩;exact h2
 have h4:Mm.Fr R (cyc4 (cyc3 (cyc2 (cyc1 m)))):=⟨h3.rom,h3.hd,h3.ram,h3.kind,h3.banks,h3.size⟩
 have h5:Mm.Fr R (cyc5 (cyc4 (cyc3 (cyc2 (cyc1 m))))):=Mm.Fr.ask (Mm.Fr.ask (m:={cyc4 (cyc3 (cyc2 (cyc1 m)))with u:=tickU (cyc4 (cyc3 (cyc2 (cyc1 m)))).u}) ⟨h4.rom,h4.hd,h4.ram,h4.kind,h4.banks,h4.size⟩ _ _) _ _
 show Mm.Fr R (qU _)
 unfold qU;split;exact⟨h5.rom,h5.hd,h5.ram,h5.kind,h5.banks,h5.size⟩;exact h5
def Mm.Fr.note(h:Mm.Fr R m)(k a x:Int):Mm.Fr R (xK k a x m):=⟨h.rom,h.hd,h.ram,h.kind,h.banks,h.size⟩
end
structure Mm.Dec(m:Mm):Prop where
 good:m.u.Good
 dy:m.ck.Dy
section
variable {m:Mm}
def Mm.Dec.ask(h:m.Dec)(k:Int)(is:Bool):(askM k is m).Dec:=by unfold askM;split;exact⟨h.good,h.dy⟩;exact h
def Ck.Dy.hold{c:Ck}(h:c.Dy):(Bx c).Dy:=h
def Mm.Dec.poke(h:m.Dec)(a:Int){x:Int}(hx:0<=x/\x<256):(pokeM a x m).Dec:=by
 unfold pokeM
 split
 ·unfold wQ;split
  ·exact⟨h.good,h.dy.hold⟩
  ·exact⟨h.good,h.dy⟩
 split
 ·exact Mm.Dec.ask (m:={m with u:=lF m.u a x}) ⟨h.good.write hx,h.dy⟩ _ _
 split
 ·unfold nY
  split
  ·exact⟨h.good,h.dy.write _ hx⟩
  split
  ·exact h
  ·exact⟨h.good,h.dy⟩
 split
 ·exact⟨h.good,h.dy⟩
 split
 ·exact h
 unfold setDeviceM
 split
 ·exact Mm.Dec.ask (m:={m with pd:=rD x m.pd}) ⟨h.good,h.dy⟩ _ _
 repeat' split
 all_goals first|exact h|exact⟨h.good,h.dy⟩
def Mm.Dec.cycle(h:m.Dec)(hw:m.Wf):(cycleM m).Dec:=by
 have w1:=hw.cyc1W
 have w2:=w1.cyc2W
 have h1:(cyc1 m).Dec:=Mm.Dec.ask (m:={m with cycles:=(m.cycles+1)%18446744073709551616,tm:=vE m.tm}) ⟨h.good,h.dy⟩ _ _
 have h2:(cyc2 (cyc1 m)).Dec:=Mm.Dec.ask (m:={cyc1 m with pt:=tickPt (cyc1 m).pt}) ⟨h1.good,h1.dy⟩ _ _
 have h3:(cyc3 (cyc2 (cyc1 m))).Dec:=by
  unfold cyc3;split
  ·exact⟨h2.good.sprite _ (Ja (m:={cyc2 (cyc1 m)with cp:=tickCp (cyc2 (cyc1 m)).cp}) (w2.cp_ w2.cp.tick) _),h2.dy⟩
  ·exact h2
 have h4:(cyc4 (cyc3 (cyc2 (cyc1 m)))).Dec:=⟨h3.good,h3.dy⟩
 have h5:(cyc5 (cyc4 (cyc3 (cyc2 (cyc1 m))))).Dec:=Mm.Dec.ask (Mm.Dec.ask (m:={cyc4 (cyc3 (cyc2 (cyc1 m)))with u:=tickU (cyc4 (cyc3 (cyc2 (cyc1 m)))).u}) ⟨h4.good.tick,h4.dy⟩ _ _) _ _
 show(qU _).Dec
 unfold qU;split;exact⟨h5.good,h5.dy.tick⟩;exact h5
end
structure MmG(R:Mm)(D:Prop)(n:Nat)(m:Mm):Prop where
 ok:iS n m
 fr:Mm.Fr R m
 dec:D->m.Dec
def Ni(R:Mm)(D:Prop):aRT Mm where
 toaRU:=fE
 ok:=MmG R D
 oF:=λ{n m a} h ha=>⟨⟨h.ok.get 3 ha,h.fr.cycle.note _ _ _,λhd=>(λk:(cycleM m).Dec=>⟨k.good,k.dy⟩) ((h.dec hd).cycle h.ok.wf)⟩,Ix h.ok.wf.cycle _⟩
 oR:=λ{n m a} h ha=>⟨⟨h.ok.get 1 ha,h.fr.cycle.note _ _ _,λhd=>(λk:(cycleM m).Dec=>⟨k.good,k.dy⟩) ((h.dec hd).cycle h.ok.wf)⟩,Ix h.ok.wf.cycle _⟩
 oW:=λ{n m a x} h ha hx=>⟨h.ok.write ha hx,by
  show Mm.Fr R (xK 2 a x _)
  refine Mm.Fr.note ?_ _ _ _
  split
  ·exact h.fr.cycle.poke _ _
  ·exact h.fr.cycle,λhd=>by
  have k:=(h.dec hd).cycle h.ok.wf
  have g:(if letsCp (cycleM m).cp a=true then pokeM a x (cycleM m)else cycleM m).Dec:=by
   split
   ·exact k.poke a hx
   ·exact k
  exact⟨g.good,g.dy⟩⟩
 oI:=λ{n m} h=>⟨h.ok.cycle.note 0 aD aD,h.fr.cycle.note _ _ _,λhd=>(λk:(cycleM m).Dec=>⟨k.good,k.dy⟩) ((h.dec hd).cycle h.ok.wf)⟩
 oP:=λ_=>aE1 _
 oA:=λh hk=>⟨h.ok.ack hk,⟨h.fr.rom,h.fr.hd,h.fr.ram,h.fr.kind,h.fr.banks,h.fr.size⟩,λhd=>⟨(h.dec hd).good,(h.dec hd).dy⟩⟩
 oL:=λh hk=>⟨h.ok.le hk,h.fr,h.dec⟩
structure nR(R:Mm)(D:Prop)(m:Mm):Prop where
 wf:m.Wf
 rg:m.cpu.r.Ok
 fr:Mm.Fr R m
 dec:D->m.Dec
section
variable {R m:Mm}{D:Prop}{plan:List gG}(hp:∀c∈plan,sE c)
include hp
def Wp(h:nR R D m):MmG R D 7 (fB plan m):=by
 have h1:Mm.Fr R (sY (jQ plan m.steps) m):=Mm.Fr.ask (m:={m with pd:=rA (jQ plan m.steps) m.pd}) ⟨h.fr.rom,h.fr.hd,h.fr.ram,h.fr.kind,h.fr.banks,h.fr.size⟩ _ _
 refine⟨⟨h.wf.start hp,by show(0:Nat)+7<=1000000;decide,λe he=>by cases he⟩,⟨h1.rom,h1.hd,h1.ram,h1.kind,h1.banks,h1.size⟩,λhd=>?_⟩
 have h2:(sY (jQ plan m.steps) m).Dec:=Mm.Dec.ask (m:={m with pd:=rA (jQ plan m.steps) m.pd}) ⟨(h.dec hd).good,(h.dec hd).dy⟩ _ _
 exact⟨h2.good,h2.dy⟩
def nR.step(h:nR R D m):nR R D (eP plan m).2:=by
 have hq:=M9 (K:=Ni R D) (n:=0) (x:=(⟨m.cpu,fB plan m⟩:Rn Mm)) ⟨h.rg,Wp hp h⟩
 have hw:(fL fE (⟨m.cpu,fB plan m⟩:Rn Mm)).2.m.Wf:=hq.m.ok.wf
 exact⟨hw.steps_ I _,hq.r,⟨hq.m.fr.rom,hq.m.fr.hd,hq.m.fr.ram,hq.m.fr.kind,hq.m.fr.banks,hq.m.fr.size⟩,λhd=>⟨(hq.m.dec hd).good,(hq.m.dec hd).dy⟩⟩
def aL0(h:nR R D m):(eP plan m).2.acc.length<=1000000/\∀e∈(eP plan m).2.acc,(0<=e.addr/\e.addr<65536)/\0<=e.val/\e.val<256:=by
 have hq:=M9 (K:=Ni R D) (n:=0) (x:=(⟨m.cpu,fB plan m⟩:Rn Mm)) ⟨h.rg,Wp hp h⟩
 exact⟨hq.m.ok.room,hq.m.ok.accs⟩
end
def B1(plan:List gG)(m:Mm):Nat->Mm
 |0=>m
 |i+1=>(eP plan (B1 plan m i)).2
def nR.run{R m:Mm}{D:Prop}{plan:List gG}(hp:∀c∈plan,sE c)(h:nR R D m):∀i,nR R D (B1 plan m i)
 |0=>h
 |i+1=>(h.run hp i).step hp
def aPF :aDv.Ok:=by constructor<;>decide
def aIQ{rom:AB}(h:errH rom=0):336<=rom.length/\rom.getD 333 0=chkH rom 25/\(∃s,sortH (rom.getD 327 0)=some s)/\rom.getD 328 0<=8/\rom.getD 329 0<6/\(rom.length:Int)=32768*2^(rom.getD 328 0).toNat:=by
 unfold errH at h
 split at h
 ·cases h
 split at h
 ·cases h
 rename_i h1 h2
 split at h
 ·cases h
 rename_i s hs
 split at h
 ·cases h
 rename_i h3
 split at h
 ·cases h
 rename_i h4
 exact⟨aR,Decidable.byContradiction h2,⟨s,hs⟩,aR,aR,Decidable.byContradiction h4⟩
def aJF{rom:AB}(h:errH rom=0)(hb:bF rom):(lM rom).Wf:=by
 obtain⟨_,_,⟨s,hs⟩,h3,_,h5⟩:=aIQ h
 have hk:=aQ0 hs
 have h8:=hb.get 328
 have hram:=Yb rom
 have ek:(hdH rom).kind=s.1:=by unfold hdH;rw[hs];rfl
 have eb:(hdH rom).banks=2*2^(rom.getD 328 0).toNat:=rfl
 have hpow:(1:Int)<=2^(rom.getD 328 0).toNat/\(2:Int)^(rom.getD 328 0).toNat<=256:=by
  rcases(show rom.getD 328 0=0\/rom.getD 328 0=1\/rom.getD 328 0=2\/rom.getD 328 0=3\/rom.getD 328 0=4\/rom.getD 328 0=5\/rom.getD 328 0=6\/rom.getD 328 0=7\/rom.getD 328 0=8 by omega)with e|e|e|e|e|e|e|e|e<;>rw[e]<;>decide
 have hz:∀n:Nat,bF (List.replicate n 0):=λn x hx=>by rw[(List.mem_replicate.1 hx).2];decide
 have a0:(0:Int)<=0/\(0:Int)<256:=by decide
 have b0:(0:Int)<=0/\(0:Int)<65536:=by decide
 have c0:(0:Int)<=0/\(0:Int)<18446744073709551616:=by decide
 have d0:(0:Int)<=0/\(0:Int)<4294967296:=by decide
 have hh:bF ([0,0,0,0,0]:AB):=by unfold bF;decide
 have ek2:0<=(hdH rom).kind/\(hdH rom).kind<256:=by rw[ek];exact hk
 have eb2:0<=(hdH rom).banks/\(hdH rom).banks<65536:=by rw[eb];omega
 have er2:0<=(hdH rom).ram/\(hdH rom).ram<1048576:=by omega
 have eb3:0<(hdH rom).banks:=by rw[eb];omega
 have el2:(rom.length:Int)=16384*(hdH rom).banks:=by rw[eb,h5];omega
 refine⟨⟨ek2,eb2,er2,show(0:Int)<=1/\(1:Int)<65536 by decide,b0,show(0:Int)<=255/\(255:Int)<256 by decide⟩,⟨⟨a0,a0,a0,show -9223372036854775808<=(0:Int)/\(0:Int)<=9223372036854775807 by decide,hh⟩,d0⟩,⟨b0,a0,a0,a0⟩,⟨a0,a0⟩,⟨a0,a0,a0,b0,b0,b0⟩,⟨a0,b0⟩,bdZ_wf,a0,a0,c0,c0,aCZ,eb3,el2,hb,?_,hz _,ct,hz _,ct,hz _⟩
 show((List.replicate (hdH rom).ram.toNat (0:Int)).length:Int)=(hdH rom).ram
 rw[ct];omega
def aMJ{rom:AB}(h:errH rom=0)(hb:bF rom):nR (lM rom) True (lM rom):=⟨aJF h hb,aPF,.refl _,λ_=>⟨aRC,show(0:Int)<=0/\(0:Int)<512 by decide⟩⟩
def Ue(rom:AB):(lM rom).ram.length<=131072:=by show(List.replicate _ (0:Int)).length<=_;rw[ct];exact(Yb rom).2
def madeAt(i:Nat):Nat:=if 4<=i then 332+i else 256+i
def madeP(l prog:AB):Nat->AB
 |0=>l
 |i+1=>(madeP l prog i).set (madeAt i) (prog.getD i 0)
def romS(b:Int):Nat:=32768*2^(b%9).toNat
def madeZ(kind b ram:Int)(prog:AB):AB:=(((madeP (List.replicate (romS b) 0) prog (min prog.length 15000)).set 327 kind).set 328 (b%9)).set 329 ram
def madeI(kind b ram:Int)(prog:AB):AB:=(madeZ kind b ram prog).set 333 (chkH (madeZ kind b ram prog) 25)
def M5(l prog:AB):∀i,(madeP l prog i).length=l.length
 |0=>rfl
 |i+1=>by unfold madeP;rw[c7];exact M5 l prog i
def Kd{l:AB}(h:bF l){x:Int}(hx:0<=x/\x<256)(i:Nat):bF (l.set i x):=λy hy=>by
 rcases ez hy with h1|rfl
 ·exact h y h1
 ·exact hx
def S9{l prog:AB}(h:bF l)(hp:bF prog):∀i,bF (madeP l prog i)
 |0=>h
 |i+1=>Kd (S9 h hp i) (hp.get i) _
def aNU(b:Int):32768<=romS b/\romS b<=8388608:=by
 have hb:b%9=0\/b%9=1\/b%9=2\/b%9=3\/b%9=4\/b%9=5\/b%9=6\/b%9=7\/b%9=8:=by omega
 unfold romS
 rcases hb with e|e|e|e|e|e|e|e|e<;>rw[e]<;>decide
def aB2(kind b ram:Int)(prog:AB):(madeZ kind b ram prog).length=romS b:=by unfold madeZ;rw[c7,c7,c7,M5,ct]
def aEx(kind b ram:Int)(prog:AB):(madeI kind b ram prog).length=romS b:=by unfold madeI;rw[c7,aB2]
def aN9(n:Nat):bF (List.replicate n (0:Int)):=λx hx=>by rw[(List.mem_replicate.1 hx).2];decide
def aEX{kind b ram:Int}{prog:AB}(hk:0<=kind/\kind<256)(hr:0<=ram/\ram<256)(hp:bF prog):bF (madeZ kind b ram prog):=
 Kd (Kd (Kd (S9 (aN9 _) hp _) hk _) I _) hr _
def aD9{kind b ram:Int}{prog:AB}(hk:0<=kind/\kind<256)(hr:0<=ram/\ram<256)(hp:bF prog):bF (madeI kind b ram prog):=
 Kd (aEX hk hr hp) (Ud _ _) _
def put_byte{l:AB}{n o o':Nat}(x:Int)(hn:l.length=n)(h:o'<n)(ho:o=o'):aV (l.map (.int .u8)) o [.int .u8 x]=(l.set o' x).map (.int .u8):=by
 subst ho hn
 exact vP .u8 h x
def len_byte{l:AB}{n o:Nat}{v:AH}(hn:l.length=n)(h:o<n):o+[v].length<=(l.map Z).length:=by
 subst hn
 rw[eJ]
 exact h
def madeP_n(b:Int)(prog:AB)(i:Nat):(madeP (List.replicate (romS b) 0) prog i).length=romS b:=by rw[M5,ct]
structure Gm where
 kind:Int
 ram:Int
 pa:AC
 pc:Nat
 prog:AB
 qa:AC
 qc:Nat
 plan:List gG
structure Gm.Ok(w:AI)(g:Gm):Prop where
 kind:0<=g.kind/\g.kind<256
 ram:0<=g.ram/\g.ram<256
 prog:bF g.prog
 lp:g.prog.length<=g.pc/\g.prog.length<=maxLen
 np:Ns w .u8 g.pa g.prog
 plan:∀c∈g.plan,sE c
 lq:g.plan.length<=g.qc/\g.plan.length<=maxLen
 nq:eX w qN g.qa g.plan
def aHN(cs:AA)(h:lY [.int .u64,.int .u8] cs):∃x,cs=qN x/\sE x:=by
 match cs,h with
 | [a,b],h=>
  obtain⟨⟨x,rfl,hx⟩,⟨y,rfl,hy⟩,_⟩:=h
  have h1:=aOJ hx
  have h2:=Vf hy
  exact⟨⟨x,y⟩,U,by unfold sE;dsimp only;omega⟩
section
variable {plan:List gG}{R m n:Mm}
def aI3(x:List Ac):fB plan {m with acc:=x}=fB plan m:=by unfold fB sY askM;dsimp only;split<;>rfl
def aPP(x:List Ac):eP plan {m with acc:=x}=eP plan m:=by unfold eP;rw[aI3]
def pG(m n:Mm):Prop:=n={m with acc:=n.acc}
def pG.step(h:pG m n):eP plan n=eP plan m:=by rw[h];exact aPP _
def pG.enc(h:pG m n):fQ n=fQ m:=by rw[h];rfl
def D1(hm:nR R True m)(hn:nR R True n):0=sT n (fQ m)/\uK n (fQ m)={m with acc:=[]}:=by
 have hl:n.ram.length=m.ram.length:=hn.fr.ram.trans hm.fr.ram.symm
 have hd:=(hm.dec trivial)
 have hday:0<=m.ck.day/\m.ck.day<65536:=by have:=hd.dy;unfold Ck.Dy at this;omega
 have e8:(oS m).length=8482:=C8 hm.wf
 have e1:(fQ m).drop 8482=m.ram++fM m.u:=by unfold fQ;rw[<-e8,f3]
 have e2:(fQ m).drop (8482+n.ram.length)=fM m.u:=by rw[<-bi,e1,hl,f3]
 have e3:((fQ m).drop 8482).take n.ram.length=m.ram:=by rw[e1,hl,io]
 have e4:fH n (fQ m)={m with acc:=n.acc}:=by
  unfold fH Ol
  rw[e2,e3,aPI hd.good,show Bg n (fQ m)=_ from aIS hm.wf hm.rg hday n _]
  have h1:n.rom=m.rom:=hn.fr.rom.trans hm.fr.rom.symm
  have h2:n.hd=m.hd:=hn.fr.hd.trans hm.fr.hd.symm
  have h3:n.bk.kind=m.bk.kind:=hn.fr.kind.trans hm.fr.kind.symm
  have h4:n.bk.banks=m.bk.banks:=hn.fr.banks.trans hm.fr.banks.symm
  have h5:n.bk.ram=m.bk.ram:=hn.fr.size.trans hm.fr.size.symm
  simp only[h1,h2,h3,h4,h5]
 have e5:0=sT n (fQ m):=Q9 (m:=n) (l:=fQ m) (by rw[yJ hm.wf,yJ hn.wf,hl]) (by rw[e2];exact aOM hd.good) (by rw[e4];rfl)
 exact⟨e5,by rw[aFm e5,e4]⟩
def nR.acc_(h:nR R True m)(x:List Ac):nR R True {m with acc:=x}:=⟨h.wf.acc_ x,h.rg,⟨h.fr.rom,h.fr.hd,h.fr.ram,h.fr.kind,h.fr.banks,h.fr.size⟩,λ_=>⟨(h.dec trivial).good,(h.dec trivial).dy⟩⟩
end
def aGn(b:Nat)(ad va:AH)(hA:ad= .pointer none\/ad=P_ b)(w:AI)(hst:St w [b] [(b,J [ad,va] 333)] w):aG prog 202 [P_ b] w [b] (λv H=>v= .tuple #[]/\H=[(b,J [P_ b,va] 333)]):=by
 refine cG func202 hst ?_
 refine ZBI ?_
 rcases hA with rfl|rfl
 ·refine ZBZ ?_
  refine W (aW U U (bT (v:= .pointer none) aE U)) U (jN ?_)
  refine ZBV ?_
  refine W (aKA U U U U U aE (ah U)) U (W (aLA (fn:=Tryz.f225) (E:=Extern.AbiNoEscape.same) func225 U U U U U (λw=>U)) U (W (aQs (n:=2) U U U U aE U aN) U (ZAm ?_)))
  refine W (bC (l':=[P_ b,va]) 0) U (eC ?_)
  exact In
 refine ZBZ ?_
 refine W (aW U U (bT (v:=P_ b) aE U)) U (iO ?_)
 refine ZCy ?_
 refine W (aW U U (bT (v:=P_ b) aE U)) U (ZBI ?_)
 refine W (aGB U U U U) U (ZBI ?_)
 refine oQ false U U ?_
 exact In
def bwrite_fn(b:Nat)(ad va:AH)(hA:ad= .pointer none\/ad=P_ b)(n:Nat)(hn:n<=1000000)(xs:AA)(G:aF)(hV:bS 5 1 va n xs G)(x:Int)(ms:AE)(w:AI)(hst:St w ms ((b,J [ad,va] 333)::G) w):aG prog 175 [P_ b,.int .u8 x] w ms (λv H=>v= .nilIface/\∃va' G',bS 5 1 va' (n+1) (xs++[.int .u8 x]) G'/\H=(b,J [P_ b,va'] 333)::G'):=by
 obtain⟨a6,c0,rfl⟩:=hV.slice
 refine cG func175 hst ?_
 refine ZCy ?_
 refine RX (kP (A:=[(b,J [ad,(.slice a6 n c0)] 333)]) (G:=G) (R:=λv H=>v= .tuple #[]/\H=[(b,J [P_ b,(.slice a6 n c0)] 333)]) [b] K_ U (by intro x hx;obtain rfl:=List.mem_singleton.1 hx;exact⟨_,.head _⟩) (dG (aGn b ad (.slice a6 n c0) hA))) U (jW ?_)
 refine ZAm ?_
 refine kO (L':=(b,J [P_ b,(.slice a6 n c0)] 333)::(G++[])) (λ_ h=>by rw[cn];exact h) ?_
 refine ZBV ?_
 refine W (aW U U (bT (v:=(.slice a6 n c0)) aE U)) U (ZBI ?_)
 refine RX (fY (z:=[.int .u8 0]) (l:=[.int .u8 x]) (ps:=[(0,.int .u8 x)]) U U U U U U) U (ZBF λb0=>?_)
 refine RX (lZ (A:=[(b0,_),(b,_)]) (G:=G) (R:=[]) (v:=(.slice a6 n c0)) (n:=n) (xs:=xs) (m:=1) (T:=5) (s:=1) (by_:=1) (ys:=[.int .u8 x]) U U U U hV (λw hw=> .row _ _ _ _ _ U (aI (b:=b0) (.head _) w hw)) U I I) U ?_
 rintro v0 _ ⟨G0,hV0,_,rfl⟩
 obtain⟨b1,cp9,sp0,rfl,rfl,hc0,hle9,hm9⟩:=hV0.full I
 refine jE ?_
 refine W (bC (l':=[P_ b,.slice (Q_ b1) (n+1) cp9]) 2) U (eC ?_)
 refine aH ?_
 exact lN (λ_ _=>yE U) (λ_ h=>(h.sub (.cons_cons _ (.cons _ aJ))).perm (List.Perm.swap _ _ _)) ⟨U,_,_,hV0,U⟩
def bstring_fn(b:Nat)(ad va:AH)(T:List UInt8)(hT:T.length<=1000000)(G:aF)(hV:bS 5 1 va T.length (txV T) G)(h0:T.length=0->va= .slice none 0 0/\G=[])(ms:AE)(w:AI)(hst:St w ms ((b,J [ad,va] 333)::G) w):aG prog 176 [P_ b] w ms (V_ (.string (bs T))):=by
 refine cG func176 hst ?_
 refine ZBV ?_
 rcases hV.parts h0 with⟨hz,rfl,rfl⟩|⟨b9,k9,sp9,hne,rfl,rfl⟩
 ·refine DR [4,5,6,7,8,9] (bQ [0,2,4,6,10,12,14,16,18,9,21,22]) ?_
  refine ZA2 ?_
  refine DL U U U (dQ (v:= .slice none 0 0) aE U) U (ZA2 ?_)
  refine DL U U U (dQ (v:= .slice none 0 0) aE U) U (DY U gT U (DZ U (aN1 U) U S6 (DZ U (aKo U U U) U aY ?_)))
  refine ZA2 ?_
  obtain rfl:=db hz
  exact EV U (ed _) ⟨U,U⟩
 refine DR [4,5,6,7,8,9] (bQ [0,2,4,6,10,12,14,16,18,9,21,22]) ?_
 refine ZA2 ?_
 refine DL U U U (dQ (v:= .slice (Q_ b9) T.length (k9+1)) aE U) U (ZA2 ?_)
 refine DL U U U (dQ (v:= .slice (Q_ b9) T.length (k9+1)) aE U) U (DY U gT U (DZ U (aNN U) U S6 (lE (λw hw=>hw.perm (List.Perm.swap _ _ _)) ?_)))
 refine DX U (aPl (a:=T) (sp:=sp9) U U U U U (λh=>hne (by rw[h];rfl)) hT) U aY ?_
 rintro _ _ ⟨rfl,o13,rfl⟩
 refine ZA2 ?_
 exact EV U (ed _) ⟨U,U⟩
def Ah(b:Nat)(u:PU)(hu:u.Wf)(w:AI)(hr:aK w b 0 (cU u)):aG prog 189 [P_ b] w [] (V_ (.bool (jC u))):=by
 refine aT func189 ?_
 refine bW ?_
 refine RY zO U (W (aW U U (dN (qE hr (sI hu (j:=0) aD)) aP)) U (ZBV ?_))
 exact E0 U ⟨U,M _ (aHh hu)⟩
def Es(b:Nat)(u:PU)(hu:u.Wf)(w:AI)(hr:aK w b 0 (cU u)):aG prog 158 [P_ b] w [] (V_ (.int .i64 (modeU u))):=by
 refine aT func158 ?_
 refine fG ?_
 refine aO K_ (λw hw=>Ah b u hu w (bU hr aP w hw)) ?_
 refine ZBZ ?_
 refine KC (λq0 z0=>?_) (λq0 z0=>?_)
 ·refine ZBV ?_
  exact E0 U ⟨U,M _ Jp⟩
 refine ZBV ?_
 refine W (aW U U (dN (qE hr (cU_line hu)) aP)) U (ZA2 ?_)
 refine KC (λq1 z1=>?_) (λq1 z1=>?_)
 ·refine ZBV ?_
  exact E0 U ⟨U,M _ Jp⟩
 refine ZBV ?_
 refine W (aW U U (dN (qE hr (cU_dot hu)) aP)) U (ZA2 ?_)
 refine KC (λq2 z2=>?_) (λq2 z2=>?_)
 ·refine ZBV ?_
  exact E0 U ⟨U,M _ Jp⟩
 refine ZBV ?_
 refine W (aW U U (dN (qE hr (cU_dot hu)) aP)) U (ZA2 ?_)
 refine KC (λq3 z3=>?_) (λq3 z3=>?_)
 ·refine ZBV ?_
  exact E0 U ⟨U,M _ Jp⟩
 refine aH ?_
 exact E0 U ⟨U,M _ Jp⟩
def aCH(b:Nat)(u:PU)(hu:u.Wf)(w:AI)(hr:aK w b 0 (cU u)):aG prog 159 [P_ b] w [] (V_ (.bool (Cz u))):=by
 have q0:0<=u.R.getD 5 0/\u.R.getD 5 0<256:=hu.look 5
 refine aT func159 ?_
 refine ZBV ?_
 refine DR [1,7,8,9,10,11,12] (bQ [0,3,4,6,8,10,12,14,16,18,20,22,24,26,28,30]) ?_
 refine ZBI ?_
 refine DZ U (cZ K_ U (λw hw=>Ah b u hu w (bU hr aP w hw))) U gV (KE (λq1 z1=>?_) (λq1 z1=>?_))
 ·refine ZA2 ?_
  refine DL U U U (gS (qE hr (cU_line hu)) aP) U (ZA2 ?_)
  refine DY U (by first|exact eB 5 rfl rfl rfl rfl aD|exact eF 5 rfl rfl rfl rfl aD|exact iU 5 rfl rfl rfl rfl aD|exact fV 5 rfl rfl rfl rfl aD) U (DL U U U (gS (qE hr (sI hu (j:=5) aD)) aP) U (DW (v:=(.int .i64 (u.R.getD 5 0))) U U U (M _ (bZ I I)) (ZBV ?_)))
  exact E0 U ⟨U,M _ (by unfold Cz;simp_all)⟩
 refine kV ?_
 exact E0 U ⟨U,M _ (by unfold Cz;simp_all)⟩
def place_fn(b:Nat)(a:Int)(ha:0<=a/\a<65536)(w:AI):aG prog 156 [P_ b,.int .u16 a] w [] (V_ (placeV b a)):=by
 refine aT func156 ?_
 refine iT ?_
 refine KL (λq0 z0=>?_) (λq0 z0=>?_)
 ·refine ZBV ?_
  refine KC (λq1 z1=>?_) (λq1 z1=>?_)
  ·refine ZBZ ?_
   refine RW (v:=(.int .u16 (a-32768))) U U (M _ (tW aL aL)) (ZAm ?_)
   refine RY (eB (a-32768).toNat U U U aL aL) U (ZBZ ?_)
   exact aU (λ_ _=>dX U U) ⟨U,by unfold placeV;rw[ag aL]⟩
  refine ZBZ ?_
  refine KL (λq2 z2=>?_) (λq2 z2=>?_)
  ·refine ZBV ?_
   refine KC (λq3 z3=>?_) (λq3 z3=>?_)
   ·refine ZBZ ?_
    refine RW (v:=(.int .u16 (a-65024))) U U (M _ (tW aL aL)) (ZAm ?_)
    refine RY (eB (a-65024).toNat U U U aL aL) U (ZBZ ?_)
    exact aU (λ_ _=>dX U U) ⟨U,by unfold placeV;rw[ae aL,ag aL]⟩
   refine ZCy ?_
   exact aU (λ_ _=>dX U U) ⟨U,Qf⟩
  refine kD ?_
  exact aU (λ_ _=>dX U U) ⟨U,Qf⟩
 refine cL ?_
 refine KL (λq1 z1=>?_) (λq1 z1=>?_)
 ·refine ZBV ?_
  refine KC (λq2 z2=>?_) (λq2 z2=>?_)
  ·refine ZBZ ?_
   refine RW (v:=(.int .u16 (a-65024))) U U (M _ (tW aL aL)) (ZAm ?_)
   refine RY (eB (a-65024).toNat U U U aL aL) U (ZBZ ?_)
   exact aU (λ_ _=>dX U U) ⟨U,by unfold placeV;rw[ae aL,ag aL]⟩
  refine ZCy ?_
  exact aU (λ_ _=>dX U U) ⟨U,Qf⟩
 refine kD ?_
 exact aU (λ_ _=>dX U U) ⟨U,Qf⟩
def aBT(a:Int)(ha:0<=a/\a<65536)(w:AI):aG prog 157 [.int .u16 a] w [] (V_ (.int .i64 (numU a))):=by
 refine aT func157 ?_
 refine ZCy ?_
 refine RW (v:=(.int .i64 (a))) U U (M _ (bZ I I)) (RW (v:=(.int .i64 (a-65344))) U U (M _ (bZ I I)) (ZCy ?_))
 refine KL (λq0 z0=>?_) (λq0 z0=>?_)
 ·refine jJ ?_
  exact E0 U ⟨U,M _ O5⟩
 refine ZA2 ?_
 refine KL (λq1 z1=>?_) (λq1 z1=>?_)
 ·refine cL ?_
  exact E0 U ⟨U,M _ O5⟩
 refine ZBZ ?_
 refine KC (λq2 z2=>?_) (λq2 z2=>?_)
 ·refine ZBV ?_
  exact E0 U ⟨U,M _ O5⟩
 refine ZCy ?_
 exact E0 U ⟨U,M _ (by unfold numU;rw[ae aL])⟩
def ask_fn(b:Nat)(u:PU)(hu:u.Wf)(w:AI)(hst:St w [b] [(b,J (cU u) 247)] w):aG prog 310 [P_ b] w [b] (λv H=>v= .int .u8 (askV u)/\H=[(b,J (cU (askU u)) 247)]):=by
 have hmr:=L9 u
 refine cG func310 hst ?_
 refine bW ?_
 refine W (aW U U (bT aE (cU_sig hu))) U (ZBZ ?_)
 refine RY (De (l:=[.int .u8 8,.int .u8 16,.int .u8 32,.int .u8 0]) U U U aN) U (lB λb0=>?_)
 refine ZEm ?_
 refine aH ?_
 refine RY Ky U (W (aW U U (bT aE (sI hu (j:=1) aD))) U (aH ?_))
 refine aO K_ (λw hw=>Ah b u hu w (aI aE w hw)) ?_
 refine KL (λq0 z0=>?_) (λq0 z0=>?_)
 ·refine ZAm ?_
  refine aO K_ (λw hw=>Es b u hu w (aI aE w hw)) ?_
  refine RY (eB (modeU u).toNat U U U I I) U (W (aW U U (bT aE (aKY u))) U (ZAm ?_))
  refine KL (λq1 z1=>?_) (λq1 z1=>?_)
  ·refine iT ?_
   refine W (bD (l':=cU (askU u)) 1 U U U U U U uI (Ml hu (aMh q0 q1))) U (cX ?_)
   refine Qx ?_
   refine KL (λq2 z2=>?_) (λq2 z2=>?_)
   ·refine ZBZ ?_
    refine KC (λq3 z3=>?_) (λq3 z3=>?_)
    ·refine ZBV ?_
     exact EV U (ce _ _) ⟨M _ Kf,U⟩
    exact Xg
   exact Nv
  refine ZA2 ?_
  refine KL (λq2 z2=>?_) (λq2 z2=>?_)
  ·refine ZBI ?_
   refine aO K_ (λw hw=>aCH b u hu w (aI aE w hw)) ?_
   refine ZBV ?_
   refine W (bD (l':=cU (askU u)) 1 U U U U U U uI (Ml hu (aIr q0 q1 q2))) U (cX ?_)
   refine Qx ?_
   refine KL (λq3 z3=>?_) (λq3 z3=>?_)
   ·refine ZBZ ?_
    refine KC (λq4 z4=>?_) (λq4 z4=>?_)
    ·refine ZBV ?_
     exact EV U (ce _ _) ⟨M _ Kf,U⟩
    exact Xg
   exact Nv
  refine ZCy ?_
  refine W (bD (l':=cU (askU u)) 1 U U U U U U uI (Ml hu (aKd q0 q1 q2))) U (cX ?_)
  refine Qx ?_
  refine KL (λq3 z3=>?_) (λq3 z3=>?_)
  ·refine ZBZ ?_
   refine KC (λq4 z4=>?_) (λq4 z4=>?_)
   ·refine ZBV ?_
    exact EV U (ce _ _) ⟨M _ aEr,U⟩
   refine aH ?_
   exact EV U (ce _ _) ⟨M _ aEr,U⟩
  exact Nv
 refine Cv ?_
 refine W (bD (l':=cU (askU u)) 1 U U U U U U uI (Ml hu (aRi q0))) U (cX ?_)
 refine Qx ?_
 refine KL (λq1 z1=>?_) (λq1 z1=>?_)
 ·refine ZBZ ?_
  refine KC (λq2 z2=>?_) (λq2 z2=>?_)
  ·refine ZBV ?_
   exact EV U (ce _ _) ⟨M _ Kf,U⟩
  exact Xg
 exact Nv
def D5(n fr mn:Int)(w:AI):
  aG prog 352 [.int .i64 n,.int .i64 fr,.int .i64 mn] w [] (V_ (.bool (decide (fr<=n)&&decide (n<IntKind.i64.wrap (fr+mn))))):=by
 refine aT func352 ?_
 refine bW ?_
 refine KL (λh1 h1n=>?_) (λh1 h1n=>?_)
 ·refine bW ?_
  exact E0 U ⟨U,by(simp_all;try omega)⟩
 refine bW ?_
 exact E0 U ⟨U,by(simp_all;try omega)⟩
def aAX(c b f s:Int)(hc:0<=c/\c<256)(w:AI):
  aG prog 353 [.agg #[.int .u8 c,.int .u8 b,.int .u8 f,.int .u8 s]] w [] (V_ (.int .i64 (jM c))):=by
 refine aT func353 ?_
 refine aX ?_
 refine RX (eE U U) U ?_
 rintro _ _ ⟨b1,rfl,rfl⟩
 refine cL ?_
 refine KC (λh1 h1n=>?_) (λh1 h1n=>?_)
 ·refine cT ?_
  exact E0 U ⟨U,M _ (aEf hc (b:=true) h1)⟩
 refine eD ?_
 exact E0 U ⟨U,M _ (aEf hc (b:=false) h1)⟩
def Ny(a:AC)(cap:Nat)(l:AB)(n:Int)(hn:0<=n)(w:AI)(hB:Ns w .u8 a l):
  aG prog 358 [.slice a l.length cap,.int .i64 n] w [] (V_ (.int .u8 (nP l n))):=by
 refine aT func358 ?_
 refine bW ?_
 refine RY gT U (RY (tD U U) U (aX ?_))
 refine KC (λh1 h1n=>?_) (λh1 h1n=>?_)
 ·refine cT ?_
  exact E0 U ⟨U,M _ (aHA eM)⟩
 refine aX ?_
 obtain⟨b,off,rfl,hr⟩:=hB.row (i:=n.toNat) eM
 refine bY ?_
 refine RY (eF n.toNat U U U eM eM) U (W (aW U U (dN (hr.int eM) aP)) U (bY ?_))
 exact E0 U ⟨U,M _ (aNs eM)⟩
def wS(a:AC)(cap:Nat)(l:AB)(hl:bF l)(tile x y:Int)(w:AI)(hB:Ns w .u8 a l):
  aG prog 359 [.slice a l.length cap,.int .i64 tile,.int .i64 x,.int .i64 y] w [] (V_ (.int .u8 (oJ l tile x y))):=by
 refine aT func359 ?_
 refine bW ?_
 refine KL (λh1 h1n=>?_) (λh1 h1n=>?_)
 ·refine cL ?_
  exact E0 U ⟨U,M _ (R4 eM)⟩
 refine eV ?_
 refine KC (λh2 h2n=>?_) (λh2 h2n=>?_)
 ·refine cT ?_
  exact E0 U ⟨U,M _ (R4 eM)⟩
 refine Cv ?_
 refine DR [] (bQ [0,2,6,12,14,16,20,5,8,10,19,22,24,26,28,30]) ?_
 refine gL ?_
 refine DZ U (cZ K_ U (λw hw=>Ny _ _ l _ (aLX y eM) w (hB.later0 hw))) U aY (DY U (jB U U (aCA x)) U (bG ?_))
 refine DZ U (cZ K_ U (λw hw=>Ny _ _ l _ (aOC y eM) w (hB.later0 hw))) U aY (DY U (jB U U (aCA x)) U (bG ?_))
 refine DY U (iK U U aD) U (eV ?_)
 exact E0 U ⟨U,M _ (aOT hl _ _ eM)⟩
def Fj(p c:Int)(hp:0<=p/\p<256)(hc:0<=c/\c<256)(w:AI):
  aG prog 357 [.int .u8 p,.int .u8 c] w [] (V_ (.int .u8 (rX p c))):=by
 refine aT func357 ?_
 refine kV ?_
 exact E0 U ⟨U,M _ (aHn hp hc)⟩
def aC5(v:Vw)(hv:v.Ok)(b:Int)(hb:0<=b/\b<256)(w:AI):
  aG prog 360 [.agg (cV v).toArray,.int .u8 b] w [] (λv' H=>H=[]/\v'= .int .i64 (xO v.c b)):=by
 refine aT func360 ?_
 refine aX ?_
 refine RX (eE U U) U ?_
 rintro _ _ ⟨b2,rfl,rfl⟩
 refine cL ?_
 refine KC (λh1 h1n=>?_) (λh1 h1n=>?_)
 ·refine gL ?_
  exact E0 U ⟨U,M _ (aQ8 hv.c hb h1)⟩
 refine cL ?_
 exact E0 U ⟨U,M _ (aKx hv.c hb h1)⟩
def U0(a:AC)(cap:Nat)(l:AB)(hl:bF l)(v:Vw)(hv:v.Ok)(n bit px py:Int)(hbit:(aQ .u8 v.c bit != 0)=decide (dZ v.c n=1))(hpx:0<=px/\px<256)(hpy:0<=py/\py<256)(w:AI)(hB:Ns w .u8 a l):
  aG prog 351 [.agg (cV v).toArray,.slice a l.length cap,.int .u8 bit,.int .u8 px,.int .u8 py] w [] (λv' H=>H=[]/\v'= .int .u8 (Ab l v.c n px py)):=by
 obtain⟨hvc,hvx,hvy,hwx,hwy⟩:=id hv
 refine aT func351 ?_
 refine aX ?_
 refine RX (eE U U) U ?_
 rintro _ _ ⟨b5,rfl,rfl⟩
 refine kV ?_
 refine KC (λh1 h1n=>?_) (λh1 h1n=>?_)
 ·refine mG ?_
  refine RW (v:=(.int .u8 (py/8))) U U (M _ (Rp hpy)) (RW (v:=(.int .i64 (py/8))) U U (M _ (bZ I I)) (RW (v:=(.int .i64 (32*(py/8)))) U U (M _ (bZ I I)) (RW (v:=(.int .i64 (7168+32*(py/8)))) U U (M _ (bZ I I)) ?_)))
  refine bG ?_
  refine RW (v:=(.int .u8 (px/8))) U U (M _ (Rp hpx)) (RW (v:=(.int .i64 (px/8))) U U (M _ (bZ I I)) (RW (v:=(.int .i64 (7168+32*(py/8)+px/8))) U U (M _ (bZ I I)) (W (cZ K_ U (λw hw=>Ny _ _ l _ I w (hB.later0 hw))) U ?_)))
  refine cT ?_
  refine W (bJ U U U sW) U (bG ?_)
  refine aO K_ (aS (aC5 v hv _ (Qi hl _))) ?_
  refine bG ?_
  refine RW (v:=(.int .i64 (px))) U U (M _ (bZ I I)) (bG ?_)
  refine RW (v:=(.int .i64 (py))) U U (M _ (bZ I I)) (aO K_ (λw hw=>wS _ _ l hl _ _ _ w (hB.later0 hw)) ?_)
  refine bY ?_
  exact E0 U ⟨U,M _ (aOb (by have h9:=hbit.symm.trans h1;simpa using h9)).symm⟩
 refine eD ?_
 refine RW (v:=(.int .u8 (py/8))) U U (M _ (Rp hpy)) (RW (v:=(.int .i64 (py/8))) U U (M _ (bZ I I)) (RW (v:=(.int .i64 (32*(py/8)))) U U (M _ (bZ I I)) (RW (v:=(.int .i64 (6144+32*(py/8)))) U U (M _ (bZ I I)) ?_)))
 refine bG ?_
 refine RW (v:=(.int .u8 (px/8))) U U (M _ (Rp hpx)) (RW (v:=(.int .i64 (px/8))) U U (M _ (bZ I I)) (RW (v:=(.int .i64 (6144+32*(py/8)+px/8))) U U (M _ (bZ I I)) (W (cZ K_ U (λw hw=>Ny _ _ l _ I w (hB.later0 hw))) U ?_)))
 refine cT ?_
 refine W (bJ U U U sW) U (bG ?_)
 refine aO K_ (aS (aC5 v hv _ (Qi hl _))) ?_
 refine bG ?_
 refine RW (v:=(.int .i64 (px))) U U (M _ (bZ I I)) (bG ?_)
 refine RW (v:=(.int .i64 (py))) U U (M _ (bZ I I)) (aO K_ (λw hw=>wS _ _ l hl _ _ _ w (hB.later0 hw)) ?_)
 refine bY ?_
 exact E0 U ⟨U,M _ (aKv (by have h9:=hbit.symm.trans h1;simpa using h9)).symm⟩
def aMY(a:AC)(cap:Nat)(l:AB)(hl:bF l)(v:Vw)(hv:v.Ok)(x y:Int)(w:AI)(hB:Ns w .u8 a l):
  aG prog 342 [.agg (cV v).toArray,.slice a l.length cap,.int .i64 x,.int .i64 y] w [] (λv' H=>H=[]/\v'= .int .u8 (Qb l v x y)):=by
 refine aT func342 ?_
 refine aX ?_
 refine RX (eE U U) U ?_
 rintro _ _ ⟨b4,rfl,rfl⟩
 refine eV ?_
 refine W (bJ U U U sW) U (aX ?_)
 refine RW (v:=(.int .u8 (x%256))) U U (M _ (nW _)) (bG ?_)
 refine RW (v:=(.int .u8 (y%256))) U U (M _ (nW _)) (aO K_ (λw hw=>U0 _ _ l hl v hv 6 64 _ _ (R6 hv.c) (Rr _) (Rr _) w (hB.later0 hw)) ?_)
 refine bY ?_
 exact E0 U ⟨U,U⟩
def aCX(a:AC)(cap:Nat)(l:AB)(hl:bF l)(v:Vw)(hv:v.Ok)(x y:Int)(w:AI)(hB:Ns w .u8 a l):
  aG prog 343 [.agg (cV v).toArray,.slice a l.length cap,.int .i64 x,.int .i64 y] w [] (λv' H=>H=[]/\v'= .int .u8 (Nr l v x y)):=by
 refine aT func343 ?_
 refine aX ?_
 refine RX (eE U U) U ?_
 rintro _ _ ⟨b4,rfl,rfl⟩
 refine eV ?_
 refine W (bJ U U U sW) U (aX ?_)
 refine RW (v:=(.int .u8 (x%256))) U U (M _ (nW _)) (aX ?_)
 refine RW (v:=(.int .u8 ((x+v.sx)%256))) U U (M _ (by rw[nW];omega)) (bG ?_)
 refine RW (v:=(.int .u8 (y%256))) U U (M _ (nW _)) (aX ?_)
 refine RW (v:=(.int .u8 ((y+v.sy)%256))) U U (M _ (by rw[nW];omega)) (aO K_ (λw hw=>U0 _ _ l hl v hv 3 8 _ _ (aLK hv.c) (Rr _) (Rr _) w (hB.later0 hw)) ?_)
 refine bY ?_
 exact E0 U ⟨U,U⟩
def tline_fn(a:AC)(cap:Nat)(l:AB)(hl:bF l)(v:Vw)(hv:v.Ok)(line own:Int)(w:AI)(hB:Ns w .u8 a l):
  aG prog 336 [.agg (cV v).toArray,.slice a l.length cap,.int .i64 line,.int .i64 own] w [] (λv' H=>H=[]/\v'= .tuple #[.agg ((Aq l v line own).map (.int .u8)).toArray,.bool (pS v line)]):=by
 obtain⟨hvc,hvx,hvy,hwx,hwy⟩:=id hv
 refine aT func336 ?_
 refine aX ?_
 refine RX (eE U U) U ?_
 rintro _ _ ⟨b4,rfl,rfl⟩
 refine RX (gJ (l:=List.replicate 160 (.int .u8 0)) aN) U ?_
 rintro _ _ ⟨b8,rfl,rfl⟩
 refine eV ?_
 refine RX (gJ (l:=List.replicate 160 (.int .u8 0)) aN) U ?_
 rintro _ _ ⟨b10,rfl,rfl⟩
 refine bW ?_
 refine KC (λh1 h1n=>?_) (λh1 h1n=>?_)
 ·refine aX ?_
  refine W (bJ U U U (aI (.head _))) U (W (hQ (vs:=List.replicate 160 (.int .u8 0)) (l:=List.replicate 160 (.int .u8 0)) 1 U U U aN aN U aP) U (bY ?_))
  exact aU (λw hw=>fN (l:=List.replicate 160 (.int .u8 0)) U U aN (aI (.tail _ (.head _)) w hw) U) ⟨U,by rw[aKu (aEt hv.c h1),aIs (aEt hv.c h1),jo]⟩
 refine bG ?_
 refine Pv [11,19,20,21,22,23,24,25,26,27,28,29,30,31,32,33,34] [(11,.bool (pS v line))] ?_ (λy4=>?_)
 ·refine cT ?_
  refine KL (λh2 h2n=>?_) (λh2 h2n=>?_)
  ·refine aX ?_
   refine RW (v:=(.int .i64 (v.wy))) U U (M _ (bZ I I)) (bY ?_)
   refine KL (λh3 h3n=>?_) (λh3 h3n=>?_)
   ·refine eD ?_
    exact⟨.cons (M _ (aGv hv h1 h2 h3)) .nil,bB,λ_ h=>h⟩
   refine eD ?_
   exact⟨.cons (M _ (aHd h3)) .nil,bB,λ_ h=>h⟩
  refine kD ?_
  exact⟨.cons (M _ (aOD hv h2)) .nil,bB,λ_ h=>h⟩
 refine aX ?_
 have h1on:=aHz hv.c h1
 refine eV ?_
 refine dK (σ:=Nat) [12,13,35,36,37,38,39,40,41,42,43,44,45,46,47,48,49,50,51,52,53,54,55,56,57,58,59,60,61,62,63] (λk=>[(35,.int .i64 k)]) (λk=>[(b10,J (nS .u8 (pO l v line own) 160 k) 243),(b8,J (List.replicate 160 (.int .u8 0)) 243),(b4,J (cV v) 448)]) (λk=>k<=160) (λk=>160-k) 0 ?_ ?_ ?_ ?_
 ·show 0<=160;omega
 ·exact .cons U .nil
 ·exact λw h=>by rw[<-Y0];exact h
 intro k y hk
 refine cT ?_
 refine KC (λh4 h4n=>?_) (λh4 h4n=>?_)
 ·refine iT ?_
  refine RW (v:=(.int .i64 ((k:Int)+7))) U U (M _ (bZ I I)) (aX ?_)
  refine RW (v:=(.int .i64 (v.wx))) U U (M _ (bZ I I)) (RW (v:=(.int .i64 ((k:Int)+7-v.wx))) U U (M _ (bZ I I)) (eD ?_))
  refine KL (λh5 h5n=>?_) (λh5 h5n=>?_)
  ·refine eV ?_
   refine KC (λh6 h6n=>?_) (λh6 h6n=>?_)
   ·refine bY ?_
    refine W (bJ U U U sW) U (bY ?_)
    refine aO K_ (λw hw=>aMY _ _ l hl v hv _ _ w (hB.later0 hw)) ?_
    refine RY (Lf k U U U U aL) U (W (hQ 0 U U U U U U N0) U ?_)
    rw[al,Wg (f:=pO l v line own) aL _ (aL7 h1on (by simpa using h5) (by simpa using h6))]
    refine bY ?_
    refine RW (v:=(.int .i64 ((k+1:Nat):Int))) U U (M _ (eU I)) (aX ?_)
    exact⟨k+1,gO,gO,.cons U .nil,bB,λ_ h=>h⟩
   refine bY ?_
   refine W (bJ U U U sW) U (bY ?_)
   refine aO K_ (λw hw=>aCX _ _ l hl v hv _ _ w (hB.later0 hw)) ?_
   refine RY (Lf k U U U U aL) U (W (hQ 0 U U U U U U N0) U ?_)
   rw[al,Wg (f:=pO l v line own) aL _ (aD3 h1on (by intro h0;have h1:=h0.2;simp at h6;omega))]
   refine aX ?_
   refine RW (v:=(.int .i64 ((k+1:Nat):Int))) U U (M _ (eU I)) (aX ?_)
   exact⟨k+1,gO,gO,.cons U .nil,bB,λ_ h=>h⟩
  refine mG ?_
  refine W (bJ U U U sW) U (bY ?_)
  refine aO K_ (λw hw=>aCX _ _ l hl v hv _ _ w (hB.later0 hw)) ?_
  refine RY (Lf k U U U U aL) U (W (hQ 0 U U U U U U N0) U ?_)
  rw[al,Wg (f:=pO l v line own) aL _ (aD3 h1on (by intro h0;rw[h0.1]at h5;cases h5))]
  refine aX ?_
  refine RW (v:=(.int .i64 ((k+1:Nat):Int))) U U (M _ (eU I)) (aX ?_)
  exact⟨k+1,gO,gO,.cons U .nil,bB,λ_ h=>h⟩
 refine aX ?_
 obtain rfl:k=160:=by(try simp only[ak,ai,cj,av,co,aw,ne_eq]at *);omega
 refine bG ?_
 refine W (bJ U U Fb (aI (.head _))) U (bG ?_)
 refine W (hQ (vs:=(nS .u8 (pO l v line own) 160 160)) (l:=List.replicate 160 (.int .u8 0)) 1 U U U Fb (aCG _ _ _ _) U Vu) U ?_
 rw[Dp Vu]
 refine bY ?_
 exact aU (λw hw=>fN (l:=(nS .u8 (pO l v line own) 160 160)) U U Fb (aI (.tail _ (.head _)) w hw) U) ⟨U,by rw[aQf]⟩
end Go.Proofs.YtacejanlmhbddaaGreat

/- Parts. -/
import Derived.Test.YtacejanlmhbddaaGreatProg
import Derived.Test.YtacejanlmhbddaaGreatQrC
set_option maxRecDepth 100000
set_option maxHeartbeats 1000000
set_option linter.all false
namespace Go.Proofs.YtacejanlmhbddaaGreat
open Go Go.VV Go.Proofs Go.RowKit Go.Proofs.Tryz
structure cJ where
 kind:Int
 x:Int
 y:Int
 size:Int
 n:Int
 deriving DecidableEq
def cO(o:cJ):AA:=[.int .i64 o.kind,.int .i64 o.x,.int .i64 o.y,.int .i64 o.size,.int .u16 o.n]
def cO_len(o:cJ):(cO o).length=5:=rfl
def Qz{l:AA}{o:cJ}(h:l=cO o):Value.agg l.toArray= .agg (cO o).toArray:=by rw[h]
def o0 :cJ:=⟨0,0,0,0,0⟩
def cW(s:List UInt8):AA:=[.string (bs s)]
def aMP :List UInt8:=[48,49,50,51,52,53,54,55,56,57,97,98,99,100,101,102]
def dig(m:Nat):UInt8:=aMP.getD m 0
def aCp(n:Nat)(many:Nat):List UInt8:=(List.range many).reverse.map λi=>dig (n/16^i%16)
def h2(o:cJ):List UInt8:=aCp o.n.toNat 2
def h4(o:cJ):List UInt8:=aCp o.n.toNat 4
structure Pq where
 at_:Nat
 by_:Nat
 many:Nat
 kind:Int
 size:Int
 x:Option (List Int)
def PL :List Pq:=[⟨0,1,1,1,1,none⟩,⟨8,1,1,40,3,none⟩,⟨16,1,1,2,2,none⟩,⟨24,1,1,23,2,some [4]⟩,⟨32,8,4,23,2,some [0,1,2,3]⟩,⟨1,16,4,9,3,some [0,1,2,3]⟩,⟨9,16,4,16,1,some [0,1,2,3]⟩,⟨2,16,4,33,1,some [0,1,2,3]⟩,⟨10,16,4,32,1,some [0,1,2,3]⟩,⟨3,16,4,14,1,some [0,1,2,3]⟩,⟨11,16,4,15,1,some [0,1,2,3]⟩,⟨4,8,8,12,1,some [0,1,2,3,4,5,6,7]⟩,⟨5,8,8,13,1,some [0,1,2,3,4,5,6,7]⟩,⟨6,8,8,8,2,some [0,1,2,3,4,5,6,7]⟩,⟨7,8,4,18,1,some [0,1,2,3]⟩,⟨39,1,1,19,1,none⟩,⟨47,1,1,20,1,none⟩,⟨55,1,1,21,1,none⟩,⟨63,1,1,22,1,none⟩,⟨192,8,4,26,1,some [0,1,2,3]⟩,⟨224,1,1,35,2,none⟩,⟨232,1,1,41,2,none⟩,⟨240,1,1,34,2,none⟩,⟨248,1,1,42,2,none⟩,⟨193,16,4,31,1,some [0,1,2,4]⟩,⟨197,16,4,30,1,some [0,1,2,4]⟩,⟨201,1,1,26,1,some [4]⟩,⟨217,1,1,27,1,none⟩,⟨233,1,1,29,1,none⟩,⟨249,1,1,43,1,none⟩,⟨194,8,4,24,3,some [0,1,2,3]⟩,⟨226,1,1,37,1,none⟩,⟨234,1,1,39,3,none⟩,⟨242,1,1,36,1,none⟩,⟨250,1,1,38,3,none⟩,⟨195,1,1,24,3,some [4]⟩,⟨243,1,1,5,1,none⟩,⟨251,1,1,6,1,none⟩,⟨196,8,4,25,3,some [0,1,2,3]⟩,⟨205,1,1,25,3,some [4]⟩,⟨198,8,8,11,2,some [0,1,2,3,4,5,6,7]⟩]
def tS :List cJ:=[⟨1,0,0,1,0⟩,⟨9,0,0,3,0⟩,⟨33,0,0,1,0⟩,⟨14,0,0,1,0⟩,⟨12,0,0,1,0⟩,⟨13,0,0,1,0⟩,⟨8,0,0,2,0⟩,⟨18,0,0,1,0⟩,⟨40,0,0,3,0⟩,⟨16,0,0,1,0⟩,⟨32,0,0,1,0⟩,⟨15,0,0,1,0⟩,⟨12,1,0,1,0⟩,⟨13,1,0,1,0⟩,⟨8,1,0,2,0⟩,⟨18,1,0,1,0⟩,⟨2,0,0,2,0⟩,⟨9,1,0,3,0⟩,⟨33,1,0,1,0⟩,⟨14,1,0,1,0⟩,⟨12,2,0,1,0⟩,⟨13,2,0,1,0⟩,⟨8,2,0,2,0⟩,⟨18,2,0,1,0⟩,⟨23,4,0,2,0⟩,⟨16,1,0,1,0⟩,⟨32,1,0,1,0⟩,⟨15,1,0,1,0⟩,⟨12,3,0,1,0⟩,⟨13,3,0,1,0⟩,⟨8,3,0,2,0⟩,⟨18,3,0,1,0⟩,⟨23,0,0,2,0⟩,⟨9,2,0,3,0⟩,⟨33,2,0,1,0⟩,⟨14,2,0,1,0⟩,⟨12,4,0,1,0⟩,⟨13,4,0,1,0⟩,⟨8,4,0,2,0⟩,⟨19,0,0,1,0⟩,⟨23,1,0,2,0⟩,⟨16,2,0,1,0⟩,⟨32,2,0,1,0⟩,⟨15,2,0,1,0⟩,⟨12,5,0,1,0⟩,⟨13,5,0,1,0⟩,⟨8,5,0,2,0⟩,⟨20,0,0,1,0⟩,⟨23,2,0,2,0⟩,⟨9,3,0,3,0⟩,⟨33,3,0,1,0⟩,⟨14,3,0,1,0⟩,⟨12,6,0,1,0⟩,⟨13,6,0,1,0⟩,⟨8,6,0,2,0⟩,⟨21,0,0,1,0⟩,⟨23,3,0,2,0⟩,⟨16,3,0,1,0⟩,⟨32,3,0,1,0⟩,⟨15,3,0,1,0⟩,⟨12,7,0,1,0⟩,⟨13,7,0,1,0⟩,⟨8,7,0,2,0⟩,⟨22,0,0,1,0⟩,⟨7,0,0,1,0⟩,⟨7,0,1,1,0⟩,⟨7,0,2,1,0⟩,⟨7,0,3,1,0⟩,⟨7,0,4,1,0⟩,⟨7,0,5,1,0⟩,⟨7,0,6,1,0⟩,⟨7,0,7,1,0⟩,⟨7,1,0,1,0⟩,⟨7,1,1,1,0⟩,⟨7,1,2,1,0⟩,⟨7,1,3,1,0⟩,⟨7,1,4,1,0⟩,⟨7,1,5,1,0⟩,⟨7,1,6,1,0⟩,⟨7,1,7,1,0⟩,⟨7,2,0,1,0⟩,⟨7,2,1,1,0⟩,⟨7,2,2,1,0⟩,⟨7,2,3,1,0⟩,⟨7,2,4,1,0⟩,⟨7,2,5,1,0⟩,⟨7,2,6,1,0⟩,⟨7,2,7,1,0⟩,⟨7,3,0,1,0⟩,⟨7,3,1,1,0⟩,⟨7,3,2,1,0⟩,⟨7,3,3,1,0⟩,⟨7,3,4,1,0⟩,⟨7,3,5,1,0⟩,⟨7,3,6,1,0⟩,⟨7,3,7,1,0⟩,⟨7,4,0,1,0⟩,⟨7,4,1,1,0⟩,⟨7,4,2,1,0⟩,⟨7,4,3,1,0⟩,⟨7,4,4,1,0⟩,⟨7,4,5,1,0⟩,⟨7,4,6,1,0⟩,⟨7,4,7,1,0⟩,⟨7,5,0,1,0⟩,⟨7,5,1,1,0⟩,⟨7,5,2,1,0⟩,⟨7,5,3,1,0⟩,⟨7,5,4,1,0⟩,⟨7,5,5,1,0⟩,⟨7,5,6,1,0⟩,⟨7,5,7,1,0⟩,⟨7,6,0,1,0⟩,⟨7,6,1,1,0⟩,⟨7,6,2,1,0⟩,⟨7,6,3,1,0⟩,⟨7,6,4,1,0⟩,⟨7,6,5,1,0⟩,⟨3,0,0,1,0⟩,⟨7,6,7,1,0⟩,⟨7,7,0,1,0⟩,⟨7,7,1,1,0⟩,⟨7,7,2,1,0⟩,⟨7,7,3,1,0⟩,⟨7,7,4,1,0⟩,⟨7,7,5,1,0⟩,⟨7,7,6,1,0⟩,⟨7,7,7,1,0⟩,⟨10,0,0,1,0⟩,⟨10,0,1,1,0⟩,⟨10,0,2,1,0⟩,⟨10,0,3,1,0⟩,⟨10,0,4,1,0⟩,⟨10,0,5,1,0⟩,⟨10,0,6,1,0⟩,⟨10,0,7,1,0⟩,⟨10,1,0,1,0⟩,⟨10,1,1,1,0⟩,⟨10,1,2,1,0⟩,⟨10,1,3,1,0⟩,⟨10,1,4,1,0⟩,⟨10,1,5,1,0⟩,⟨10,1,6,1,0⟩,⟨10,1,7,1,0⟩,⟨10,2,0,1,0⟩,⟨10,2,1,1,0⟩,⟨10,2,2,1,0⟩,⟨10,2,3,1,0⟩,⟨10,2,4,1,0⟩,⟨10,2,5,1,0⟩,⟨10,2,6,1,0⟩,⟨10,2,7,1,0⟩,⟨10,3,0,1,0⟩,⟨10,3,1,1,0⟩,⟨10,3,2,1,0⟩,⟨10,3,3,1,0⟩,⟨10,3,4,1,0⟩,⟨10,3,5,1,0⟩,⟨10,3,6,1,0⟩,⟨10,3,7,1,0⟩,⟨10,4,0,1,0⟩,⟨10,4,1,1,0⟩,⟨10,4,2,1,0⟩,⟨10,4,3,1,0⟩,⟨10,4,4,1,0⟩,⟨10,4,5,1,0⟩,⟨10,4,6,1,0⟩,⟨10,4,7,1,0⟩,⟨10,5,0,1,0⟩,⟨10,5,1,1,0⟩,⟨10,5,2,1,0⟩,⟨10,5,3,1,0⟩,⟨10,5,4,1,0⟩,⟨10,5,5,1,0⟩,⟨10,5,6,1,0⟩,⟨10,5,7,1,0⟩,⟨10,6,0,1,0⟩,⟨10,6,1,1,0⟩,⟨10,6,2,1,0⟩,⟨10,6,3,1,0⟩,⟨10,6,4,1,0⟩,⟨10,6,5,1,0⟩,⟨10,6,6,1,0⟩,⟨10,6,7,1,0⟩,⟨10,7,0,1,0⟩,⟨10,7,1,1,0⟩,⟨10,7,2,1,0⟩,⟨10,7,3,1,0⟩,⟨10,7,4,1,0⟩,⟨10,7,5,1,0⟩,⟨10,7,6,1,0⟩,⟨10,7,7,1,0⟩,⟨26,0,0,1,0⟩,⟨31,0,0,1,0⟩,⟨24,0,0,3,0⟩,⟨24,4,0,3,0⟩,⟨25,0,0,3,0⟩,⟨30,0,0,1,0⟩,⟨11,0,0,2,0⟩,⟨28,0,0,1,0⟩,⟨26,1,0,1,0⟩,⟨26,4,0,1,0⟩,⟨24,1,0,3,0⟩,⟨4,0,0,1,0⟩,⟨25,1,0,3,0⟩,⟨25,4,0,3,0⟩,⟨11,1,0,2,0⟩,⟨28,0,0,1,8⟩,⟨26,2,0,1,0⟩,⟨31,1,0,1,0⟩,⟨24,2,0,3,0⟩,⟨4,0,0,1,0⟩,⟨25,2,0,3,0⟩,⟨30,1,0,1,0⟩,⟨11,2,0,2,0⟩,⟨28,0,0,1,16⟩,⟨26,3,0,1,0⟩,⟨27,0,0,1,0⟩,⟨24,3,0,3,0⟩,⟨4,0,0,1,0⟩,⟨25,3,0,3,0⟩,⟨4,0,0,1,0⟩,⟨11,3,0,2,0⟩,⟨28,0,0,1,24⟩,⟨35,0,0,2,0⟩,⟨31,2,0,1,0⟩,⟨37,0,0,1,0⟩,⟨4,0,0,1,0⟩,⟨4,0,0,1,0⟩,⟨30,2,0,1,0⟩,⟨11,4,0,2,0⟩,⟨28,0,0,1,32⟩,⟨41,0,0,2,0⟩,⟨29,0,0,1,0⟩,⟨39,0,0,3,0⟩,⟨4,0,0,1,0⟩,⟨4,0,0,1,0⟩,⟨4,0,0,1,0⟩,⟨11,5,0,2,0⟩,⟨28,0,0,1,40⟩,⟨34,0,0,2,0⟩,⟨31,4,0,1,0⟩,⟨36,0,0,1,0⟩,⟨5,0,0,1,0⟩,⟨4,0,0,1,0⟩,⟨30,4,0,1,0⟩,⟨11,6,0,2,0⟩,⟨28,0,0,1,48⟩,⟨42,0,0,2,0⟩,⟨43,0,0,1,0⟩,⟨38,0,0,3,0⟩,⟨6,0,0,1,0⟩,⟨4,0,0,1,0⟩,⟨4,0,0,1,0⟩,⟨11,7,0,2,0⟩,⟨28,0,0,1,56⟩]
def p1(i:Nat):cJ:=if i/64=1 then⟨7,(i/8%8:Nat),(i%8:Nat),1,0⟩else if i/64=2 then⟨10,(i/8%8:Nat),(i%8:Nat),1,0⟩else⟨4,0,0,1,0⟩
def b1(i:Nat):cJ:=⟨[17,44,45,46].getD (i/64) 0,(i/8%8:Nat),(i%8:Nat),2,0⟩
def At(q:Pq)(i:Nat):cJ:=⟨q.kind,match q.x with
 |some x=>x.getD i 0
 |none=>0,0,q.size,0⟩
def xI(q:Pq)(P:List cJ)(n:Nat):List cJ:=(List.range n).foldl (λP i=>P.set (q.at_+q.by_*i) (At q i)) P
def putQ(P:List cJ)(q:Pq):List cJ:=xI q P q.many
def zJ(P:List cJ)(n:Nat):List cJ:=(List.range n).foldl (λP y=>P.set (199+8*y) ⟨28,0,0,1,(8*y:Nat)⟩) P
def Sq(q:Pq):Bool:=(List.range q.many).all (λi=>Nat.blt (q.at_+q.by_*i) 256)&&Nat.ble q.many 8&&Nat.ble q.by_ 16&&(match q.x with
 |some x=>Nat.beq x.length q.many
 |none=>true)
def aIf :PL.all Sq=true:=by decide
def aPy :PL.length=41:=rfl
def tX :List cJ:=((List.range 256).map p1).set 118 ⟨3,0,0,1,0⟩
def tabB :List cJ:=(List.range 256).map b1
def aLz :zJ (PL.foldl putQ tX) 8=tS:=by kernel_rfl
def aEi(q:Pq)(P:List cJ):xI q P 0=P:=rfl
def aQY(P:List cJ):zJ P 0=P:=rfl
def C6(q:Pq)(P:List cJ)(n:Nat):xI q P (n+1)=(xI q P n).set (q.at_+q.by_*n) (At q n):=by simp[xI,eo]
def aB8(P:List cJ)(n:Nat):zJ P (n+1)=(zJ P n).set (199+8*n) ⟨28,0,0,1,(8*n:Nat)⟩:=by simp[zJ,eo]
def E4(q:Pq)(P:List cJ)(n:Nat):(xI q P n).length=P.length:=by
 induction n with
 |zero=>rfl
 |succ n ih=>rw[C6,c7,ih]
def aLp(P:List cJ)(n:Nat):(zJ P n).length=P.length:=by
 induction n with
 |zero=>rfl
 |succ n ih=>rw[aB8,c7,ih]
def aCR(l:List Pq)(P:List cJ):(l.foldl putQ P).length=P.length:=by
 induction l generalizing P with
 |nil=>rfl
 |cons q l ih=>rw[i7,ih,putQ,E4]
def aBE :tX.length=256:=by simp[tX]
def foldQ_take{k:Nat}{q:Pq}(h:PL[k]? =some q)(P:List cJ):(PL.take (k+1)).foldl putQ P=putQ ((PL.take k).foldl putQ P) q:=by
 rw[Tb h,ip];rfl
def aQS{q:Pq}(h:Sq q=true):(∀i,i<q.many->q.at_+q.by_*i<256)/\q.many<=8/\q.by_<=16/\∀x,q.x=some x->x.length=q.many:=by
 simp only[Sq,ax,List.all_eq_true,gw]at h
 obtain⟨⟨⟨h1,h2⟩,h3⟩,h4⟩:=h
 refine⟨λi hi=>d9 (Nat.lt_succ_self _) (ah (h1 i hi)),ah h2,ah h3,λx hx=>?_⟩
 rw[hx]at h4
 exact ci h4
def aI8{k:Nat}{q:Pq}(h:PL[k]? =some q):Sq q=true:=List.all_eq_true.1 aIf q (cr h)
def aLC{α:Type}{P:List α}{j:Nat}(h:j<P.length)(x:α):(P.set j x).take (j+1)=P.take j++[x]:=by
 rw[dt,ag h,j2,fT,fx I,gl,List.take_take]
 rw[Nat.min_eq_right I];rfl
structure yV(f:Nat->cJ)(P:List cJ)(j:Nat):Prop where
 len:P.length=256
 part:P.take j=(List.range j).map f
def yV.start(f:Nat->cJ){P:List cJ}(h:P.length=256):yV f P 0:=⟨h,kQ⟩
def yV.step{f:Nat->cJ}{P:List cJ}{j:Nat}(h:yV f P j)(hj:j<256):yV f (P.set j (f j)) (j+1):=
 ⟨by rw[c7,h.len],by rw[aLC (by rw[h.len];exact hj),h.part,eo,bz];rfl⟩
def yV.all{f:Nat->cJ}{P:List cJ}(h:yV f P 256):P=(List.range 256).map f:=by
 have:=h.part
 rwa[dq (by rw[h.len];exact be _)]at this
def jS(u1 u2 u3:AH)(P B:List cJ):AA:=u1::u2::u3::(aM cO P++aM cO B)
section
variable {u1 u2 u3:AH}{P B:List cJ}
def tabL_len(hP:P.length=256)(hB:B.length=256):(jS u1 u2 u3 P B).length=2563:=by
 simp[jS,gH cO_len,hP,hB]
def Jb{α:Type}{c:α->AA}{s:Nat}(hc:∀x,(c x).length=s)(X:AA)(l:List α)(Z:AA){i:Nat}(hi:i<l.length)(y:α):aV (X++(aM c l++Z)) (X.length+i*s) (c y)=X++(aM c (l.set i y)++Z):=by
 have h1:l=l.take i++l[i]::l.drop (i+1):=Km hi
 have h2:l.set i y=l.take i++y::l.drop (i+1):=by rw[dt,ag hi]
 have hl:(X++aM c (l.take i)).length=X.length+i*s:=by rw[bX,gH hc,fT,fx I]
 have h:=Bq (X++aM c (l.take i)) (c l[i]) (aM c (l.drop (i+1))++Z) (c y) (by rw[hc,hc])
 rw[hl]at h
 have e1:X++(aM c l++Z)=X++aM c (l.take i)++(c l[i]++(aM c (l.drop (i+1))++Z)):=by
  conv=>lhs;rw[h1]
  rw[vM,xZ];simp only[eG]
 have e2:X++(aM c (l.set i y)++Z)=X++aM c (l.take i)++(c y++(aM c (l.drop (i+1))++Z)):=by
  rw[h2,vM,xZ];simp only[eG]
 rw[e1,e2];exact h
def Bu(hP:P.length=256){i:Nat}(hi:i<256)(x:cJ):aV (jS u1 u2 u3 P B) (3+i*5) (cO x)=jS u1 u2 u3 (P.set i x) B:=
 Jb cO_len [u1,u2,u3] P (aM cO B) I x
def aO9(hP:P.length=256)(hB:B.length=256){i:Nat}(hi:i<256)(x:cJ):aV (jS u1 u2 u3 P B) (1283+i*5) (cO x)=jS u1 u2 u3 P (B.set i x):=by
 have h:=Jb cO_len (u1::u2::u3::aM cO P) B [] (i:=i) I x
 have hl:(u1::u2::u3::aM cO P).length=1283:=by simp[gH cO_len,hP]
 rw[hl]at h
 simpa[jS] using h
def aLN{w:AI}{b:Nat}(h:aK w b 0 (jS u1 u2 u3 P B)){i:Nat}{x:cJ}(hi:P[i]? =some x):aK w b (3+i*5) (cO x):=by
 have h1:aK w b 3 (aM cO P++aM cO B):=λj v hv=>by
  have:=h (3+j) v (by rw[ja];exact hv)
  rwa[bj]at this
 exact aK.nth' cO_len h1.left hi
def aG2{w:AI}{b:Nat}(hP:P.length=256)(h:aK w b 0 (jS u1 u2 u3 P B)){i:Nat}{x:cJ}(hi:B[i]? =some x):aK w b (1283+i*5) (cO x):=by
 have h1:aK w b 1283 (aM cO B):=λj v hv=>by
  have:=h (1283+j) v (by
   have e:jS u1 u2 u3 P B=(u1::u2::u3::aM cO P)++aM cO B:=by simp[jS]
   have hl:(u1::u2::u3::aM cO P).length=1283:=by simp[gH cO_len,hP]
   rw[e,et I,hl,gl];exact hv)
  rwa[bj]at this
 exact aK.nth' cO_len h1 hi
end
def zL(o:cJ)(b w:Int):cJ:={o with n:=if o.size=2 then b else if o.size=3 then w else o.n}
def Bo(b:Int):cJ:=if b/64=0 then⟨17,b/8%8,b%8,2,0⟩else⟨43+b/64,b/8%8,b%8,2,0⟩
def zT(a b c:Int):cJ:=if a=203 then Bo b else zL (tS.getD a.toNat o0) b (b+256*c)
def aIz :(List.range 256).all (λb=>decide (b1 b=Bo (b:Nat)))=true:=by kernel_rfl
def aNb{b:Nat}(h:b<256):b1 b=Bo (b:Nat):=by
 have:=List.all_eq_true.1 aIz b (List.mem_range.2 h)
 simpa using this
def aLs{b:Nat}(h:b<256):tabB[b]? =some (Bo (b:Nat)):=by
 rw[<-aNb h,tabB,de,ij h];rfl
def T6 :tS.length=256:=by kernel_rfl
def aRr{a:Nat}(h:a<256):tS[a]? =some (tS.getD a o0):=by
 rw[gU,ap (by rw[T6];exact h)];rfl
def Ym{a b c:Int}(h:a=203):zT a b c=Bo b:=by unfold zT;rw[ag h]
def Mc{a b c:Int}{m:Nat}{o:cJ}(ha:a=(m:Int))(h:¬a=203)(ho:tS[m]? =some o):zT a b c=zL o b (b+256*c):=by
 unfold zT
 rw[ae h,ha,c8,gU,ho];rfl
def Yr{o:cJ}(h:o.size=2)(b w:Int):zL o b w=⟨o.kind,o.x,o.y,o.size,b⟩:=by unfold zL;rw[ag h]
def P0{o:cJ}(h:o.size=3)(b w:Int):zL o b w=⟨o.kind,o.x,o.y,o.size,w⟩:=by unfold zL;rw[ae I,ag h]
def Zj{o:cJ}(h:¬o.size=2)(h3:¬o.size=3)(b w:Int):zL o b w=o:=by unfold zL;rw[ae h,ae h3]
def L3{b c:Int}(hb:0<=b/\b<256)(hc:0<=c/\c<256):bI .u16 b (shl .u16 c 8)=b+256*c:=by
 obtain⟨m,rfl⟩:∃m:Nat,b=m:=⟨b.toNat,aR⟩
 obtain⟨n,rfl⟩:∃n:Nat,c=n:=⟨c.toNat,aR⟩
 have h1:shl .u16 (n:Int) 8=((n*256:Nat):Int):=by
  unfold shl
  have:(min (8:Int).toNat IntKind.u16.bits)=8:=by decide
  rw[this,qC];omega
 rw[h1]
 unfold bI
 have h2:(BitVec.ofInt IntKind.u16.bits (m:Int) ||| BitVec.ofInt IntKind.u16.bits ((n*256:Nat):Int)).toNat=n*256+m:=by
  have e1:BitVec.ofInt IntKind.u16.bits (m:Int)=BitVec.ofNat 16 m:=by simp[IntKind.bits]
  have e2:BitVec.ofInt IntKind.u16.bits ((n*256:Nat):Int)=BitVec.ofNat 16 (n*256):=by simp only[IntKind.bits];exact BitVec.ofInt_natCast ..
  rw[e1,e2]
  have e3:(BitVec.ofNat 16 m ||| BitVec.ofNat 16 (n*256)).toNat=(m%65536) ||| (n*256%65536):=by simp
  have e4:m%65536=m:=by omega
  have e5:n*256%65536=n*256:=by omega
  have e6:n*256 ||| m=n*256+m:=by
   have:=Nat.shiftLeft_add_eq_or_of_lt (i:=8) (b:=m) I n
   rw[j5]at this
   simpa using this.symm
  exact e3.trans (by rw[e4,e5,kg,e6])
 rw[h2,qC];omega
def aL1(o:cJ):Bool:=decide (1<=o.kind/\o.kind<=46/\1<=o.size/\o.size<=3/\0<=o.n/\o.n<256)
def aKm :tS.all aL1=true:=by kernel_rfl
def aRv{m:Nat}{o:cJ}(h:tS[m]? =some o):1<=o.kind/\o.kind<=46/\1<=o.size/\o.size<=3/\0<=o.n/\o.n<256:=
 df (List.all_eq_true.1 aKm o (cr h))
def Yu{a:Int}(h0:0<=a)(h:a<256):∃m:Nat,∃o,a=(m:Int)/\m<256/\tS[m]? =some o:=
 ⟨a.toNat,_,aR,aR,aRr I⟩
structure Fine(a:Int)(o:cJ):Prop where
 kind:1<=o.kind/\o.kind<=46
 size:1<=o.size/\o.size<=3
 num:0<=o.n/\o.n<65536
 small:o.size=3\/o.n<256
def aRz{b:Int}(hb:0<=b/\b<256):Fine 203 (Bo b):=by
 unfold Bo
 split<;>exact⟨⟨fU,fU⟩,⟨fU,fU⟩,⟨fU,fU⟩,.inr tB⟩
def aC9{a b c:Int}(ha:0<=a/\a<256)(hb:0<=b/\b<256)(hc:0<=c/\c<256):Fine a (zT a b c):=by
 by_cases h:a=203
 ·rw[Ym h,h];exact aRz hb
 ·obtain⟨m,o,hm,_,ho⟩:=Yu ha.1 ha.2
  have hr:=aRv ho
  rw[Mc hm h ho]
  by_cases h2:o.size=2
  ·rw[Yr h2];exact⟨⟨hr.1,hr.2.1⟩,⟨hr.2.2.1,hr.2.2.2.1⟩,⟨hb.1,fU⟩,.inr hb.2⟩
  ·by_cases h3:o.size=3
   ·rw[P0 h3];exact⟨⟨hr.1,hr.2.1⟩,⟨hr.2.2.1,hr.2.2.2.1⟩,⟨fU,fU⟩,.inl h3⟩
   ·rw[Zj h2 h3];exact⟨⟨hr.1,hr.2.1⟩,⟨hr.2.2.1,hr.2.2.2.1⟩,⟨hr.2.2.2.2.1,aR⟩,.inr hr.2.2.2.2.2⟩
def iV(c:Bool):Int:=if c=true then 1 else 0
def fl(z n h c:Bool):Int:=(if z=true then 128 else 0)+(if n=true then 64 else 0)+(if h=true then 32 else 0)+(if c=true then 16 else 0)
def zF(f:Int):Bool:=f/128==1
def nF(f:Int):Bool:=f/64%2==1
def hF(f:Int):Bool:=f/32%2==1
def cF(f:Int):Bool:=f/16%2==1
def rQ(a b:Int)(c:Bool):Int:=(a+b+iV c)%256
def Au(a b:Int)(c:Bool):Int:=fl (rQ a b c==0) false (decide (15<a%16+b%16+iV c)) (decide (255<a+b+iV c))
def rT(a b:Int)(c:Bool):Int:=(a-b-iV c)%256
def tP(a b:Int)(c:Bool):Int:=fl (rT a b c==0) true (decide (a%16<b%16+iV c)) (decide (a<b+iV c))
def tA(k:Int)(r:Int):Int:=fl (r==0) false (k==0) false
def zN(a:Int):Int:=(a+1)%256
def Pb(a f:Int):Int:=fl (zN a==0) false (a%16==15) (cF f)
def Av(a:Int):Int:=(a-1)%256
def Oi(a f:Int):Int:=fl (Av a==0) true (a%16==0) (cF f)
def daaC(a f:Int):Bool:=cF f||(!nF f&&decide (153<a))
def daaL(a f:Int):Bool:=hF f||(!nF f&&decide (9<a%16))
def fg(x:Int)(b:Bool):Int:=if b=true then x else 0
def daaB(a f:Int):Int:=fg 6 (daaL a f)+fg 96 (daaC a f)
def tY(a f:Int):Int:=if nF f=true then(a-daaB a f)%256 else(a+daaB a f)%256
def Sz(a f:Int):Int:=fl (tY a f==0) (nF f) false (daaC a f)
def turnO(k a:Int):Bool:=if k%8=6 then false else if k%8=0\/k%8=2\/k%8=4 then a/128==1 else a%2==1
def gQ(k a f:Int):Int:=
 if k%8=0 then a*2%256+a/128 else if k%8=1 then a/2+a%2*128 else if k%8=2 then a*2%256+iV (cF f)else if k%8=3 then a/2+iV (cF f)*128
 else if k%8=4 then a*2%256 else if k%8=5 then a/2+a/128*128 else if k%8=6 then a%16*16+a/16 else a/2
def mN(k a f:Int):Int:=fl (gQ k a f==0) false false (turnO k a)
def Se(n a f:Int):Int:=fl (a/2^(n%8).toNat%2==0) false true (cF f)
def zP(a b:Int):Int:=(a+b)%65536
def Hf(a b f:Int):Int:=fl (zF f) false (decide (4095<a%4096+b%4096)) (decide (65535<a+b))
def s8(e:Int):Int:=if 127<e then e-256 else e
def rK(a e:Int):Int:=(a+s8 e)%65536
def wM(a e:Int):Int:=fl false false (decide (15<a%16+e%16)) (decide (255<a%256+e))
def Wv(z h c:Bool):bI .u8 (bI .u8 (fg 128 z) (fg 32 h)) (fg 16 c)=fl z false h c:=by cases z<;>cases h<;>cases c<;>decide
def aBr(z h c:Bool):bI .u8 (bI .u8 (bI .u8 (fg 128 z) 64) (fg 32 h)) (fg 16 c)=fl z true h c:=by cases z<;>cases h<;>cases c<;>decide
def aI1(z:Bool):bI .u8 (fg 128 z) 32=fl z false true false:=by cases z<;>decide
def V3(z:Bool):fg 128 z=fl z false false false:=by cases z<;>decide
def aGe(z c:Bool):bI .u8 (bI .u8 (fg 128 z) 32) (fg 16 c)=fl z false true c:=by cases z<;>cases c<;>decide
def aGN(z n c:Bool):bI .u8 (bI .u8 (fg 128 z) (fg 64 n)) (fg 16 c)=fl z n false c:=by cases z<;>cases n<;>cases c<;>decide
def or_zc(z c:Bool):bI .u8 (fg 128 z) (fg 16 c)=fl z false false c:=by cases z<;>cases c<;>decide
def aOZ(h c:Bool):bI .u8 (fg 32 h) (fg 16 c)=fl false false h c:=by cases h<;>cases c<;>decide
def J6(x k:Int)(v:Int):v/k%2*x=fg x (v/k%2==1):=by
 unfold fg
 rcases(show v/k%2=0\/v/k%2=1 by omega)with h|h<;>rw[h]<;>simp
def K4(f:Int):f/16%2*16=fg 16 (cF f):=J6 16 16 f
def aNm(f:Int):f/64%2*64=fg 64 (nF f):=J6 64 64 f
def aQe{f:Int}(h:0<=f/\f<256):f/128%2*128=fg 128 (zF f):=by
 rw[J6 128 128 f]
 unfold zF
 rw[show f/128%2=f/128 by omega]
def aQk(z h c:Bool):bI .u8 (bI .u8 (fg 128 z) (fg 32 h)) (fg 16 c)=fl z false h c:=Wv z h c
def aGy{e:Int}(h:0<=e/\e<256):IntKind.wrap .i8 e=s8 e:=
 eI (p:=λe=>IntKind.wrap .i8 e=s8 e) eW h.1 h.2
def Wk(n:Int)(j:Nat)(hj:j<60):aQ .i64 n (2^j-1:Nat)=n%(2^j:Nat):=by
 have h1:2^j<2^60:=Nat.pow_lt_pow_right aD hj
 have hp:0<2^j:=ke j
 have h2:(BitVec.ofInt 64 n &&& BitVec.ofInt 64 ((2^j-1:Nat):Int)).toNat=(n%(2^j:Nat)).toNat:=by
  rw[ie,f4,f4]
  have e1:(((2^j-1:Nat):Int)%((2^64:Nat):Int)).toNat=2^j-1:=by omega
  rw[e1,fy]
  obtain⟨q,hq⟩:(2^j:Nat)∣2^64:=Nat.pow_dvd_pow 2 I
  have h3:n%((2^64:Nat):Int)%((2^j:Nat):Int)=n%((2^j:Nat):Int):=Int.emod_emod_of_dvd n (by rw[hq];exact⟨q,by push_cast;rfl⟩)
  have h4:0<=n%((2^64:Nat):Int):=fz _ aD
  rw[<-h3,Int.toNat_emod h4 (im _),c8]
 show IntKind.wrap .i64 ((BitVec.ofInt 64 n &&& BitVec.ofInt 64 ((2^j-1:Nat):Int)).toNat:Int)=_
 rw[h2]
 have h5:0<=n%((2^j:Nat):Int):=fz _ I
 have h6:n%((2^j:Nat):Int)<((2^j:Nat):Int):=f7 _ I
 rw[dw h5]
 exact bZ I I
def Y6(n:Int):aQ .i64 n 7=n%8:=Wk n 3 aD
def aOt(n:Int){a:Int}(h:0<=a/\a<256):0<=a/2^(n%8).toNat/\a/2^(n%8).toNat<256:=by
 have hp:0<(2:Int)^(n%8).toNat:=gp aD
 refine⟨kc h.1 I,?_⟩
 exact Int.lt_of_le_of_lt (j3 _ h.1) h.2
def aPp{a m:Int}(h:0<=m/\m<8):shr .u8 a m=a/2^m.toNat:=by
 unfold shr
 rw[show min m.toNat (IntKind.bits .u8)=m.toNat from fx (by show m.toNat<=8;omega)]
 exact eu _ (j6 (gp aD))
def aBZ{p:Int->Bool->Prop}(h:∀n:Fin 256,∀b:Bool,p (n.val:Int) b){x:Int}(hx:0<=x/\x<256)(b:Bool):p x b:=eI (p:=λx=>p x b) (λn=>h n b) hx.1 hx.2
def aOL{f:Int}(h:0<=f/\f<256):(aQ .u8 f 64 != 0)=nF f:=eI (p:=λf=>(aQ .u8 f 64 != 0)=nF f) eW h.1 h.2
def aMk{f:Int}(h:0<=f/\f<256):(aQ .u8 f 32 != 0)=hF f:=eI (p:=λf=>(aQ .u8 f 32 != 0)=hF f) eW h.1 h.2
def Zv{f:Int}(h:0<=f/\f<256):(aQ .u8 f 16 != 0)=cF f:=eI (p:=λf=>(aQ .u8 f 16 != 0)=cF f) eW h.1 h.2
def aBP{f:Int}(h:0<=f/\f<256):(aQ .u8 f 128 != 0)=zF f:=eI (p:=λf=>(aQ .u8 f 128 != 0)=zF f) eW h.1 h.2
def aEV{f:Int}(h:0<=f/\f<256):aQ .u8 f 16=fg 16 (cF f):=eI (p:=λf=>aQ .u8 f 16=fg 16 (cF f)) eW h.1 h.2
def aGY(c:Bool):(fg 16 c != 0)=c:=by cases c<;>decide
def or_96(c:Bool):bI .u8 (fg 6 c) 96=fg 6 c+96:=by cases c<;>decide
def aJA(c:Bool):shr .u8 (fg 16 c) 4=iV c:=by cases c<;>decide
def aF3{a:Int}(h:0<=a/\a<256)(c:Bool):bI .u8 (a*2%256) (iV c)=a*2%256+iV c:=aBZ (p:=λa c=>bI .u8 (a*2%256) (iV c)=a*2%256+iV c) eW h c
def aMq{a:Int}(h:0<=a/\a<256)(c:Bool):bI .u8 (a/2) (iV c*128)=a/2+iV c*128:=aBZ (p:=λa c=>bI .u8 (a/2) (iV c*128)=a/2+iV c*128) eW h c
def aK7{a:Int}(h:0<=a/\a<256):bI .u8 (a/2) (a%2*128)=a/2+a%2*128:=eI (p:=λa=>bI .u8 (a/2) (a%2*128)=a/2+a%2*128) eW h.1 h.2
def aN2{a:Int}(h:0<=a/\a<256):bI .u8 (a/2) (a/128%2*128)=a/2+a/128*128:=eI (p:=λa=>bI .u8 (a/2) (a/128%2*128)=a/2+a/128*128) eW h.1 h.2
def aNX{a:Int}(h:0<=a/\a<256):bI .u8 (shl .u8 a 1) (shr .u8 a 7)=a*2%256+a/128:=eI (p:=λa=>bI .u8 (shl .u8 a 1) (shr .u8 a 7)=a*2%256+a/128) eW h.1 h.2
def aKM{a:Int}(h:0<=a/\a<256):bI .u8 (shl .u8 a 4) (shr .u8 a 4)=a%16*16+a/16:=eI (p:=λa=>bI .u8 (shl .u8 a 4) (shr .u8 a 4)=a%16*16+a/16) eW h.1 h.2
def x16{x:Int}(h:x=0\/x=1):x*16=fg 16 (x==1):=by rcases h with rfl|rfl<;>decide
def Mo(c:Bool):0<=iV c/\iV c<=1:=by cases c<;>decide
def vR(z n h c:Bool):0<=fl z n h c/\fl z n h c<256:=by cases z<;>cases n<;>cases h<;>cases c<;>decide
structure CR where
 a:Int
 f:Int
 b:Int
 c:Int
 d:Int
 e:Int
 h:Int
 l:Int
 sp:Int
 pc:Int
deriving DecidableEq
structure CR.Ok(r:CR):Prop where
 a:0<=r.a/\r.a<256
 f:0<=r.f/\r.f<256
 b:0<=r.b/\r.b<256
 c:0<=r.c/\r.c<256
 d:0<=r.d/\r.d<256
 e:0<=r.e/\r.e<256
 h:0<=r.h/\r.h<256
 l:0<=r.l/\r.l<256
 sp:0<=r.sp/\r.sp<65536
 pc:0<=r.pc/\r.pc<65536
def cR(r:CR):AA:=[.int .u8 r.a,.int .u8 r.f,.int .u8 r.b,.int .u8 r.c,.int .u8 r.d,.int .u8 r.e,.int .u8 r.h,.int .u8 r.l,.int .u16 r.sp,.int .u16 r.pc]
def r0 :CR:=⟨0,0,0,0,0,0,0,0,0,0⟩
def Bj(r:CR)(n:Int):Int:=if n=0 then r.b else if n=1 then r.c else if n=2 then r.d else if n=3 then r.e else if n=4 then r.h else if n=5 then r.l else if n=7 then r.a else 0
def qZ(r:CR)(n x:Int):CR:=
 if n=0 then {r with b:=x} else if n=1 then {r with c:=x} else if n=2 then {r with d:=x} else if n=3 then {r with e:=x} else if n=4 then {r with h:=x} else if n=5 then {r with l:=x} else if n=7 then {r with a:=x} else r0
def pairR(r:CR)(n:Int):Int:=if n=0 then r.b*256+r.c else if n=1 then r.d*256+r.e else if n=2 then r.h*256+r.l else if n=3 then r.sp else if n=4 then r.a*256+r.f/16*16 else 0
def iX(r:CR)(n x:Int):CR:=
 if n=0 then {r with b:=x/256,c:=x%256} else if n=1 then {r with d:=x/256,e:=x%256} else if n=2 then {r with h:=x/256,l:=x%256} else if n=3 then {r with sp:=x}
 else if n=4 then {r with a:=x/256,f:=x%256/16*16} else r0
def Ew(r:CR)(n:Int):Bool:=if n=0 then !zF r.f else if n=1 then zF r.f else if n=2 then !cF r.f else if n=3 then cF r.f else n==4
def atL(rb:Nat):AA:=[.pointer (some ⟨rb,2,none⟩),.pointer (some ⟨rb,3,none⟩),.pointer (some ⟨rb,4,none⟩),.pointer (some ⟨rb,5,none⟩),.pointer (some ⟨rb,6,none⟩),.pointer (some ⟨rb,7,none⟩),.pointer none,P_ rb]
def kC(rb:Nat)(n:Int):AH:=if n<0\/8<=n then .pointer none else(atL rb).getD n.toNat (.pointer none)
def zR(n:Int):Prop:=n<0\/n=6\/8<=n
def aA7(n:Int):n=0\/n=1\/n=2\/n=3\/n=4\/n=5\/n=7\/zR n:=by unfold zR;omega
def aC4{n:Int}(h:zR n)(rb:Nat):kC rb n= .pointer none:=by
 unfold zR at h
 rcases h with h|h|h
 ·unfold kC;rw[ag (.inl h)]
 ·subst h;rfl
 ·unfold kC;rw[ag (.inr h)]
def aK1{n:Int}(h:zR n)(r:CR):Bj r n=0:=by unfold zR at h;unfold Bj;repeat rw[ae I]
def aPB{n:Int}(h:zR n)(r:CR)(x:Int):qZ r n x=r0:=by unfold zR at h;unfold qZ;repeat rw[ae I]
def Q7{n:Int}(h:n<0\/4<n)(r:CR):pairR r n=0:=by unfold pairR;repeat rw[ae I]
def setPR_no{n:Int}(h:n<0\/4<n)(r:CR)(x:Int):iX r n x=r0:=by unfold iX;repeat rw[ae I]
def Az{h l:Int}(hh:0<=h/\h<256)(hl:0<=l/\l<256):bI .u16 (h*256) l=h*256+l:=by
 have e:∀x y:Int,bI .u16 x y=bI .u16 y x:=λx y=>by unfold bI;rw[BitVec.or_comm]
 have:=L3 hl hh
 rw[e,show shl .u16 h 8=h*256 by unfold shl;exact tW (by show 0<=h*2^8;omega) (by show h*2^8<65536;omega)]at this
 omega
def aHM{x:Nat}(h:x<65536):x &&& 65520=x/16*16:=by
 apply je
 intro i
 rw[kf,show x/16*16=(x >>> 4) <<< 4 by rw[jx,j5],gv,Nat.testBit_shiftRight]
 have hb:∀i,i<16->Nat.testBit 65520 i=decide (4<=i):=by decide
 by_cases hi:i<16
 ·rw[hb i hi]
  by_cases h4:4<=i
  ·rw[show 4+(i-4)=i by omega];simp[h4]
  ·simp[h4]
 ·have hx:x.testBit i=false:=Nat.testBit_lt_two_pow (d9 h (show 2^16<=2^i from gd aD I))
  rw[show 4+(i-4)=i by omega,hx];simp
def aLj{x:Int}(h:0<=x/\x<65536):lD .u16 x 15=x/16*16:=by
 obtain⟨m,rfl⟩:∃m:Nat,x=m:=⟨x.toNat,aR⟩
 have h1:(BitVec.ofInt 16 (m:Int) &&& ~~~BitVec.ofInt 16 15).toNat=m/16*16:=by
  rw[ie,show(~~~BitVec.ofInt 16 15).toNat=65520 by decide,show(BitVec.ofInt 16 (m:Int)).toNat=m by rw[f4];omega]
  exact aHM I
 show IntKind.wrap .u16 ((BitVec.ofInt 16 (m:Int) &&& ~~~BitVec.ofInt 16 15).toNat:Int)=_
 rw[h1]
 exact(tW I I).trans I
def aEk{f:Int}(h:0<=f/\f<256):aQ .u8 f 240=f/16*16:=eI (p:=λf=>aQ .u8 f 240=f/16*16) eW h.1 h.2
def aFz{n:Int}(h:n=0\/n=1)(r:CR):(zF r.f==(n==1))=Ew r n:=by
 rcases h with rfl|rfl
 ·show(zF r.f==false)= !zF r.f;cases zF r.f<;>rfl
 ·show(zF r.f==true)=zF r.f;cases zF r.f<;>rfl
def aEb{n:Int}(h:n=2\/n=3)(r:CR):(cF r.f==(n==3))=Ew r n:=by
 rcases h with rfl|rfl
 ·show(cF r.f==false)= !cF r.f;cases cF r.f<;>rfl
 ·show(cF r.f==true)=cF r.f;cases cF r.f<;>rfl
def aML{n:Int}(h0:n≠0)(h1:n≠1)(h2:n≠2)(h3:n≠3)(r:CR):(n==4)=Ew r n:=by unfold Ew;rw[ae h0,ae h1,ae h2,ae h3]
def xU(n:Int):Nat:=if n=0 then 2 else if n=1 then 4 else if n=2 then 6 else 0
def yW(n:Int):Nat:=if n=0 then 3 else if n=1 then 5 else if n=2 then 7 else 1
def aB0 :r0.Ok:=⟨iH,iH,iH,iH,iH,iH,iH,iH,iH,iH⟩
def aQI{r:CR}(h:r.Ok)(n:Int):0<=Bj r n/\Bj r n<256:=by
 have h1:=h.a;have h2:=h.b;have h3:=h.c;have h4:=h.d;have h5:=h.e;have h6:=h.h;have h7:=h.l
 unfold Bj;repeat' split
 all_goals omega
def tF{r:CR}(h:r.Ok)(n:Int):0<=pairR r n/\pairR r n<65536:=by
 have h1:=h.a;have h2:=h.b;have h3:=h.c;have h4:=h.d;have h5:=h.e;have h6:=h.h;have h7:=h.l;have h8:=h.f;have h9:=h.sp
 unfold pairR;repeat' split
 all_goals omega
def CR.Ok.set{r:CR}(h:r.Ok)(n:Int){x:Int}(hx:0<=x/\x<256):(qZ r n x).Ok:=by
 unfold qZ;repeat' split
 all_goals first|exact aB0|exact⟨hx,h.f,h.b,h.c,h.d,h.e,h.h,h.l,h.sp,h.pc⟩|exact⟨h.a,h.f,hx,h.c,h.d,h.e,h.h,h.l,h.sp,h.pc⟩|exact⟨h.a,h.f,h.b,hx,h.d,h.e,h.h,h.l,h.sp,h.pc⟩|exact⟨h.a,h.f,h.b,h.c,hx,h.e,h.h,h.l,h.sp,h.pc⟩|exact⟨h.a,h.f,h.b,h.c,h.d,hx,h.h,h.l,h.sp,h.pc⟩|exact⟨h.a,h.f,h.b,h.c,h.d,h.e,hx,h.l,h.sp,h.pc⟩|exact⟨h.a,h.f,h.b,h.c,h.d,h.e,h.h,hx,h.sp,h.pc⟩
def CR.Ok.setP{r:CR}(h:r.Ok)(n:Int){x:Int}(hx:0<=x/\x<65536):(iX r n x).Ok:=by
 have hh:0<=x/256/\x/256<256:=by omega
 have hl:0<=x%256/\x%256<256:=by omega
 have hf:0<=x%256/16*16/\x%256/16*16<256:=by omega
 unfold iX;repeat' split
 all_goals first|exact aB0|exact⟨h.a,h.f,hh,hl,h.d,h.e,h.h,h.l,h.sp,h.pc⟩|exact⟨h.a,h.f,h.b,h.c,hh,hl,h.h,h.l,h.sp,h.pc⟩|exact⟨h.a,h.f,h.b,h.c,h.d,h.e,hh,hl,h.sp,h.pc⟩|exact⟨h.a,h.f,h.b,h.c,h.d,h.e,h.h,h.l,hx,h.pc⟩|exact⟨hh,hf,h.b,h.c,h.d,h.e,h.h,h.l,h.sp,h.pc⟩
structure CS where
 r:CR
 ime:Bool
 soon:Bool
 halt:Bool
 stop:Bool
deriving DecidableEq
def cS(s:CS):AA:=cR s.r++[.bool s.ime,.bool s.soon,.bool s.halt,.bool s.stop]
structure Dd where
 what:Int
 n:Int
 at_:Int
 op:cJ
 taken:Bool
def oN :cJ:=⟨0,0,0,0,0⟩
def cDd(d:Dd):AA:=[.int .i64 d.what,.int .i64 d.n,.int .u16 d.at_]++cO d.op++[.bool d.taken]
structure aRU(β:Type) where
 fetch:Int->β->Int×β
 read:Int->β->Int×β
 write:Int->Int->β->β
 idle:β->β
 pend:β->Int
 ack:Int->β->β
structure Rn(β:Type) where
 s:CS
 m:β
def nE(w:Int):Int:=(w+1)%65536
def rN(w:Int):Int:=(w-1)%65536
def tU(v n:Int):Int:=v-v/2^n.toNat%2*2^n.toNat
def wR(v n:Int):Int:=v+(1-v/2^n.toNat%2)*2^n.toNat
def kU(r:CR)(k b:Int):CR:=
 if k=0 then {r with a:=rQ r.a b false,f:=Au r.a b false} else if k=1 then {r with a:=rQ r.a b (cF r.f),f:=Au r.a b (cF r.f)}
 else if k=2 then {r with a:=rT r.a b false,f:=tP r.a b false} else if k=3 then {r with a:=rT r.a b (cF r.f),f:=tP r.a b (cF r.f)}
 else if k=4 then {r with a:=aQ .u8 r.a b,f:=tA 0 (aQ .u8 r.a b)} else if k=5 then {r with a:=lK .u8 r.a b,f:=tA 2 (lK .u8 r.a b)}
 else if k=6 then {r with a:=bI .u8 r.a b,f:=tA 1 (bI .u8 r.a b)} else if k=7 then {r with f:=tP r.a b false} else r
section
variable {β:Type}
def Rn.reg(x:Rn β)(r:CR):Rn β:=⟨{x.s with r:=r},x.m⟩
def Rn.mem(x:Rn β)(m:β):Rn β:=⟨x.s,m⟩
variable (A:aRU β)
def gett(n:Int)(x:Rn β):Int×Rn β:=if n=6 then((A.read (pairR x.s.r 2) x.m).1,x.mem (A.read (pairR x.s.r 2) x.m).2)else(Bj x.s.r n,x)
def sett(n v:Int)(x:Rn β):Rn β:=if n=6 then x.mem (A.write (pairR x.s.r 2) v x.m)else x.reg (qZ x.s.r n v)
def push1(v:Int)(x:Rn β):Rn β:=⟨{x.s with r:={x.s.r with sp:=rN x.s.r.sp} },A.write (rN x.s.r.sp) v x.m⟩
def push(w:Int)(x:Rn β):Rn β:=push1 A (w%256) (push1 A (w/256) x)
def pop1(x:Rn β):Int×Rn β:=((A.read x.s.r.sp x.m).1,⟨{x.s with r:={x.s.r with sp:=nE x.s.r.sp} },(A.read x.s.r.sp x.m).2⟩)
def pop(x:Rn β):Int×Rn β:=((pop1 A (pop1 A x).2).1*256+(pop1 A x).1,(pop1 A (pop1 A x).2).2)
def idles :Nat->Rn β->Rn β
 |0,x=>x
 |n+1,x=>(idles n x).mem (A.idle (idles n x).m)
def change(n:Int)(g:Int->Int->Int×Int)(x:Rn β):Rn β:=
 let q:=gett A n x
 let y:=sett A n (g q.1 q.2.s.r.f).1 q.2
 y.reg {y.s.r with f:=(g q.1 q.2.s.r.f).2}
def far(n:Int)(x:Rn β):Int×Rn β:=
 if n<2 then(pairR x.s.r n,x)else(pairR x.s.r 2,x.reg (iX x.s.r 2 (if n=2 then nE (pairR x.s.r 2)else rN (pairR x.s.r 2))))
def goto(w:Int)(x:Rn β):Rn β:=x.reg {x.s.r with pc:=w}
def kW(k:Int):Bool:=decide (k=7\/k=8\/(10<=k/\k<=13)\/(17<=k/\k<=22)\/(44<=k/\k<=46))
def gR(o:cJ)(x:Rn β):Rn β:=
 if o.kind=7 then sett A o.x (gett A o.y x).1 (gett A o.y x).2
 else if o.kind=8 then sett A o.x (o.n%256) x
 else if o.kind=10 then(gett A o.y x).2.reg (kU (gett A o.y x).2.s.r o.x (gett A o.y x).1)
 else if o.kind=11 then x.reg (kU x.s.r o.x (o.n%256))
 else if o.kind=12 then change A o.x (λv f=>(zN v,Pb v f)) x
 else if o.kind=13 then change A o.x (λv f=>(Av v,Oi v f)) x
 else if o.kind=17 then change A o.y (λv f=>(gQ o.x v f,mN o.x v f)) x
 else if o.kind=18 then x.reg {x.s.r with a:=gQ o.x x.s.r.a x.s.r.f,f:=fl false false false (turnO o.x x.s.r.a)}
 else if o.kind=44 then(gett A o.y x).2.reg { (gett A o.y x).2.s.r with f:=Se o.x (gett A o.y x).1 x.s.r.f}
 else if o.kind=45 then sett A o.y (tU (gett A o.y x).1 o.x) (gett A o.y x).2
 else if o.kind=46 then sett A o.y (wR (gett A o.y x).1 o.x) (gett A o.y x).2
 else if o.kind=19 then x.reg {x.s.r with a:=tY x.s.r.a x.s.r.f,f:=Sz x.s.r.a x.s.r.f}
 else if o.kind=20 then x.reg {x.s.r with a:=255-x.s.r.a,f:=fl (zF x.s.r.f) true true (cF x.s.r.f)}
 else if o.kind=21 then x.reg {x.s.r with f:=fl (zF x.s.r.f) false false true}
 else if o.kind=22 then x.reg {x.s.r with f:=fl (zF x.s.r.f) false false (!cF x.s.r.f)}
 else x
def pA(k:Int):Bool:=decide (k=9\/(14<=k/\k<=16)\/k=30\/k=31\/(40<=k/\k<=43))
def jX(o:cJ)(x:Rn β):Rn β:=
 if o.kind=9 then x.reg (iX x.s.r o.x o.n)
 else if o.kind=14 then idles A 1 (x.reg (iX x.s.r o.x (nE (pairR x.s.r o.x))))
 else if o.kind=15 then idles A 1 (x.reg (iX x.s.r o.x (rN (pairR x.s.r o.x))))
 else if o.kind=16 then idles A 1 (x.reg (iX {x.s.r with f:=Hf (pairR x.s.r 2) (pairR x.s.r o.x) x.s.r.f} 2 (zP (pairR x.s.r 2) (pairR x.s.r o.x))))
 else if o.kind=41 then idles A 2 (x.reg {x.s.r with sp:=rK x.s.r.sp (o.n%256),f:=wM x.s.r.sp (o.n%256)})
 else if o.kind=42 then idles A 1 (x.reg (iX {x.s.r with f:=wM x.s.r.sp (o.n%256)} 2 (rK x.s.r.sp (o.n%256))))
 else if o.kind=43 then idles A 1 (x.reg {x.s.r with sp:=pairR x.s.r 2})
 else if o.kind=30 then push A (pairR (idles A 1 x).s.r o.x) (idles A 1 x)
 else if o.kind=31 then(pop A x).2.reg (iX (pop A x).2.s.r o.x (pop A x).1)
 else if o.kind=40 then x.mem (A.write (nE o.n) (x.s.r.sp/256) (A.write o.n (x.s.r.sp%256) x.m))
 else x
def isP(k:Int):Bool:=decide (32<=k/\k<=39)
def place(o:cJ)(x:Rn β):Int×Rn β:=
 if o.kind=32\/o.kind=33 then far o.x x else if o.kind=34\/o.kind=35 then(65280+o.n%256,x)else if o.kind=36\/o.kind=37 then(65280+x.s.r.c,x)else(o.n,x)
def mO(o:cJ)(x:Rn β):Rn β:=
 let p:=place o x
 if o.kind=32\/o.kind=34\/o.kind=36\/o.kind=38 then⟨{p.2.s with r:={p.2.s.r with a:=(A.read p.1 p.2.m).1} },(A.read p.1 p.2.m).2⟩
 else p.2.mem (A.write p.1 p.2.s.r.a p.2.m)
def metJ(o:cJ)(x:Rn β):Bool:= !(decide (23<=o.kind/\o.kind<=26))||Ew x.s.r o.x
def effJ(o:cJ)(x0:Rn β):Rn β:=
 let x:=if o.kind=26/\o.x≠4 then idles A 1 x0 else x0
 if metJ o x0=false then x
 else if o.kind=23 then goto ((x.s.r.pc+s8 (o.n%256))%65536) (idles A 1 x)
 else if o.kind=24 then goto o.n (idles A 1 x)
 else if o.kind=25\/o.kind=28 then goto o.n (push A x.s.r.pc (idles A 1 x))
 else if o.kind=27 then idles A 1 (goto (pop A ⟨{x.s with ime:=true},x.m⟩).1 (pop A ⟨{x.s with ime:=true},x.m⟩).2)
 else if o.kind=26 then idles A 1 (goto (pop A x).1 (pop A x).2)
 else if o.kind=29 then goto (pairR x.s.r 2) x
 else x
def ordT(o:cJ)(at_:Int)(x:Rn β):Bool×Rn β:=
 if o.kind=2 then(true,⟨{x.s with stop:=true},x.m⟩)
 else if o.kind=3 then(true,⟨{x.s with halt:=true},x.m⟩)
 else if o.kind=4 then(true,goto at_ x)
 else if o.kind=5 then(true,⟨{x.s with ime:=false},x.m⟩)
 else if o.kind=6 then(true,⟨{x.s with soon:=true},x.m⟩)
 else if kW o.kind=true then(true,gR A o x)
 else if pA o.kind=true then(true,jX A o x)
 else if isP o.kind=true then(true,mO A o x)
 else(metJ o x,effJ A o x)
def fetch1(x:Rn β):Int×Rn β:=((A.fetch x.s.r.pc x.m).1,⟨{x.s with r:={x.s.r with pc:=nE x.s.r.pc} },(A.fetch x.s.r.pc x.m).2⟩)
structure Nx(β:Type) where
 b:AB
 o:cJ
 x:Rn β
def Zp(q:Nx β)(i:Nat):Nx β:=
 let p:=fetch1 A q.x
 let b:=q.b.set i p.1
 ⟨b,zT (b.getD 0 0) (b.getD 1 0) (b.getD 2 0),p.2⟩
def nx0(x:Rn β):Nx β:=⟨[0,0,0],⟨0,0,0,1,0⟩,x⟩
def iQ(x:Rn β):Nat->Nx β
 |0=>nx0 x
 |n+1=>Zp A (iQ x n) n
def nextT(x:Rn β):cJ×Rn β:=
 if((iQ A x 1).o.size<=1)then((iQ A x 1).o,(iQ A x 1).x)else if((iQ A x 2).o.size<=2)then((iQ A x 2).o,(iQ A x 2).x)else((iQ A x 3).o,(iQ A x 3).x)
def oC(p:Int):Int:=if p%2=1 then 0 else if p/2%2=1 then 1 else if p/4%2=1 then 2 else if p/8%2=1 then 3 else 4
def An(p:Int)(x:Rn β):Rn β:=
 let y:=push A x.s.r.pc (idles A 2 x)
 let z:=idles A 1 (y.mem (A.ack (oC p) y.m))
 ⟨{z.s with ime:=false,soon:=false,r:={z.s.r with pc:=64+8*oC p} },z.m⟩
def fL(x:Rn β):Dd×Rn β:=
 if x.s.stop=true then(⟨0,0,x.s.r.pc,oN,false⟩,⟨{x.s with stop:=A.pend (A.idle x.m)/16%2==0},A.idle x.m⟩)
 else if x.s.halt=true/\A.pend x.m=0 then(⟨0,0,x.s.r.pc,oN,false⟩,x.mem (A.idle x.m))
 else
  let y:Rn β:=⟨{x.s with halt:=false},x.m⟩
  if x.s.ime=true/\A.pend x.m≠0 then(⟨2,oC (A.pend x.m),x.s.r.pc,oN,false⟩,An A (A.pend x.m) y)
  else
   let q:=nextT A ⟨{y.s with soon:=false},y.m⟩
   let t:=ordT A q.1 x.s.r.pc q.2
   (⟨1,0,x.s.r.pc,q.1,t.1⟩,if x.s.soon=true/\q.1.kind≠5 then⟨{t.2.s with ime:=true},t.2.m⟩else t.2)
end
structure Tm where
 cnt:Int
 tima:Int
 tma:Int
 tac:Int
 over:Bool
deriving DecidableEq
def iZ(t:Tm):AA:=[.int .u16 t.cnt,.int .u8 t.tima,.int .u8 t.tma,.int .u8 t.tac,.bool t.over]
structure Tm.Ok(t:Tm):Prop where
 cnt:0<=t.cnt/\t.cnt<65536
 tima:0<=t.tima/\t.tima<256
 tma:0<=t.tma/\t.tma<256
 tac:0<=t.tac/\t.tac<256
def Ve(tac:Int):Nat:=if tac%4=0 then 9 else if tac%4=1 then 3 else if tac%4=2 then 5 else 7
def yH(t:Tm):Bool:=decide (t.tac/4%2=1)&&decide (t.cnt/2^Ve t.tac%2=1)
def wW(t:Tm):Tm:={t with tima:=(t.tima+1)%256,over:=t.over||(t.tima+1)%256==0}
def Dl(was:Bool)(t:Tm):Tm:=if was=true/\yH t=false then wW t else t
def pC(g:Tm->Tm)(t:Tm):Tm:=Dl (yH t) (g t)
def Yi(t:Tm):Tm:=if t.over=true then {t with tima:=t.tma,over:=false} else t
def nZ(t:Tm):Tm:={t with cnt:=(t.cnt+4)%65536}
def vE(t:Tm):Tm:=pC nZ (Yi t)
def readTm(n:Int)(t:Tm):Int:=if n=0 then t.cnt/256 else if n=1 then t.tima else if n=2 then t.tma else if n=3 then 248+t.tac%8 else 255
def oD(t:Tm):Tm:={t with cnt:=0}
def nV(x:Int)(t:Tm):Tm:={t with tac:=x%8}
def writeTm(n x:Int)(t:Tm):Tm:=if n=0 then pC oD t else if n=1 then {t with tima:=x,over:=false} else if n=2 then {t with tma:=x} else if n=3 then pC (nV x) t else t
def sig_off{t:Tm}(h:t.tac/4%2*4=0):false=yH t:=by unfold yH;rw[cu I];rfl
def Sv{t:Tm}(d:Int)(h:¬t.tac/4%2*4=0)(hd:(2:Int)^Ve t.tac=d):(t.cnt/d%2==1)=yH t:=by unfold yH;rw[hd,am I,gm];rfl
def Qr{t:Tm}{k:Int}{n:Nat}(h:t.tac%4=k)(hk:k=0/\n=9\/k=1/\n=3\/k=2/\n=5\/k=3/\n=7):Ve t.tac=n:=by
 unfold Ve;rcases hk with⟨rfl,rfl⟩|⟨rfl,rfl⟩|⟨rfl,rfl⟩|⟨rfl,rfl⟩<;>simp[h]
def Hm{was:Bool}{t:Tm}(h:was=false\/yH t=true):t=Dl was t:=by unfold Dl;rw[ae (by rintro⟨h1,h2⟩;rcases h with h|h<;>simp_all)]
def He{was:Bool}{t:Tm}(h1:was=true)(h2:yH t=false):wW t=Dl was t:=by unfold Dl;rw[ag ⟨h1,h2⟩]
def Tm.Ok.inc{t:Tm}(h:t.Ok):(wW t).Ok:=⟨h.cnt,by unfold wW;dsimp only;omega,h.tma,h.tac⟩
def Tm.Ok.fall{t:Tm}(h:t.Ok)(b:Bool):(Dl b t).Ok:=by unfold Dl;split;exact h.inc;exact h
def Tm.Ok.irq{t:Tm}(h:t.Ok):(Yi t).Ok:=by unfold Yi;split;exact⟨h.cnt,h.tma,h.tma,h.tac⟩;exact h
def Tm.Ok.step{t:Tm}(h:t.Ok):(nZ t).Ok:=⟨by unfold nZ;dsimp only;omega,h.tima,h.tma,h.tac⟩
def Tm.Ok.tick{t:Tm}(h:t.Ok):(vE t).Ok:=h.irq.step.fall _
def Tm.Ok.zero{t:Tm}(h:t.Ok):(oD t).Ok:=⟨by unfold oD;dsimp only;omega,h.tima,h.tma,h.tac⟩
def Tm.Ok.tac_{t:Tm}(h:t.Ok)(x:Int):(nV x t).Ok:=⟨h.cnt,h.tima,h.tma,by unfold nV;dsimp only;omega⟩
def Tm.Ok.write{t:Tm}(h:t.Ok)(n:Int){x:Int}(hx:0<=x/\x<256):(writeTm n x t).Ok:=by
 unfold writeTm
 split
 ·exact h.zero.fall _
 split
 ·exact⟨h.cnt,hx,h.tma,h.tac⟩
 split
 ·exact⟨h.cnt,h.tima,hx,h.tac⟩
 split
 ·exact(h.tac_ x).fall _
 ·exact h
def aLV{t:Tm}(h:t.Ok)(n:Int):0<=readTm n t/\readTm n t<256:=by
 have h1:=h.cnt;have h2:=h.tima;have h3:=h.tma
 unfold readTm;split;omega;split;omega;split;omega;split<;>omega
structure Pt where
 data:Int
 control:Int
 last:Int
 bits:Int
 count:Int
 sent:Int
deriving DecidableEq
def qD(p:Pt):AA:=[.int .u8 p.data,.int .u8 p.control,.int .u8 p.last,.int .i64 p.bits,.int .i64 p.count,.int .i64 p.sent]
structure Pt.Ok(p:Pt):Prop where
 data:0<=p.data/\p.data<256
 control:0<=p.control/\p.control<256
 last:0<=p.last/\p.last<256
 bits:0<=p.bits/\p.bits<65536
 count:0<=p.count/\p.count<65536
 sent:0<=p.sent/\p.sent<65536
def shiftPt(p:Pt):Pt:={p with count:=0,data:=p.data%128*2+1,bits:=p.bits-1}
def tickPt(p:Pt):Pt:=
 if p.bits<1 then p else if p.count+1<128 then {p with count:=p.count+1}
 else if 0<p.bits-1 then shiftPt p else {shiftPt p with control:=p.control%128}
def uO(p:Pt):Bool:=decide (¬p.bits<1/\¬p.count+1<128/\¬0<p.bits-1)
def readPt(n:Int)(p:Pt):Int:=if n=0 then p.data else if n=1 then p.control/128*128+126+p.control%2 else 255
def beginPt(p:Pt):Pt:={p with bits:=8,count:=0,last:=p.data,sent:=(p.sent+1)%65536}
def writePt(n x:Int)(p:Pt):Pt:=
 if n=0 then {p with data:=x}
 else if n=1 then(if x/128=1/\x%2=1 then beginPt {p with control:=x/128*128+x%2,bits:=0} else {p with control:=x/128*128+x%2,bits:=0})
 else p
def Pt.Ok.tick{p:Pt}(h:p.Ok):(tickPt p).Ok:=by
 have h1:=h.data;have h2:=h.control;have h4:=h.bits;have h5:=h.count
 unfold tickPt
 split
 ·exact h
 split
 ·exact⟨h.data,h.control,h.last,h.bits,fU,h.sent⟩
 split
 ·exact⟨Gr,h.control,h.last,Gr,Gr,h.sent⟩
 ·exact⟨Gr,fU,h.last,Gr,Gr,h.sent⟩
def Pt.Ok.write{p:Pt}(h:p.Ok)(n:Int){x:Int}(hx:0<=x/\x<256):(writePt n x p).Ok:=by
 have h6:=h.sent
 unfold writePt
 split
 ·exact⟨hx,h.control,h.last,h.bits,h.count,h.sent⟩
 split
 ·split
  ·exact⟨h.data,Su,h.data,Su,Su,Su⟩
  ·exact⟨h.data,fU,h.last,fU,h.count,h.sent⟩
 ·exact h
def aMW{p:Pt}(h:p.Ok)(n:Int):0<=readPt n p/\readPt n p<256:=by
 have h1:=h.data;have h2:=h.control
 unfold readPt;split;omega;split<;>omega
structure Cp where
 page:Int
 left:Int
deriving DecidableEq
def cCp(c:Cp):AA:=[.int .u8 c.page,.int .i64 c.left]
structure Cp.Ok(c:Cp):Prop where
 page:0<=c.page/\c.page<256
 left:0<=c.left/\c.left<65536
def fromCp(c:Cp):Int:=if 224<=c.page then(c.page-32)*256 else c.page*256
def yT(c:Cp):Bool:=decide (0<c.left)
def tickCp(c:Cp):Cp:=if 0<c.left then {c with left:=c.left-1} else c
def wI(c:Cp):Int:=if 0<c.left then(fromCp c+(160-c.left))%65536 else 0
def Ci(c:Cp):Int:=if 0<c.left then 160-c.left else 0
def letsCp(c:Cp)(a:Int):Bool:= !yT c||decide (65280<=a)
def Ep(x:Int):Cp:=⟨x,160⟩
def Cp.Ok.tick{c:Cp}(h:c.Ok):(tickCp c).Ok:=by
 have h1:=h.left
 unfold tickCp;split;exact⟨h.page,fU⟩;exact h
def aLt(c:Cp):0<=wI c/\wI c<65536:=by unfold wI;split<;>omega
structure Pd where
 sel:Int
 down:Int
deriving DecidableEq
def nB(p:Pd):AA:=[.int .u8 p.sel,.int .u8 p.down]
structure Pd.Ok(p:Pd):Prop where
 sel:0<=p.sel/\p.sel<256
 down:0<=p.down/\p.down<256
def Hj(p:Pd):Int:=if aQ .u8 p.sel 16=0 then bI .u8 0 p.down else 0
def yZ(p:Pd):Int:=aQ .u8 (if aQ .u8 p.sel 32=0 then bI .u8 (Hj p) (shr .u8 p.down 4)else Hj p) 15
def So(p:Pd):Int:=bI .u8 (bI .u8 192 (aQ .u8 p.sel 48)) (aQ .u8 (lK .u8 255 (yZ p)) 15)
def zD(p q:Pd):Bool:=lD .u8 (yZ q) (yZ p) != 0
def rD(x:Int)(p:Pd):Pd:=⟨aQ .u8 x 48,p.down⟩
def rA(x:Int)(p:Pd):Pd:=⟨p.sel,x⟩
def aA2(x:Int):0<=IntKind.u8.wrap x/\IntKind.u8.wrap x<256:=by rw[nW];omega
def Zd(x y:Int):0<=aQ .u8 x y/\aQ .u8 x y<256:=aA2 _
def Co(x y:Int):0<=bI .u8 x y/\bI .u8 x y<256:=aA2 _
def aJu(p:Pd):0<=So p/\So p<256:=Co _ _
def Pd.Ok.sel_{p:Pd}(h:p.Ok)(x:Int):(rD x p).Ok:=⟨Zd _ _,h.down⟩
def Pd.Ok.press{p:Pd}(h:p.Ok){x:Int}(hx:0<=x/\x<256):(rA x p).Ok:=⟨h.sel,hx⟩
structure gG where
 at_:Int
 down:Int
deriving DecidableEq
def qN(c:gG):AA:=[.int .u64 c.at_,.int .u8 c.down]
def Xh(o:Option gG)(c:gG):Bool:=match o with
 |none=>true
 |some b=>decide (b.at_<=c.at_)
def Ed(n:Int)(o:Option gG)(c:gG):Option gG:=if c.at_<=n/\Xh o c=true then some c else o
def Dg(n:Int)(l:List gG):Option gG:=l.foldl (Ed n) none
def jQ(l:List gG)(n:Int):Int:=match Dg n l with
 |none=>0
 |some c=>c.down
def sE(c:gG):Prop:=(0<=c.at_/\c.at_<18446744073709551616)/\0<=c.down/\c.down<256
def best_step{n:Int}{l:List gG}{i:Nat}{c:gG}(hc:l[i]? =some c):Dg n (l.take (i+1))=Ed n (Dg n (l.take i)) c:=by
 unfold Dg
 rw[f0,hc,ip]
 rfl
def aDQ{n:Int}{o:Option gG}{c:gG}(h1:c.at_<=n)(h2:Xh o c=true):Ed n o c=some c:=ag ⟨h1,h2⟩
def better_no{n:Int}{o:Option gG}{c:gG}(h:¬c.at_<=n\/Xh o c=false):Ed n o c=o:=ae λ⟨h1,h2⟩=>by rcases h with h|h;exact h h1;rw[h]at h2;cases h2
def cChg_len(c:gG):(qN c).length=2:=rfl
def aRu(n:Int)(l:List gG)(c:gG)(h:Dg n l=some c):c∈l:=by
 have key:∀(l:List gG) (o:Option gG) (S:gG->Prop),(∀c,o=some c->S c)->(∀c∈l,S c)->∀c,l.foldl (Ed n) o=some c->S c:=by
  intro l
  induction l with
  |nil=>exact λo S ho _ c h=>ho c h
  |cons d l ih=>
   intro o S ho hl c h
   refine ih (Ed n o d) S (λc hc=>?_) (λc hc=>hl c (.tail _ hc)) c h
   unfold Ed at hc
   split at hc
   ·cases hc;exact hl d (.head _)
   ·exact ho c hc
 exact key l none (· ∈l) (λc h=>by cases h) (λc h=>h) c h
def aDl{l:List gG}(h:∀c∈l,sE c)(n:Int):0<=jQ l n/\jQ l n<256:=by
 unfold jQ
 split
 ·omega
 ·rename_i c hc;exact(h c (aRu n l c hc)).2
structure Bk where
 kind:Int
 banks:Int
 ram:Int
 on:Bool
 mode:Bool
 low:Int
 high:Int
 last:Int
deriving DecidableEq
def jY(m:Bk):AA:=[.int .i64 m.kind,.int .i64 m.banks,.int .i64 m.ram,.bool m.on,.bool m.mode,.int .i64 m.low,.int .i64 m.high,.int .u8 m.last]
structure Bk.Ok(m:Bk):Prop where
 kind:0<=m.kind/\m.kind<256
 banks:0<=m.banks/\m.banks<65536
 ram:0<=m.ram/\m.ram<1048576
 low:0<=m.low/\m.low<65536
 high:0<=m.high/\m.high<65536
 last:0<=m.last/\m.last<256
def Ig(x:Int):Bool:=decide (x%16=10)
def oneB(a x:Int)(m:Bk):Bk:=if a/8192=0 then {m with on:=Ig x} else if a/8192=1 then {m with low:=max (x%32) 1} else if a/8192=2 then {m with high:=x%4} else {m with mode:=decide (x%2=1)}
def twoB(a x:Int)(m:Bk):Bk:=if 16384<=a then m else if a/256%2=0 then {m with on:=Ig x} else {m with low:=max (x%16) 1}
def threeB(a x:Int)(m:Bk):Bk:=if a/8192=0 then {m with on:=Ig x} else if a/8192=1 then {m with low:=max (x%128) 1} else if a/8192=2 then {m with high:=x%16} else {m with last:=x}
def heldB(a x:Int)(m:Bk):Bool:=decide (¬a/8192=0/\¬a/8192=1/\¬a/8192=2/\m.last=0/\x=1)
def fiveB(a x:Int)(m:Bk):Bk:=if a/4096=0\/a/4096=1 then {m with on:=Ig x} else if a/4096=2 then {m with low:=m.low/256*256+x} else if a/4096=3 then {m with low:=m.low%256+x%2*256} else if a/4096=4\/a/4096=5 then {m with high:=x%16} else m
def writeB(a x:Int)(m:Bk):Bk:=
 if m.kind=1 then oneB (a%32768) x m else if m.kind=2 then twoB (a%32768) x m else if m.kind=3 then threeB (a%32768) x m else if m.kind=5 then fiveB (a%32768) x m else m
def latchB(a x:Int)(m:Bk):Bool:=decide (m.kind=3)&&heldB (a%32768) x m
def numB(a:Int)(m:Bk):Int:=
 if m.kind=0 then(if a/16384%2=1 then 1 else 0)
 else if m.kind=1 then(if a/16384%2=1 then m.high*32+m.low else if m.mode=true then m.high*32 else 0)
 else if m.kind=2\/m.kind=3\/m.kind=5 then(if a/16384%2=1 then m.low else 0)else 0
def bankB(a:Int)(m:Bk):Int:=if m.banks<1 then 0 else numB a m%m.banks
def Cr(a:Int)(m:Bk):Int:=16384*bankB a m+a%16384
def atB_(a:Int)(m:Bk):Option Int:=
 if a<40960\/49152<=a\/m.on=false\/m.ram<1 then none
 else if m.kind=0 then some (a%8192%m.ram)
 else if m.kind=1 then some ((if m.mode=true then a%8192+8192*m.high else a%8192)%m.ram)
 else if m.kind=2 then some (a%8192%512%m.ram)
 else if m.kind=3 then(if 3<m.high then none else some ((a%8192+8192*m.high)%m.ram))
 else if m.kind=5 then some ((a%8192+8192*m.high)%m.ram)else none
def clockB(m:Bk):Option Int:=if m.kind≠3\/m.on=false\/m.high<8\/12<m.high then none else some (m.high-8)
def Bk.Ok.write{m:Bk}(h:m.Ok)(a:Int){x:Int}(hx:0<=x/\x<256):(writeB a x m).Ok:=by
 have h1:=h.low;have h2:=h.high
 have L:∀v,0<=v/\v<65536->({m with low:=v}:Bk).Ok:=λv hv=>⟨h.kind,h.banks,h.ram,hv,h.high,h.last⟩
 have Hh:∀v,0<=v/\v<65536->({m with high:=v}:Bk).Ok:=λv hv=>⟨h.kind,h.banks,h.ram,h.low,hv,h.last⟩
 have O:∀b,({m with on:=b}:Bk).Ok:=λb=>⟨h.kind,h.banks,h.ram,h.low,h.high,h.last⟩
 unfold writeB
 split
 ·unfold oneB;split;exact O _;split;exact L _ I;split;exact Hh _ I;exact⟨h.kind,h.banks,h.ram,h.low,h.high,h.last⟩
 split
 ·unfold twoB;split;exact h;split;exact O _;exact L _ I
 split
 ·unfold threeB;split;exact O _;split;exact L _ I;split;exact Hh _ I;exact⟨h.kind,h.banks,h.ram,h.low,h.high,hx⟩
 split
 ·unfold fiveB;split;exact O _;split;exact L _ I;split;exact L _ I;split;exact Hh _ I;exact h
 ·exact h
def V0(a x:Int)(m:Bk):(writeB a x m).kind=m.kind/\(writeB a x m).banks=m.banks/\(writeB a x m).ram=m.ram:=by
 unfold writeB oneB twoB threeB fiveB
 repeat' split
 all_goals exact⟨rfl,rfl,rfl⟩
def aIo{m:Bk}(h:m.Ok)(a:Int):0<=numB a m/\numB a m<4194304:=by
 have h1:=h.low;have h2:=h.high
 unfold numB;repeat' split
 all_goals omega
def aFJ{m:Bk}(h:m.Ok)(a:Int):0<=bankB a m/\bankB a m<=m.banks/\(0<m.banks->bankB a m<m.banks):=by
 have h1:=h.banks;have h2:=aIo h a
 unfold bankB
 split
 ·omega
 ·have h3:=fz (numB a m) (show m.banks≠0 by omega)
  have h4:=f7 (numB a m) (show 0<m.banks by omega)
  omega
def O0{m:Bk}(a:Int){n:Int}(hn:atB_ a m=some n):0<=n/\n<m.ram:=by
 have key:∀x:Int,0<m.ram->0<=x%m.ram/\x%m.ram<m.ram:=λx hr=>⟨fz _ I,f7 _ hr⟩
 unfold atB_ at hn
 split at hn
 ·cases hn
 ·rename_i hc
  have hr:0<m.ram:=by omega
  repeat' split at hn
  all_goals first|cases hn;done|(cases hn;exact key _ hr)
structure Ck where
 s:Int
 m:Int
 h:Int
 day:Int
 sub:Int
 halt:Bool
 carry:Bool
 h0:Int
 h1:Int
 h2:Int
 h3:Int
 h4:Int
deriving DecidableEq
def Ck.held(c:Ck):AB:=[c.h0,c.h1,c.h2,c.h3,c.h4]
def nX(c:Ck):AA:=[.int .u8 c.s,.int .u8 c.m,.int .u8 c.h,.int .i64 c.day,.int .i64 c.sub,.bool c.halt,.bool c.carry,.int .u8 c.h0,.int .u8 c.h1,.int .u8 c.h2,.int .u8 c.h3,.int .u8 c.h4]
structure Ck.Fo(c:Ck):Prop where
 s:0<=c.s/\c.s<256
 m:0<=c.m/\c.m<256
 h:0<=c.h/\c.h<256
 day: -9223372036854775808<=c.day/\c.day<=9223372036854775807
 byH:bF c.held
structure Ck.Ok(c:Ck):Prop extends Ck.Fo c where
 sub:0<=c.sub/\c.sub<4294967296
def dayCk(c:Ck):Ck:=if IntKind.i64.wrap (c.day+1)=512 then {c with day:=0,carry:=true} else {c with day:=IntKind.i64.wrap (c.day+1)}
def secCk(c:Ck):Ck:=
 if(c.s+1)%64≠60 then {c with s:=(c.s+1)%64}
 else if(c.m+1)%64≠60 then {c with s:=0,m:=(c.m+1)%64}
 else if(c.h+1)%32≠24 then {c with s:=0,m:=0,h:=(c.h+1)%32}
 else dayCk {c with s:=0,m:=0,h:=0}
def rR(c:Ck):Nat->Ck
 |0=>c
 |n+1=>{secCk (rR c n)with sub:=(rR c n).sub-1048576}
def tickCk(c:Ck):Ck:=if c.halt=true then c else rR {c with sub:=c.sub+1} ((c.sub+1)/1048576).toNat
def mE(b:Bool)(n:Int):Int:=if b=true then n else 0
def Bx(c:Ck):Ck:={c with h0:=c.s,h1:=c.m,h2:=c.h,h3:=c.day%256,h4:=c.day/256%2+mE c.halt 64+mE c.carry 128}
def Ee(n:Int)(c:Ck):Int:=if n<0\/5<=n then 0 else c.held.getD n.toNat 0
def writeCk(n x:Int)(c:Ck):Ck:=
 if n=0 then {c with s:=x%64,sub:=0} else if n=1 then {c with m:=x%64} else if n=2 then {c with h:=x%32}
 else if n=3 then {c with day:=c.day/256*256+x} else if n=4 then {c with day:=c.day%256+x%2*256,halt:=decide (x/64%2=1),carry:=decide (x/128=1)} else c
def Pn(n:Int):IntKind.i64.wrap n=(n+9223372036854775808)%18446744073709551616-9223372036854775808:=by
 simp[IntKind.wrap,IntKind.bits,IntKind.signed];omega
def aKC(x:Int): -9223372036854775808<=IntKind.i64.wrap x/\IntKind.i64.wrap x<=9223372036854775807:=by
 have:=Pn x
 omega
def Ck.Fo.day_{c:Ck}(h:c.Fo):(dayCk c).Fo:=by
 unfold dayCk
 split
 ·exact⟨h.s,h.m,h.h,fU,h.byH⟩
 ·exact⟨h.s,h.m,h.h,aKC _,h.byH⟩
def Ck.Fo.sec{c:Ck}(h:c.Fo):(secCk c).Fo:=by
 unfold secCk
 split
 ·exact⟨fU,h.m,h.h,h.day,h.byH⟩
 split
 ·exact⟨fU,fU,h.h,h.day,h.byH⟩
 split
 ·exact⟨fU,fU,fU,h.day,h.byH⟩
 ·exact Ck.Fo.day_ ⟨fU,fU,fU,h.day,h.byH⟩
def Zo(c:Ck):∀n:Nat,(rR c n).sub=c.sub-1048576*n
 |0=>by show c.sub=_;omega
 |n+1=>by show(rR c n).sub-1048576=_;rw[Zo c n];omega
def Ck.Fo.sub_{c:Ck}(h:c.Fo)(x:Int):({c with sub:=x}:Ck).Fo:=⟨h.s,h.m,h.h,h.day,h.byH⟩
def Ck.Fo.secs{c:Ck}(h:c.Fo):∀n:Nat,(rR c n).Fo
 |0=>h
 |n+1=>(Ck.Fo.sec (h.secs n)).sub_ _
def Ck.Ok.tick{c:Ck}(h:c.Ok):(tickCk c).Ok:=by
 have h2:=h.sub
 unfold tickCk
 split
 ·exact h
 ·refine⟨(h.toFo.sub_ _).secs _,?_⟩
  rw[Zo]
  dsimp only
  omega
def aEl(b:Bool){n:Int}(h:0<=n):0<=mE b n/\mE b n<=n:=by unfold mE;split<;>omega
def Ck.Ok.hold{c:Ck}(h:c.Ok):(Bx c).Ok:=by
 have h1:=aEl c.halt (n:=64) aD;have h2:=aEl c.carry (n:=128) aD
 refine⟨⟨h.s,h.m,h.h,h.day,λx hx=>?_⟩,h.sub⟩
 have h3:=h.s;have h4:=h.m;have h5:=h.h
 simp only[Bx,Ck.held,ea,ei,or_false]at hx
 rcases hx with rfl|rfl|rfl|rfl|rfl<;>omega
def Ck.Ok.write{c:Ck}(h:c.Ok)(n:Int){x:Int}(hx:0<=x/\x<256):(writeCk n x c).Ok:=by
 have h1:=h.day
 unfold writeCk
 split
 ·exact⟨⟨fU,h.m,h.h,h.day,h.byH⟩,fU⟩
 split
 ·exact⟨⟨h.s,fU,h.h,h.day,h.byH⟩,h.sub⟩
 split
 ·exact⟨⟨h.s,h.m,fU,h.day,h.byH⟩,h.sub⟩
 split
 ·exact⟨⟨h.s,h.m,h.h,fU,h.byH⟩,h.sub⟩
 split
 ·exact⟨⟨h.s,h.m,h.h,fU,h.byH⟩,h.sub⟩
 ·exact h
def aG4{c:Ck}(h:c.Ok)(n:Int):0<=Ee n c/\Ee n c<256:=by
 unfold Ee;split;omega;exact h.byH.get _
def Ck.Dy(c:Ck):Prop:=0<=c.day/\c.day<512
def Ck.Dy.sec{c:Ck}(h:c.Dy):(secCk c).Dy:=by
 have h1:IntKind.i64.wrap (c.day+1)=c.day+1:=bZ (by have:=h.1;omega) (by have:=h.2;omega)
 have h2:=h.1;have h3:=h.2
 unfold secCk dayCk
 dsimp only
 repeat' split
 all_goals first|exact h|(unfold Ck.Dy;dsimp only;omega)
def Ck.Dy.secs{c:Ck}(h:c.Dy):∀n:Nat,(rR c n).Dy
 |0=>h
 |n+1=>(h.secs n).sec
def Ck.Dy.tick{c:Ck}(h:c.Dy):(tickCk c).Dy:=by
 unfold tickCk;split
 ·exact h
 ·exact Ck.Dy.secs (c:={c with sub:=c.sub+1}) h _
def Ck.Dy.write{c:Ck}(h:c.Dy)(n:Int){x:Int}(hx:0<=x/\x<256):(writeCk n x c).Dy:=by
 have h2:=h.1;have h3:=h.2
 unfold writeCk
 repeat' split
 all_goals first|exact h|(unfold Ck.Dy;dsimp only;omega)
structure Vc where
 on:Bool
 len:Int
 lev:Int
 wait:Int
deriving DecidableEq
def dD(v:Vc):AA:=[.bool v.on,.int .i64 v.len,.int .i64 v.lev,.int .i64 v.wait]
def Gf(v:Vc):(dD v).length=4:=rfl
structure Vc.Ok(v:Vc):Prop where
 len:0<=v.len/\v.len<65536
 lev:0<=v.lev/\v.lev<65536
 wait:0<=v.wait/\v.wait<65536
def Ca :Vc:=⟨false,0,0,0⟩
structure Bd where
 regs:AB
 on:Bool
 div:Int
 step:Int
 vs:List Vc
 pitch:Int
 slide:Int
 slides:Bool
deriving DecidableEq
def cBd(b:Bd):AA:=b.regs.map (.int .u8)++([.bool b.on,.int .i64 b.div,.int .i64 b.step]++(aM dD b.vs++[.int .i64 b.pitch,.int .i64 b.slide,.bool b.slides]))
structure Bd.Wf(b:Bd):Prop where
 lR:b.regs.length=48
 bR:bF b.regs
 lV:b.vs.length=4
 div:0<=b.div/\b.div<65536
 step:0<=b.step/\b.step<65536
 oV:∀v∈b.vs,v.Ok
 pitch:0<=b.pitch/\b.pitch<65536
 slide:0<=b.slide/\b.slide<65536
def bdZ :Bd:=⟨List.replicate 48 0,false,0,0,List.replicate 4 Ca,0,0,false⟩
def Bd.r(b:Bd)(n:Nat):Int:=b.regs.getD n 0
def Bd.v(b:Bd)(n:Nat):Vc:=b.vs.getD n Ca
def Bd.setV(b:Bd)(n:Nat)(x:Vc):Bd:={b with vs:=b.vs.set n x}
def longest(v:Nat):Int:=if v=2 then 256 else 64
def readyB(v:Nat)(b:Bd):Bool:=if v=2 then decide (b.r 10/128=1)else decide (8<=b.r (5*v+2))
def everyB(b:Bd):Int:=b.r 0/16%8
def byB(b:Bd):Int:=b.r 0%8
def dY(b:Bd):Bd:={b with slide:=if everyB b=0 then 8 else everyB b}
def kG(b:Bd):Int:=if b.r 0/8%2=1 then b.pitch-b.pitch/2^(byB b).toNat else b.pitch+b.pitch/2^(byB b).toNat
def uD(b:Bd):Bool:=decide (2047<kG b)
def Ob(b:Bd):Bd:=b.setV 0 {b.v 0 with on:=false}
def tN(b:Bd):Bd:=if uD b=true then Ob b else b
def lenV(b:Bd)(v:Nat)(x:Vc):Vc:=if b.r (5*v+4)/64%2=0\/x.len=0 then x else {x with len:=x.len-1,on:=x.on&&decide (0<x.len-1)}
def levV(b:Bd)(v:Nat)(x:Vc):Vc:=
 if v=2\/b.r (5*v+2)%8=0 then x
 else if 0<x.wait-1 then {x with wait:=x.wait-1}
 else {x with wait:=b.r (5*v+2)%8,lev:=if b.r (5*v+2)/8%2=1 then min (x.lev+1) 15 else max (x.lev-1) 0}
def turnV(f:Bd->Nat->Vc->Vc)(b:Bd):Nat->Bd
 |0=>b
 |n+1=>(turnV f b n).setV n (f (turnV f b n) n ((turnV f b n).v n))
def Rj(b:Bd):Bd:=turnV lenV b 4
def Dv(b:Bd):Bd:=turnV levV b 4
def Ld(b:Bd):Bd:={b with pitch:=kG b,regs:=(b.regs.set 3 (kG b%256)).set 4 (b.r 4/8*8+kG b/256%8)}
def slideB(b:Bd):Bd:=
 if b.slides=false then b
 else if 0<b.slide-1 then {b with slide:=b.slide-1}
 else
  let c:=dY {b with slide:=b.slide-1}
  if everyB b=0 then c else if uD c=true then Ob c else if byB b=0 then c else tN (Ld c)
def halfB(b:Bd):Bd:=if b.step%2=0 then Rj b else b
def beatB(b:Bd):Bd:=if b.step=2\/b.step=6 then slideB (halfB b)else if b.step=7 then Dv (halfB b)else halfB b
def tickB(b:Bd):Bd:=
 if b.on=false then b else if b.div+1<2048 then {b with div:=b.div+1}
 else {beatB {b with div:=0} with step:=(b.step+1)%8}
def Bv :AB:=[0x80,0x3f,0,0xff,0xbf,0xff,0x3f,0,0xff,0xbf,0x7f,0xff,0x9f,0xff,0xbf,0xff,0xff,0,0,0xbf,0,0,0x70]
def onV(b:Bd):Nat->Int
 |0=>112+(if b.on=true then 128 else 0)
 |n+1=>onV b n+(if(b.v n).on=true then 2^n else 0)
def readB(n:Int)(b:Bd):Int:=
 if n<0\/48<=n\/(22<n/\n<32)then 255 else if 32<=n then b.r n.toNat else if n<22 then bI .u8 (b.r n.toNat) (Bv.getD n.toNat 0)else onV b 4
def cH(b:Bd)(v:Nat):Vc:=⟨readyB v b,if(b.v v).len=0 then longest v else(b.v v).len,b.r (5*v+2)/16,b.r (5*v+2)%8⟩
def vV(b:Bd):Bd:={b with slides:=decide (everyB b≠0\/byB b≠0)}
def beginB(v:Nat)(b:Bd):Bd:=
 let c:=b.setV v (cH b v)
 if 0<v then c
 else
  let d:=vV (dY {c with pitch:=c.r 3+c.r 4%8*256})
  if byB b=0 then d else tN d
def offB(b:Bd):Bd:={bdZ with div:=b.div,step:=b.step,regs:=List.replicate 22 0++b.regs.drop 22}
def onB(b:Bd):Bd:=if b.on=true then b else {b with div:=0,step:=0,on:=true}
def putB(n:Nat)(x:Int)(b:Bd):Bd:={b with regs:=b.regs.set n x}
def voiceB(n:Nat)(x:Int)(b:Bd):Bd:=
 if n%5=1 then b.setV (n/5) {b.v (n/5)with len:=longest (n/5)-x%longest (n/5)}
 else if n%5=4 then(if x/128=1 then beginB (n/5) b else b)
 else b.setV (n/5) {b.v (n/5)with on:=(b.v (n/5)).on&&readyB (n/5) b}
def writeBd(n x:Int)(b:Bd):Bd:=
 if n<0\/48<=n then b
 else if n=22 then(if x/128=1 then onB b else offB b)
 else if b.on=false/\n<32 then b
 else if 20<=n then putB n.toNat x b else voiceB n.toNat x (putB n.toNat x b)
section
variable {b:Bd}
def Bd.Wf.r_(h:b.Wf)(n:Nat):0<=b.r n/\b.r n<256:=h.bR.get n
def aAh :Ca.Ok:=⟨iH,iH,iH⟩
def Bd.Wf.v_(h:b.Wf)(n:Nat):(b.v n).Ok:=by
 unfold Bd.v
 by_cases hn:n<b.vs.length
 ·rw[gU,ap hn];exact h.oV _ (fi hn)
 ·rw[gU,d7 I];exact aAh
def Bd.Wf.setV(h:b.Wf)(n:Nat){x:Vc}(hx:x.Ok):(b.setV n x).Wf:=⟨h.lR,h.bR,aDh,h.div,h.step,λv hv=>by
 rcases ez hv with h1|rfl
 ·exact h.oV v h1
 ·exact hx,h.pitch,h.slide⟩
def Bd.Wf.put(h:b.Wf)(n:Nat){x:Int}(hx:0<=x/\x<256):(putB n x b).Wf:=⟨by show(b.regs.set n x).length=48;rw[c7];exact h.lR,λy hy=>by
 rcases ez hy with h1|rfl
 ·exact h.bR y h1
 ·exact hx,h.lV,h.div,h.step,h.oV,h.pitch,h.slide⟩
def Bd.Wf.slide_(h:b.Wf){x:Int}(hx:0<=x/\x<65536):({b with slide:=x}:Bd).Wf:=⟨h.lR,h.bR,h.lV,h.div,h.step,h.oV,h.pitch,hx⟩
def Bd.Wf.pitch_(h:b.Wf){x:Int}(hx:0<=x/\x<65536):({b with pitch:=x}:Bd).Wf:=⟨h.lR,h.bR,h.lV,h.div,h.step,h.oV,hx,h.slide⟩
def Bd.Wf.div_(h:b.Wf){x:Int}(hx:0<=x/\x<65536):({b with div:=x}:Bd).Wf:=⟨h.lR,h.bR,h.lV,hx,h.step,h.oV,h.pitch,h.slide⟩
def Bd.Wf.step_(h:b.Wf){x:Int}(hx:0<=x/\x<65536):({b with step:=x}:Bd).Wf:=⟨h.lR,h.bR,h.lV,h.div,hx,h.oV,h.pitch,h.slide⟩
def Fl(b:Bd):0<=everyB b/\everyB b<8:=by unfold everyB;omega
def Zu(b:Bd):0<=byB b/\byB b<8:=by unfold byB;omega
def Bd.Wf.waitW(h:b.Wf):(dY b).Wf:=h.slide_ (by have:=Fl b;split<;>omega)
def aCS{x:Int}(h:0<=x)(n:Nat):0<=x/2^n/\x/2^n<=x:=by
 have h2:(0:Int)<2^n:=gp aD
 exact⟨kc h I,j3 _ h⟩
def aBx(h:b.Wf):0<=kG b/\kG b<131072:=by
 have h1:=h.pitch;have h2:=aCS h1.1 (byB b).toNat
 unfold kG;split<;>omega
def Bd.Wf.off0W(h:b.Wf):(Ob b).Wf:=h.setV 0 ⟨(h.v_ 0).len,(h.v_ 0).lev,(h.v_ 0).wait⟩
def Bd.Wf.checkW(h:b.Wf):(tN b).Wf:=by unfold tN;split;exact h.off0W;exact h
def aFI(b:Bd)(v:Nat){x:Vc}(h:x.Ok):(lenV b v x).Ok:=by
 have h1:=h.len
 unfold lenV;split
 ·exact h
 ·exact⟨fU,h.lev,h.wait⟩
def Q2(b:Bd)(v:Nat){x:Vc}(h:x.Ok):(levV b v x).Ok:=by
 have h1:=h.lev;have h2:=h.wait
 unfold levV;split
 ·exact h
 split
 ·exact⟨h.len,h.lev,fU⟩
 ·exact⟨h.len,by dsimp only;split<;>omega,fU⟩
def Bd.Wf.turn{f:Bd->Nat->Vc->Vc}(hf:∀b v x,Vc.Ok x->(f b v x).Ok)(h:b.Wf):∀n,(turnV f b n).Wf
 |0=>h
 |n+1=>(h.turn hf n).setV n (hf _ _ _ ((h.turn hf n).v_ n))
def aC2(h:b.Wf)(hn:uD b=false):(Ld b).Wf:=by
 have h1:=aBx h;have h4:=h.r_ 4
 have h2:kG b<=2047:=by unfold uD at hn;have:=dk hn;omega
 have h3:(putB 4 (b.r 4/8*8+kG b/256%8) (putB 3 (kG b%256) b)).Wf:=(h.put 3 I).put 4 I
 exact h3.pitch_ I
def Bd.Wf.slideW(h:b.Wf):(slideB b).Wf:=by
 have h1:=h.slide
 have hw:(dY {b with slide:=b.slide-1}).Wf:=by
  have:=Fl b
  exact⟨h.lR,h.bR,h.lV,h.div,h.step,h.oV,h.pitch,S8⟩
 unfold slideB
 split
 ·exact h
 split
 ·exact h.slide_ I
 dsimp only
 split
 ·exact hw
 split
 ·exact hw.off0W
 split
 ·exact hw
 ·exact(aC2 hw (by simpa using ‹¬uD _=true›)).checkW
def Bd.Wf.half(h:b.Wf):(halfB b).Wf:=by unfold halfB;split;exact h.turn aFI 4;exact h
def Bd.Wf.beat(h:b.Wf):(beatB b).Wf:=by
 unfold beatB;split;exact h.half.slideW;split;exact h.half.turn Q2 4;exact h.half
def Bd.Wf.tick(h:b.Wf):(tickB b).Wf:=by
 have h1:=h.div;have h2:=h.step
 unfold tickB
 split
 ·exact h
 split
 ·exact h.div_ I
 ·exact(h.div_ (x:=0) I).beat.step_ I
def K6(h:b.Wf)(v:Nat):(cH b v).Ok:=by
 have h1:=h.r_ (5*v+2)
 refine⟨?_,?_,?_⟩
 ·unfold cH longest;dsimp only;split
  ·split<;>omega
  ·exact(h.v_ v).len
 ·show 0<=b.r (5*v+2)/16/\b.r (5*v+2)/16<65536;omega
 ·show 0<=b.r (5*v+2)%8/\b.r (5*v+2)%8<65536;omega
def Bd.Wf.slidesW(h:b.Wf):(vV b).Wf:=⟨h.lR,h.bR,h.lV,h.div,h.step,h.oV,h.pitch,h.slide⟩
def Bd.Wf.beginW(h:b.Wf)(v:Nat):(beginB v b).Wf:=by
 have hc:=h.setV v (K6 h v)
 unfold beginB
 dsimp only
 split
 ·exact hc
 ·have h3:=hc.r_ 3
  have hd:(vV (dY {b.setV v (cH b v)with pitch:=(b.setV v (cH b v)).r 3+(b.setV v (cH b v)).r 4%8*256})).Wf:=(hc.pitch_ I).waitW.slidesW
  split
  ·exact hd
  ·exact hd.checkW
def bdZ_wf :bdZ.Wf:=⟨iH,λx hx=>by rw[(List.mem_replicate.1 hx).2];decide,iH,iH,iH,λv hv=>by rw[(List.mem_replicate.1 hv).2];exact aAh,iH,iH⟩
def Bd.Wf.off(h:b.Wf):(offB b).Wf:=⟨by show(List.replicate 22 0++b.regs.drop 22).length=48;rw[bX,dM,h.lR,ct],λx hx=>by
 rcases List.mem_append.1 hx with h1|h1
 ·rw[(List.mem_replicate.1 h1).2];decide
 ·exact h.bR x (dm h1),bdZ_wf.lV,h.div,h.step,bdZ_wf.oV,bdZ_wf.pitch,bdZ_wf.slide⟩
def Bd.Wf.onW(h:b.Wf):(onB b).Wf:=by unfold onB;split;exact h;exact⟨h.lR,h.bR,h.lV,(show(0:Int)<=0/\(0:Int)<65536 by decide),(show(0:Int)<=0/\(0:Int)<65536 by decide),h.oV,h.pitch,h.slide⟩
def Bd.Wf.voice(h:b.Wf)(n:Nat)(x:Int):(voiceB n x b).Wf:=by
 have hv:=h.v_ (n/5)
 unfold voiceB
 split
 ·refine h.setV _ ⟨?_,hv.lev,hv.wait⟩
  unfold longest;dsimp only;split<;>omega
 split
 ·split
  ·exact h.beginW _
  ·exact h
 ·exact h.setV _ ⟨hv.len,hv.lev,hv.wait⟩
def Bd.Wf.write(h:b.Wf)(n:Int){x:Int}(hx:0<=x/\x<256):(writeBd n x b).Wf:=by
 unfold writeBd
 split
 ·exact h
 split
 ·split;exact h.onW;exact h.off
 split
 ·exact h
 split
 ·exact h.put _ hx
 ·exact(h.put _ hx).voice _ _
def aA4(b:Bd):∀n:Nat,112<=onV b n/\onV b n<=239+2^n
 |0=>by unfold onV;split<;>omega
 |n+1=>by
  have h:=aA4 b n
  have h2:(0:Int)<2^n:=gp aD
  have h3:(2:Int)^(n+1)=2*2^n:=by rw[Int.pow_succ,Int.mul_comm]
  unfold onV;rw[h3];split<;>omega
def aP7(h:b.Wf)(n:Int):0<=readB n b/\readB n b<256:=by
 unfold readB
 split;omega
 split;exact h.r_ _
 split;exact Co _ _
 have:=aA4 b 4
 omega
end
structure Cd where
 op:Int
 n:Int
def iJ(c:Cd):AA:=[.int .i64 c.op,.int .i64 c.n]
def Oa(c:Cd):(iJ c).length=2:=rfl
structure Ev where
 r:CR
 addr:Int
 val:Int
 kind:Int
 bank:Int
 peek:Int->Int
def uM(b:Bool):Int:=if b=true then 1 else 0
def cmpV(op x y:Int):Int:=if op=12 then uM (x==y)else if op=13 then uM (x != y)else if op=14 then uM (decide (x<y))else if op=15 then uM (decide (x<=y))else if op=16 then uM (decide (y<x))else uM (decide (y<=x))
def twoV(op x y:Int):Int×Int:=
 if op=7 then(uM (bI .i64 x y != 0),0)else if op=8 then(uM (x != 0&&y != 0),0)else if op=9 then(bI .i64 x y,0)else if op=10 then(lK .i64 x y,0)else if op=11 then(aQ .i64 x y,0)
 else if op=18 then(shl .i64 x (aQ .i64 y 63),0)else if op=19 then(shr .i64 x (aQ .i64 y 63),0)else if op=20 then(IntKind.i64.wrap (x+y),0)else if op=21 then(IntKind.i64.wrap (x-y),0)else if op=22 then(IntKind.i64.wrap (x*y),0)
 else if op=23\/op=24 then(if y=0 then(0,13)else if op=23 then(IntKind.i64.wrap (x.tdiv y),0)else(x.tmod y,0))else(cmpV op x y,0)
def takV(c:Cd):Int:=if c.op=1\/(c.op=2/\0<=c.n/\c.n<18)then 0 else if c.n≠0\/c.op<3\/24<c.op then -1 else if c.op<7 then 1 else 2
def namL(e:Ev):AB:=[e.r.a,aQ .u8 e.r.f 240,e.r.b,e.r.c,e.r.d,e.r.e,e.r.h,e.r.l,pairR e.r 4,pairR e.r 0,pairR e.r 1,pairR e.r 2,e.r.sp,e.r.pc,e.addr,e.val,e.kind,e.bank]
def oneV(e:Ev)(op x:Int):Int:=if op=3 then e.peek (x%65536)else if op=4 then IntKind.i64.wrap (0-x)else if op=5 then uM (x==0)else lK .i64 (-1) x
def iP(e:Ev):List Cd->AB->Int×Int
 | [],s=>if s.length=1 then(s.getD 0 0,0)else(0,5)
 |c::l,s=>
  if takV c<0\/(s.length:Int)<takV c then(0,5)
  else if takV c=0 then iP e l (s++[if c.op=2 then(namL e).getD c.n.toNat 0 else c.n])
  else if takV c=1 then iP e l (s.take (s.length-1)++[oneV e c.op (s.getD (s.length-1) 0)])
  else if(twoV c.op (s.getD (s.length-2) 0) (s.getD (s.length-1) 0)).2≠0 then(0,(twoV c.op (s.getD (s.length-2) 0) (s.getD (s.length-1) 0)).2)
  else iP e l (s.take (s.length-2)++[(twoV c.op (s.getD (s.length-2) 0) (s.getD (s.length-1) 0)).1])
def Hg(e:Ev)(l:List Cd):Bool×Bool:=if l.length=0 then(true,false)else((iP e l []).1 != 0||(iP e l []).2 != 0,(iP e l []).2 != 0)
def aFM(y:Int):aQ .i64 y 63=y%64:=Wk y 6 aD
def xF(b:Bool)(w:AI):aG prog 252 [.bool b] w [] (V_ (.int .i64 (uM b))):=by
 refine aT func252 ?_
 refine bW ?_
 refine KC (λq0 z0=>?_) (λq0 z0=>?_)
 ·skip
  refine ZBV ?_
  exact E0 U ⟨U,(by rw[q0];rfl)⟩
 skip
 refine aH ?_
 exact E0 U ⟨U,(by rw[q0];rfl)⟩
def aOI(op x y:Int)(w:AI):aG prog 253 [.int .i64 op,.int .i64 x,.int .i64 y] w [] (V_ (.int .i64 (cmpV op x y))):=by
 refine aT func253 ?_
 refine kV ?_
 refine KC (λq0 z0=>?_) (λq0 z0=>?_)
 ·refine ZBV ?_
  refine aO K_ (aS (xF _)) ?_
  refine ZA2 ?_
  exact E0 U ⟨U,Hq⟩
 refine ZBV ?_
 refine KC (λq1 z1=>?_) (λq1 z1=>?_)
 ·refine ZBV ?_
  refine aO K_ (aS (xF _)) ?_
  refine ZA2 ?_
  exact E0 U ⟨U,Hq⟩
 refine ZBV ?_
 refine KC (λq2 z2=>?_) (λq2 z2=>?_)
 ·refine ZBV ?_
  refine aO K_ (aS (xF _)) ?_
  refine ZA2 ?_
  exact E0 U ⟨U,Hq⟩
 refine ZBV ?_
 refine KC (λq3 z3=>?_) (λq3 z3=>?_)
 ·refine ZBV ?_
  refine aO K_ (aS (xF _)) ?_
  refine ZA2 ?_
  exact E0 U ⟨U,Hq⟩
 refine ZBV ?_
 refine KC (λq4 z4=>?_) (λq4 z4=>?_)
 ·refine ZBV ?_
  refine aO K_ (aS (xF _)) ?_
  refine ZA2 ?_
  exact E0 U ⟨U,Hq⟩
 refine aH ?_
 refine aO K_ (aS (xF _)) ?_
 refine ZA2 ?_
 exact E0 U ⟨U,Hq⟩
def aMQ(op x y:Int)(w:AI):aG prog 229 [.int .i64 op,.int .i64 x,.int .i64 y] w [] (V_ (.tuple #[.int .i64 (twoV op x y).1,.int .i64 (twoV op x y).2])):=by
 refine aT func229 ?_
 refine Aa ?_
 refine KC (λq0 z0=>?_) (λq0 z0=>?_)
 ·refine ZBZ ?_
  refine RY (dE U U) U (ZBI ?_)
  refine aO K_ (aS (xF _)) ?_
  exact sA
 refine ZBV ?_
 refine KC (λq1 z1=>?_) (λq1 z1=>?_)
 ·refine ZBZ ?_
  refine KL (λq2 z2=>?_) (λq2 z2=>?_)
  ·refine ZA2 ?_
   refine aO K_ (aS (xF _)) ?_
   refine ZBZ ?_
   exact aU (λ_ _=>dX U U) ⟨U,(by have e9:twoV op x y=(uM (x != 0&&y != 0),0):=Kt;rw[e9,show(x != 0)=true from q2];rfl)⟩
  refine ZA2 ?_
  refine aO K_ (aS (xF _)) ?_
  refine ZBZ ?_
  exact aU (λ_ _=>dX U U) ⟨U,(by have e9:twoV op x y=(uM (x != 0&&y != 0),0):=Kt;rw[e9,show(x != 0)=false from q2];rfl)⟩
 refine ZBV ?_
 refine KC (λq2 z2=>?_) (λq2 z2=>?_)
 ·refine ZBZ ?_
  exact RY (dE U U) U sA
 refine ZBV ?_
 refine KC (λq3 z3=>?_) (λq3 z3=>?_)
 ·refine ZBZ ?_
  exact RY (Rs U U) U sA
 refine ZBV ?_
 refine KC (λq4 z4=>?_) (λq4 z4=>?_)
 ·refine ZBZ ?_
  exact RY (cM U U) U sA
 refine ZBV ?_
 refine KC (λq5 z5=>?_) (λq5 z5=>?_)
 ·refine ZBZ ?_
  exact RY (cM U U) U (RY (iK U U (by rw[aFM];omega)) U sA)
 refine ZBV ?_
 refine KC (λq6 z6=>?_) (λq6 z6=>?_)
 ·refine ZBZ ?_
  exact RY (cM U U) U (RY (jB U U (by rw[aFM];omega)) U sA)
 refine ZBV ?_
 refine KC (λq7 z7=>?_) (λq7 z7=>?_)
 ·refine ZBZ ?_
  exact RY (nD U U) U sA
 refine ZBV ?_
 refine KC (λq8 z8=>?_) (λq8 z8=>?_)
 ·refine ZBZ ?_
  exact RY (mM U U) U sA
 refine ZBV ?_
 refine KC (λq9 z9=>?_) (λq9 z9=>?_)
 ·refine ZBZ ?_
  exact RY (zH U U) U sA
 refine aH ?_
 refine KC (λq10 z10=>?_) (λq10 z10=>?_)
 ·refine ZBI ?_
  refine oQ true U q10 ?_
  refine aH ?_
  refine KC (λq11 z11=>?_) (λq11 z11=>?_)
  ·refine aH ?_
   exact aU (λ_ _=>dX U U) ⟨U,Kt⟩
  refine ZCy ?_
  refine KC (λq12 z12=>?_) (λq12 z12=>?_)
  ·refine ZBZ ?_
   exact RY (aDE U U I) U sA
  refine ZBV ?_
  exact RY (tK U U I) U sA
 refine ZBZ ?_
 refine KC (λq11 z11=>?_) (λq11 z11=>?_)
 ·refine aH ?_
  refine KC (λq12 z12=>?_) (λq12 z12=>?_)
  ·refine aH ?_
   exact aU (λ_ _=>dX U U) ⟨U,Kt⟩
  refine ZCy ?_
  refine KC (λq13 z13=>?_) (λq13 z13=>?_)
  ·refine ZBZ ?_
   exact RY (aDE U U I) U sA
  refine ZBV ?_
  exact RY (tK U U I) U sA
 refine aH ?_
 refine aO K_ (aS (aOI _ _ _)) ?_
 exact sA
def aNW(c:Cd)(w:AI):aG prog 226 [.agg (iJ c).toArray] w [] (V_ (.int .i64 (takV c))):=by
 refine aT func226 ?_
 refine ZAm ?_
 refine RX (eE (l:=iJ c) U U) U (ZBF λb0=>?_)
 refine bW ?_
 refine KL (λq0 z0=>?_) (λq0 z0=>?_)
 ·refine By ?_
  exact E0 U ⟨U,pK⟩
 refine ZA2 ?_
 refine KL (λq1 z1=>?_) (λq1 z1=>?_)
 ·refine ZBZ ?_
  refine KL (λq2 z2=>?_) (λq2 z2=>?_)
  ·refine ZCy ?_
   refine KC (λq3 z3=>?_) (λq3 z3=>?_)
   ·refine ZBV ?_
    exact E0 U ⟨U,pK⟩
   refine ZBV ?_
   refine KL (λq4 z4=>?_) (λq4 z4=>?_)
   ·refine uV ?_
    exact E0 U ⟨U,pK⟩
   refine ZBZ ?_
   refine KL (λq5 z5=>?_) (λq5 z5=>?_)
   ·refine fG ?_
    exact E0 U ⟨U,pK⟩
   refine aH ?_
   refine KC (λq6 z6=>?_) (λq6 z6=>?_)
   ·refine ZBV ?_
    exact E0 U ⟨U,pK⟩
   refine ZCy ?_
   refine KC (λq7 z7=>?_) (λq7 z7=>?_)
   ·refine ZBV ?_
    exact E0 U ⟨U,pK⟩
   refine aH ?_
   exact E0 U ⟨U,pK⟩
  refine kD ?_
  refine KL (λq3 z3=>?_) (λq3 z3=>?_)
  ·refine uV ?_
   exact E0 U ⟨U,pK⟩
  refine ZBZ ?_
  refine KL (λq4 z4=>?_) (λq4 z4=>?_)
  ·refine fG ?_
   exact E0 U ⟨U,pK⟩
  refine aH ?_
  refine KC (λq5 z5=>?_) (λq5 z5=>?_)
  ·refine ZBV ?_
   exact E0 U ⟨U,pK⟩
  refine ZCy ?_
  refine KC (λq6 z6=>?_) (λq6 z6=>?_)
  ·refine ZBV ?_
   exact E0 U ⟨U,pK⟩
  refine aH ?_
  exact E0 U ⟨U,pK⟩
 refine sB ?_
 refine KL (λq2 z2=>?_) (λq2 z2=>?_)
 ·refine uV ?_
  exact E0 U ⟨U,pK⟩
 refine ZBZ ?_
 refine KL (λq3 z3=>?_) (λq3 z3=>?_)
 ·refine fG ?_
  exact E0 U ⟨U,pK⟩
 refine aH ?_
 refine KC (λq4 z4=>?_) (λq4 z4=>?_)
 ·refine ZBV ?_
  exact E0 U ⟨U,pK⟩
 refine ZCy ?_
 refine KC (λq5 z5=>?_) (λq5 z5=>?_)
 ·refine ZBV ?_
  exact E0 U ⟨U,pK⟩
 refine aH ?_
 exact E0 U ⟨U,pK⟩
def lS(rb:Nat)(n:Int)(w:AI):aG prog 261 [P_ rb,.int .i64 n] w [] (V_ (kC rb n)):=by
 refine aT func261 ?_
 refine ZBV ?_
 refine DR [] (bQ [0,2,4,6,8,10,12,14,16,18,20,22,24,26,28,30,32,34,36,38,40,42,45,47]) ?_
 refine Uo ?_
 refine DY U (De (l:=[.pointer (some ⟨rb,2,none⟩),.pointer (some ⟨rb,3,none⟩),.pointer (some ⟨rb,4,none⟩),.pointer (some ⟨rb,5,none⟩),.pointer (some ⟨rb,6,none⟩),.pointer (some ⟨rb,7,none⟩),.pointer none,P_ rb]) (z:=[.pointer none,.pointer none,.pointer none,.pointer none,.pointer none,.pointer none,.pointer none,.pointer none]) (ps:=[(0,.pointer (some ⟨rb,2,none⟩)),(1,.pointer (some ⟨rb,3,none⟩)),(2,.pointer (some ⟨rb,4,none⟩)),(3,.pointer (some ⟨rb,5,none⟩)),(4,.pointer (some ⟨rb,6,none⟩)),(5,.pointer (some ⟨rb,7,none⟩)),(6,.pointer none),(7,P_ rb)]) U aN U aN) U (DX U (gJ U) U aY (ZBF λb0=>?_))
 refine DZ U iF U aY (aH ?_)
 refine KL (λq0 z0=>?_) (λq0 z0=>?_)
 ·refine cL ?_
  exact E0 U ⟨U,(by unfold kC;rw[ag I])⟩
 refine ZBZ ?_
 refine KC (λq1 z1=>?_) (λq1 z1=>?_)
 ·refine ZBV ?_
  exact E0 U ⟨U,(by unfold kC;rw[ag I])⟩
 refine ZAm ?_
 rcases(show n=0\/n=1\/n=2\/n=3\/n=4\/n=5\/n=6\/n=7 by omega)with rfl|rfl|rfl|rfl|rfl|rfl|rfl|rfl
 ·refine ZAm ?_
  exact RY (eB 0 U U U U aD) U pF
 ·refine ZAm ?_
  exact RY (eB 1 U U U U aD) U pF
 ·refine ZAm ?_
  exact RY (eB 2 U U U U aD) U pF
 ·refine ZAm ?_
  exact RY (eB 3 U U U U aD) U pF
 ·refine ZAm ?_
  exact RY (eB 4 U U U U aD) U pF
 ·refine ZAm ?_
  exact RY (eB 5 U U U U aD) U pF
 ·refine ZAm ?_
  exact RY (eB 6 U U U U aD) U pF
 refine ZAm ?_
 exact RY (eB 7 U U U U aD) U pF
def aO4(r:CR)(n:Int)(w:AI):aG prog 239 [.agg (cR r).toArray,.int .i64 n] w [] (λv H=>H=[]/\∃k:Int,v= .tuple #[.int .u8 (Bj r n),.int .i64 k]):=by
 refine aT func239 ?_
 refine Iw ?_
 refine ZBF λb0=>?_
 refine ZBV ?_
 rcases aA7 n with rfl|rfl|rfl|rfl|rfl|rfl|rfl|hno
 ·refine ZAm ?_
  refine aO K_ (aS (lS b0 0)) ?_
  rw[show kC b0 0=Value.pointer (some ⟨b0,2,none⟩)from rfl]
  exact Ei
 ·refine ZAm ?_
  refine aO K_ (aS (lS b0 1)) ?_
  rw[show kC b0 1=Value.pointer (some ⟨b0,3,none⟩)from rfl]
  exact Ei
 ·refine ZAm ?_
  refine aO K_ (aS (lS b0 2)) ?_
  rw[show kC b0 2=Value.pointer (some ⟨b0,4,none⟩)from rfl]
  exact Ei
 ·refine ZAm ?_
  refine aO K_ (aS (lS b0 3)) ?_
  rw[show kC b0 3=Value.pointer (some ⟨b0,5,none⟩)from rfl]
  exact Ei
 ·refine ZAm ?_
  refine aO K_ (aS (lS b0 4)) ?_
  rw[show kC b0 4=Value.pointer (some ⟨b0,6,none⟩)from rfl]
  exact Ei
 ·refine ZAm ?_
  refine aO K_ (aS (lS b0 5)) ?_
  rw[show kC b0 5=Value.pointer (some ⟨b0,7,none⟩)from rfl]
  exact Ei
 ·refine ZAm ?_
  refine aO K_ (aS (lS b0 7)) ?_
  rw[show kC b0 7=P_ b0 from rfl]
  exact Ei
 refine ZAm ?_
 refine aO K_ (aS (lS b0 n)) ?_
 rw[aC4 hno]
 refine kV ?_
 exact aU (λ_ _=>dX U U) ⟨U,_,by rw[aK1 hno]⟩
def aOW(r:CR)(n x:Int)(w:AI):aG prog 238 [.agg (cR r).toArray,.int .i64 n,.int .u8 x] w [] (λv H=>H=[]/\∃k:Int,v= .tuple #[.agg (cR (qZ r n x)).toArray,.int .i64 k]):=by
 refine aT func238 ?_
 refine Iw ?_
 refine tZ λb0 b1=>?_
 refine ZA2 ?_
 rcases aA7 n with rfl|rfl|rfl|rfl|rfl|rfl|rfl|hno
 ·refine ZAm ?_
  refine aO K_ (aS (lS b0 0)) ?_
  rw[show kC b0 0=Value.pointer (some ⟨b0,2,none⟩)from rfl]
  refine kV ?_
  refine hU ?_
  refine uB ?_
  exact aU (λw hw=>fN U U U (aI (b:=b1) (l:=cR (qZ r 0 x)) aE w hw) U) ⟨U,_,U⟩
 ·refine ZAm ?_
  refine aO K_ (aS (lS b0 1)) ?_
  rw[show kC b0 1=Value.pointer (some ⟨b0,3,none⟩)from rfl]
  refine kV ?_
  refine hU ?_
  refine uB ?_
  exact aU (λw hw=>fN U U U (aI (b:=b1) (l:=cR (qZ r 1 x)) aE w hw) U) ⟨U,_,U⟩
 ·refine ZAm ?_
  refine aO K_ (aS (lS b0 2)) ?_
  rw[show kC b0 2=Value.pointer (some ⟨b0,4,none⟩)from rfl]
  refine kV ?_
  refine hU ?_
  refine uB ?_
  exact aU (λw hw=>fN U U U (aI (b:=b1) (l:=cR (qZ r 2 x)) aE w hw) U) ⟨U,_,U⟩
 ·refine ZAm ?_
  refine aO K_ (aS (lS b0 3)) ?_
  rw[show kC b0 3=Value.pointer (some ⟨b0,5,none⟩)from rfl]
  refine kV ?_
  refine hU ?_
  refine uB ?_
  exact aU (λw hw=>fN U U U (aI (b:=b1) (l:=cR (qZ r 3 x)) aE w hw) U) ⟨U,_,U⟩
 ·refine ZAm ?_
  refine aO K_ (aS (lS b0 4)) ?_
  rw[show kC b0 4=Value.pointer (some ⟨b0,6,none⟩)from rfl]
  refine kV ?_
  refine hU ?_
  refine uB ?_
  exact aU (λw hw=>fN U U U (aI (b:=b1) (l:=cR (qZ r 4 x)) aE w hw) U) ⟨U,_,U⟩
 ·refine ZAm ?_
  refine aO K_ (aS (lS b0 5)) ?_
  rw[show kC b0 5=Value.pointer (some ⟨b0,7,none⟩)from rfl]
  refine kV ?_
  refine hU ?_
  refine uB ?_
  exact aU (λw hw=>fN U U U (aI (b:=b1) (l:=cR (qZ r 5 x)) aE w hw) U) ⟨U,_,U⟩
 ·refine ZAm ?_
  refine aO K_ (aS (lS b0 7)) ?_
  rw[show kC b0 7=P_ b0 from rfl]
  refine kV ?_
  refine hU ?_
  refine uB ?_
  exact aU (λw hw=>fN U U U (aI (b:=b1) (l:=cR (qZ r 7 x)) aE w hw) U) ⟨U,_,U⟩
 refine ZAm ?_
 refine aO K_ (aS (lS b0 n)) ?_
 rw[aC4 hno]
 refine iT ?_
 refine RS ?_
 refine hU ?_
 exact aU (λw hw=>fN U U U (aI (b:=b1) aE w hw) U) ⟨U,_,by rw[aPB hno];rfl⟩
def zI(rb:Nat)(n:Int)(hn:n=0\/n=1\/n=2\/n=4)(w:AI):aG prog 263 [P_ rb,.int .i64 n] w [] (V_ (.tuple #[.pointer (some ⟨rb,xU n,none⟩),.pointer (some ⟨rb,yW n,none⟩)])):=by
 refine aT func263 ?_
 refine ZCy ?_
 rcases hn with rfl|rfl|rfl|rfl
 ·refine cL ?_
  refine sN ?_
  refine aO K_ (aS (lS rb (2*0))) ?_
  rw[show kC rb (2*0)=Value.pointer (some ⟨rb,2,none⟩)from rfl]
  refine ZAm ?_
  refine sN ?_
  refine gY ?_
  refine aO K_ (aS (lS rb (2*0+1))) ?_
  rw[show kC rb (2*0+1)=Value.pointer (some ⟨rb,3,none⟩)from rfl]
  exact Xe
 ·refine cL ?_
  refine sN ?_
  refine aO K_ (aS (lS rb (2*1))) ?_
  rw[show kC rb (2*1)=Value.pointer (some ⟨rb,4,none⟩)from rfl]
  refine ZAm ?_
  refine sN ?_
  refine gY ?_
  refine aO K_ (aS (lS rb (2*1+1))) ?_
  rw[show kC rb (2*1+1)=Value.pointer (some ⟨rb,5,none⟩)from rfl]
  exact Xe
 ·refine cL ?_
  refine sN ?_
  refine aO K_ (aS (lS rb (2*2))) ?_
  rw[show kC rb (2*2)=Value.pointer (some ⟨rb,6,none⟩)from rfl]
  refine ZAm ?_
  refine sN ?_
  refine gY ?_
  refine aO K_ (aS (lS rb (2*2+1))) ?_
  rw[show kC rb (2*2+1)=Value.pointer (some ⟨rb,7,none⟩)from rfl]
  exact Xe
 refine aH ?_
 refine Fs ?_
 refine cL ?_
 exact aU (λ_ _=>dX U U) ⟨U,U⟩
def aCd(r:CR)(hr:r.Ok)(n:Int)(w:AI):aG prog 249 [.agg (cR r).toArray,.int .i64 n] w [] (λv H=>H=[]/\∃k:Int,v= .tuple #[.int .u16 (pairR r n),.int .i64 k]):=by
 have k1:=hr.a
 have k2:=hr.f
 have k3:=hr.b
 have k4:=hr.c
 have k5:=hr.d
 have k6:=hr.e
 have k7:=hr.h
 have k8:=hr.l
 have k9:=hr.sp
 refine aT func249 ?_
 refine Iw ?_
 refine ZBF λb0=>?_
 refine bW ?_
 refine KL (λq0 z0=>?_) (λq0 z0=>?_)
 ·refine fG ?_
  exact aU (λ_ _=>dX U U) ⟨U,_,(by rw[Q7 I])⟩
 refine ZBV ?_
 refine KC (λq1 z1=>?_) (λq1 z1=>?_)
 ·refine aH ?_
  exact aU (λ_ _=>dX U U) ⟨U,_,(by rw[Q7 I])⟩
 refine aH ?_
 refine KC (λq2 z2=>?_) (λq2 z2=>?_)
 ·refine ZE1 ?_
  obtain rfl:n=3:=by omega
  exact aU (λ_ _=>dX U U) ⟨U,_,U⟩
 refine ZBV ?_
 refine RW (v:=(.int .u8 (r.f/16*16))) (cM U U) U (M _ (aEk hr.f)) (ZBI ?_)
 refine qO ?_
 rcases(show n=0\/n=1\/n=2\/n=4 by omega)with rfl|rfl|rfl|rfl
 ·refine ZAm ?_
  refine aO K_ (aS (zI b0 0 aD)) ?_
  rw[show xU 0=2 from rfl,show yW 0=3 from rfl]
  refine Tq ?_
  refine Rf ?_
  refine Ip ?_
  exact DW (v:=(.int .u16 (r.b*256+r.c))) U (dE U U) U (M _ (Az hr.b hr.c)) Qm
 ·refine ZAm ?_
  refine aO K_ (aS (zI b0 1 aD)) ?_
  rw[show xU 1=4 from rfl,show yW 1=5 from rfl]
  refine Tq ?_
  refine Rf ?_
  refine Ip ?_
  exact DW (v:=(.int .u16 (r.d*256+r.e))) U (dE U U) U (M _ (Az hr.d hr.e)) Qm
 ·refine ZAm ?_
  refine aO K_ (aS (zI b0 2 aD)) ?_
  rw[show xU 2=6 from rfl,show yW 2=7 from rfl]
  refine Tq ?_
  refine Rf ?_
  refine Ip ?_
  exact DW (v:=(.int .u16 (r.h*256+r.l))) U (dE U U) U (M _ (Az hr.h hr.l)) Qm
 refine ZAm ?_
 refine aO K_ (aS (zI b0 4 aD)) ?_
 rw[show xU 4=0 from rfl,show yW 4=1 from rfl]
 refine Tq ?_
 refine Rf ?_
 refine Ip ?_
 exact DW (v:=(.int .u16 (r.a*256+r.f/16*16))) U (dE U U) U (M _ (Az hr.a I)) Qm
def aMb(r:CR)(n x:Int)(hx:0<=x/\x<65536)(w:AI):aG prog 248 [.agg (cR r).toArray,.int .i64 n,.int .u16 x] w [] (λv H=>H=[]/\∃k:Int,v= .tuple #[.agg (cR (iX r n x)).toArray,.int .i64 k]):=by
 refine aT func248 ?_
 refine Iw ?_
 refine tZ λb0 b1=>?_
 refine ZE1 ?_
 refine KL (λq0 z0=>?_) (λq0 z0=>?_)
 ·refine ZE1 ?_
  refine RS ?_
  exact Y9
 refine ZBV ?_
 refine KC (λq1 z1=>?_) (λq1 z1=>?_)
 ·refine ZAm ?_
  refine RS ?_
  exact Y9
 refine aH ?_
 refine KC (λq2 z2=>?_) (λq2 z2=>?_)
 ·refine ZBZ ?_
  refine hU ?_
  refine uB ?_
  obtain rfl:n=3:=by omega
  exact aU (λw hw=>fN U U U (aI (b:=b1) (l:=cR (iX r 3 x)) aE w hw) U) ⟨U,_,U⟩
 refine aH ?_
 refine KC (λq3 z3=>?_) (λq3 z3=>?_)
 ·refine ZAm ?_
  refine RW (v:=(.int .u16 (x/16*16))) (zS U U) U (M _ (aLj hx)) (ZA2 ?_)
  obtain rfl:n=4:=by omega
  ·refine ZAm ?_
   refine aO K_ (aS (zI b0 4 aD)) ?_
   rw[show xU 4=0 from rfl,show yW 4=1 from rfl]
   refine iT ?_
   refine Sm ?_
   refine ZBI ?_
   refine RW (v:=(.int .u8 (x%256/16*16))) (gF U U U) U (M _ ((nW _).trans I)) (kR ?_)
   refine kN ?_
   refine uB ?_
   exact aU (λw hw=>fN U U U (aI (b:=b1) (l:=cR (iX r 4 x)) aE w hw) U) ⟨U,_,U⟩
 refine ZAm ?_
 rcases(show n=0\/n=1\/n=2 by omega)with rfl|rfl|rfl
 ·refine ZAm ?_
  refine aO K_ (aS (zI b0 0 aD)) ?_
  rw[show xU 0=2 from rfl,show yW 0=3 from rfl]
  refine iT ?_
  refine Sm ?_
  refine H6 ?_
  refine kR ?_
  refine kN ?_
  refine uB ?_
  exact aU (λw hw=>fN U U U (aI (b:=b1) (l:=cR (iX r 0 x)) aE w hw) U) ⟨U,_,U⟩
 ·refine ZAm ?_
  refine aO K_ (aS (zI b0 1 aD)) ?_
  rw[show xU 1=4 from rfl,show yW 1=5 from rfl]
  refine iT ?_
  refine Sm ?_
  refine H6 ?_
  refine kR ?_
  refine kN ?_
  refine uB ?_
  exact aU (λw hw=>fN U U U (aI (b:=b1) (l:=cR (iX r 1 x)) aE w hw) U) ⟨U,_,U⟩
 refine ZAm ?_
 refine aO K_ (aS (zI b0 2 aD)) ?_
 rw[show xU 2=6 from rfl,show yW 2=7 from rfl]
 refine iT ?_
 refine Sm ?_
 refine H6 ?_
 refine kR ?_
 refine kN ?_
 refine uB ?_
 exact aU (λw hw=>fN U U U (aI (b:=b1) (l:=cR (iX r 2 x)) aE w hw) U) ⟨U,_,U⟩
def aHw(r:CR)(hr:r.Ok)(n:Int)(w:AI):aG prog 224 [.agg (cR r).toArray,.int .i64 n] w [] (V_ (.bool (Ew r n))):=by
 refine aT func224 ?_
 refine Iw ?_
 refine ZBF λb0=>?_
 refine jJ ?_
 refine KC (λq0 z0=>?_) (λq0 z0=>?_)
 ·refine ZBI ?_
  refine oQ true U q0 ?_
  refine ZBZ ?_
  refine RW (v:=(.int .u8 (aQ .u8 r.f 128))) U U U (RW (v:=(.bool (zF r.f))) U U (M _ (aBP hr.f)) (ZAm ?_))
  refine RY (Ry U U U) U (ZA2 ?_)
  exact E0 U ⟨U,(M Value.bool (aFz I r))⟩
 refine ZBZ ?_
 refine KC (λq1 z1=>?_) (λq1 z1=>?_)
 ·refine ZBZ ?_
  refine RW (v:=(.int .u8 (aQ .u8 r.f 128))) U U U (RW (v:=(.bool (zF r.f))) U U (M _ (aBP hr.f)) (ZAm ?_))
  refine RY (Ry U U U) U (ZA2 ?_)
  exact E0 U ⟨U,(M Value.bool (aFz I r))⟩
 refine aH ?_
 refine KC (λq2 z2=>?_) (λq2 z2=>?_)
 ·refine ZBI ?_
  refine oQ true U q2 ?_
  refine ZBZ ?_
  refine RW (v:=(.int .u8 (aQ .u8 r.f 16))) U U U (RW (v:=(.bool (cF r.f))) U U (M _ (Zv hr.f)) (ZAm ?_))
  refine RY (Ry U U U) U (ZA2 ?_)
  exact E0 U ⟨U,(M Value.bool (aEb I r))⟩
 refine ZBZ ?_
 refine KC (λq3 z3=>?_) (λq3 z3=>?_)
 ·refine ZBZ ?_
  refine RW (v:=(.int .u8 (aQ .u8 r.f 16))) U U U (RW (v:=(.bool (cF r.f))) U U (M _ (Zv hr.f)) (ZAm ?_))
  refine RY (Ry U U U) U (ZA2 ?_)
  exact E0 U ⟨U,(M Value.bool (aEb I r))⟩
 refine ZE1 ?_
 exact E0 U ⟨U,(M Value.bool (aML I I I I r))⟩
def cE(e:Ev)(pv:AH):AA:=cR e.r++[.int .i64 e.addr,.int .i64 e.val,.int .i64 e.kind,.int .i64 e.bank,pv]
def PV(u:AH):AH:= .func (.func 65) #[u] #[]
def zK(w:AI)(u:AH)(pk:Int->Int):Prop:=∀w',St w [] [] w'->∀x,0<=x/\x<65536->aG prog 65 [u,.int .u16 x] w' [] (λv H=>H=[]/\v= .int .u8 (pk x))
def aGk{w0 w1 w2:AI}{H1 H2:aF}(h1:St w0 [] H1 w1)(h2:St w1 [] H2 w2):St w0 [] [] w2:=
 ⟨h2.os.trans h1.os,h2.tape.trans h1.tape,h2.output.trans h1.output,gr h1.size h2.size,λk hk hm=>(h2.block k (d9 hk h1.size) hm).trans (h1.block k hk hm),kQ,kQ,kQ⟩
def zK.later0{w w1:AI}{H:aF}{u:AH}{pk:Int->Int}(h:zK w u pk)(hw:St w [] H w1):zK w1 u pk:=λw2 h2 x hx=>h w2 (aGk hw h2) x hx
def vecCut{T:Nat}{a:AC}{c n:Nat}{xs:AA}{G:aF}(h:bS T 1 (.slice a n c) n xs G){k:Nat}(hk:k<=n):bS T 1 (.slice a k c) k (xs.take k) G/\k<=c:=by
 rcases h.alt with⟨h1,h2,h3,h4⟩|⟨b,cap,sp,h1,h2,h3,h4,h5⟩
 ·cases h1
  subst h3 h4
  obtain rfl:k=0:=by omega
  exact⟨.nil,aq _⟩
 cases h1
 have hl:=h.len
 subst h2
 have e1:xs++sp=xs.take k++(xs.drop k++sp):=by rw[<-eG,dp]
 rw[e1]at h3⊢
 exact⟨.row b k c _ _ (by rw[fT];omega) h3 h5 I,aR⟩
def aLF(r:CR)(hr:r.Ok)(n:Int):0<=pairR r n/\pairR r n<65536:=by
 have k1:=hr.a
 have k2:=hr.f
 have k3:=hr.b
 have k4:=hr.c
 have k5:=hr.d
 have k6:=hr.e
 have k7:=hr.h
 have k8:=hr.l
 have k9:=hr.sp
 unfold pairR;(repeat(split<;>(try omega)))
def evname1_fn(b:Nat)(r:CR)(hr:r.Ok)(n:Int)(w:AI)(hrow:aK w b 0 (cR r)):aG prog 250 [.int .i64 n,P_ b] w [] (V_ (.int .i64 (pairR r n))):=by
 have k1:=aLF r hr n
 refine aT func250 ?_
 refine aH ?_
 refine W (bJ U U U (bU hrow aP)) U (ZBI ?_)
 refine RX (eN K_ U (aS (aCd r hr n))) U ?_
 rintro _ _ ⟨G0,⟨rfl,k6,rfl⟩,rfl⟩
 refine bW ?_
 refine eR ?_
 exact fD
def aNg(e:Ev)(pv:AH)(hr:e.r.Ok)(n:Int)(hn:0<=n/\n<18)(w:AI):aG prog 227 [.agg (cE e pv).toArray,.int .i64 n] w [] (V_ (.int .i64 ((namL e).getD n.toNat 0))):=by
 have k1:=hr.a
 have k2:=hr.f
 have k3:=hr.b
 have k4:=hr.c
 have k5:=hr.d
 have k6:=hr.e
 have k7:=hr.h
 have k8:=hr.l
 have k9:=hr.sp
 have k10:=hr.pc
 have k11:=aEk hr.f
 refine aT func227 ?_
 refine ZAm ?_
 refine RX (eE (l:=cE e pv) U U) U (ZBF λb0=>?_)
 refine ZBV ?_
 refine W (bJ U U U (sP (b:=b0) (l':=cR e.r) aE 0 10 U)) U (jT λb1=>?_)
 refine hU ?_
 refine RW (v:=(.func (.func 250) #[] #[P_ b1])) U U Gg (ZAm ?_)
 refine mJ (σ:=Nat) [7,11,12,13,14,15,16,17,18,19,20,21,22,23,24,25,26,27,28,29,30,31,32,33,34,35,36,37,38,39,40,41,42,43,44,45,46,47,48,49,50,51,52,53,54,55,56,57,58] (λb=>[(7,P_ b)]) (λb=>[(b,J ((namL e).map (Value.int .i64)) 401)]) (λ_=>True) ?_ ?_
 ·refine DR [3,4,5,6,7,8,9,10,11,12,13,14,15,16,17,18,19,20,21,22,23,24,25,26,27,28,29,30,31,32,33,34,35,36,37,38,39,40,41,42,43,44,45,46,48] (.step true 0 (.step true 1 (.step true 2 (.step true 3 (.step true 4 (.step true 5 (.step true 6 (.step true 7 (.step true 8 (.step true 9 (.step true 10 (.step true 11 (.step true 12 (.step true 13 (.step true 14 (.step true 15 (.step true 16 (.step true 17 (.step true 18 (.step true 19 (.step true 20 (.step true 21 (.step true 22 (.step true 23 (.step true 24 (.step true 25 (.step true 27 (.step true 29 (.step true 31 (.step true 33 (.step true 34 (.step true 35 (.step true 36 (.step true 37 (.step true 38 (.step true 39 (.step true 40 (.step true 41 (.step true 42 (.step true 43 (.step true 44 (.step true 45 (.step true 46 (.fork 26 (.fork 28 (.fork 30 (.fork 32 (.step true 47 (.step false 48 (.step false 49 .done))) (.fork 48 (.step false 32 (.step true 47 (.step false 49 .done))) .stop)) (.fork 48 (.step false 30 (.step false 32 (.step true 47 (.step false 49 .done)))) .stop)) (.fork 48 (.step false 28 (.step false 30 (.step false 32 (.step true 47 (.step false 49 .done))))) .stop)) (.fork 48 (.step false 26 (.step false 28 (.step false 30 (.step false 32 (.step true 47 (.step false 49 .done)))))) .stop))))))))))))))))))))))))))))))))))))))))))))) ?_
  refine wK ?_
  refine ZAm ?_
  refine DW (v:=(.int .u8 (aQ .u8 e.r.f 240))) U U U U (DW (v:=(.int .i64 (aQ .u8 e.r.f 240))) U U U (M _ (bZ I I)) (wK ?_))
  refine wK ?_
  refine wK ?_
  refine wK ?_
  refine wK ?_
  refine wK ?_
  refine aH ?_
  refine DW U (gF U U U) U mC (wK ?_)
  refine ZE1 ?_
  refine nN ?_ ?_
  ·refine DZ U (uT (A:=[]) (B:=[P_ b1]) U K_ U (λw hw=>evname1_fn b1 e.r hr 4 w (aI (b:=b1) aE w hw))) U gV (nN ?_ ?_)
   ·refine O1 ?_
    refine nN ?_ ?_
    ·refine Sf ?_
     refine nN ?_ ?_
     ·refine Iz ?_
      refine Df λb2=>?_
      refine Ks ?_
      exact Kz
     refine nN ?_ ?_
     ·refine Df λb2=>?_
      refine Iz ?_
      refine Ks ?_
      exact Kz
     exact xE
    refine nN ?_ ?_
    ·refine Df λb2=>?_
     refine Sf ?_
     refine Iz ?_
     refine Ks ?_
     exact Kz
    exact xE
   refine nN ?_ ?_
   ·refine Df λb2=>?_
    refine O1 ?_
    refine Sf ?_
    refine Iz ?_
    refine Ks ?_
    exact Kz
   exact xE
  refine nN ?_ ?_
  ·refine Df λb2=>?_
   refine DZ U (uT (A:=[]) (B:=[P_ b1]) U K_ U (λw hw=>evname1_fn b1 e.r hr 4 w (aI (b:=b1) aE w hw))) U gV (O1 ?_)
   refine Sf ?_
   refine Iz ?_
   refine Ks ?_
   exact Kz
  exact xE
 rintro b2 y3 _
 refine ZA2 ?_
 exact RY (eB n.toNat U U U I I) U (W (aW U U (bT (b:=b2) (v:= .int .i64 ((namL e).getD n.toNat 0)) aE (by rw[bj];exact gD (l:=namL e) (by show n.toNat<18;omega)))) U fD)
def Cx{α:Type}{l:List α}{i:Nat}{x:α}(h:l[i]? =some x):l.drop i=x::l.drop (i+1):=by
 obtain⟨q0,rfl⟩:=List.getElem?_eq_some_iff.1 h
 exact fv q0
def aO0(e:Ev)(u:AH)(hb:∀x,0<=x/\x<65536->0<=e.peek x/\e.peek x<256)(x:Int)(w:AI)(hp:zK w u e.peek):aG prog 251 [.agg (cE e (PV u)).toArray,.int .i64 x] w [] (V_ (.int .i64 (e.peek (x%65536)))):=by
 have q0:=hb (x%65536) I
 refine aT func251 ?_
 refine Qy ?_
 refine ZBF λb0=>?_
 refine ZCy ?_
 refine iO ?_
 refine ZE1 ?_
 refine Ea ?_
 refine W (uT (A:=[u]) (B:=[]) U K_ U (λw hw=>hp w (hw.sub (ed _)) (x%65536) I)) U (eR ?_)
 exact fD
def aRh(e:Ev)(u:AH)(hb:∀x,0<=x/\x<65536->0<=e.peek x/\e.peek x<256)(op x:Int)(w:AI)(hp:zK w u e.peek):aG prog 228 [.agg (cE e (PV u)).toArray,.int .i64 op,.int .i64 x] w [] (V_ (.int .i64 (oneV e op x))):=by
 refine aT func228 ?_
 refine Qy ?_
 refine ZBF λb0=>?_
 refine kD ?_
 refine KC (λq0 z0=>?_) (λq0 z0=>?_)
 ·refine ZAm ?_
  refine W (bJ U U U Za) U (ZBI ?_)
  refine aO K_ (λw hw=>aO0 e u hb x w (hp.later0 hw)) ?_
  refine ZA2 ?_
  exact E0 U ⟨U,Ri⟩
 refine ZBV ?_
 refine KC (λq1 z1=>?_) (λq1 z1=>?_)
 ·refine ZCy ?_
  exact E0 U ⟨U,Ri⟩
 refine ZBV ?_
 refine KC (λq2 z2=>?_) (λq2 z2=>?_)
 ·refine ZBZ ?_
  refine aO K_ (aS (xF _)) ?_
  refine ZA2 ?_
  exact E0 U ⟨U,Ri⟩
 refine ZBZ ?_
 refine RW (v:=(.int .i64 (lK .i64 (-1) x))) U U U (ZA2 ?_)
 exact E0 U ⟨U,Ri⟩
def aM1(c:Cd):takV c= -1\/(takV c=0/\(c.op=2->0<=c.n/\c.n<18))\/takV c=1\/takV c=2:=by
 unfold takV;(repeat' split)<;>first|exact .inl rfl|(refine .inr (.inl ⟨rfl,λh=>?_⟩);omega)|exact .inr (.inr (.inl rfl))|exact .inr (.inr (.inr rfl))
def P2{e:Ev}{c:Cd}{l:List Cd}{s:AB}(h:takV c<0\/(s.length:Int)<takV c):iP e (c::l) s=(0,5):=by unfold iP;rw[ag h]
def aFD{e:Ev}{c:Cd}{l:List Cd}{s:AB}(h:takV c=0):iP e (c::l) s=iP e l (s.take s.length++[if c.op=2 then(namL e).getD c.n.toNat 0 else c.n]):=by rw[dj,iP,ae I,ag h]
def aQE{e:Ev}{c:Cd}{l:List Cd}{s:AB}(h:takV c=1)(hs:1<=s.length):iP e (c::l) s=iP e l (s.take (s.length-1)++[oneV e c.op (s.getD (s.length-1) 0)]):=by rw[iP,ae I,ae I,ag h]
def aKR{e:Ev}{c:Cd}{l:List Cd}{s:AB}(h:takV c=2)(hs:2<=s.length)(he:(twoV c.op (s.getD (s.length-2) 0) (s.getD (s.length-1) 0)).2≠0):iP e (c::l) s=(0,(twoV c.op (s.getD (s.length-2) 0) (s.getD (s.length-1) 0)).2):=by rw[iP,ae I,ae I,ae I,ag he]
def aHp{e:Ev}{c:Cd}{l:List Cd}{s:AB}(h:takV c=2)(hs:2<=s.length)(he:¬(twoV c.op (s.getD (s.length-2) 0) (s.getD (s.length-1) 0)).2≠0):iP e (c::l) s=iP e l (s.take (s.length-2)++[(twoV c.op (s.getD (s.length-2) 0) (s.getD (s.length-1) 0)).1]):=by rw[iP,ae I,ae I,ae I,ae he]
def aMx(e:Ev)(u:AH)(hr:e.r.Ok)(hb:∀x,0<=x/\x<65536->0<=e.peek x/\e.peek x<256)(a:AC)(c:Nat)(l:List Cd)(hl:l.length<=1000000)(w:AI)(hp:zK w u e.peek)(hN:eX w iJ a l):aG prog 204 [.slice a l.length c,.agg (cE e (PV u)).toArray] w [] (V_ (.tuple #[.int .i64 (iP e l []).1,.int .i64 (iP e l []).2])):=by
 refine aT func204 ?_
 refine Qy ?_
 refine ZBF λb0=>?_
 refine iT ?_
 refine mV ?_
 refine dK (σ:=Nat×AB×AH×aF) [4,5,6,8,9,10,11,12,15,16,17,18,19,20,21,22,23,24,25,26,27,28,29,30,31,32,33,34,35,36,37,38,39,40,41,42,43,44,45,46,47,48,49,50,51,52,53,54,55,56,57,58,59,60,61,62,63,64,65,66,67,68,69,70,71,72,73,74,75,76,77] (λs=>[(6,s.2.2.1),(15,.int .i64 s.1)]) (λs=>s.2.2.2++[(b0,J (cE e (PV u)) 346)]) (λs=>s.1<=l.length/\bS 3 1 s.2.2.1 s.2.1.length (s.2.1.map (.int .i64)) s.2.2.2/\s.2.1.length<=s.1/\iP e l []=iP e (l.drop s.1) s.2.1) (λs=>l.length-s.1) (0,[],.slice none 0 0,[]) ?_ ?_ ?_ ?_
 ·exact⟨aq _,.nil,aq _,U⟩
 ·exact .cons U (.cons U .nil)
 ·exact λ_ h=>h
 rintro⟨i,st,v0,G0⟩ y3 ⟨hi,hV0,hsl,hrun⟩
 dsimp only at hi hV0 hsl hrun⊢
 obtain⟨a6,c0,rfl⟩:=hV0.slice
 refine ZBV ?_
 refine KC (λq0 z0=>?_) (λq0 z0=>?_)
 ·refine ZBZ ?_
  obtain⟨x,hx⟩:∃x,l[i]? =some x:=⟨_,Vk I⟩
  obtain⟨b,o,rfl,hrow⟩:=hN.row (i:=i) I
  have hrn:iP e l []=iP e (x::l.drop (i+1)) st:=by rw[hrun,Cx hx]
  refine ZBI ?_
  refine Py ?_
  refine W (bJ U U U (λw hw=>(bU hrow aP w hw).part Oa hx 0 2 (v:=iJ x) U)) U (jT λb1=>?_)
  refine hU ?_
  refine yK ?_
  refine aO K_ (aS (aNW x)) ?_
  refine ZA2 ?_
  rcases aM1 x with ht|ht|ht|ht
  ·refine ZAm ?_
   refine gK ?_
   refine O2 ?_
   refine aH ?_
   refine fX true U U U Sd ?_
   refine fG ?_
   exact aU (λ_ _=>dX U U) ⟨U,by rw[hrn,P2 I]⟩
  ·refine ZAm ?_
   refine gK ?_
   refine ZBI ?_
   refine RW (v:=(.int .i64 ((st.length:Nat):Int))) U U (M _ ((bZ I I).trans I)) (aH ?_)
   refine Cl ?_
   refine ZAm ?_
   refine Cl ?_
   refine Aa ?_
   refine fX true U U U Sd ?_
   refine kV ?_
   refine KC (λq1 z1=>?_) (λq1 z1=>?_)
   ·refine ZBI ?_
    refine W (bJ U U U Za) U (ZAm ?_)
    refine aO K_ (aS (aNg e (PV u) hr x.n (ht.2 mY))) ?_
    refine ZBZ ?_
    refine ZD8 ?_
    refine Sa ?_
    rintro _ _ ⟨b2,rfl,rfl⟩
    refine eA (H':=[(b2,_),(b1,_)]++(G0++[(b0,J (cE e (PV u)) 346)])) (λ_ h=>h) ?_
    refine RX (lZ (A:=[(b2,_),(b1,_)]) (G:=G0) (R:=[(b0,J (cE e (PV u)) 346)]) (n:=st.length) (m:=1) (T:=3) (s:=1) (by_:=8) (ys:=[.int .i64 ((namL e).getD x.n.toNat 0)]) U U U U (vecCut hV0 (k:=st.length) I).1 (λw hw=> .row _ _ _ _ _ U (aI (b:=b2) (.head _) w hw)) U I I) U ?_
    rintro v1 _ ⟨G1,hV1,_,rfl⟩
    refine tE (v:=v1) U U U ?_
    refine pT ?_
    exact⟨(i+1,st.take st.length++[((namL e).getD x.n.toNat 0)],v1,G1),⟨Pg,hV1.as Pr No,by show(st.take st.length++[((namL e).getD x.n.toNat 0)]).length<=i+1;rw[bX,fT,au];omega,hrn.trans ((aFD ht.1).trans (by rw[ag mY]))⟩,yQ,.cons U (.cons U .nil),bB,λ_ h=>h.sub (fj (ej _ _) _)⟩
   refine ZA2 ?_
   refine ZD8 ?_
   refine Sa ?_
   rintro _ _ ⟨b2,rfl,rfl⟩
   refine eA (H':=[(b2,_),(b1,_)]++(G0++[(b0,J (cE e (PV u)) 346)])) (λ_ h=>h) ?_
   refine RX (lZ (A:=[(b2,_),(b1,_)]) (G:=G0) (R:=[(b0,J (cE e (PV u)) 346)]) (n:=st.length) (m:=1) (T:=3) (s:=1) (by_:=8) (ys:=[.int .i64 x.n]) U U U U (vecCut hV0 (k:=st.length) I).1 (λw hw=> .row _ _ _ _ _ U (aI (b:=b2) (.head _) w hw)) U I I) U ?_
   rintro v1 _ ⟨G1,hV1,_,rfl⟩
   refine tE (v:=v1) U U U ?_
   refine pT ?_
   exact⟨(i+1,st.take st.length++[x.n],v1,G1),⟨Pg,hV1.as Pr No,by show(st.take st.length++[x.n]).length<=i+1;rw[bX,fT,au];omega,hrn.trans ((aFD ht.1).trans (by rw[ae mY]))⟩,yQ,.cons U (.cons U .nil),bB,λ_ h=>h.sub (fj (ej _ _) _)⟩
  ·refine ZAm ?_
   refine gK ?_
   refine O2 ?_
   refine aH ?_
   refine Cl ?_
   refine ZBV ?_
   refine KC (λq1 z1=>?_) (λq1 z1=>?_)
   ·refine aH ?_
    exact aU (λ_ _=>dX U U) ⟨U,by rw[hrn,P2 I]⟩
   refine kD ?_
   refine Cl ?_
   refine ZBV ?_
   refine fX true U U U Sd ?_
   refine ZA2 ?_
   obtain⟨b2,c6',sp0,q2,rfl,q3,q4,q5⟩:=hV0.full I
   cases q2
   refine eC ?_
   refine DR [1,2,3,4,5,6] (bQ [0,2,4,6,8,10,12,15,16]) ?_
   refine fZ U U U U (by first|exact jR aE|exact Ch aE _ 15 rfl) U U ?_
   refine ZA2 ?_
   refine DW (v:=(.int .i64 ((st.length-1:Nat):Int))) U U U (M _ I) (ZD1 ?_)
   refine DZ U (cZ K_ U (λw hw=>aRh e u hb x.op _ w (hp.later0 hw))) U aY (ZBZ ?_)
   refine RW (v:=(.int .i64 (((st.length-1):Nat):Int))) U U (M _ I) (RY (Eg (st.length-1) U U U U (vecCut hV0 (k:=(st.length-1)) I).2) U (Sa ?_))
   rintro _ _ ⟨b3,rfl,rfl⟩
   refine eA (H':=[(b3,_),(b1,_)]++([(b2,_)]++[(b0,J (cE e (PV u)) 346)])) (λ_ h=>h) ?_
   refine RX (lZ (A:=[(b3,_),(b1,_)]) (G:=[(b2,_)]) (R:=[(b0,J (cE e (PV u)) 346)]) (n:=(st.length-1)) (m:=1) (T:=3) (s:=1) (by_:=8) (ys:=[.int .i64 (oneV e x.op (st.getD (st.length-1) 0))]) U U U U (vecCut hV0 (k:=(st.length-1)) I).1 (λw hw=> .row _ _ _ _ _ U (aI (b:=b3) (.head _) w hw)) U I I) U ?_
   rintro v1 _ ⟨G1,hV1,_,rfl⟩
   refine tE (v:=v1) U U U ?_
   refine pT ?_
   exact⟨(i+1,st.take (st.length-1)++[(oneV e x.op (st.getD (st.length-1) 0))],v1,G1),⟨Pg,hV1.as Pr No,by show(st.take (st.length-1)++[(oneV e x.op (st.getD (st.length-1) 0))]).length<=i+1;rw[bX,fT,au];omega,hrn.trans (aQE ht I)⟩,yQ,.cons U (.cons U .nil),bB,λ_ h=>h.sub (fj (ej _ _) _)⟩
  refine ZAm ?_
  refine gK ?_
  refine O2 ?_
  refine aH ?_
  refine Cl ?_
  refine ZBV ?_
  refine KC (λq1 z1=>?_) (λq1 z1=>?_)
  ·refine aH ?_
   exact aU (λ_ _=>dX U U) ⟨U,by rw[hrn,P2 I]⟩
  refine kD ?_
  refine Cl ?_
  refine ZBV ?_
  refine Cl ?_
  refine ZE1 ?_
  obtain⟨b2,c6',sp0,q2,rfl,q3,q4,q5⟩:=hV0.full I
  cases q2
  refine eC ?_
  refine DR [2,3,4,5,6,7,8,9,10] (bQ [0,2,4,6,8,10,12,14,16,18,20,23,24,26,28,30,32]) ?_
  refine ZA2 ?_
  refine DW (v:=(.int .i64 ((st.length-2:Nat):Int))) U U U (M _ I) (DY U (eF (st.length-2) U U U U I) U (DL U U U (dQ (b:=b2) (v:= .int .i64 (st.getD (st.length-2) 0)) aE aAB) U (ZAm ?_)))
  refine DW (v:=(.int .i64 ((st.length-1:Nat):Int))) U U U (M _ ((bZ I I).trans I)) (ZD1 ?_)
  refine DZ U (cZ K_ U (aS (aMQ x.op _ _))) U aY (tC ?_)
  refine cL ?_
  refine KC (λq6 z6=>?_) (λq6 z6=>?_)
  ·refine ZCy ?_
   exact aU (λ_ _=>dX U U) ⟨U,by rw[hrn,aKR ht I (by simpa using q6)]⟩
  refine ZA2 ?_
  refine RW (v:=(.int .i64 (((st.length-2):Nat):Int))) U U (M _ I) (RY (Eg (st.length-2) U U U U (vecCut hV0 (k:=(st.length-2)) I).2) U (Sa ?_))
  rintro _ _ ⟨b3,rfl,rfl⟩
  refine eA (H':=[(b3,_),(b1,_)]++([(b2,_)]++[(b0,J (cE e (PV u)) 346)])) (λ_ h=>h) ?_
  refine RX (lZ (A:=[(b3,_),(b1,_)]) (G:=[(b2,_)]) (R:=[(b0,J (cE e (PV u)) 346)]) (n:=(st.length-2)) (m:=1) (T:=3) (s:=1) (by_:=8) (ys:=[.int .i64 (twoV x.op (st.getD (st.length-2) 0) (st.getD (st.length-1) 0)).1]) U U U U (vecCut hV0 (k:=(st.length-2)) I).1 (λw hw=> .row _ _ _ _ _ U (aI (b:=b3) (.head _) w hw)) U I I) U ?_
  rintro v1 _ ⟨G1,hV1,_,rfl⟩
  refine tE (v:=v1) U U U ?_
  refine pT ?_
  exact⟨(i+1,st.take (st.length-2)++[(twoV x.op (st.getD (st.length-2) 0) (st.getD (st.length-1) 0)).1],v1,G1),⟨Pg,hV1.as Pr No,by show(st.take (st.length-2)++[(twoV x.op (st.getD (st.length-2) 0) (st.getD (st.length-1) 0)).1]).length<=i+1;rw[bX,fT,au];omega,hrn.trans (aHp ht I (by simpa using q6))⟩,yQ,.cons U (.cons U .nil),bB,λ_ h=>h.sub (fj (ej _ _) _)⟩
 refine ZA2 ?_
 obtain rfl:i=l.length:=by omega
 refine ZAm ?_
 refine gK ?_
 refine ZAm ?_
 refine KC (λq1 z1=>?_) (λq1 z1=>?_)
 ·refine aH ?_
  exact aU (λ_ _=>dX U U) ⟨U,by rw[hrun,gi,iP,ae I]⟩
 refine ZAm ?_
 have q2:st.length=1:=by omega
 obtain⟨b1,c6',sp0,q3,rfl,q4,q5,q6⟩:=hV0.full I
 cases q3
 refine jE ?_
 refine RY (eF 0 U U U U I) U (W (aW U U (bT (b:=b1) (v:= .int .i64 (st.getD 0 0)) aE (kM (gD (l:=st) I)))) U (ZBZ ?_))
 exact aU (λ_ _=>dX U U) ⟨U,by rw[hrun,gi,iP,ag q2]⟩
def aEE{e:Ev}{l:List Cd}(h:¬l.length=0):Hg e l=((iP e l []).1 != 0||(iP e l []).2 != 0,(iP e l []).2 != 0):=ae h
def aRp(e:Ev)(u:AH)(hr:e.r.Ok)(hb:∀x,0<=x/\x<65536->0<=e.peek x/\e.peek x<256)(a:AC)(c:Nat)(l:List Cd)(hl:l.length<=1000000)(w:AI)(hp:zK w u e.peek)(hN:eX w iJ a l):aG prog 182 [.slice a l.length c,.agg (cE e (PV u)).toArray] w [] (V_ (.tuple #[.bool (Hg e l).1,.bool (Hg e l).2])):=by
 refine aT func182 ?_
 refine Qy ?_
 refine ZBF λb0=>?_
 refine ZCy ?_
 refine gK ?_
 refine ZAm ?_
 refine KC (λq0 z0=>?_) (λq0 z0=>?_)
 ·refine aH ?_
  exact aU (λ_ _=>dX U U) ⟨U,(by rw[Hg,ag (show l.length=0 by omega)])⟩
 refine ZBZ ?_
 refine W (bJ U U U Za) U (aO K_ (λw hw=>aMx e u hr hb a c l hl w (hp.later0 hw) (hN.later0 hw)) ?_)
 refine cL ?_
 refine KL (λq1 z1=>?_) (λq1 z1=>?_)
 ·refine bW ?_
  exact aU (λ_ _=>dX U U) ⟨U,(by rw[aEE I];first|rfl|(dsimp only;rw[show((iP e l []).1 != 0)=true from q1];rfl))⟩
 refine bW ?_
 exact aU (λ_ _=>dX U U) ⟨U,(by rw[aEE I];first|rfl|(dsimp only;rw[show((iP e l []).1 != 0)=false from q1];rfl))⟩
def dZ(x n:Int):Int:=x/2^n.toNat%2
def jM(c:Int):Int:=if dZ c 2=1 then 16 else 8
def nP(l:AB)(n:Int):Int:=if 0<=n/\n<l.length/\n<8192 then l.getD n.toNat 0 else 0
def oJ(l:AB)(tile x y:Int):Int:=
 if tile<0\/384<=tile then 0 else dZ (nP l (16*tile+2*(y%8))) (7-x%8)+2*dZ (nP l (16*tile+2*(y%8)+1)) (7-x%8)
def rX(p c:Int):Int:=p/2^(c%4*2).toNat%4
def aAs{n b:Int}(hb:0<b/\b<=65536):(IntKind.i64.wrap (n.tmod b+b)).tmod b=n%b:=by
 have h1:n.tmod b<b:=Int.tmod_lt_of_pos n hb.1
 have h2: -b<n.tmod b:=by
  have:=Int.lt_tmod_of_pos n hb.1
  omega
 rw[bZ I I,cy I]
 rw[Int.add_emod_right]
 by_cases h:0<=n
 ·rw[cy h,Int.emod_emod_of_dvd _ (Int.dvd_refl b)]
 ·rw[Int.tmod_def]
  exact Int.sub_mul_emod_self_left n b (n.tdiv b)
def Bf(x n:Int):dZ x n=0\/dZ x n=1:=by unfold dZ;omega
def Qi{l:AB}(h:bF l)(n:Int):0<=nP l n/\nP l n<256:=by
 unfold nP;split
 ·exact h.get _
 ·omega
def aC3(y:Int):aQ .i64 y 7=y%8:=by
 have h:(BitVec.ofInt 64 y &&& BitVec.ofInt 64 7).toNat=(y%18446744073709551616).toNat%8:=by
  rw[ie]
  have h7:(BitVec.ofInt 64 7).toNat=2^3-1:=by decide
  rw[h7,fy,f4]
  rfl
 show IntKind.i64.wrap ((BitVec.ofInt 64 y &&& BitVec.ofInt 64 7).toNat:Int)=_
 rw[h,bZ I I]
 omega
def aAw(x:Int):IntKind.i64.wrap (7-aQ .i64 x 7)=7-x%8:=by
 rw[aC3,bZ I I]
def aCA(x:Int):0<=IntKind.i64.wrap (7-aQ .i64 x 7):=by rw[aAw];omega
def Xa{t:Int}(y:Int)(h:0<=t/\t<384):IntKind.i64.wrap (IntKind.i64.wrap (16*t)+IntKind.i64.wrap (2*aQ .i64 y 7))=16*t+2*(y%8):=by
 rw[aC3,bZ (n:=16*t) I I,bZ (n:=2*(y%8)) I I,bZ I I]
def aLX{t:Int}(y:Int)(h:0<=t/\t<384):0<=IntKind.i64.wrap (IntKind.i64.wrap (16*t)+IntKind.i64.wrap (2*aQ .i64 y 7)):=by rw[Xa y h];omega
def aEd{t:Int}(y:Int)(h:0<=t/\t<384):IntKind.i64.wrap (IntKind.i64.wrap (IntKind.i64.wrap (16*t)+IntKind.i64.wrap (2*aQ .i64 y 7))+1)=16*t+2*(y%8)+1:=by
 rw[Xa y h,bZ I I]
def aOC{t:Int}(y:Int)(h:0<=t/\t<384):0<=IntKind.i64.wrap (IntKind.i64.wrap (IntKind.i64.wrap (16*t)+IntKind.i64.wrap (2*aQ .i64 y 7))+1):=by rw[aEd y h];omega
def aAD{b n:Int}(h1:0<=b/\b<256)(h2:0<=n/\n<8):aQ .u8 (shr .u8 b n) 1=dZ b n:=by
 have key:∀m:Fin 8,∀c:Fin 256,aQ .u8 (shr .u8 (c.val:Int) (m.val:Int)) 1=dZ (c.val:Int) (m.val:Int):=by decide +kernel
 have:=key ⟨n.toNat,aR⟩ ⟨b.toNat,aR⟩
 simp only at this
 rwa[dw h1.1,dw h2.1]at this
def aIK{x y:Int}(hx:x=0\/x=1)(hy:y=0\/y=1):bI .u8 x (shl .u8 y 1)=x+2*y:=by
 rcases hx with rfl|rfl<;>rcases hy with rfl|rfl<;>decide
def aOT{l:AB}(hl:bF l){t:Int}(x y:Int)(h:0<=t/\t<384):
  bI .u8 (aQ .u8 (shr .u8 (nP l (IntKind.i64.wrap (IntKind.i64.wrap (16*t)+IntKind.i64.wrap (2*aQ .i64 y 7)))) (IntKind.i64.wrap (7-aQ .i64 x 7))) 1)
   (shl .u8 (aQ .u8 (shr .u8 (nP l (IntKind.i64.wrap (IntKind.i64.wrap (IntKind.i64.wrap (16*t)+IntKind.i64.wrap (2*aQ .i64 y 7))+1))) (IntKind.i64.wrap (7-aQ .i64 x 7))) 1) 1)=oJ l t x y:=by
 rw[aAw,aEd y h,Xa y h,aAD (Qi hl _) I,aAD (Qi hl _) I,aIK (Bf _ _) (Bf _ _)]
 rw[oJ,ae I]
def aNs{l:AB}{n:Int}(h:0<=n/\n<l.length/\n<8192):l.getD n.toNat 0=nP l n:=by rw[nP,ag h]
def aHA{l:AB}{n:Int}(h:¬(0<=n/\n<l.length/\n<8192)):0=nP l n:=by rw[nP,ae h]
def aHn{p c:Int}(hp:0<=p/\p<256)(hc:0<=c/\c<256):aQ .u8 (shr .u8 p (IntKind.u8.wrap (aQ .u8 c 3*2))) 3=rX p c:=by
 have h1:aQ .u8 c 3=c%4:=by
  refine eI (p:=λc=>aQ .u8 c 3=c%4) ?_ hc.1 hc.2
  decide +kernel
 rw[h1,Ib I I]
 have key:∀m:Fin 4,∀q:Fin 256,aQ .u8 (shr .u8 (q.val:Int) ((m.val:Int)*2)) 3=(q.val:Int)/2^(2*m.val)%4:=by decide +kernel
 have:=key ⟨(c%4).toNat,aR⟩ ⟨p.toNat,aR⟩
 simp only at this
 rw[dw hp.1,dw I]at this
 rw[this,rX]
 congr 3
 omega
def R4{l:AB}{t x y:Int}(h:t<0\/384<=t):0=oJ l t x y:=by rw[oJ,ag h]
def aEf{c:Int}(hc:0<=c/\c<256){b:Bool}(h:(aQ .u8 c 4 != 0)=b):(bif b then(16:Int)else 8)=jM c:=by
 subst h
 refine eI (p:=λc=>(bif (aQ .u8 c 4 != 0)then(16:Int)else 8)=jM c) ?_ hc.1 hc.2
 decide +kernel
def Zl(c:Int):jM c=8\/jM c=16:=by unfold jM;split<;>simp
def oB(l:AB)(n:Int)(k:Nat):Int:=l.getD (4*n.toNat+k) 0
def Ae{l:AB}(h:bF l)(n:Int)(k:Nat):0<=oB l n k/\oB l n k<256:=h.get _
def rC(l:AB)(c y x0 tile how x line:Int):Int:=
 if line<y\/y+jM c<=line\/x<x0\/x0+8<=x then 0 else
 let row:=if dZ how 6=1 then jM c-1-(line-y)else line-y
 let col:=if dZ how 5=1 then 7-(x-x0)else x-x0
 oJ l (if jM c=16 then tile/2*2+row/8 else tile) col row
def R6{c:Int}(hc:0<=c/\c<256):(aQ .u8 c 64 != 0)=decide (dZ c 6=1):=by
 refine eI (p:=λc=>(aQ .u8 c 64 != 0)=decide (dZ c 6=1)) ?_ hc.1 hc.2
 decide +kernel
def K5{c:Int}(hc:0<=c/\c<256):(aQ .u8 c 32 != 0)=decide (dZ c 5=1):=by
 refine eI (p:=λc=>(aQ .u8 c 32 != 0)=decide (dZ c 5=1)) ?_ hc.1 hc.2
 decide +kernel
def aGX{t r:Int}(ht:0<=t/\t<256)(hr:0<=r/\r<16):bI .i64 (lD .i64 t 1) (shr .i64 r 3)=t/2*2+r/8:=by
 have key:∀r:Fin 16,∀t:Fin 256,bI .i64 (lD .i64 (t.val:Int) 1) (shr .i64 (r.val:Int) 3)=(t.val:Int)/2*2+(r.val:Int)/8:=by decide +kernel
 have:=key ⟨r.toNat,aR⟩ ⟨t.toNat,aR⟩
 simp only at this
 rwa[dw ht.1,dw hr.1]at this
def Ai{l:AB}{c y x0 tile how x line:Int}(hy: -16<=y/\y<=240)(hx: -8<=x0/\x0<=248)(ht:0<=tile/\tile<256)(hh:0<=how/\how<256)
  (h1:y<=line/\line<IntKind.i64.wrap (y+jM c)) (h2:x0<=x/\x<IntKind.i64.wrap (x0+8)) {bu bt bh:Bool}
  (hu:(aQ .u8 how 64 != 0)=bu) (htn:(aQ .u8 how 32 != 0)=bt) (hth:decide (jM c>8)=bh):
  oJ l (bif bh then bI .i64 (lD .i64 tile 1) (shr .i64 (bif bu then IntKind.i64.wrap (IntKind.i64.wrap (jM c-1)-IntKind.i64.wrap (line-y))else IntKind.i64.wrap (line-y)) 3)else tile)
   (bif bt then IntKind.i64.wrap (7-IntKind.i64.wrap (x-x0))else IntKind.i64.wrap (x-x0))
   (bif bu then IntKind.i64.wrap (IntKind.i64.wrap (jM c-1)-IntKind.i64.wrap (line-y))else IntKind.i64.wrap (line-y))=rC l c y x0 tile how x line:=by
 have hg:=Zl c
 rw[bZ (n:=y+jM c) I I]at h1
 rw[bZ (n:=x0+8) I I]at h2
 rw[bZ (n:=line-y) I I,bZ (n:=jM c-1) I I,bZ (n:=jM c-1-(line-y)) I I,bZ (n:=x-x0) I I,
  bZ (n:=7-(x-x0)) I I]
 rw[R6 hh]at hu
 rw[K5 hh]at htn
 rw[rC,ae I]
 have hrow:(bif bu then jM c-1-(line-y)else line-y)=(if dZ how 6=1 then jM c-1-(line-y)else line-y):=by
  subst hu;by_cases h:dZ how 6=1<;>simp[h]
 have hcol:(bif bt then 7-(x-x0)else x-x0)=(if dZ how 5=1 then 7-(x-x0)else x-x0):=by
  subst htn;by_cases h:dZ how 5=1<;>simp[h]
 rw[hrow,hcol]
 have hr0:0<=(if dZ how 6=1 then jM c-1-(line-y)else line-y)/\(if dZ how 6=1 then jM c-1-(line-y)else line-y)<16:=by split<;>omega
 generalize (if dZ how 6=1 then jM c-1-(line-y)else line-y)=row at*
 rw[aGX ht hr0]
 subst hth
 rcases hg with hg|hg<;>simp[hg]
def aB4{l:AB}{c y x0 tile how x line:Int}(hy: -16<=y/\y<=240)(hx: -8<=x0/\x0<=248)(h:¬((y<=line/\line<IntKind.i64.wrap (y+jM c))/\(x0<=x/\x<IntKind.i64.wrap (x0+8)))):
  0=rC l c y x0 tile how x line:=by
 have hg:=Zl c
 rw[bZ (n:=y+jM c) I I,bZ (n:=x0+8) I I]at h
 rw[rC,ag I]
def aNT{l:AB}{n:Int}(hn:0<=n/\n<40)(h:4*n<(l.length:Int)):
  aV [Value.int .u8 0,.int .u8 0,.int .u8 0,.int .u8 0] 0 ((((l.map Z).drop (4*n).toNat).take (l.length-(4*n).toNat)).take (min (l.length-(4*n).toNat) 4))=
   [.int .u8 (oB l n 0),.int .u8 (oB l n 1),.int .u8 (oB l n 2),.int .u8 (oB l n 3)]:=by
 have e:(4*n).toNat=4*n.toNat:=by omega
 rw[e]
 generalize hm:n.toNat=m at*
 have hm2:4*m<l.length:=by omega
 have hd:∀k,(l.drop (4*m)).getD k 0=l.getD (4*m+k) 0:=λk=>by simp[gU,ee]
 unfold oB
 rw[hm,<-hd 0,<-hd 1,<-hd 2,<-hd 3]
 have hlen:(l.drop (4*m)).length=l.length-4*m:=by simp
 simp only[<-ii,<-fq]
 rw[<-hlen,dq (be _)]
 match hq:l.drop (4*m),hlen with
 | [],h0=>simp at h0;omega
 | [a],_=>rfl
 | [a,b],_=>rfl
 | [a,b,c],_=>rfl
 |a::b::c::d::r,_=>
  have:min (a::b::c::d::r).length 4=4:=by simp
  rw[this];rfl
def Oy{l:AB}{n:Int}(hn:0<=n/\n<40)(h:¬4*n<(l.length:Int))(k:Nat):0=oB l n k:=by
 unfold oB
 rw[gU,d7 I];rfl
def aAj{l:AB}(hl:bF l)(n:Int):(Value.agg #[.int .i64 n,.int .i64 (IntKind.i64.wrap (IntKind.i64.wrap (oB l n 0)-16)),.int .i64 (IntKind.i64.wrap (IntKind.i64.wrap (oB l n 1)-8)),.int .i64 (IntKind.i64.wrap (oB l n 2)),.int .u8 (oB l n 3)])=
  .agg #[.int .i64 n,.int .i64 (oB l n 0-16),.int .i64 (oB l n 1-8),.int .i64 (oB l n 2),.int .u8 (oB l n 3)]:=by
 have h0:=Ae hl n 0
 have h1:=Ae hl n 1
 have h2:=Ae hl n 2
 rw[bZ (n:=oB l n 0) I I,bZ (n:=oB l n 0-16) I I,bZ (n:=oB l n 1) I I,bZ (n:=oB l n 1-8) I I,bZ (n:=oB l n 2) I I]
def aKp{l:AB}{n:Int}(hn:0<=n/\n<40)(h:¬4*n<(l.length:Int)):
  [Value.int .u8 0,.int .u8 0,.int .u8 0,.int .u8 0]=[.int .u8 (oB l n 0),.int .u8 (oB l n 1),.int .u8 (oB l n 2),.int .u8 (oB l n 3)]:=by
 rw[<-Oy hn h 0,<-Oy hn h 1,<-Oy hn h 2,<-Oy hn h 3]
def Cf(oam:AB)(c line:Int)(n:Nat):Bool:=decide (oB oam n 0-16<=line)&&decide (line<oB oam n 0-16+jM c)
def jO(oam:AB)(c line:Int)(k:Nat):AB:=((List.range k).filter (Cf oam c line)).map (λn:Nat=>(n:Int))
def rO(oam:AB)(c line:Int):AB:=(jO oam c line 40).take 10
def aQm(oam:AB)(c line:Int)(k:Nat):(jO oam c line k).length<=k:=by
 simp only[jO,eJ]
 have:=g9 (Cf oam c line) (List.range k)
 simpa using this
def aH4{oam:AB}{c line:Int}{k:Nat}(h:Cf oam c line k=true):jO oam c line (k+1)=jO oam c line k++[(k:Int)]:=by
 simp[jO,eo,List.filter_append,h]
def aLx{oam:AB}{c line:Int}{k:Nat}(h:Cf oam c line k=false):jO oam c line (k+1)=jO oam c line k:=by
 simp[jO,eo,List.filter_append,h]
def aEP{oam:AB}(ho:bF oam){c line:Int}{n:Nat}{b:Bool}(h:(decide (oB oam n 0-16<=line)&&decide (line<IntKind.i64.wrap (oB oam n 0-16+jM c)))=b):Cf oam c line n=b:=by
 have h0:=Ae ho n 0
 have hg:=Zl c
 rw[bZ I I]at h
 exact h
def aJE{oam:AB}{c line:Int}{k:Nat}{v:AH}{G:aF}(h:Cf oam c line k=true)(hv:bS 3 1 v ((jO oam c line k).length+1) ((jO oam c line k).map (.int .i64)++[.int .i64 k]) G):
  bS 3 1 v (jO oam c line (k+1)).length ((jO oam c line (k+1)).map (.int .i64)) G:=by
 rw[aH4 h];simpa using hv
def aQV{oam:AB}{c line:Int}{k:Nat}{v:AH}{G:aF}(h:Cf oam c line k=false)(hv:bS 3 1 v (jO oam c line k).length ((jO oam c line k).map (.int .i64)) G):
  bS 3 1 v (jO oam c line (k+1)).length ((jO oam c line (k+1)).map (.int .i64)) G:=by
 rw[aLx h];exact hv
def aPx(oam:AB)(c line:Int):bS 3 1 (.slice none 0 0) (jO oam c line 0).length ((jO oam c line 0).map (.int .i64)) []:= .nil
def We(oam:AB)(c line:Int):(rO oam c line).length=min (jO oam c line 40).length 10:=by rw[rO,fT,Nat.min_comm]
def aG6{α β:Type}(f:α->β)(l:List α)(r:List β)(n:Nat)(j:Nat)(v:β)(h:((l.take n).map f)[j]? =some v):(l.map f++r)[j]? =some v:=by
 rw[fq,fe]at h
 split at h
 ·have hj:j<(l.map f).length:=by
   rcases du j (l.map f).length with h1|h1
   ·exact h1
   ·rw[d7 h1]at h;cases h
  rw[di hj];exact h
 ·cases h
def aK8(cap:Nat):cut1 0 0 cap=0:=by simp[cut1]
def aGI{oam:AB}{c line:Int}(hm:(jO oam c line 40).length=0):As .i64 (rO oam c line) (.slice none 0 0) []:=by
 have:rO oam c line=[]:=db (by rw[We];omega)
 rw[this];exact .nil
def aIG{oam:AB}{c line:Int}{n cap b:Nat}{xs sp:AA}(hm:(jO oam c line 40).length=n)(hx:(jO oam c line 40).map (Value.int .i64)=xs)(hle:n<=cap):
  As .i64 (rO oam c line) (.slice (some ⟨b,cut1 0 0 cap,none⟩) (min n 10-0) (cap-0)) [(b,J (xs++sp) 3)]:=by
 rw[aK8]
 refine As.of_row (by rw[We];omega) (by rw[We];omega) (λj v hv=>?_)
 subst hx
 exact aG6 _ _ _ _ j v hv
structure Vw where
 c:Int
 sx:Int
 sy:Int
 wx:Int
 wy:Int
def cV(v:Vw):AA:=[.int .u8 v.c,.int .u8 v.sx,.int .u8 v.sy,.int .u8 v.wx,.int .u8 v.wy]
structure Vw.Ok(v:Vw):Prop where
 c:0<=v.c/\v.c<256
 sx:0<=v.sx/\v.sx<256
 sy:0<=v.sy/\v.sy<256
 wx:0<=v.wx/\v.wx<256
 wy:0<=v.wy/\v.wy<256
def xO(c b:Int):Int:=if dZ c 4=1 then b else if 127<b then b else 256+b
def Ab(l:AB)(c n px py:Int):Int:=oJ l (xO c (nP l ((if dZ c n=1 then 7168 else 6144)+32*(py/8)+px/8))) px py
def Nr(l:AB)(v:Vw)(x y:Int):Int:=Ab l v.c 3 ((x+v.sx)%256) ((y+v.sy)%256)
def Qb(l:AB)(v:Vw)(x y:Int):Int:=Ab l v.c 6 (x%256) (y%256)
def pS(v:Vw)(line:Int):Bool:=decide (dZ v.c 0=1)&&(decide (dZ v.c 5=1)&&(decide (v.wy<=line)&&decide (v.wx<=166)))
def pO(l:AB)(v:Vw)(line own:Int)(x:Nat):Int:=
 if dZ v.c 0=1 then(if pS v line=true/\0<=(x:Int)+7-v.wx then Qb l v ((x:Int)+7-v.wx) own else Nr l v x line)else 0
def Aq(l:AB)(v:Vw)(line own:Int):AB:=(List.range 160).map (pO l v line own)
def tLine_len(l:AB)(v:Vw)(line own:Int):(Aq l v line own).length=160:=by simp[Aq]
def aQf(l:AB)(v:Vw)(line own:Int):(Aq l v line own).map Z=nS .u8 (pO l v line own) 160 160:=by simp[Aq,Y1,j1,Function.comp_def]
def aKO(l:AB)(t x y:Int):0<=oJ l t x y/\oJ l t x y<4:=by
 unfold oJ
 have h1:=Bf (nP l (16*t+2*(y%8))) (7-x%8)
 have h2:=Bf (nP l (16*t+2*(y%8)+1)) (7-x%8)
 split<;>omega
def aLP(l:AB)(v:Vw)(line own:Int)(x:Nat):0<=pO l v line own x/\pO l v line own x<4:=by
 unfold pO Qb Nr Ab
 split
 ·split<;>exact aKO _ _ _ _
 ·omega
def tLine_byts(l:AB)(v:Vw)(line own:Int):bF (Aq l v line own):=λx hx=>by
 obtain⟨k,_,rfl⟩:=List.mem_map.1 hx
 have:=aLP l v line own k
 omega
def P8{c:Int}(hc:0<=c/\c<256):(aQ .u8 c 1==0)=decide (dZ c 0=0):=
 eI (p:=λc=>(aQ .u8 c 1==0)=decide (dZ c 0=0)) eW hc.1 hc.2
def aLK{c:Int}(hc:0<=c/\c<256):(aQ .u8 c 8 != 0)=decide (dZ c 3=1):=
 eI (p:=λc=>(aQ .u8 c 8 != 0)=decide (dZ c 3=1)) eW hc.1 hc.2
def aCB{c:Int}(hc:0<=c/\c<256):(aQ .u8 c 16 != 0)=decide (dZ c 4=1):=
 eI (p:=λc=>(aQ .u8 c 16 != 0)=decide (dZ c 4=1)) eW hc.1 hc.2
def aFZ{b:Int}(hb:0<=b/\b<256):IntKind.i64.wrap (256+IntKind.i64.wrap (IntKind.i8.wrap b))=if 127<b then b else 256+b:=
 eI (p:=λb=>IntKind.i64.wrap (256+IntKind.i64.wrap (IntKind.i8.wrap b))=if 127<b then b else 256+b) eW hb.1 hb.2
def aQL{c b:Int}(h:dZ c 4=1):xO c b=b:=by unfold xO;rw[ag h]
def aMv{c b:Int}(h:¬dZ c 4=1):xO c b=if 127<b then b else 256+b:=by unfold xO;rw[ae h]
def aLZ{l:AB}{v:Vw}{line own:Int}(x:Nat)(h:dZ v.c 0=0):pO l v line own x=0:=by unfold pO;rw[ae I]
def aL7{l:AB}{v:Vw}{line own:Int}{x:Nat}(h:dZ v.c 0=1)(hs:pS v line=true)(hx:0<=(x:Int)+7-v.wx):Qb l v ((x:Int)+7-v.wx) own=pO l v line own x:=by
 unfold pO;rw[ag h,ag ⟨hs,hx⟩]
def aD3{l:AB}{v:Vw}{line own:Int}{x:Nat}(h:dZ v.c 0=1)(hs:¬(pS v line=true/\0<=(x:Int)+7-v.wx)):Nr l v x line=pO l v line own x:=by
 unfold pO;rw[ag h,ae hs]
def aKu{l:AB}{v:Vw}{line own:Int}(h:dZ v.c 0=0):Aq l v line own=List.replicate 160 0:=by
 refine List.eq_replicate_iff.2 ⟨tLine_len _ _ _ _,λx hx=>?_⟩
 obtain⟨k,_,rfl⟩:=List.mem_map.1 hx
 exact aLZ _ h
def aIs{v:Vw}{line:Int}(h:dZ v.c 0=0):pS v line=false:=by unfold pS;rw[h];rfl
def aQ8{c b:Int}(hc:0<=c/\c<256)(hb:0<=b/\b<256)(h:(aQ .u8 c 16 != 0)=true):IntKind.i64.wrap b=xO c b:=by
 rw[aCB hc]at h
 rw[bZ I I,aQL (by simpa using h)]
def aKx{c b:Int}(hc:0<=c/\c<256)(hb:0<=b/\b<256)(h:(aQ .u8 c 16 != 0)=false):IntKind.i64.wrap (256+IntKind.i64.wrap (IntKind.i8.wrap b))=xO c b:=by
 rw[aCB hc]at h
 rw[aFZ hb,aMv (by simpa using h)]
def aOb{l:AB}{c n px py:Int}(h:dZ c n=1):Ab l c n px py=oJ l (xO c (nP l (7168+32*(py/8)+px/8))) px py:=by unfold Ab;rw[ag h]
def aKv{l:AB}{c n px py:Int}(h:¬dZ c n=1):Ab l c n px py=oJ l (xO c (nP l (6144+32*(py/8)+px/8))) px py:=by unfold Ab;rw[ae h]
def Rp{x:Int}(h:0<=x/\x<256):IntKind.u8.wrap (x.tdiv 8)=x/8:=by
 rw[jt h.1,Ib I I]
def Rr(x:Int):0<=x%256/\x%256<256:=by omega
def aOD{v:Vw}{line:Int}(hv:v.Ok)(h:(aQ .u8 v.c 32 != 0)=false):false=pS v line:=by
 rw[K5 hv.c]at h
 unfold pS;rw[h];simp
def aHd{v:Vw}{line:Int}(h:decide (v.wy<=line)=false):false=pS v line:=by
 unfold pS;rw[h];simp
def aGv{v:Vw}{line:Int}(hv:v.Ok)(h0:(aQ .u8 v.c 1==0)=false)(h:(aQ .u8 v.c 32 != 0)=true)(h2:decide (v.wy<=line)=true):decide (v.wx<=166)=pS v line:=by
 rw[K5 hv.c]at h
 rw[P8 hv.c]at h0
 have h1:dZ v.c 0=1:=by have:=Bf v.c 0;simp at h0;omega
 unfold pS;rw[h,h2,h1];simp
def aHz{c:Int}(hc:0<=c/\c<256)(h0:(aQ .u8 c 1==0)=false):dZ c 0=1:=by
 rw[P8 hc]at h0
 have:=Bf c 0
 simp at h0;omega
def aEt{c:Int}(hc:0<=c/\c<256)(h0:(aQ .u8 c 1==0)=true):dZ c 0=0:=by
 rw[P8 hc]at h0;simpa using h0
structure Sp where
 n:Int
 y:Int
 x:Int
 t:Int
 h:Int
def lW(s:Sp):AA:=[.int .i64 s.n,.int .i64 s.y,.int .i64 s.x,.int .i64 s.t,.int .u8 s.h]
def tG(s:Sp):(lW s).length=5:=rfl
def sp(oam:AB)(n:Int):Sp:=⟨n,oB oam n 0-16,oB oam n 1-8,oB oam n 2,oB oam n 3⟩
def cmpI(a b:Int):Int:=if a<b then -1 else if b<a then 1 else 0
def aB6(a b:Int):decide (cmpI a b<0)=decide (a<b):=by
 unfold cmpI;split
 ·simp_all
 ·split<;>simp_all
def kL(e:Sp):List Sp->List Sp->List Sp
 | [],B=>e::B
 |a::ra,B=>if e.x<a.x then kL e ra (a::B)else(a::ra).reverse++e::B
def jI(l:List Sp):List Sp:=l.foldl (λS e=>kL e S.reverse []) []
def aHY(e a:Sp)(A B:List Sp)(h:e.x<a.x):kL e (A++[a]).reverse B=kL e A.reverse (a::B):=by simp[kL,h]
def aRS(e a:Sp)(A B:List Sp)(h:¬e.x<a.x):kL e (A++[a]).reverse B=(A++[a])++e::B:=by simp[kL,h]
def aOi(e:Sp)(ra B:List Sp):(kL e ra B).length=ra.length+1+B.length:=by
 induction ra generalizing B with
 |nil=>simp[kL];omega
 |cons a ra ih=>
  simp only[kL]
  split
  ·rw[ih];simp;omega
  ·simp;omega
def aQ3(l:List Sp)(e:Sp):jI (l++[e])=kL e (jI l).reverse []:=by simp[jI]
def R0(l:List Sp):(jI l).length=l.length:=by
 suffices h:∀(l S:List Sp),(l.foldl (λS e=>kL e S.reverse []) S).length=S.length+l.length by simpa[jI] using h l []
 intro l
 induction l with
 |nil=>simp
 |cons a l ih=>intro S;rw[i7,ih,aOi];simp;omega
def aFT(l:List Sp):jI (l.take 1)++l.drop 1=l:=by
 cases l with
 |nil=>rfl
 |cons a l=>simp[jI,kL]
def aJy{l:List Sp}{i:Nat}(hi:i<l.length):jI (l.take (i+1))=kL l[i] (jI (l.take i)).reverse []:=by
 rw[fu hi,aQ3]
def aPq(e:Sp)(ra B:List Sp):∃A M,ra.reverse=A++M/\kL e ra B=A++e::(M++B)/\(∀b∈M,e.x<b.x)/\(A=[]\/∃A' a,A=A'++[a]/\¬e.x<a.x):=by
 induction ra generalizing B with
 |nil=>exact⟨[],[],rfl,rfl,kQ,.inl rfl⟩
 |cons a ra ih=>
  by_cases h:e.x<a.x
  ·obtain⟨A,M,h1,h2,h3,h4⟩:=ih (a::B)
   refine⟨A,M++[a],by rw[List.reverse_cons,h1,eG],by simp only[kL,ag h,h2];simp,?_,h4⟩
   intro b hb
   rcases List.mem_append.1 hb with hb|hb
   ·exact h3 b hb
   ·simp only[il]at hb;subst hb;exact h
  ·exact⟨(a::ra).reverse,[],kQ,by simp[kL,h],kQ,.inr ⟨ra.reverse,a,kQ,h⟩⟩
def aH7{l:List Sp}{i:Nat}(h:l.length<=i):jI (l.take i)++l.drop i=jI l:=by
 rw[dq h,gq h,cn]
def aBs{e:Sp}{A B R S:List Sp}(h:A=[]\/∃A' x,A=A'++[x]/\¬e.x<x.x)(hI:kL e A.reverse B=kL e S.reverse []):A++e::(B++R)=kL e S.reverse []++R:=by
 rw[<-hI]
 rcases h with rfl|⟨A',x,rfl,hx⟩
 ·simp[kL]
 ·rw[aRS e x A' B hx];simp
def vX(s:Sp):Prop:=(-16<=s.y/\s.y<=240)/\(-8<=s.x/\s.x<=248)/\(0<=s.t/\s.t<256)/\(0<=s.h/\s.h<256)
def aJ5{oam:AB}(ho:bF oam)(n:Int):vX (sp oam n):=by
 have h0:=Ae ho n 0
 have h1:=Ae ho n 1
 have h2:=Ae ho n 2
 have h3:=Ae ho n 3
 unfold vX sp
 simp only
 omega
def hit(l:AB)(c x line:Int)(s:Sp):Bool:=rC l c s.y s.x s.t s.h x line != 0
def wE(l:AB)(c bk f s2 x line below:Int):Option Sp->Int
 |none=>rX bk below
 |some s=>if dZ s.h 7=1/\below%4≠0 then rX bk below else if dZ s.h 4=1 then rX s2 (rC l c s.y s.x s.t s.h x line)else rX f (rC l c s.y s.x s.t s.h x line)
def aBY{q:Sp->Bool}{l:List Sp}{k:Nat}{s:Sp}(h:(l.take k).find? q=none)(hs:l[k]? =some s)(hq:q s=true):l.find? q=some s:=by
 obtain⟨hk,he⟩:=List.getElem?_eq_some_iff.1 hs
 rw[Km hk,List.find?_append,h,he]
 simp[hq]
def aHx{q:Sp->Bool}{l:List Sp}{k:Nat}{s:Sp}(h:(l.take k).find? q=none)(hs:l[k]? =some s)(hq:q s=false):(l.take (k+1)).find? q=none:=by
 obtain⟨hk,he⟩:=List.getElem?_eq_some_iff.1 hs
 rw[fu hk,List.find?_append,h,he]
 simp[hq]
def aE0{h:Int}(hh:0<=h/\h<256):(aQ .u8 h 128 != 0)=decide (dZ h 7=1):=by
 refine eI (p:=λc=>(aQ .u8 c 128 != 0)=decide (dZ c 7=1)) ?_ hh.1 hh.2
 decide +kernel
def aKh{h:Int}(hh:0<=h/\h<256):(aQ .u8 h 16 != 0)=decide (dZ h 4=1):=by
 refine eI (p:=λc=>(aQ .u8 c 16 != 0)=decide (dZ c 4=1)) ?_ hh.1 hh.2
 decide +kernel
def W5{h:Int}(hh:0<=h/\h<256):(aQ .u8 h 3 != 0)=decide (h%4≠0):=by
 refine eI (p:=λc=>(aQ .u8 c 3 != 0)=decide (c%4≠0)) ?_ hh.1 hh.2
 decide +kernel
def Re(l:AB)(c y x0 t h X L:Int):0<=rC l c y x0 t h X L/\rC l c y x0 t h X L<256:=by
 unfold rC
 split
 ·omega
 ·have h4:∀a b d,0<=oJ l a b d/\oJ l a b d<4:=λa b d=>by
   unfold oJ
   split
   ·omega
   ·have:=Bf (nP l (16*a+2*(d%8))) (7-b%8)
    have:=Bf (nP l (16*a+2*(d%8)+1)) (7-b%8)
    omega
  have:=h4 (if jM c=16 then t/2*2+(if dZ h 6=1 then jM c-1-(L-y)else L-y)/8 else t) (if dZ h 5=1 then 7-(X-x0)else X-x0) (if dZ h 6=1 then jM c-1-(L-y)else L-y)
  show 0<=oJ _ _ _ _/\oJ _ _ _ _<256
  omega
def aOm{l:AB}{c bk f s2 x line below:Int}{L:List Sp}{s:Sp}{k:Nat}(hs:L[k]? =some s)(ho:vX s)(hb:0<=below/\below<256)(hn:(L.take k).find? (hit l c x line)=none)(h0:(rC l c s.y s.x s.t s.h x line==0)=false)
  (h1:(aQ .u8 s.h 128 != 0)=true) (h2:(aQ .u8 below 3 != 0)=true):rX bk below=wE l c bk f s2 x line below (L.find? (hit l c x line)):=by
 rw[aBY hn hs (by simp[hit,bne,h0])]
 rw[aE0 ho.2.2.2,ak]at h1
 rw[W5 hb,ak]at h2
 simp[wE,h1,h2]
def Sc{l:AB}{c bk f s2 x line below:Int}{L:List Sp}{s:Sp}{k:Nat}{b4:Bool}(hs:L[k]? =some s)(ho:vX s)(hb:0<=below/\below<256)(hn:(L.take k).find? (hit l c x line)=none)(h0:(rC l c s.y s.x s.t s.h x line==0)=false)
  (h1:(aQ .u8 s.h 128 != 0)=false\/(aQ .u8 below 3 != 0)=false) (h4:(aQ .u8 s.h 16 != 0)=b4):
  (bif b4 then rX s2 (rC l c s.y s.x s.t s.h x line)else rX f (rC l c s.y s.x s.t s.h x line))=wE l c bk f s2 x line below (L.find? (hit l c x line)):=by
 rw[aBY hn hs (by simp[hit,bne,h0])]
 rw[aE0 ho.2.2.2,ai,W5 hb,ai]at h1
 rw[aKh ho.2.2.2]at h4
 have:¬(dZ s.h 7=1/\below%4≠0):=by rcases h1 with h1|h1<;>simp_all
 simp only[wE,ae this]
 subst h4
 by_cases h:dZ s.h 4=1<;>simp[h]
def aNw{l:AB}{c bk f s2 x line below:Int}{L:List Sp}{k:Nat}(hk:L.length<=k)(hn:(L.take k).find? (hit l c x line)=none):rX bk below=wE l c bk f s2 x line below (L.find? (hit l c x line)):=by
 rw[dq hk]at hn
 rw[hn];rfl
def aKW{oam:AB}{c line:Int}:∀n∈rO oam c line,0<=n/\n<40:=by
 intro n hn
 have:=dd hn
 simp only[jO,jc,List.mem_filter,gw]at this
 obtain⟨m,⟨h1,_⟩,rfl⟩:=this
 omega
def aFx(oam:AB)(c line:Int):(rO oam c line).length<=10:=by rw[We];omega
def rI(oam:AB)(c line:Int):List Sp:=if dZ c 1=1 then(rO oam c line).map (sp oam)else []
def aBI{h:Int}(hh:0<=h/\h<256):(aQ .u8 h 2 != 0)=decide (dZ h 1=1):=by
 refine eI (p:=λc=>(aQ .u8 c 2 != 0)=decide (dZ c 1=1)) ?_ hh.1 hh.2
 decide +kernel
def aJL{oam:AB}{c line:Int}(hc:0<=c/\c<256)(h:(aQ .u8 c 2 != 0)=true):rI oam c line=(rO oam c line).map (sp oam):=by
 rw[aBI hc,ak]at h;rw[rI,ag h]
def aOX{oam:AB}{c line:Int}(hc:0<=c/\c<256)(h:(aQ .u8 c 2 != 0)=false):rI oam c line=[]:=by
 rw[aBI hc,ai]at h;rw[rI,ae h]
def U4(oam:AB)(c line:Int):(rI oam c line).length<=10:=by
 unfold rI;split
 ·rw[eJ];exact aFx _ _ _
 ·simp
def aRF{oam:AB}(ho:bF oam)(c line:Int):∀s∈jI (rI oam c line),vX s:=by
 have key:∀l:List Sp,(∀s∈l,vX s)->∀s∈jI l,vX s:=by
  intro l
  suffices h:∀(l S:List Sp),(∀s∈S,vX s)->(∀s∈l,vX s)->∀s∈l.foldl (λS e=>kL e S.reverse []) S,vX s from h l [] aP
  intro l
  induction l with
  |nil=>exact λS hS _=>hS
  |cons a l ih=>
   intro S hS hl
   refine ih _ ?_ (λs hs=>hl s (by simp[hs]))
   obtain⟨A,M,h1,h2,_,_⟩:=aPq a S.reverse []
   simp only[h2]
   rw[List.reverse_reverse]at h1
   intro s hs
   simp only[cn,i6,ea]at hs
   rcases hs with hs|rfl|hs
   ·exact hS s (by rw[h1];simp[hs])
   ·exact hl s aP
   ·exact hS s (by rw[h1];simp[hs])
 refine key _ ?_
 unfold rI;split
 ·intro s hs
  obtain⟨n,_,rfl⟩:=List.mem_map.1 hs
  exact aJ5 ho n
 ·simp
def aKf{oam:AB}{l:AB}{k:Nat}(hk:k<l.length):aM lW ((l.take (k+1)).map (sp oam))=aM lW ((l.take k).map (sp oam))++lW (sp oam (l.getD k 0)):=by
 rw[fu hk,bz,cq,dh,xH,gU,ap hk];rfl
def zM(l oam:AB)(c bk f s2 line:Int)(bl:AB)(i:Nat):Int:=wE l c bk f s2 i line (bl.getD i 0) ((jI (rI oam c line)).find? (hit l c i line))
def Wo(l oam:AB)(c bk f s2 line:Int)(bl:AB):AA:=(List.range 160).map (λi=>Value.int .u8 (zM l oam c bk f s2 line bl i))
def aGi{l:AB}{k:Nat}(h:k<l.length):l.getD k 0∈l:=by
 rw[gU,ap h];exact fi h
end Go.Proofs.YtacejanlmhbddaaGreat

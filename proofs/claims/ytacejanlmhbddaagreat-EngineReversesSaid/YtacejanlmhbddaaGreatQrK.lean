/- Parts. -/
import Derived.Test.YtacejanlmhbddaaGreatQrJ
set_option maxRecDepth 100000
set_option maxHeartbeats 1000000
set_option linter.all false
namespace Go.Proofs.YtacejanlmhbddaaGreat.Hs
open Go Go.VV Go.Proofs Go.Proofs.Tryz
def new_fn(n:Int)(w:AI):
  aG prog 44 [.int .i64 n] w [] (λv H=>∃b,v=P_ b/\HistH b (max 1 (min n 32)).toNat 0 [] (List.replicate 32 r0) H):=by
 refine aT func44 ?_
 refine gL ?_
 refine RY (tD U U) U (RY (Ec U U) U (RY (qJ (z:=hC (.slice none 0 0) (List.replicate 32 r0) 0 0) (l:=hC (.slice none 0 0) (List.replicate 32 r0) (max 1 (min n 32)) 0) U aN U aN) U (RX (eE U U) U ?_)))
 rintro _ _ ⟨b7,rfl,rfl⟩
 refine bY ?_
 exact EV U aJ ⟨_,U,_,[],by rw[dw I];rfl,.nil,kQ⟩
def Ql(b c j:Nat)(cs:List fS)(sp:AA)(hlen:cs.length<1000000000)(hc:cs.length<=c)(hsz:(aM cC cs++sp).length=c*5)(h2:1<=j)(hj:j<=cs.length)(w:AI)(hb:w.heap[b]? =some (J (aM cC cs++sp) 197)):
  aG prog 172 [.slice (Q_ b) cs.length c,.int .i64 0,.int .i64 j] w [b] (λv H=>v= .slice (Q_ b) (cs.drop j).length c/\∃sp',(aM cC (cs.drop j)++sp').length=c*5/\H=[(b,J (aM cC (cs.drop j)++sp') 197)]):=by
 refine yM func172 U U U (St.lent1 hb) ?_
 refine cL ?_
 refine RY gT U (RY (aEp (s:=5) 0 j cs.length U U U U U U U U I hj hc) U (eD ?_))
 refine fX false U U U lH ?_
 refine eD ?_
 refine RY gT U (bY ?_)
 refine DR [] (bQ [0,2,4,6,8,10,13,14]) ?_
 refine aX ?_
 refine DW (v:=(.slice (Q_ b) 0 c)) U (wO (s:=5) 0 0 U U U U U U I I) U (aDs b 0 5 0 c) (aX ?_)
 refine DY U (wO (s:=5) j cs.length U U U U U U hj hc) U (DZ U (aFB (n:=0) (m:=cs.length-j) (T:=197) (s:=5) (by_:=24) (ys:=aM cC (cs.drop j)) 0 U U U U U (λw hw=> .row _ _ _ _ _ (by rw[gH uH,dM]) (aNO uH (aI (.head _) w hw) hj hc)) (Tv aFa _) I (Sx uH cs sp j)) U aY (eD ?_))
 refine RY gT U (bG ?_)
 refine RW (v:=(.slice (some ⟨b,(cs.length-j)*5,none⟩) j (c-(cs.length-j)))) (wO (s:=5) (cs.length-j) cs.length U U U U aP U I hc) U (aIh I I) (W (X9 (s:=5) (z:=[.int .i64 0,.int .i64 0,.int .u16 0,.int .u16 0,.int .u16 0]) 0 U U U U U U U I (by rw[yO (Sx uH cs sp j),hsz];simp only[eZ,az];omega)) U (gL ?_))
 obtain⟨sp',hsp⟩:=aRn uH cs sp (mS (j*5) [.int .i64 0,.int .i64 0,.int .u16 0,.int .u16 0,.int .u16 0]) hj
 refine iM (λ_ _=>yE U) aJ ⟨by rw[dM,bj],sp',?_,by rw[<-hsp];rfl⟩
 rw[<-hsp,yO (by rw[yO (Sx uH cs sp j),hsz,Yd];omega),yO (Sx uH cs sp j),hsz]
def Xj(b keep noted:Nat)(cs:List fS)(ring:List Rcd)(hcl:cs.length<=256)(G:aF)(w:AI)(hL:HistH b keep noted cs ring G)(hst:St w (G.map (·.1)) G w)(x:fS):
  aG prog 124 [P_ b,.agg (cC x).toArray] w (G.map (·.1)) (λv H=>v= .tuple #[]/\HistH b keep noted (tM cs x) ring H):=by
 obtain⟨v,GV,rfl,hV,hr⟩:=hL
 obtain⟨a,c,rfl⟩:=hV.slice
 refine cG func124 hst ?_
 refine aX ?_
 refine RX (eE U U) U ?_
 rintro _ _ ⟨b3,rfl,rfl⟩
 refine aX ?_
 refine DR [5,6] (bQ [0,2,4,6,8,10,13,15,16,18,21]) ?_
 refine cT ?_
 refine fZ U U U U Ke U U ?_
 refine DX U (fY U U U U U U) U sC ?_
 rintro _ _ ⟨b11,rfl,rfl⟩
 refine lE (H':=[(b11,J (cC x) 197),(b3,J (cC x) 197),(b,_)]++GV) (λ_ h=>h) ?_
 refine DX U (wY (A:=[(b11,J (cC x) 197),(b3,J (cC x) 197),(b,_)]) (G:=GV) (n:=cs.length) (m:=1) (T:=197) (s:=5) (by_:=24) (ys:=cC x) U U U U hV (λw hw=> .row _ _ _ _ _ U (aI (.head _) w hw)) U I I) U aY ?_
 rintro v12 _ ⟨G12,hV12,hn12,rfl⟩
 refine lE (H':=(b,_)::G12) (λ_ h=>St.fl [G12,[_],[_],[_]] [3,0] U h) ?_
 rw[<-xH]at hV12
 have hl12:cs.length+1=(cs++[x]).length:=by simp
 rw[hl12]at hV12
 obtain⟨bc,cc,sc,rfl,rfl,hz,hlc,hxc⟩:=hV12.full aP
 refine aX ?_
 refine DZ U (hQ 0 U U U U U U Uu) U aY ?_
 simp only[al]
 rw[Ls]
 refine gL ?_
 refine RY gT U (RW (v:=(.int .i64 (((cs++[x]).length:Int)-256))) U U (M _ (bZ I I)) (gL ?_))
 refine KC (λh1 h1n=>?_) (λh1 h1n=>?_)
 ·refine eD ?_
  refine RW (v:=(.int .i64 ((1:Nat):Int))) U U (M _ (by rw[bX,au]at *; (try simp only[ak,ai,cj,av,co,aw,ne_eq]at *);omega)) (eA (H':=[(bc,_)]++[(b,_)]) (λ_ h=>St.fl [[_],[_]] [1,0] U h) ?_)
  refine RX (kP (A:=[(bc,_)]) (G:=[(b,_)]) [bc] K_ U aP (λw hw=>Ql bc cc 1 (cs++[x]) sc I hlc hz I aP w (hw.holds _ (.head _)))) U ?_
  rintro _ _ ⟨_,⟨rfl,sp9,hz9,rfl⟩,rfl⟩
  refine aX ?_
  refine W (hQ 1 U U U U U U Uu) U ?_
  try simp only[al,bg]
  rw[Ls]
  refine bG ?_
  exact lN (λ_ _=>pJ) (λ_ h=>St.fl [[_],[_]] [1,0] U h) ⟨U,_,[_],U,by rw[aNC I aL];exact bS.all_ uH hz9 (by rw[dM];omega) hxc,hr⟩
 refine bG ?_
 exact EN aJ ⟨U,_,[_],U,by rw[aKD aL];exact bS.all_ uH hz hlc hxc,hr⟩
def aRQ(b keep noted:Nat)(cs:List fS)(ring:List Rcd)(hcl:cs.length<=256)(G:aF)(w:AI)(hL:HistH b keep noted cs ring G)(hst:St w (G.map (·.1)) G w)(s:Stp)(hs:StpOk s):
  aG prog 125 [P_ b,.int .i64 s.bank,.agg (cD s).toArray,.int .u16 s.to] w (G.map (·.1)) (λv H=>v= .tuple #[]/\HistH b keep noted (pW cs s) ring H):=by
 obtain⟨v,GV,rfl,hV,hr⟩:=hL
 obtain⟨a,c,rfl⟩:=hV.slice
 refine cG func125 hst ?_
 refine aX ?_
 refine RX (eE U U) U ?_
 rintro _ _ ⟨b6,rfl,rfl⟩
 refine kD ?_
 refine RW (v:=(.int .u16 (vS s))) U U (M _ (D1 hs)) (RS ?_)
 refine RX (gJ U) U ?_
 rintro _ _ ⟨b8,rfl,rfl⟩
 refine W iF U (Zg ?_)
 refine KC (λh1 h1n=>?_) (λh1 h1n=>?_)
 ·refine cT ?_
  refine W iF U (eD ?_)
  refine KC (λh2 h2n=>?_) (λh2 h2n=>?_)
  ·refine aX ?_
   refine W (bJ U U U sW) U (eA (λ_ h=>h.sub (.cons _ (.cons _ aJ))) ?_)
   refine RX (iB K_ U (λw hw=>Xj b keep noted cs ring hcl _ w ⟨_,_,U,hV,hr⟩ (St.lentA hw) ⟨1,s.bank,s.at_,s.to,vS s⟩)) U ?_
   rintro _ H9 ⟨rfl,hH9⟩
   refine aX ?_
   exact EN aJ ⟨U,by rw[aND aL aL];exact hH9⟩
  refine aX ?_
  exact lN (λ_ _=>pJ) (λ_ h=>h.sub (.cons _ (.cons _ aJ))) ⟨U,by rw[aRI aL aL];exact⟨_,_,rfl,hV,hr⟩⟩
 refine gL ?_
 refine KC (λh3 h3n=>?_) (λh3 h3n=>?_)
 ·refine cT ?_
  refine W iF U (bY ?_)
  refine W (bJ U U U sW) U (eA (λ_ h=>h.sub (.cons _ (.cons _ aJ))) ?_)
  refine RX (iB K_ U (λw hw=>Xj b keep noted cs ring hcl _ w ⟨_,_,U,hV,hr⟩ (St.lentA hw) ⟨2,s.bank,s.at_,s.to,vS s⟩)) U ?_
  rintro _ H9 ⟨rfl,hH9⟩
  refine aX ?_
  exact EN aJ ⟨U,by rw[aLG aL];exact hH9⟩
 refine gL ?_
 refine KC (λh4 h4n=>?_) (λh4 h4n=>?_)
 ·refine gL ?_
  refine KC (λh5 h5n=>?_) (λh5 h5n=>?_)
  ·refine bG ?_
   exact lN (λ_ _=>pJ) (λ_ h=>h.sub (.cons _ (.cons _ aJ))) ⟨U,by rw[aJg aL D2];exact⟨_,_,rfl,hV,hr⟩⟩
  refine mG ?_
  refine RY gT U (gL ?_)
  refine KC (λh6 h6n=>?_) (λh6 h6n=>?_)
  ·obtain⟨bv,cv,sv,hv9,rfl,hzv,hlv,hxv⟩:=hV.full aL
   cases hv9
   refine gL ?_
   refine RW (v:=(.int .i64 ((cs.length-1:Nat):Int))) U U (M _ aCx) (RW (v:=(.slice (Q_ bv) cs.dropLast.length c)) (wO (s:=5) 0 (cs.length-1) U U U U U U I I) U R8 (aX ?_))
   refine W (hQ 2 U U U U U U Uu) U ?_
   simp only[al,bg]
   rw[Ls]
   refine aX ?_
   exact lN (λ_ _=>pJ) (λ_ h=>h.sub (.cons _ (.cons _ aJ))) ⟨U,by rw[aD6 aL D2];exact⟨_,[_],rfl,S7 aL hzv hlv hxv,hr⟩⟩
  refine aX ?_
  exact lN (λ_ _=>pJ) (λ_ h=>h.sub (.cons _ (.cons _ aJ))) ⟨U,by rw[aD6 aL D2,aFC aL];exact⟨_,_,rfl,hV,hr⟩⟩
 refine eD ?_
 refine KC (λh7 h7n=>?_) (λh7 h7n=>?_)
 ·refine mG ?_
  refine RY gT U (gL ?_)
  refine KC (λh8 h8n=>?_) (λh8 h8n=>?_)
  ·obtain⟨bv,cv,sv,hv9,rfl,hzv,hlv,hxv⟩:=hV.full aL
   cases hv9
   refine gL ?_
   refine RW (v:=(.int .i64 ((cs.length-1:Nat):Int))) U U (M _ aCx) (RW (v:=(.slice (Q_ bv) cs.dropLast.length c)) (wO (s:=5) 0 (cs.length-1) U U U U U U I I) U R8 (aX ?_))
   refine W (hQ 2 U U U U U U Uu) U ?_
   simp only[al,bg]
   rw[Ls]
   refine aX ?_
   exact lN (λ_ _=>pJ) (λ_ h=>h.sub (.cons _ (.cons _ aJ))) ⟨U,by rw[aET aL];exact⟨_,[_],rfl,S7 aL hzv hlv hxv,hr⟩⟩
  refine aX ?_
  exact lN (λ_ _=>pJ) (λ_ h=>h.sub (.cons _ (.cons _ aJ))) ⟨U,by rw[aET aL,aFC aL];exact⟨_,_,rfl,hV,hr⟩⟩
 refine aX ?_
 exact lN (λ_ _=>pJ) (λ_ h=>h.sub (.cons _ (.cons _ aJ))) ⟨U,by rw[aPm aL aL aL aL];exact⟨_,_,rfl,hV,hr⟩⟩
def note_fn(b keep noted:Nat)(cs:List fS)(ring:List Rcd)(hk1:1<=keep)(hk2:keep<=32)(hnt:noted<1000000000)(hcl:cs.length<=256)(G:aF)(w:AI)(hL:HistH b keep noted cs ring G)(hst:St w (G.map (·.1)) G w)(s:Stp)(hs:StpOk s):
  aG prog 73 [P_ b,.int .u64 s.n,.int .i64 s.bank,.agg (cD s).toArray,.int .u16 s.to] w (G.map (·.1)) (λv H=>v= .tuple #[]/\HistH b keep (noted+1) (uA cs s) (ring.set (noted%keep) (recOf s)) H):=by
 obtain⟨v,GV,rfl,hV,hr⟩:=hL
 obtain⟨a,c,rfl⟩:=hV.slice
 have hm32:noted%keep<32:=d9 (jd _ I) hk2
 have hr2:(ring.set (noted%keep) (recOf s)).length=32:=by rw[c7];exact hr
 refine cG func73 hst ?_
 refine aX ?_
 refine RX (eE U U) U ?_
 rintro _ _ ⟨b8,rfl,rfl⟩
 refine cL ?_
 refine DR [5,6,7,8,10,11,12,13,14,15,16,17,18,19,20] (bQ [0,2,4,6,8,10,12,14,16,18,20,22,24,26,28,30,32,34,36,38,40,42,45]) ?_
 refine eV ?_
 refine DL U U U (dQ aE (Xc hr)) U (bY ?_)
 refine DL U U U (dQ aE (aEQ hr)) U (DW (v:=(.int .i64 ((noted%keep:Nat):Int))) U (tK U U I) U (M _ aAs) (gL ?_))
 refine fZ U U U U Ke U U ?_
 refine DY U (qJ U U U U) U (aX ?_)
 refine DY U (iU (s:=9) (noted%keep) U U U U hm32) U (DZ U (hQ (vs:=cR (recOf s)) 1 U U U U U U (by rw[hC_len hr,yB];omega)) U aY ?_)
 simp only[al,bg]
 rw[show 0+1+noted%keep*9=1+noted%keep*9 by omega,aPg hr hm32]
 refine eD ?_
 refine W (aW U U (bT aE (Xc hr2))) U (RW (v:=(.int .i64 ((noted+1:Nat):Int))) U U (M _ (eU I)) (aX ?_))
 refine W (hQ 1 U U U U U U (by rw[hC_len hr2];simp)) U ?_
 simp only[al,bg]
 rw[show 0+290=290 from rfl,aGW hr2]
 refine fG ?_
 refine KC (λh1 h1n=>?_) (λh1 h1n=>?_)
 ·refine mG ?_
  refine RS ?_
  refine eA (λ_ h=>h.sub (.cons _ aJ)) ?_
  refine RX (iB K_ U (λw hw=>Xj b keep (noted+1) cs (ring.set (noted%keep) (recOf s)) hcl _ w ⟨_,_,U,hV,hr2⟩ (St.lentA hw) ⟨3,s.bank,s.at_,s.to,s.at_⟩)) U ?_
  rintro _ H9 ⟨rfl,hH9⟩
  refine bG ?_
  exact EN aJ ⟨U,by rw[aF9 aL];exact hH9⟩
 refine cT ?_
 refine KC (λh2 h2n=>?_) (λh2 h2n=>?_)
 ·refine bY ?_
  refine W (bJ U U U (by first|exact aI aE|exact sP aE _ 9 rfl)) U (bG ?_)
  refine eA (λ_ h=>h.sub (.cons _ aJ)) ?_
  refine RX (iB K_ U (λw hw=>aRQ b keep (noted+1) cs (ring.set (noted%keep) (recOf s)) hcl _ w ⟨_,_,U,hV,hr2⟩ (St.lentA hw) s hs)) U ?_
  rintro _ H9 ⟨rfl,hH9⟩
  refine bG ?_
  exact EN aJ ⟨U,by rw[aFU aL];exact hH9⟩
 refine bG ?_
 exact lN (λ_ _=>pJ) (λ_ h=>h.sub (.cons _ aJ)) ⟨U,by rw[aRA aL aL];exact⟨_,_,rfl,hV,hr2⟩⟩
def zQ(a:AC)(c:Nat)(cs:List fS)(hlen:cs.length<1000000000)(w:AI)(hS:uG w cC a cs):
  aG prog 105 [.slice a cs.length c] w [] (λv H=>bS 197 5 v cs.length (aM cC cs) H):=by
 refine aT func105 ?_
 refine eD ?_
 rcases hS with⟨rfl,rfl⟩|⟨bs,os,rfl,hr⟩
 ·refine cL ?_
  exact E0 U .nil
 refine mG ?_
 refine RX (Gj (el:=197) (n:=5) U) U ?_
 rintro _ _ ⟨b5,rfl,rfl⟩
 refine bG ?_
 refine RX (wY (A:=[]) (G:=[(b5,J [] 197)]) (v:= .slice (Q_ b5) 0 0) (n:=0) (xs:=[]) (m:=cs.length) (T:=197) (s:=5) (by_:=24) (ys:=aM cC cs) U U U U (.row b5 0 0 [] [] U U aD (be 0)) (λw hw=> .row _ _ _ _ _ (gH uH cs) (bU hr aP w hw)) (Tv aFa _) I I) U ?_
 rintro v7 _ ⟨G7,hV7,hnil7,rfl⟩
 refine tE (v:=v7) U U U ?_
 refine aX ?_
 exact iM (λ_ _=>Jw U) (cz _ _) (hV7.as (bj _) (cg _))
def copy_fn(b keep noted:Nat)(cs:List fS)(ring:List Rcd)(hcl:cs.length<1000000000)(w:AI)(hW:S3 w b keep noted cs ring):
  aG prog 56 [P_ b] w [] (λv H=>∃b2,v=P_ b2/\HistH b2 keep noted cs ring H):=by
 obtain⟨⟨a,c,q0,qc,qz,hS,hA⟩,q1,q2,q3,q4⟩:=hW
 refine aT func56 ?_
 refine Aa ?_
 refine W (bJ U U (by rw[hC_len q3];rfl) (bU hA aP)) U (RX (gJ (l:=hC (.slice none 0 0) (List.replicate 32 r0) 0 0) aN) U ?_)
 rintro _ _ ⟨b3,rfl,rfl⟩
 refine W (hQ (vs:=hC (.slice a cs.length c) ring keep noted) 0 U U U (by rw[hC_len q3];rfl) aLi U (by rw[hC_len q3,hC_len aP];decide)) U ?_
 simp only[al]
 rw[Dp (l:=hC (.slice none 0 0) (List.replicate 32 r0) 0 0) (vs:=hC (.slice a cs.length c) ring keep noted) (by rw[hC_len q3,hC_len aP])]
 refine eD ?_
 refine W (aW U U (dN q0 aP)) U (RX (eN K_ U (λw hw=>zQ a c cs hcl w (hS.later0 hw))) U ?_)
 rintro v13 _ ⟨G13,hV13,rfl⟩
 obtain⟨a13,c13,rfl⟩:=hV13.slice
 refine bG ?_
 refine eA (H':=(b3,_)::G13) (λ_ h=>St.fl [G13,[_]] [1,0] U h) ?_
 refine W (hQ 0 U U U U U U (by rw[hC_len q3];simp)) U ?_
 simp only[al]
 rw[Ls]
 refine eD ?_
 exact EV U aJ ⟨b3,U,_,_,U,hV13,q3⟩
end Go.Proofs.YtacejanlmhbddaaGreat.Hs
namespace Go.Proofs.YtacejanlmhbddaaGreat
open Go Go.VV Go.Proofs Go.RowKit Go.Proofs.Tryz
def cSt(at_ y i:Int)(wr:Bool):AA:=[.int .u64 at_,.int .i64 y,.int .i64 i,.bool wr]
def vZ(n:Int)(tab:AH):AA:=[.int .i64 n,.pointer none,.pointer none,.int .u64 0,.slice none 0 0,.pointer none,.map none,.slice none 0 0,.slice none 0 0,.int .u32 0,.int .u64 0,tab]
def aQ2(w:AI):aG prog 107 [.bool false] w [] (V_ (.int .u32 0)):=by
 refine aT func107 ?_
 refine ZCy ?_
 refine iO ?_
 refine ZE1 ?_
 exact E0 U ⟨U,U⟩
def aGZ(b o:Nat)(cs:AA)(T:AJ)(hc:cs[o]? =some (.int .u32 0))(w:AI)(hst:St w [b] [(b,J cs T)] w):aG prog 108 [.pointer (some ⟨b,o,none⟩),.bool false] w [b] (λv H=>v= .bool false/\H=[(b,J (cs.set o (.int .u32 0)) T)]):=by
 refine cG func108 hst ?_
 refine ZBV ?_
 refine DR [] (bQ [0,2,4,6,9,11,12,14]) ?_
 refine ZBZ ?_
 refine DZ U (cZ K_ U (aS aQ2)) U aY (DZ U (aGG (b:=b) (off:=o) (cs:=cs) (T:=T) 0 .u32 (x:=0) func145 aN aN aN aN U U hc) U aY (ZBZ ?_))
 exact EV U aJ ⟨U,U⟩
def aKE(b o:Nat)(cs:AA)(T:AJ)(x s:Int)(hc:cs[o]? =some (.int .u64 x))(hs:IntKind.u64.wrap (x+1)=s)(w:AI)(hst:St w [b] [(b,J cs T)] w):aG prog 93 [.pointer (some ⟨b,o,none⟩),.int .u64 1] w [b] (λv H=>v= .int .u64 s/\H=[(b,J (cs.set o (.int .u64 s)) T)]):=by
 refine cG func93 hst ?_
 refine cL ?_
 refine W (aLY (b:=b) (off:=o) (cs:=cs) (T:=T) 0 .u64 (x:=x) (s:=s) func142 aN aN aN aN U U hc (by rw[<-hs];rfl)) U (ZA2 ?_)
 exact EV U aJ ⟨U,U⟩
def ready_fn(b mb:Nat)(w:AI)(h1:w.cell? ⟨b,1,none⟩=some (P_ mb)):aG prog 47 [P_ b] w [] (V_ (.bool true)):=by
 refine aT func47 ?_
 refine ZCy ?_
 refine jN ?_
 refine ZBZ ?_
 refine W (aW U U (dN h1 aP)) U (jN ?_)
 exact pF
def Gw(b:Nat)(k y:Int)(w:AI)(h3:w.cell? ⟨b,3,none⟩=some (.int .u64 k)):aG prog 49 [P_ b,.int .i64 y] w [] (V_ (.tuple #[.agg (cSt k y 0 false).toArray,.int .i64 0])):=by
 refine aT func49 ?_
 refine ZAm ?_
 refine lB λb0=>?_
 refine ZCy ?_
 refine W (aW U U (dN h3 aP)) U (ZBI ?_)
 refine RS ?_
 refine W (bC 0) U (ZA2 ?_)
 exact aU (λw hw=>fN U U U (aI (b:=b0) (l:=cSt k y 0 false) aE w hw) U) ⟨U,U⟩
def dat_fn(b:Nat)(k:Int)(w:AI)(h3:w.cell? ⟨b,3,none⟩=some (.int .u64 k)):aG prog 23 [P_ b] w [] (V_ (.int .u64 k)):=by
 refine aT func23 ?_
 refine uS ?_
 refine ZE1 ?_
 exact W (aW U U (dN h3 aP)) U fD
def aN6(b:Nat)(mb:Nat)(w:AI)(h1:w.cell? ⟨b,1,none⟩=some (P_ mb)):aG prog 21 [P_ b] w [] (V_ (P_ mb)):=by
 refine aT func21 ?_
 refine uS ?_
 refine ZE1 ?_
 exact W (aW U U (dN h1 aP)) U fD
def aHj(w:AI):aG prog 59 [] w [] (V_ (.bool false)):=by
 refine aT func59 ?_
 refine bW ?_
 exact E0 U ⟨U,U⟩
def aCJ(n:Int)(w:AI):aG prog 11 [.int .i64 n] w [] (λv H=>∃b tb oT,v=P_ b/\kJ tb (.int .u32 0) [(tb,oT)]/\H=[(b,J (vZ n (P_ tb)) 108),(tb,oT)]):=by
 refine aT func11 ?_
 refine ZCy ?_
 refine RX (eN K_ U (aS L6)) U ?_
 rintro _ _ ⟨GT,⟨tb,rfl,hT⟩,rfl⟩
 obtain⟨oT,rfl⟩:=hT.one
 refine RS ?_
 refine RX (eE (l:=vZ n (P_ tb)) U U) U (ZBF λb0=>?_)
 refine ZA2 ?_
 exact EV U aJ ⟨b0,tb,oT,U,hT,U⟩
def aLa(x:Int)(w:AI):aG prog 179 [.int .u64 x] w [] (V_ (.bool false)):=by
 refine aT func179 ?_
 refine ZE1 ?_
 refine fX false U U U (bne_self_eq_false _) ?_
 exact fD
def aNV(x:Int)(w:AI):aG prog 141 [.int .u64 x] w [] (V_ (.bool false)):=by
 refine aT func141 ?_
 refine ZE1 ?_
 refine fX false U U U (bne_self_eq_false _) ?_
 exact fD
def aIp(x y:Int)(w:AI):aG prog 140 [.int .u64 x,.int .u64 y] w [] (V_ (.bool (decide (x<y)))):=by
 refine aT func140 ?_
 refine ZCy ?_
 refine aO K_ (aS (aLa _)) ?_
 refine kD ?_
 exact E0 U ⟨U,U⟩
def aJb(a:AC)(c:Nat)(l:AB)(hs:l.Pairwise (· < ·))(hl:l.length<=1000000)(x:Int)(w:AI)(hN:Ns w .u64 a l):aG prog 92 [.slice a l.length c,.int .u64 x] w [] (λv H=>∃(i:Nat) (f:Bool),v= .tuple #[.int .i64 i,.bool f]/\H=[]/\(f=false->x∉l)):=by
 refine aT func92 ?_
 refine ZE1 ?_
 refine gK ?_
 refine cL ?_
 refine dK (σ:=Nat×Nat) [7,8,9,13,14,15,16,17,18,19,20,21,22,23,24,25,26,27,28,29,30] (λs=>[(7,.int .i64 s.1),(8,.int .i64 s.2)]) (λ_=>[]) (λs=>s.1<=s.2/\s.2<=l.length/\(∀p,p<s.1->l.getD p 0<x)/\(∀p,s.2<=p->p<l.length->x<=l.getD p 0)) (λs=>s.2-s.1) (0,l.length) ?_ ?_ ?_ ?_
 ·exact⟨aq _,be _,λp hp=>aR,λp h1 h2=>aR⟩
 ·exact .cons U (.cons U .nil)
 ·exact λ_ h=>h
 rintro⟨i,j⟩ y3 ⟨hi,hj,q0,q1⟩
 dsimp only at hi hj q0 q1⊢
 refine ZCy ?_
 refine KC (λq2 z2=>?_) (λq2 z2=>?_)
 ·refine aH ?_
  refine gY ?_
  refine RW (gF U U U) U aAy (Kp ?_)
  refine RW (v:=(.int .i64 ((((i+j)/2):Nat):Int))) U U (M _ ((bZ I I).trans I)) (ZA2 ?_)
  obtain⟨b,o,rfl,hr⟩:=hN.row (i:=((i+j)/2)) I
  refine ZA2 ?_
  refine RY (eF ((i+j)/2) U U U U I) U (W (aW U U (dN (hr _ _ (gD (l:=l) (j:=((i+j)/2)) I)) aP)) U (ZBI ?_))
  refine aO K_ (aS (aIp _ x)) ?_
  refine ZBI ?_
  refine KC (λq3 z3=>?_) (λq3 z3=>?_)
  ·refine ZAm ?_
   refine gY ?_
   refine ZAm ?_
   exact⟨(((i+j)/2)+1,j),⟨by show((i+j)/2)+1<=j;omega,hj,aKB hs (h:=((i+j)/2)) I (df q3) U,q1⟩,by show j-(((i+j)/2)+1)<j-i;omega,.cons (by first|rfl|exact M _ (eU I)) (.cons U .nil),bB,λ_ h=>h⟩
  refine ZBZ ?_
  exact⟨(i,((i+j)/2)),⟨by show i<=((i+j)/2);omega,by show((i+j)/2)<=l.length;omega,q0,λp hp hq=>by
   have hp:(i+j)/2<=p:=hp
   have q4:=dk q3
   rcases jp hp with rfl|hp
   ·omega
   have q5:=(List.pairwise_iff_getElem.1 hs) ((i+j)/2) p I hq hp
   have e1:l.getD p 0=l[p]:=by simp[hq]
   have e2:l.getD ((i+j)/2) 0=l[((i+j)/2)]:=by simp[show((i+j)/2)<l.length by omega]
   omega⟩,by show((i+j)/2)-i<j-i;omega,.cons rfl (.cons rfl .nil),bB,λ_ h=>h⟩
 refine ZAm ?_
 obtain rfl:i=j:=by omega
 refine ZBV ?_
 refine KL (λq3 z3=>?_) (λq3 z3=>?_)
 ·obtain⟨b,o,rfl,hr⟩:=hN.row (i:=i) I
  refine ZAm ?_
  refine Dn ?_
  refine W (aW U U (dN (hr _ _ (gD (l:=l) (j:=i) I)) aP)) U (ZAm ?_)
  refine KL (λq4 z4=>?_) (λq4 z4=>?_)
  ·refine kV ?_
   exact aU (λ_ _=>dX U U) ⟨_,_,U,U,λh=>by cases h⟩
  refine ZAm ?_
  refine Dn ?_
  refine W (aW U U (dN (hr _ _ (gD (l:=l) (j:=i) I)) aP)) U (aO K_ (aS (aNV _)) ?_)
  refine cL ?_
  exact aU (λ_ _=>dX U U) ⟨_,_,U,U,λ_=>Q1 hs q0 (λhi=>⟨by simpa using q4,q1 i (be _) hi⟩)⟩
 refine By ?_
 exact aU (λ_ _=>dX U U) ⟨_,_,U,U,λ_=>Q1 hs q0 (λhi=>absurd hi I)⟩
def aDP(a1 a2:AC)(c1 c2:Nat)(a b:AB)(hl:b.length<=1000000)(hab:a.length=b.length)(w:AI)(hA:Ns w .u8 a1 a)(hB:Ns w .u8 a2 b):aG prog 134 [.slice a1 a.length c1,.slice a2 b.length c2] w [] (V_ (.int .i64 (bN a b))):=by
 refine aT func134 ?_
 refine cL ?_
 refine dK (σ:=Nat) [5,6,7,8,9,10,11,12,13,14,15,16,17,18,19,20,21,22] (λi=>[(5,.int .i64 i)]) (λ_=>[]) (λi=>i<=bN a b) (λi=>bN a b-i) 0 ?_ ?_ ?_ ?_
 ·exact aq _
 ·exact .cons U .nil
 ·exact λ_ h=>h
 rintro i y2 hi
 have hle:=Dr a b
 refine ZAm ?_
 have hx9:i<b.length->∃b1 o1 b2 o2,a1=some ⟨b1,o1,none⟩/\a2=some ⟨b2,o2,none⟩/\aK w b1 o1 (a.map Z)/\aK w b2 o2 (b.map Z):=λh=>by
  obtain⟨b0,o1,e1,r1⟩:=hA.row (i:=i) I
  obtain⟨b1,o2,e2,r2⟩:=hB.row (i:=i) h
  exact⟨b0,o1,b1,o2,e1,e2,r1,r2⟩
 refine DR [9,10,11,12] (bQ [0,2,4,6,8,10,12,14,16,18,20,22,24,26,28]) ?_
 refine ZAm ?_
 refine DY U gT U (ZBI ?_)
 refine KE (λq0 z0=>?_) (λq0 z0=>?_)
 ·obtain⟨b0,o1,b1,o2,rfl,rfl,hra,hrb⟩:=hx9 I
  refine ZAm ?_
  refine DY U (eF (n:=a.length) i U U U U I) U (DL U U U (gS (hra _ _ (gD (l:=a) (j:=i) I)) aP) U (ZAm ?_))
  refine DY U (eF (n:=b.length) i U U U U I) U (DL U U U (gS (hrb _ _ (gD (l:=b) (j:=i) I)) aP) U (ZA2 ?_))
  refine KC (λq1 z1=>?_) (λq1 z1=>?_)
  ·refine ZBZ ?_
   refine pU ?_
   have hm9:=aFG hi I I mY
   exact⟨i+1,aR,aR,.cons U .nil,bB,λ_ h=>h⟩
  refine ZCy ?_
  exact E0 U ⟨U,(M (λn:Nat=>Value.int .i64 (n:Int)) (X3 hi I I mY))⟩
 refine Cv ?_
 exact E0 U ⟨U,(M (λn:Nat=>Value.int .i64 (n:Int)) I)⟩
def aAg(n0:Nat)(hn:n0<=1000000)(xs0:AB)(a0:AC)(c0:Nat)(G0:aF)(hl:xs0.length<=10000000)(hV0:bS 5 1 (.slice a0 xs0.length c0) xs0.length (xs0.map (.int .u8)) G0)(w:AI)(hst:St w (G0.map (·.1)) G0 w):aG prog 135 [.slice a0 xs0.length c0,.int .i64 n0] w (G0.map (·.1)) (λv H=>∃a c,v= .slice a (xs0++putP n0).length c/\bS 5 1 v (xs0++putP n0).length ((xs0++putP n0).map (.int .u8)) H):=by
 refine cG func135 hst ?_
 refine aH ?_
 refine dK (σ:=Nat×AB×AC×Nat×aF) [0,1,5,6,7,8,9,10,11,12,13,14] (λs=>[(0,.slice s.2.2.1 s.2.1.length s.2.2.2.1),(1,.int .i64 s.1)]) (λs=>s.2.2.2.2) (λs=>bS 5 1 (.slice s.2.2.1 s.2.1.length s.2.2.2.1) s.2.1.length (s.2.1.map (.int .u8)) s.2.2.2.2/\s.2.1++putP s.1=xs0++putP n0/\s.1<=n0) (λs=>s.1) (n0,xs0,a0,c0,G0) ?_ ?_ ?_ ?_
 ·exact⟨hV0,U,be _⟩
 ·exact .cons U (.cons U .nil)
 ·exact λ_ h=>h
 rintro⟨n,xs,a,c,G⟩ y1 ⟨hV,he,hn9⟩
 dsimp only at hV he hn9⊢
 have hpl:=M List.length he
 rw[bX,bX]at hpl
 have hp0:=(xB n0).2
 refine aH ?_
 refine KC (λq0 z0=>?_) (λq0 z0=>?_)
 ·refine aH ?_
  refine RW (v:=(.int .u8 ((n:Int)%256))) U U (Ra _) (RW (v:=(.int .u8 ((n%128+128:Nat):Int))) (dE U U) U (M _ ((aOg I).trans I)) (RX (fY (z:=[.int .u8 0]) (l:=[.int .u8 ((n%128+128:Nat):Int)]) (ps:=[(0,.int .u8 ((n%128+128:Nat):Int))]) U U U U U U) U (ZBF λb0=>?_)))
  refine RX (wY (A:=[(b0,_)]) (G:=G) (v:= .slice a xs.length c) (n:=xs.length) (xs:=xs.map (.int .u8)) (m:=1) (T:=5) (s:=1) (by_:=1) (ys:=[.int .u8 ((n%128+128:Nat):Int)]) U U U U hV (λw hw=> .row _ _ _ _ _ U (aI (b:=b0) (.head _) w hw)) U I I) U ?_
  rintro v0 _ ⟨Gx0,hW12,_,rfl⟩
  have hX12:bS 5 1 v0 (xs++[((n%128+128:Nat):Int)]).length ((xs++[((n%128+128:Nat):Int)]).map (.int .u8)) Gx0:=hW12.as (by rw[bX];rfl) (by rw[bz];rfl)
  obtain⟨a12,cx0,rfl⟩:=hX12.slice
  refine ZBZ ?_
  refine RW (v:=(.int .i64 ((n/128:Nat):Int))) (jB U U aD) U ((qM 128 aD aD).trans (M _ I)) (ZAm ?_)
  exact⟨(n/128,xs++[((n%128+128:Nat):Int)],a12,cx0,Gx0),⟨hX12,by rw[eG,<-he,Mk (n:=n) I];rfl,by show n/128<=n0;omega⟩,by show n/128<n;omega,.cons U (.cons U .nil),bB,λ_ h=>h.sub (cz _ _)⟩
 refine ZAm ?_
 have hlt:n<128:=by omega
 refine ZA2 ?_
 refine RW (v:=(.int .u8 (n:Int))) U U (Ug I I) (RX (fY (z:=[.int .u8 0]) (l:=[.int .u8 (n:Int)]) (ps:=[(0,.int .u8 (n:Int))]) U U U U U U) U (ZBF λb0=>?_))
 refine RX (wY (A:=[(b0,_)]) (G:=G) (v:= .slice a xs.length c) (n:=xs.length) (xs:=xs.map (.int .u8)) (m:=1) (T:=5) (s:=1) (by_:=1) (ys:=[.int .u8 (n:Int)]) U U U U hV (λw hw=> .row _ _ _ _ _ U (aI (b:=b0) (.head _) w hw)) U I I) U ?_
 rintro v0 _ ⟨Gx0,hW19,_,rfl⟩
 have e9:xs++[(n:Int)]=xs0++putP n0:=by rw[<-P1 hlt];exact he
 have hX19:bS 5 1 v0 (xs0++putP n0).length ((xs0++putP n0).map (.int .u8)) Gx0:=hW19.as (by rw[<-e9,bX];rfl) (by rw[<-e9,bz];rfl)
 obtain⟨a19,cx0,rfl⟩:=hX19.slice
 refine ZA2 ?_
 exact EV U (cz _ _) ⟨a19,cx0,U,hX19⟩
def aNY(a1 a2:AC)(c1 c2:Nat)(a b:AB)(hl:b.length<=1000000)(hab:a.length=b.length)(hc1:a.length<=c1)(hc2:b.length<=c2)(w:AI)(hA:Ns w .u8 a1 a)(hB:Ns w .u8 a2 b):aG prog 136 [.slice a1 a.length c1,.slice a2 b.length c2] w [] (V_ (.int .i64 (oth a b))):=by
 refine aT func136 ?_
 refine cL ?_
 refine dK (σ:=Nat) [5,6,7,8,9,10,11,12,13,14,15,16,17,18,19,20,21,22,23,24,25,26,27,28,29,30,31] (λk=>[(5,.int .i64 k)]) (λ_=>[]) (λk=>k<=b.length/\k+oth (a.drop k) (b.drop k)=oth a b) (λk=>b.length-k) 0 ?_ ?_ ?_ ?_
 ·exact⟨aq _,bj _⟩
 ·exact .cons U .nil
 ·exact λ_ h=>h
 rintro k y2 ⟨hk,he⟩
 refine ZBV ?_
 refine gK ?_
 refine ZAm ?_
 refine KC (λq0 z0=>?_) (λq0 z0=>?_)
 ·refine ZA2 ?_
  obtain⟨b0,o1,rfl,hra⟩:=hA.row (i:=k) I
  obtain⟨b1,o2,rfl,hrb⟩:=hB.row (i:=k) I
  have hda:(a.drop k).length=a.length-k:=dM
  have hdb:(b.drop k).length=b.length-k:=dM
  have hln:=Dr (a.drop k) (b.drop k)
  have hne:(b.drop k)≠[]:=λh=>by rw[h]at hdb;simp only[az]at hdb;omega
  refine DR [] (bQ [0,2,4,6,8,10,13,14]) ?_
  refine ZAm ?_
  refine DW (v:=(.slice (some ⟨b0,o1+k,none⟩) (a.drop k).length (c1-k))) U (nM k a.length U U U U U U I I) U (by rw[tH I,hda]) (ZAm ?_)
  refine DW (v:=(.slice (some ⟨b1,o2+k,none⟩) (b.drop k).length (c2-k))) U (nM k b.length U U U U U U I I) U (by rw[tH I,hdb]) (DZ U (cZ K_ U (λw hw=>aDP (some ⟨b0,o1+k,none⟩) (some ⟨b1,o2+k,none⟩) (c1-k) (c2-k) (a.drop k) (b.drop k) I I w (Ns.of (aK.dropK (bU hra aP w hw) k)) (Ns.of (aK.dropK (bU hrb aP w hw) k)))) U aY (ZCy ?_))
  refine KL (λq1 z1=>?_) (λq1 z1=>?_)
  ·refine Aa ?_
   exact ZD6
  refine ZAm ?_
  refine RW (v:=(.int .i64 ((k+bN (a.drop k) (b.drop k):Nat):Int))) U U (M _ ((bZ I I).trans I)) (ZBI ?_)
  refine mV ?_
  refine KC (λq2 z2=>?_) (λq2 z2=>?_)
  ·refine ZCy ?_
   exact ZD6
  refine ZBZ ?_
  refine RW (v:=(.int .i64 ((bN (a.drop k) (b.drop k)+1:Nat):Int))) U U (M _ (eU I)) (RW (v:=(.int .i64 ((k+(bN (a.drop k) (b.drop k)+1):Nat):Int))) U U (M _ ((bZ I I).trans I)) (ZAm ?_))
  have hns:¬(4<=bN (a.drop k) (b.drop k)\/bN (a.drop k) (b.drop k)=(b.drop k).length):=by omega
  have hm9:=aAH hne hns
  rw[bi,bi]at hm9
  exact⟨k+(bN (a.drop k) (b.drop k)+1),⟨aR,aR⟩,aR,.cons U .nil,bB,λ_ h=>h⟩
 refine ZCy ?_
 have hz:oth (a.drop k) (b.drop k)=0:=by rw[show(b.drop k)=[]from gq I];exact aRk _
 exact E0 U ⟨U,(M (λn:Nat=>Value.int .i64 (n:Int)) I)⟩
def Dz{k:AM}{w:AI}{b off:Nat}{l:AB}(h:aK w b off (l.map (.int k))){n c:Nat}(hc:l.length<=c)(hn:n<=l.length):aK w b (cut1 off n c) ((l.drop n).map (.int k)):=by
 have q0:=h.cut1 (l:=n) (k:=l.length-n) (c:=c) I
 rw[<-ii,dq (by rw[eJ,dM];exact be _)]at q0
 exact q0
def aEO(b1 o1 c1 b2 o2 c2:Nat)(a b:AB)(hl:b.length<=1000000)(hab:a.length=b.length)(hc1:a.length<=c1)(hc2:b.length<=c2)(w:AI)(hr1:aK w b1 o1 (a.map (.int .u8)))(hr2:aK w b2 o2 (b.map (.int .u8))):aG prog 90 [.slice (some ⟨b1,o1,none⟩) a.length c1,.slice (some ⟨b2,o2,none⟩) b.length c2] w [] (λv H=>∃a6 c6,v= .tuple #[.slice a6 (dO a b).length c6,.int .i64 0]/\bS 5 1 (.slice a6 (dO a b).length c6) (dO a b).length ((dO a b).map (.int .u8)) H):=by
 refine aT func90 ?_
 refine ZBV ?_
 refine aGc (σ:=Nat×AB×AC×Nat×aF×Nat×Nat×Nat×Nat) 0 [0,1,4,5,6,7,8,9,10,11,12,13,14,15,16,17,18,19,20,21,22,23,24,25,26,27,28,29,30,31,32,33,34,35,36,37,38,39,40,41,42,43,44,45] (λs=>[(0,.slice (some ⟨b1,s.2.2.2.2.2.1,none⟩) (a.drop s.1).length s.2.2.2.2.2.2.1),(1,.slice (some ⟨b2,s.2.2.2.2.2.2.2.1,none⟩) (b.drop s.1).length s.2.2.2.2.2.2.2.2),(6,.slice s.2.2.1 s.2.1.length s.2.2.2.1)]) (λs=>s.2.2.2.2.1) (λs=>s.1<=b.length/\bS 5 1 (.slice s.2.2.1 s.2.1.length s.2.2.2.1) s.2.1.length (s.2.1.map (.int .u8)) s.2.2.2.2.1/\s.2.1++dO (a.drop s.1) (b.drop s.1)=dO a b/\aK w b1 s.2.2.2.2.2.1 ((a.drop s.1).map (.int .u8))/\(a.drop s.1).length<=s.2.2.2.2.2.2.1/\aK w b2 s.2.2.2.2.2.2.2.1 ((b.drop s.1).map (.int .u8))/\(b.drop s.1).length<=s.2.2.2.2.2.2.2.2) (λs=>b.length-s.1) U (λ_=>U) (λhp=>?_) ?_
 ·refine ZBZ ?_
  refine gK ?_
  refine ZBI ?_
  refine gK ?_
  refine fX false U U U lH ?_
  refine ZE1 ?_
  refine aIb ?_
  exact hp (0,[],none,0,[],o1,c1,o2,c2) _ _ ⟨aq _,.nil,U,hr1,hc1,hr2,hc2⟩ (.cons U (.cons U (.cons U .nil))) bB (λ_ h=>h)
 rintro⟨j,xs,a6,c6,G,p1,q0,p2,q1⟩ y4 ⟨hj,hV,he,hr0,hq1,hrx1,hq2⟩
 dsimp only at hj hV he hr0 hq1 hrx1 hq2⊢
 obtain⟨n9,hn9⟩:∃n,n=bN (a.drop j) (b.drop j):=⟨_,rfl⟩
 obtain⟨k9,hk9⟩:∃k,k=oth (a.drop (j+n9)) (b.drop (j+n9)):=⟨_,rfl⟩
 have hpk:=Vn a b
 have hxl:=M List.length he
 rw[bX]at hxl
 have hda:(a.drop j).length=a.length-j:=dM
 have hdb:(b.drop j).length=b.length-j:=dM
 have hln:=Dr (a.drop j) (b.drop j)
 rw[<-hn9]at hln
 have hdn:(a.drop (j+n9)).length=a.length-(j+n9):=dM
 have hdm:(b.drop (j+n9)).length=b.length-(j+n9):=dM
 have hr5:aK w b1 (cut1 p1 n9 q0) ((a.drop (j+n9)).map (.int .u8)):=by have h9:=Dz hr0 (n:=n9) (c:=q0) I I;rw[bi]at h9;exact h9
 have hr6:aK w b2 (cut1 p2 n9 q1) ((b.drop (j+n9)).map (.int .u8)):=by have h9:=Dz hrx1 (n:=n9) (c:=q1) I I;rw[bi]at h9;exact h9
 have hpn:=(xB n9).2
 have hko:=Vs (a.drop (j+n9)) (b.drop (j+n9))
 rw[<-hk9]at hko
 have hdk:(a.drop (j+n9+k9)).length=a.length-(j+n9+k9):=dM
 have hdl:(b.drop (j+n9+k9)).length=b.length-(j+n9+k9):=dM
 have hpo:=(xB k9).2
 refine ZBZ ?_
 refine RX (cZ K_ U (λw hw=>aDP (some ⟨b1,p1,none⟩) (some ⟨b2,p2,none⟩) q0 q1 (a.drop j) (b.drop j) I I w (Ns.of (bU hr0 aP w hw)) (Ns.of (bU hrx1 aP w hw)))) U ?_
 rintro _ G ⟨rfl,rfl⟩
 rw[<-hn9]
 refine aH ?_
 refine RX (iB K_ U (kK (aAg n9 I xs a6 c6 G (by first|omega|(rw[bX];omega)) hV))) U ?_
 rintro _ G0 ⟨a19,c0,rfl,hV0⟩
 refine ZA2 ?_
 refine Fs ?_
 refine ZAm ?_
 refine DW (v:=(.slice (some ⟨b1,(cut1 p1 n9 q0),none⟩) (a.drop (j+n9)).length (q0-n9))) U (nM n9 (a.drop j).length U U U U U U I I) U (by rw[hda,hdn,jn]) (ZAm ?_)
 refine DW (v:=(.slice (some ⟨b2,(cut1 p2 n9 q1),none⟩) (b.drop (j+n9)).length (q1-n9))) U (nM n9 (b.drop j).length U U U U U U I I) U (by rw[hdb,hdm,jn]) (ZCy ?_)
 refine gK ?_
 refine ZAm ?_
 refine KC (λq2 z2=>?_) (λq2 z2=>?_)
 ·refine ZCy ?_
  have e9:(xs++putP n9)=dO a b:=by rw[<-he,hn9,Pi (by rw[bi,<-hn9];exact List.length_eq_zero_iff.1 I)]
  rw[e9]at hV0
  exact iM (λ_ _=>dX U U) aJ ⟨a19,c0,jK,hV0⟩
 refine ZAm ?_
 have hne:(b.drop (j+n9))≠[]:=λh=>by have h9:=M List.length h;simp only[az]at h9;omega
 have hop:=Gy hne aA8
 rw[<-hk9]at hop
 refine ZA2 ?_
 refine RX (cZ K_ U (λw hw=>aNY (some ⟨b1,(cut1 p1 n9 q0),none⟩) (some ⟨b2,(cut1 p2 n9 q1),none⟩) (q0-n9) (q1-n9) (a.drop (j+n9)) (b.drop (j+n9)) I I I I w (Ns.of (bU hr5 aP w hw)) (Ns.of (bU hr6 aP w hw)))) U ?_
 rintro _ G0 ⟨rfl,rfl⟩
 rw[<-hk9]
 refine ZA2 ?_
 refine DR [] (bQ [0,2,6,8,10,5,13,14]) ?_
 refine ZBZ ?_
 refine DY U (Eg k9 U U U U I) U (DX U (iB K_ U (kK (aAg k9 I (xs++putP n9) a19 c0 G0 (by first|omega|(rw[bX];omega)) hV0))) U aY ?_)
 rintro _ G1 ⟨a35,cx1,rfl,hV1⟩
 refine DX U (wY (A:=[]) (G:=G1) (v:= .slice a35 (xs++putP n9++putP k9).length cx1) (n:=(xs++putP n9++putP k9).length) (xs:=(xs++putP n9++putP k9).map (.int .u8)) (m:=k9) (T:=5) (s:=1) (by_:=1) (ys:=((b.drop (j+n9)).take k9).map (.int .u8)) U U U U hV1 (λw hw=> .row _ _ _ _ _ Si (aK.takeK (bU hr6 aP w hw) k9)) (kX _ _) (by simp only[bX];omega) (by simp only[bX];omega)) U aY ?_
 rintro v0 _ ⟨G2,hW39,_,rfl⟩
 have hX39:bS 5 1 v0 ((xs++putP n9++putP k9)++(b.drop (j+n9)).take k9).length (((xs++putP n9++putP k9)++(b.drop (j+n9)).take k9).map (.int .u8)) G2:=hW39.as (by simp only[bX,fT];omega) (by simp only[bz])
 obtain⟨a39,cx2,rfl⟩:=hX39.slice
 rw[cn]
 refine ZA2 ?_
 refine Fs ?_
 refine ZAm ?_
 refine DW (v:=(.slice (some ⟨b1,cut1 (cut1 p1 n9 q0) k9 (q0-n9),none⟩) (a.drop (j+n9+k9)).length ((q0-n9)-k9))) U (nM k9 (a.drop (j+n9)).length U U U U U U I I) U (by rw[hdn,hdk,jn]) (ZAm ?_)
 refine DW (v:=(.slice (some ⟨b2,cut1 (cut1 p2 n9 q1) k9 (q1-n9),none⟩) (b.drop (j+n9+k9)).length ((q1-n9)-k9))) U (nM k9 (b.drop (j+n9)).length U U U U U U I I) U (by rw[hdm,hdl,jn]) (ZA2 ?_)
 refine aI2 U ?_
 refine⟨(j+n9+k9,((xs++putP n9++putP k9)++(b.drop (j+n9)).take k9),a39,cx2,G2,cut1 (cut1 p1 n9 q0) k9 (q0-n9),(q0-n9)-k9,cut1 (cut1 p2 n9 q1) k9 (q1-n9),(q1-n9)-k9),⟨by show j+n9+k9<=b.length;omega,hX39,?_,?_,by show(a.drop (j+n9+k9)).length<=(q0-n9)-k9;omega,?_,by show(b.drop (j+n9+k9)).length<=(q1-n9)-k9;omega⟩,aDf,.cons U (.cons U (.cons U .nil)),bB,λ_ h=>h⟩
 ·rw[eG,eG,eG,<-he]
  have q3:=Uj (a:=(a.drop j)) (b:=(b.drop j)) (by rw[bi,<-hn9];exact hne)
  rw[bi,bi,bi,bi,<-hn9,<-hk9]at q3
  rw[q3]
 ·have q3:=Dz hr5 (n:=k9) (c:=(q0-n9)) I I;rw[bi]at q3;exact q3
 have q3:=Dz hr6 (n:=k9) (c:=(q1-n9)) I I;rw[bi]at q3;exact q3
def Z0 :∀(i n:Nat),(i=0\/128^i<=n)->i<(putP n).length/\(putP n).getD i 0=if n/128^i<128 then((n/128^i:Nat):Int)else((n/128^i%128+128:Nat):Int)
 |0,n,_=>by
  rw[Nat.pow_zero,Nat.div_one]
  by_cases h:n<128
  ·rw[P1 h,ag h];exact⟨ik,rfl⟩
  ·rw[Mk h,ae h];exact⟨kQ,rfl⟩
 |i+1,n,h=>by
  have hp:0<128^i:=iq aD
  have h1:128^(i+1)=128*128^i:=by rw[jf,gh]
  have hn:128*128^i<=n:=by rw[<-h1];rcases h with h|h;cases h;exact h
  have hb:128*1<=128*128^i:=Nat.mul_le_mul_left 128 hp
  have hi:128^i<=n/128:=(Nat.le_div_iff_mul_le aD).2 (by rw[gh];exact hn)
  have key:=Z0 i (n/128) (.inr hi)
  rw[Mk I,h1,<-Nat.div_div_eq_div_mul]
  exact⟨by simpa using key.1,key.2⟩
def putP_tot :∀(i n:Nat),(i=0\/128^i<=n)->n/128^i<128->(putP n).length=i+1
 |0,n,_,h=>by rw[Nat.pow_zero,Nat.div_one]at h;rw[P1 h];rfl
 |i+1,n,h,hd=>by
  have hp:0<128^i:=iq aD
  have h1:128^(i+1)=128*128^i:=by rw[jf,gh]
  have hn:128*128^i<=n:=by rw[<-h1];rcases h with h|h;cases h;exact h
  have hb:128*1<=128*128^i:=Nat.mul_le_mul_left 128 hp
  have hi:128^i<=n/128:=(Nat.le_div_iff_mul_le aD).2 (by rw[gh];exact hn)
  rw[h1,<-Nat.div_div_eq_div_mul]at hd
  rw[Mk I,eZ,putP_tot i (n/128) (.inr hi) hd]
def aLD{n i:Nat}(hn:n<268435456)(hi:i<=3)(h:¬n/128^i<128):i+1<=3/\128^(i+1)<=n:=by
 rcases(show i=0\/i=1\/i=2\/i=3 by omega)with rfl|rfl|rfl|rfl<;>simp only[Nat.reducePow,Nat.reduceAdd]at h⊢ <;>omega
def aJi{n i:Nat}(h:i=0\/128^i<=n)(hi:0<i):1<=n/128^i:=by
 rcases h with h|h
 ·omega
 ·exact Nat.div_pos h (iq aD)
def seven_shl{i y:Nat}(hi:i<=3)(hy:y<128):shl .i64 (y:Int) ((7*i:Nat):Int)=((y*128^i:Nat):Int):=by
 rcases(show i=0\/i=1\/i=2\/i=3 by omega)with rfl|rfl|rfl|rfl
 ·rw[zY 1 aD,bZ I I];simp only[Nat.reducePow];omega
 ·rw[zY 128 aD,bZ I I];simp only[Nat.reducePow];omega
 ·rw[zY 16384 aD,bZ I I];simp only[Nat.reducePow];omega
 ·rw[zY 2097152 aD,bZ I I];simp only[Nat.reducePow];omega
def seven_or{i n:Nat}(hi:i<=3):bI .i64 ((n%128^i:Nat):Int) ((n/128^i%128*128^i:Nat):Int)=((n%128^(i+1):Nat):Int):=by
 have hp:0<128^i:=iq aD
 have h1:n%128^i<128^i:=jd _ hp
 have h2:n/128^i%128<128:=jd _ aD
 have h3:128^i<=2097152:=by rcases(show i=0\/i=1\/i=2\/i=3 by omega)with rfl|rfl|rfl|rfl<;>decide
 have h4:n/128^i%128*128^i<=127*2097152:=Nat.mul_le_mul I h3
 rw[Wn (k:= .i64) I (show((n%128^i:Nat):Int)<(9223372036854775808:Int)by omega) I (show((n/128^i%128*128^i:Nat):Int)<(9223372036854775808:Int)by omega)]
 congr 1
 rw[c8,c8]
 have e:128^i=2^(7*i):=by rw[Nat.pow_mul]
 rw[jf,Nat.mod_mul]
 rw[e]at h1⊢
 rw[kg,gh,<-f5 h1,ja]
def sF(a b:AB):AB:=
 if b.drop (bN a b)=[]then []else
  putP (oth (a.drop (bN a b)) (b.drop (bN a b)))++((b.drop (bN a b)).take (oth (a.drop (bN a b)) (b.drop (bN a b)))++
   dO ((a.drop (bN a b)).drop (oth (a.drop (bN a b)) (b.drop (bN a b)))) ((b.drop (bN a b)).drop (oth (a.drop (bN a b)) (b.drop (bN a b)))))
def wT(a b:AB):dO a b=putP (bN a b)++sF a b:=by
 unfold sF
 split
 ·rename_i h;rw[Pi h,cn]
 ·rename_i h;exact Uj h
def over(a b:AB)(j:Nat):AB:=b.take j++a.drop j
def aGV{a b:AB}(h:a.length=b.length){j:Nat}(hj:j<=b.length):(over a b j).length=b.length:=by
 unfold over;rw[bX,fT,dM];omega
def aFN{a b:AB}(h:a.length=b.length){j:Nat}:over a b (j+bN (a.drop j) (b.drop j))=over a b j:=by
 have hs:=aDy (a:=a.drop j) (b:=b.drop j) (by rw[dM,dM,h])
 generalize bN (a.drop j) (b.drop j)=n at hs
 unfold over
 rw[iv,eG,<-hs,<-bi,dp]
def aP8{a b:AB}(h:a.length=b.length):over a b b.length=b:=by
 unfold over;rw[dj,gq I,cn]
def Bq{A X Z vs:AA}{m:Nat}(hA:A.length=m)(hX:X.length=vs.length):aV (A++(X++Z)) m vs=A++(vs++Z):=by
 subst hA
 unfold aV
 rw[io,<-hX,show A++(X++Z)=(A++X)++Z from(eG _ _ _).symm,<-bX,f3,eG]
def aQi{a b:AB}(h:a.length=b.length){m k:Nat}(hk:m+k<=b.length)(sp:AA):
  aV ((over a b m).map (.int .u8)++sp) m (((b.drop m).take k).map (.int .u8))=(over a b (m+k)).map (.int .u8)++sp:=by
 have e1:(over a b m).map Z++sp=(b.take m).map (.int .u8)++(((a.drop m).take k).map (.int .u8)++((a.drop (m+k)).map (.int .u8)++sp)):=by
  unfold over
  rw[<-eG (((a.drop m).take k).map _),<-bz,<-bi,dp,bz,eG]
 rw[e1,Bq Si (by rw[eJ,eJ,fT,fT,dM,dM];omega)]
 unfold over
 rw[iv]
 simp only[bz,eG]
def aKT(d:Db)(g:Gx)(hg:g.Ok)(k n:Nat)(hd:d.Ok g k n)(hk:k<n)(w:AI)(hst:St w ((d.H g k).map (·.1)) (d.H g k) w):aG prog 46 [P_ d.b] w ((d.H g k).map (·.1)) (λv H=>v= .tuple #[]/\H=d.H g k):=by
 obtain⟨b,hb,lb,mp,fa,fc,fs,cap,asked,done,q,m,ring,GH,ms,GL,l,c,pv,wv,tab,D⟩:=d
 obtain⟨hle,hq,hm,hh,hrg,hL,hpk,hfi,hpa,htm,hpl⟩:=hd
 dsimp only at hle hq hm hh hrg hL hpk hfi hpa htm hpl
 refine I6 λhst hml=>?_
 obtain⟨hm0,hm1,hm2⟩:=hL.more I
 refine cG func46 hst ?_
 refine ZD4 ?_
 refine ZE1 ?_
 refine wP ?_
 refine aH ?_
 refine wP ?_
 refine ZBZ ?_
 exact EN aJ ⟨U,U⟩
def aED(d:Db)(g:Gx)(hg:g.Ok)(n:Nat)(hn:n<1000000)(hd:d.Ok g n n)(w:AI)(hst:St w ((d.H g n).map (·.1)) (d.H g n) w):aG prog 46 [P_ d.b] w ((d.H g n).map (·.1)) (λv H=>v= .tuple #[]/\∃e:Db,e.Ok g n (n+1)/\d.To e/\e.done=d.done/\H=e.H g n):=by
 obtain⟨b,hb,lb,mp,fa,fc,fs,cap,asked,done,q,m,ring,GH,ms,GL,l,c,pv,wv,tab,D⟩:=d
 obtain⟨hle,hq,hm,hh,hrg,hL,hpk,hfi,hpa,htm,hpl⟩:=hd
 dsimp only at hle hq hm hh hrg hL hpk hfi hpa htm hpl
 have hst:St w _ ((b,J (cDb cap (pM q) (P_ hb) n (.slice (Q_ fa) (g.enc 0).length fc) lb mp pv wv asked done tab) 108)::(mp,cY .u64 (l) (c))::(hM q m++(GH++(GL++D)))) w:=hst
 have hml:ms.length<=256:=by have:=hL.len;have:=(capT_ok cap).2;omega
 have hiv:=hm.inv (hg.inv n)
 have hrl:m.ram.length<=200000:=by rw[hiv.fr.ram];have:=Ue g.rom;omega
 have henc:fQ m=g.enc n:=hm.enc
 have hel:=hg.enc_le n
 have hpp:1<=(dO (g.enc 0) (g.enc n)).length:=by rw[wT,bX];have:=(xB (bN (g.enc 0) (g.enc n))).1;omega
 have hpc:=Vn (g.enc 0) (g.enc n)
 have hnx:Tm.Nxt n ((n-1:Nat):Int) (n:Int):=⟨λh=>aR,λh=>aR⟩
 refine cG func46 hst ?_
 refine ZD4 ?_
 refine aH ?_
 refine mJ (σ:=Unit) [18,19,20,21,22,23,24,25,26] (λ_=>[(26,.bool false)]) (λ_=>(b,J (cDb cap (pM q) (P_ hb) n (.slice (Q_ fa) (g.enc 0).length fc) lb mp pv wv asked done tab) 108)::(mp,cY .u64 (l) (c))::(hM q m++(GH++(GL++D)))) (λ_=>True) ?_ ?_
 ·rcases d6 n with hz|hz
  ·refine ZBI ?_
   have hz9:=(hL.zero hz).1
   subst hz9
   refine iO ?_
   refine bW ?_
   exact⟨(),trivial,.cons U .nil,bB,λ_ h=>h⟩
  refine ZBI ?_
  obtain⟨hm0,hm1,hm2⟩:=hL.more hz
  refine wP ?_
  refine aH ?_
  refine qW ?_
  refine ZAm ?_
  exact⟨(),trivial,.cons U .nil,bB,λ_ h=>h⟩
 rintro _ y1 _
 refine oQ false U U ?_
 refine ZAm ?_
 refine nH [(b,J (cDb cap (pM q) (P_ hb) n (.slice (Q_ fa) (g.enc 0).length fc) lb mp pv wv asked done tab) 108)] [4,5,6,7,8] (.step true 0 (.step true 1 (.step true 2 (.step true 3 (.step true 4 (.step true 5 (.step true 6 (.step true 7 (.step false 8 (.step false 9 (.step true 10 (.step true 11 (.step true 12 (.step true 13 (.step true 14 .done))))))))))))))) U aN aN (λx hx=>by rw[List.mem_singleton.1 hx];exact .head _) ?_
 refine ZE1 ?_
 refine DX U (gZ (F:=[(b,J (cDb cap (pM q) (P_ hb) n (.slice (Q_ fa) (g.enc 0).length fc) lb mp pv wv asked done tab) 108),(mp,cY .u64 (l) (c))]) (A:=hM q m) (G:=GH++(GL++D)) K_ U (λw h1 _=>(by have h9:=aCL q m hiv.wf hiv.rg hrl _ w h1;rw[henc]at h9;exact h9))) U (by intro _ _ _ hK x hx;obtain⟨_,⟨_,_,_,_,_,rfl⟩,rfl⟩:=hK;rw[List.mem_singleton.1 hx];exact .head _) ?_
 rintro _ _ ⟨_,⟨b0,c0,sp0,rfl,hc0,rfl⟩,rfl⟩
 refine DX U (eN K_ U (λw hw=>aEO fa 0 fc b0 0 c0 (g.enc 0) (g.enc n) I (hg.enc_len n).symm hfi.2 hc0 w (aI (b:=fa) (l:=(g.enc 0).map Z++fs) (.tail _ (.tail _ (bL _ (bL _ (bL _ hfi.1))))) w hw).left (aI (b:=b0) (l:=(g.enc n).map Z++sp0) (.tail _ (.tail _ (.head _))) w hw).left)) U aY ?_
 rintro _ _ ⟨G0,⟨a37,cx1,rfl,hV0⟩,rfl⟩
 obtain⟨b1,c37',sp1,e37,rfl,_,hc1,_⟩:=hV0.full I
 cases e37
 refine tC ?_
 refine aH ?_
 refine kO (L':=(b,J (cDb cap (pM q) (P_ hb) n (.slice (Q_ fa) (g.enc 0).length fc) lb mp pv wv asked done tab) 108)::(mp,cY .u64 (l) (c))::(GL++(hM q m++(GH++((b1,J ((dO (g.enc 0) (g.enc n)).map Z++sp1) 5)::(b0,J ((g.enc n).map Z++sp0) 5)::D))))) (λ_ h=>St.fl [[(b1,J ((dO (g.enc 0) (g.enc n)).map Z++sp1) 5)],[(b,J (cDb cap (pM q) (P_ hb) n (.slice (Q_ fa) (g.enc 0).length fc) lb mp pv wv asked done tab) 108),(mp,cY .u64 (l) (c))],[(b0,J ((g.enc n).map Z++sp0) 5)],hM q m,GH,GL,D] [1,5,3,4,0,2,6] U h) ?_
 refine DR [4,5,6,7,8] (bQ [0,2,4,6,8,10,12,14,16,19]) ?_
 refine bW ?_
 refine DX U (gZ (F:=[(b,J (cDb cap (pM q) (P_ hb) n (.slice (Q_ fa) (g.enc 0).length fc) lb mp pv wv asked done tab) 108),(mp,cY .u64 (l) (c))]) (A:=GL) (G:=hM q m++(GH++((b1,J ((dO (g.enc 0) (g.enc n)).map Z++sp1) 5)::(b0,J ((g.enc n).map Z++sp0) 5)::D))) K_ U (λw _ h2=>Tm.add_at (capT_ok cap) hL I hnx I h2 (aJD h2 (bL _ (bL _ (bL _ (.head _))))))) U aY ?_
 rintro _ _ ⟨_,⟨rfl,mk,G',D',e1,e2,rfl,hL0⟩,rfl⟩
 refine ZAm ?_
 refine kO (L':=(b,J (cDb cap (pM q) (P_ hb) n (.slice (Q_ fa) (g.enc 0).length fc) lb mp pv wv asked done tab) 108)::(mp,cY .u64 (l) (c))::(G'++(hM q m++(GH++(D'++((b1,J ((dO (g.enc 0) (g.enc n)).map Z++sp1) 5)::(b0,J ((g.enc n).map Z++sp0) 5)::D)))))) (λ_ h=>by rw[eG]at h;exact St.fl [[(b,J (cDb cap (pM q) (P_ hb) n (.slice (Q_ fa) (g.enc 0).length fc) lb mp pv wv asked done tab) 108),(mp,cY .u64 (l) (c))],G',D',hM q m,GH,((b1,J ((dO (g.enc 0) (g.enc n)).map Z++sp1) 5)::(b0,J ((g.enc n).map Z++sp0) 5)::D)] [0,1,3,4,2,5] rfl h) ?_
 refine nH [(b,J (cDb cap (pM q) (P_ hb) n (.slice (Q_ fa) (g.enc 0).length fc) lb mp pv wv asked done tab) 108)] [4,5,6,7,8,9,10,11,12] (.step true 0 (.step true 1 (.step true 2 (.step true 3 (.step true 4 (.step true 5 (.step true 6 (.step true 7 (.step true 8 (.step true 9 (.step true 10 (.step true 11 (.step false 12 (.step false 13 .done)))))))))))))) U aN aN (λx hx=>by rw[List.mem_singleton.1 hx];exact .head _) ?_
 refine fG ?_
 refine DX U (eN K_ U (λw hw=>Hs.copy_fn hb 32 n (Hs.callsL (g.sts n)) ring (by have:=Hs.callsL_len (g.sts n);omega) w (hh.histW hw (λx hx=> .tail _ (.tail _ (bL _ (bL _ (lJ _ hx)))))))) U (by intro _ _ _ hK x hx;obtain⟨_,⟨_,rfl,_⟩,rfl⟩:=hK;rw[List.mem_singleton.1 hx];exact bL _ (.head _)) ?_
 rintro _ _ ⟨G1,⟨b2,rfl,hH62⟩,rfl⟩
 refine lE (H':=(b,J (cDb cap (pM q) (P_ hb) n (.slice (Q_ fa) (g.enc 0).length fc) lb mp pv wv asked done tab) 108)::(mp,cY .u64 (l) (c))::(G'++(hM q m++(GH++(G1++(D'++((b1,J ((dO (g.enc 0) (g.enc n)).map Z++sp1) 5)::(b0,J ((g.enc n).map Z++sp0) 5)::D))))))) (λ_ h=>St.fl [G1,[(b,J (cDb cap (pM q) (P_ hb) n (.slice (Q_ fa) (g.enc 0).length fc) lb mp pv wv asked done tab) 108),(mp,cY .u64 (l) (c))],G',hM q m,GH,D'++((b1,J ((dO (g.enc 0) (g.enc n)).map Z++sp1) 5)::(b0,J ((g.enc n).map Z++sp0) 5)::D)] [1,2,3,4,0,5] U h) ?_
 obtain⟨hfn,hpa2⟩:=(hpa.more (D':=(G1++(D'++((b1,J ((dO (g.enc 0) (g.enc n)).map Z++sp1) 5)::(b0,J ((g.enc n).map Z++sp0) 5)::D)))) (λx hx=>bL _ (bL _ (.tail _ (.tail _ hx))))).new ⟨b2,ring,G1,rfl,hH62,hrg,(λx hx=>lJ _ hx)⟩ e1 (ms':=(Tm.addM (capT cap).toNat ms mk)) (λx hx=>(Tm.addM_sub _ _ _).subset hx)
 refine DZ U (aAJ 1 U U U U U hfn) U aY ?_
 try simp only[cw,cg,cn,al,bg]
 refine ZAm ?_
 obtain⟨hn0,_,_⟩:=hL0.more I
 have hml2:(Tm.addM (capT cap).toNat ms mk).length<=256:=by have:=hL0.len;have:=(capT_ok cap).2;omega
 refine ZBV ?_
 refine RX (eN K_ U (λw hw=>Tm.marks_fn lb (capT cap) (Tm.addM (capT cap).toNat ms mk) I w (hL0.line.lineW hw (λx hx=> .tail _ (.tail _ (lJ _ hx)))))) U ?_
 rintro v0 _ ⟨G2,hV1,rfl⟩
 obtain⟨b3,c2,sp2,e67,rfl,_,hc2,_⟩:=(hV1.as (Tm.times_len (Tm.addM (capT cap).toNat ms mk)).symm rfl).full (by rw[Tm.times_len];omega)
 subst e67
 refine ZE1 ?_
 refine RX (aGh (l:=l++[((n:Int),P_ b2,c)]) (c:=c+1) U U (.tail _ (.tail _ (.head _)))) U ?_
 rintro _ _ ⟨r72,rfl,rfl⟩
 refine eA (H':=(r72,oH mp (c+1) [] (c+1))::(b,J (cDb cap (pM q) (P_ hb) n (.slice (Q_ fa) (g.enc 0).length fc) lb mp pv wv asked done tab) 108)::(mp,cY .u64 (l++[((n:Int),P_ b2,c)]) (c+1))::(G'++(hM q m++(GH++((b3,J ((Tm.times (Tm.addM (capT cap).toNat ms mk)).map (Value.int .u64)++sp2) 36)::(G1++(D'++((b1,J ((dO (g.enc 0) (g.enc n)).map Z++sp1) 5)::(b0,J ((g.enc n).map Z++sp0) 5)::D)))))))) (λ_ h=>St.fl [[(r72,oH mp (c+1) [] (c+1))],[(b3,J ((Tm.times (Tm.addM (capT cap).toNat ms mk)).map (Value.int .u64)++sp2) 36)],[(b,J (cDb cap (pM q) (P_ hb) n (.slice (Q_ fa) (g.enc 0).length fc) lb mp pv wv asked done tab) 108),(mp,cY .u64 (l++[((n:Int),P_ b2,c)]) (c+1))],G',hM q m,GH,(G1++(D'++((b1,J ((dO (g.enc 0) (g.enc n)).map Z++sp1) 5)::(b0,J ((g.enc n).map Z++sp0) 5)::D)))] [0,2,3,4,5,1,6] U h) ?_
 refine ZAm ?_
 refine dK (σ:=List hY×AE) [7,8,9,73,74,75,76,77,78,79,80,81,82,83,84,85,86,87,88,89] (λ_=>[]) (λs=>(r72,oH mp (c+1) s.2 (c+1))::(b,J (cDb cap (pM q) (P_ hb) n (.slice (Q_ fa) (g.enc 0).length fc) lb mp pv wv asked done tab) 108)::(mp,cY .u64 s.1 (c+1))::(G'++(hM q m++(GH++((b3,J ((Tm.times (Tm.addM (capT cap).toNat ms mk)).map (Value.int .u64)++sp2) 36)::(G1++(D'++((b1,J ((dO (g.enc 0) (g.enc n)).map Z++sp1) 5)::(b0,J ((g.enc n).map Z++sp0) 5)::D)))))))) (λs=>sQ g s.1 (c+1) (Tm.addM (capT cap).toNat ms mk) (n+1) (G1++(D'++((b1,J ((dO (g.enc 0) (g.enc n)).map Z++sp1) 5)::(b0,J ((g.enc n).map Z++sp0) 5)::D)))) (λs=>(qA s.1 s.2).length) (l++[((n:Int),P_ b2,c)],[]) ?_ ?_ ?_ ?_
 ·exact hpa2
 ·exact .nil
 ·exact λ_ h=>h
 rintro⟨l9,seen⟩ y7 hp9
 dsimp only at hp9⊢
 refine ZBI ?_
 by_cases hle9:qA l9 seen=[]
 ·refine ZBI ?_
  refine W (aQF 0 U U (.tail _ (.tail _ (.head _))) hp9.old (be _) hle9) U (iO ?_)
  refine ZBZ ?_
  refine lN (H':=(b,J (cDb cap (pM q) (P_ hb) n (.slice (Q_ fa) (g.enc 0).length fc) lb mp pv wv asked done tab) 108)::(mp,cY .u64 (l9) (c+1))::(hM q m++(GH++(G'++((b3,J ((Tm.times (Tm.addM (capT cap).toNat ms mk)).map (Value.int .u64)++sp2) 36)::(G1++(D'++((b1,J ((dO (g.enc 0) (g.enc n)).map Z++sp1) 5)::(b0,J ((g.enc n).map Z++sp0) 5)::D)))))))) (λ_ _=>pJ) (λ_ h=>St.fl [[(r72,oH mp (c+1) seen (c+1))],[(b,J (cDb cap (pM q) (P_ hb) n (.slice (Q_ fa) (g.enc 0).length fc) lb mp pv wv asked done tab) 108),(mp,cY .u64 (l9) (c+1))],G',hM q m,GH,((b3,J ((Tm.times (Tm.addM (capT cap).toNat ms mk)).map (Value.int .u64)++sp2) 36)::(G1++(D'++((b1,J ((dO (g.enc 0) (g.enc n)).map Z++sp1) 5)::(b0,J ((g.enc n).map Z++sp0) 5)::D))))] [1,3,4,2,5] U h) ?_
  refine⟨U,⟨b,hb,lb,mp,fa,fc,fs,cap,asked,done,q,m,ring,GH,(Tm.addM (capT cap).toNat ms mk),G',l9,c+1,pv,wv,tab,((b3,J ((Tm.times (Tm.addM (capT cap).toNat ms mk)).map (Value.int .u64)++sp2) 36)::(G1++(D'++((b1,J ((dO (g.enc 0) (g.enc n)).map Z++sp1) 5)::(b0,J ((g.enc n).map Z++sp0) 5)::D))))⟩,⟨Nat.le_succ _,hq,hm,hh,hrg,Hw hL0 ?_,λx hx=>?_,⟨(.tail _ (bL _ (bL _ (.tail _ (.tail _ hfi.1))))),hfi.2⟩,?_,?_,?_⟩,⟨U,U,U,U,U,U,U,(λx hx=> .tail _ (bL _ (bL _ (.tail _ (.tail _ hx)))))⟩,U,U⟩
  ·exact λx hx=> .tail _ (bL _ ((List.mem_append.1 hx).elim (λh=>lJ _ h) (λh=>bL _ (.tail _ (.tail _ h)))))
  ·rcases List.mem_append.1 ((Tm.addM_sub _ _ _).subset hx)with h9|h9
   ·exact hpk x h9
   rw[List.mem_singleton.1 h9,e2,e1];rfl
  ·exact hp9.more (λx hx=> .tail _ hx)
  ·show Tm.times (Tm.addM (capT cap).toNat ms mk)=B2 _ (n+1)
   rw[aHI,e1,htm];rfl
  obtain⟨GP,q0,q1⟩:=hpl
  exact⟨GP,q0,λx hx=> .tail _ (bL _ (bL _ (.tail _ (.tail _ (q1 x hx)))))⟩
 refine ZBI ?_
 refine RX (aNA 0 U U (.tail _ (.tail _ (.head _))) hp9.old (be _) hle9) U ?_
 rintro _ _ ⟨y9,hy9,rfl,rfl⟩
 refine nI ?_
 refine jN ?_
 refine ZCy ?_
 refine W (aNE U (.head _) (.tail _ (.tail _ (.head _))) (aHP hy9) hp9.nd) U (ZCy ?_)
 refine RX (eN K_ U (λw hw=>aJb (Q_ b3) c2 (Tm.times (Tm.addM (capT cap).toNat ms mk)) (aRP hL0.rise) (by rw[Tm.times_len];omega) y9.1 w (Ns.of (aI (b:=b3) (l:=(Tm.times (Tm.addM (capT cap).toNat ms mk)).map (Value.int .u64)++sp2) (.tail _ (.tail _ (.tail _ (bL _ (bL _ (bL _ (.head _))))))) w hw).left))) U ?_
 rintro _ _ ⟨_,⟨j9,f9,rfl,rfl,hf9⟩,rfl⟩
 rw[cg]
 refine iT ?_
 refine KC (λq0 z0=>?_) (λq0 z0=>?_)
 ·refine aH ?_
  refine W (aHk 2 U U U U U) U ?_
  try simp only[cw,cg,cn,al,bg]
  refine ZBI ?_
  exact⟨(pH y9.1 l9,seen++[y9.2.2]),hp9.drop (λx hx he=>hf9 (by simpa using q0) (List.mem_map.2 ⟨x,hx,he⟩)),Nat.lt_of_le_of_lt (aMi _ _ _) (aDg hy9),.nil,bB,λ_ h=>h⟩
 refine ZBI ?_
 exact⟨(l9,seen++[y9.2.2]),hp9,aDg hy9,.nil,bB,λ_ h=>h⟩
def forward_fn(d:Db)(g:Gx)(hg:g.Ok)(k n:Nat)(hd:d.Ok g k n)(hk:k<n)(hn:n<1000000)(hdn0:0<=d.done/\d.done<1000000000000000)(w:AI)(hst:St w ((d.H g k).map (·.1)) (d.H g k) w):aG prog 48 [P_ d.b] w ((d.H g k).map (·.1)) (λv H=>∃(e:Db) (va:AH) (GA:aF),e.Ok g (k+1) (max n (k+2))/\d.To e/\e.done=d.done+1/\v=va/\bS 298 3 va (g.m (k+1)).acc.length (aM cAc (g.m (k+1)).acc) GA/\(∀x∈GA,x∈e.D)/\H=e.H g (k+1)):=by
 obtain⟨b,hb,lb,mp,fa,fc,fs,cap,asked,done,q,m,ring,GH,ms,GL,l,c,pv,wv,tab,D⟩:=d
 obtain⟨hle,hq,hm,hh,hrg,hL,hpk,hfi,hpa,htm,hpl⟩:=hd
 dsimp only at hle hq hm hh hrg hL hpk hfi hpa htm hpl
 refine I6 λhst hml=>?_
 dsimp only at hdn0
 obtain⟨GP,hP,hGP⟩:=hpl
 have hiv:=hm.inv (hg.inv k)
 have hpcr:=hiv.rg.pc
 have hse1:(eP g.plan m).1=(eP g.plan (g.m k)).1:=by rw[hm.step]
 have hse2:(eP g.plan m).2=(g.m (k+1)):=by rw[hm.step];rfl
 have hbk:(if 32768<=m.cpu.r.pc then 0 else bankB m.cpu.r.pc m.bk)=(g.st k).bank:=by
  show Gn m m.cpu.r.pc=_
  rw[hm.bank,hm.cpu];rfl
 refine cG func48 hst ?_
 refine ZBV ?_
 refine DR [4,5,6,7,8,9,10] (bQ [0,2,4,6,8,10,12,14,17,18,20,23,24]) ?_
 refine ZE1 ?_
 refine DZ U (cZ K_ U (λw hw=>Tp q.A q.va m hiv.wf.ln w (aI (b:=q.A.mb) (l:=cMm q.A q.va m) (.tail _ (.tail _ (lJ _ (.tail _ (.head _))))) w hw))) U gV (ZBI ?_)
 refine DY U (Ov U U U U U) U (DZ U (cZ K_ U (λw hw=>(by have h9:=K0 q.A q.va m hiv.wf w (aI (b:=q.A.mb) (l:=cMm q.A q.va m) (.tail _ (.tail _ (lJ _ (.tail _ (.head _))))) w hw) m.cpu.r.pc hpcr;rw[hbk]at h9;exact h9))) U aY (ZE1 ?_))
 refine RX (gZ (F:=[(b,J (cDb cap (pM q) (P_ hb) k (.slice (Q_ fa) (g.enc 0).length fc) lb mp pv wv asked done tab) 108),(mp,cY .u64 (l) (c))]) (A:=hM q m) (G:=(GH++(GL++D))) K_ U (λw h1 h2=>(by have h9:=aIA q g.pa g.pc g.plan hq hg.chg hg.few m hiv _ w h1 (hP.els h2 (λx hx=>bL _ ((λx hx=>bL _ (bL _ (bL _ (hGP x hx)))) x hx))) (hP.offB h2 (λx hx=>bL _ (bL _ (bL _ (hGP x hx)))));rw[hse1,hse2]at h9;exact h9))) U ?_
 rintro _ _ ⟨_,⟨oT,va,G0,hq2,rfl,hV,rfl⟩,rfl⟩
 obtain⟨aa,ac,rfl⟩:=hV.slice
 refine ZA2 ?_
 refine lB λb0=>?_
 refine W (bC (l':=cDd (eP g.plan (g.m k)).1) 0) U (eC ?_)
 refine ZA2 ?_
 refine kO (L':=(b,J (cDb cap (pM q) (P_ hb) k (.slice (Q_ fa) (g.enc 0).length fc) lb mp pv wv asked done tab) 108)::(mp,cY .u64 (l) (c))::(b0,J (cDd (eP g.plan (g.m k)).1) 184)::(GH++(hM (⟨q.A,q.tb,oT,.slice aa (g.m (k+1)).acc.length ac⟩:MA) (g.m (k+1))++(GL++(G0++D))))) (λ_ h=>by rw[eG]at h;exact St.fl [[(b0,J (cDd (eP g.plan (g.m k)).1) 184)],[(b,J (cDb cap (pM q) (P_ hb) k (.slice (Q_ fa) (g.enc 0).length fc) lb mp pv wv asked done tab) 108),(mp,cY .u64 (l) (c))],G0,hM (⟨q.A,q.tb,oT,.slice aa (g.m (k+1)).acc.length ac⟩:MA) (g.m (k+1)),GH,GL,D] [1,0,4,3,5,2,6] rfl h) ?_
 refine DR [4,5,6,7,8,9,10,11,12,13,14,15,16] (bQ [0,2,4,6,8,10,12,14,16,18,20,22,24,26,29,30,32,35]) ?_
 refine bW ?_
 refine Hl ?_
 refine ZBZ ?_
 refine DZ U (cZ K_ U (λw hw=>Tp q.A (.slice aa (g.m (k+1)).acc.length ac) (g.m (k+1)) (hg.inv (k+1)).wf.ln w (aI (b:=q.A.mb) (l:=cMm q.A (.slice aa (g.m (k+1)).acc.length ac) (g.m (k+1))) (.tail _ (.tail _ (.tail _ (bL _ (lJ _ (.tail _ (.head _))))))) w hw))) U gV (ZBI ?_)
 refine DY U (Ov U U U U U) U (DX U (gZ (F:=[(b,J (cDb cap (pM q) (P_ hb) k (.slice (Q_ fa) (g.enc 0).length fc) lb mp pv wv asked done tab) 108),(mp,cY .u64 (l) (c)),(b0,J (cDd (eP g.plan (g.m k)).1) 184)]) (A:=GH) (G:=hM (⟨q.A,q.tb,oT,.slice aa (g.m (k+1)).acc.length ac⟩:MA) (g.m (k+1))++(GL++(G0++D))) K_ U (λw h1 _=>Hs.note_fn hb 32 k (Hs.callsL (g.sts k)) ring aD aD I (Hs.callsL_len _) GH w hh h1 (g.st k) (hg.st k))) U aY ?_)
 rintro _ _ ⟨GH2,⟨rfl,hh2⟩,rfl⟩
 rw[<-Hs.callsL_snoc,<-Gx.sts_snoc]at hh2
 refine ZCy ?_
 refine RW (v:=(.int .u64 ((k+1:Nat):Int))) U U (M _ ((qB I I).trans I)) (ZAm ?_)
 refine W (bC (l':=cDb cap (pM q) (P_ hb) (k+1) (.slice (Q_ fa) (g.enc 0).length fc) lb mp pv wv asked done tab) 0) U (eC ?_)
 refine aH ?_
 refine eA (H':=(b,J (cDb cap (pM q) (P_ hb) (k+1) (.slice (Q_ fa) (g.enc 0).length fc) lb mp pv wv asked done tab) 108)::((mp,cY .u64 (l) (c))::(b0,J (cDd (eP g.plan (g.m k)).1) 184)::(GH2++(hM (⟨q.A,q.tb,oT,.slice aa (g.m (k+1)).acc.length ac⟩:MA) (g.m (k+1))++(GL++(G0++D)))))) (λ_ h=>h) ?_
 refine RX (gZ (F:=[]) (A:=[(b,J (cDb cap (pM q) (P_ hb) (k+1) (.slice (Q_ fa) (g.enc 0).length fc) lb mp pv wv asked done tab) 108)]) (G:=((mp,cY .u64 (l) (c))::(b0,J (cDd (eP g.plan (g.m k)).1) 184)::(GH2++(hM (⟨q.A,q.tb,oT,.slice aa (g.m (k+1)).acc.length ac⟩:MA) (g.m (k+1))++(GL++(G0++D)))))) K_ U (Fe (aKE b 10 _ _ done (done+1) U (qB I I)))) U (ZBB ?_)
 refine ZAm ?_
 refine kO (L':=(b,J (cDb cap (pM q) (P_ hb) (k+1) (.slice (Q_ fa) (g.enc 0).length fc) lb mp pv wv asked (done+1) tab) 108)::(mp,cY .u64 (l) (c))::(hM (⟨q.A,q.tb,oT,.slice aa (g.m (k+1)).acc.length ac⟩:MA) (g.m (k+1))++(GH2++(GL++((b0,J (cDd (eP g.plan (g.m k)).1) 184)::(G0++D)))))) (λ_ h=>St.fl [[(b,J (cDb cap (pM q) (P_ hb) (k+1) (.slice (Q_ fa) (g.enc 0).length fc) lb mp pv wv asked (done+1) tab) 108),(mp,cY .u64 (l) (c))],[(b0,J (cDd (eP g.plan (g.m k)).1) 184)],GH2,hM (⟨q.A,q.tb,oT,.slice aa (g.m (k+1)).acc.length ac⟩:MA) (g.m (k+1)),GL,G0++D] [0,3,2,4,1,5] U h) ?_
 have hrg2:=hrg.step aD aD (g.st k)
 rw[Gx.sts_len,<-Gx.sts_snoc]at hrg2
 have hE0:(⟨b,hb,lb,mp,fa,fc,fs,cap,asked,done+1,(⟨q.A,q.tb,oT,.slice aa (g.m (k+1)).acc.length ac⟩:MA),(g.m (k+1)),(ring.set (k%32) (Hs.recOf (g.st k))),GH2,ms,GL,l,c,pv,wv,tab,((b0,J (cDd (eP g.plan (g.m k)).1) 184)::(G0++D))⟩:Db).Ok g (k+1) n:=⟨aR,hq2,pG.refl _,hh2,hrg2,Hw hL (λx hx=> .tail _ (bL _ hx)),hpk,⟨.tail _ (bL _ hfi.1),hfi.2⟩,hpa.more (λx hx=> .tail _ (bL _ hx)),htm,⟨GP,hP,λx hx=> .tail _ (bL _ (hGP x hx))⟩⟩
 have hT0:Db.To ⟨b,hb,lb,mp,fa,fc,fs,cap,asked,done,q,m,ring,GH,ms,GL,l,c,pv,wv,tab,D⟩ (⟨b,hb,lb,mp,fa,fc,fs,cap,asked,done+1,(⟨q.A,q.tb,oT,.slice aa (g.m (k+1)).acc.length ac⟩:MA),(g.m (k+1)),(ring.set (k%32) (Hs.recOf (g.st k))),GH2,ms,GL,l,c,pv,wv,tab,((b0,J (cDd (eP g.plan (g.m k)).1) 184)::(G0++D))⟩:Db):=⟨rfl,rfl,rfl,rfl,rfl,rfl,rfl,(λx hx=> .tail _ (bL _ hx))⟩
 rcases du (k+1) n with hlt|hge
 rotate_left
 obtain rfl:n=k+1:=by omega
 rotate_left
 ·refine ZAm ?_
  refine W (iB K_ U (kK (aKT (⟨b,hb,lb,mp,fa,fc,fs,cap,asked,done+1,(⟨q.A,q.tb,oT,.slice aa (g.m (k+1)).acc.length ac⟩:MA),(g.m (k+1)),(ring.set (k%32) (Hs.recOf (g.st k))),GH2,ms,GL,l,c,pv,wv,tab,((b0,J (cDd (eP g.plan (g.m k)).1) 184)::(G0++D))⟩:Db) g hg (k+1) n hE0 hlt))) U (ZCy ?_)
  exact EV U aJ ⟨(⟨b,hb,lb,mp,fa,fc,fs,cap,asked,done+1,(⟨q.A,q.tb,oT,.slice aa (g.m (k+1)).acc.length ac⟩:MA),(g.m (k+1)),(ring.set (k%32) (Hs.recOf (g.st k))),GH2,ms,GL,l,c,pv,wv,tab,((b0,J (cDd (eP g.plan (g.m k)).1) 184)::(G0++D))⟩:Db),_,G0,(by rw[go I];exact hE0),hT0,U,U,hV,λx hx=> .tail _ (lJ _ hx),U⟩
 refine ZAm ?_
 refine RX (iB K_ U (kK (aED (⟨b,hb,lb,mp,fa,fc,fs,cap,asked,done+1,(⟨q.A,q.tb,oT,.slice aa (g.m (k+1)).acc.length ac⟩:MA),(g.m (k+1)),(ring.set (k%32) (Hs.recOf (g.st k))),GH2,ms,GL,l,c,pv,wv,tab,((b0,J (cDd (eP g.plan (g.m k)).1) 184)::(G0++D))⟩:Db) g hg (k+1) I hE0))) U ?_
 rintro _ _ ⟨rfl,e,hE,hT,hdn,rfl⟩
 refine ZCy ?_
 exact EV U aJ ⟨e,_,G0,(by rw[Nat.max_eq_right I];exact hE),hT0.trans hT,hdn,U,hV,λx hx=>hT.D x (.tail _ (lJ _ hx)),U⟩
def aEH(n:Nat)(hn:n<268435456)(l:AB)(b o c:Nat)(hl:(putP n++l).length<=100000000)(hc:(putP n++l).length<=c)(w:AI)(hr:aK w b o ((putP n++l).map (.int .u8))):aG prog 183 [.slice (some ⟨b,o,none⟩) (putP n++l).length c] w [] (V_ (.tuple #[.int .i64 n,.slice (some ⟨b,cut1 o (putP n).length c,none⟩) l.length (c-(putP n).length),.int .i64 0])):=by
 refine aT func183 ?_
 refine Aa ?_
 refine dK (σ:=Nat) [2,3,4,5,6,7,8,9,10,11,12,13,14,15,16,17,18,19,20,21,22,23,24,25,26,27,28,29,30,31,32,33,34,35,36,37,38,39,40,41,42,43,44,45,46] (λi=>[(5,.int .i64 ((n%128^i:Nat):Int)),(8,.int .i64 i)]) (λ_=>[]) (λi=>i<=3/\(i=0\/128^i<=n)) (λi=>4-i) 0 ?_ ?_ ?_ ?_
 ·exact⟨iH,.inl U⟩
 ·exact .cons (M (λn:Nat=>Value.int .i64 (n:Int)) (by rw[Nat.pow_zero,Nat.mod_one])) (.cons U .nil)
 ·exact λ_ h=>h
 rintro i y3 ⟨hi,hi2⟩
 have hgs:=aJi hi2
 have hy0:(0:Int)<=((n/128^i:Nat):Int):=im _
 refine ZAm ?_
 refine fX true U U U lH ?_
 refine kD ?_
 obtain⟨hg1,hg2⟩:=Z0 i n hi2
 have hll:(putP n++l).length=(putP n).length+l.length:=bX
 have hgx:(putP n++l).getD i 0=(putP n).getD i 0:=by rw[gU,di hg1,<-gU]
 refine ZA2 ?_
 refine gK ?_
 refine fX false U U U lH ?_
 refine ZBZ ?_
 by_cases hy:(n/128^i)<128
 ·refine ZBI ?_
  have hgv:(putP n++l).getD i 0=(((n/128^i):Nat):Int):=by rw[hgx,hg2,ag hy]
  refine ZAm ?_
  refine RY (eF (n:=(putP n++l).length) i U U U U I) U (W (aW U U (dN (v:= .int .u8 (((n/128^i):Nat):Int)) (hr _ _ ((gD (l:=(putP n++l)) (j:=i) I).trans (by rw[hgv]))) aP)) U (aH ?_))
  refine Z1 ?_
  refine ZBI ?_
  refine RW (v:=(.int .i64 ((7*i:Nat):Int))) U U (M _ ((bZ I I).trans I)) (ZCh ?_)
  refine aH ?_
  refine wP ?_
  refine ZBZ ?_
  refine KL (λq0 z0=>?_) (λq0 z0=>?_)
  ·refine ZBI ?_
   refine tO ?_
   refine wP ?_
   refine ZBZ ?_
   refine Fs ?_
   refine ZA2 ?_
   refine ZCW ?_
   refine ZBV ?_
   have ht:=putP_tot i n hi2 hy
   exact X0
  refine bW ?_
  refine wP ?_
  refine ZBZ ?_
  refine Fs ?_
  refine ZA2 ?_
  refine ZCW ?_
  refine ZBV ?_
  have ht:=putP_tot i n hi2 hy
  exact X0
 refine ZBI ?_
 have hgv:(putP n++l).getD i 0=(((n/128^i)%128+128:Nat):Int):=by rw[hgx,hg2,ae hy]
 refine ZAm ?_
 refine RY (eF (n:=(putP n++l).length) i U U U U I) U (W (aW U U (dN (v:= .int .u8 (((n/128^i)%128+128:Nat):Int)) (hr _ _ ((gD (l:=(putP n++l)) (j:=i) I).trans (by rw[hgv]))) aP)) U (aH ?_))
 refine Z1 ?_
 refine ZBI ?_
 refine RW (v:=(.int .i64 ((7*i:Nat):Int))) U U (M _ ((bZ I I).trans I)) (ZCh ?_)
 refine aH ?_
 refine qW ?_
 refine jJ ?_
 refine qW ?_
 refine ZBV ?_
 refine pU ?_
 obtain⟨hm1,hm2⟩:=aLD hn hi hy
 exact⟨i+1,⟨hm1,.inr hm2⟩,aR,.cons U (.cons U .nil),bB,λ_ h=>h⟩
def aIW(b o c:Nat)(l:AB)(h1:1<=l.length)(hl:l.length<=10000000)(w:AI)(hr:aK w b o (l.map (.int .u8))):aG prog 137 [.slice (some ⟨b,o,none⟩) l.length c] w [] (λv H=>∃b9 c9 sp9,v= .slice (Q_ b9) l.length c9/\l.length<=c9/\H=[(b9,J (l.map Z++sp9) 5)]):=by
 refine aT func137 ?_
 refine uS ?_
 refine ZBV ?_
 refine RX (Gj U) U (ZBF λb0=>?_)
 refine ZBI ?_
 refine RX (wY (A:=[]) (G:=[(b0,J [] 5)]) (v:= .slice (Q_ b0) 0 0) (n:=0) (xs:=[]) (m:=l.length) (T:=5) (s:=1) (by_:=1) (ys:=l.map (.int .u8)) U U U U (.row b0 0 0 [] [] U U aD (be _)) (λw hw=> .row _ _ _ _ _ (by rw[eJ,fw]) (bU hr aP w hw)) (kX _ _) I I) U ?_
 rintro v0 _ ⟨G0,hV0,_,rfl⟩
 obtain⟨b1,c0,sp0,rfl,rfl,_,hc0,_⟩:=(hV0.as (n':=l.length) (xs':=l.map (.int .u8)) (bj _) rfl).full I
 refine ZA2 ?_
 exact EV U (cz _ _) ⟨b1,c0,sp0,U,hc0,U⟩
def aPw(b1 o1 c1 b2 o2 c2:Nat)(a b:AB)(h1:1<=b.length)(hl:b.length<=1000000)(hab:a.length=b.length)(hc2:(dO a b).length<=c2)(w:AI)(hr1:aK w b1 o1 (a.map (.int .u8)))(hr2:aK w b2 o2 ((dO a b).map (.int .u8))):aG prog 147 [.slice (some ⟨b1,o1,none⟩) a.length c1,.slice (some ⟨b2,o2,none⟩) (dO a b).length c2] w [] (λv H=>∃b9 c9 sp9,v= .tuple #[.slice (Q_ b9) b.length c9,.int .i64 0]/\b.length<=c9/\H=[(b9,J (b.map Z++sp9) 5)]):=by
 refine aT func147 ?_
 refine ZE1 ?_
 refine RX (eN K_ U (λw hw=>aIW b1 o1 c1 a I I w (bU hr1 aP w hw))) U ?_
 rintro _ _ ⟨_,⟨b9,c9,sp9,rfl,hc0,rfl⟩,rfl⟩
 rw[cn]
 refine bW ?_
 refine dK (σ:=Nat×Nat×Nat×Nat×Nat) [1,4,5,7,8,9,10,14,15,16,17,18,19,20,21,22,23,24,25,26,27,28,29,30,31,32,33,34,35,36,37,38,39,40,41,42,43,44,45,46,47,48,49,50,51,52,53,54,55,56,57,58,59,60,61,62,63,64,65,66] (λs=>[(7,.slice (some ⟨b9,s.2.1,none⟩) (a.drop s.1).length s.2.2.1),(1,.slice (some ⟨b2,s.2.2.2.1,none⟩) (putP (bN (a.drop s.1) (b.drop s.1))++sF (a.drop s.1) (b.drop s.1)).length s.2.2.2.2)]) (λs=>[(b9,J ((over a b s.1).map Z++sp9) 5)]) (λs=>s.1<=b.length/\(s.1<b.length->s.2.1=s.1)/\(a.drop s.1).length<=s.2.2.1/\(putP (bN (a.drop s.1) (b.drop s.1))++sF (a.drop s.1) (b.drop s.1)).length<=s.2.2.2.2/\aK w b2 s.2.2.2.1 ((putP (bN (a.drop s.1) (b.drop s.1))++sF (a.drop s.1) (b.drop s.1)).map (.int .u8))) (λs=>b.length-s.1) (0,0,c9,o2,c2) ?_ ?_ ?_ ?_
 ·exact⟨aq _,λ_=>U,hc0,by rw[<-wT];exact hc2,by rw[<-wT];exact hr2⟩
 ·exact .cons U (.cons (by rw[<-wT];rfl) .nil)
 ·exact λ_ h=>h
 rintro⟨j,pL,qL,pP,qP⟩ y3 ⟨hj,hpL,hqL,hqP,hrP⟩
 dsimp only at hj hpL hqL hqP hrP⊢
 obtain⟨n9,hn9⟩:∃n,n=bN (a.drop j) (b.drop j):=⟨_,rfl⟩
 obtain⟨k9,hk9⟩:∃k,k=oth (a.drop (j+n9)) (b.drop (j+n9)):=⟨_,rfl⟩
 rw[<-hn9]at hqP hrP⊢
 have hda:(a.drop j).length=a.length-j:=dM
 have hdb:(b.drop j).length=b.length-j:=dM
 have hln:=Dr (a.drop j) (b.drop j)
 rw[<-hn9]at hln
 have hdn:(a.drop (j+n9)).length=a.length-(j+n9):=dM
 have hdm:(b.drop (j+n9)).length=b.length-(j+n9):=dM
 have hpk:=Vn (a.drop j) (b.drop j)
 rw[wT,<-hn9]at hpk
 have hll:(putP n9++sF (a.drop j) (b.drop j)).length=(putP n9).length+(sF (a.drop j) (b.drop j)).length:=bX
 have hrG:aK w b2 (cut1 pP (putP n9).length qP) ((sF (a.drop j) (b.drop j)).map (.int .u8)):=by have h9:=Dz hrP (n:=(putP n9).length) (c:=qP) hqP I;rw[f3]at h9;exact h9
 refine ZBZ ?_
 refine aO K_ (λw hw=>aEH n9 I (sF (a.drop j) (b.drop j)) b2 pP qP Fz Fz w (bU hrP aP w hw)) ?_
 refine kD ?_
 refine fX false U U U aP ?_
 refine ZCy ?_
 refine gK ?_
 refine qW ?_
 refine ZE1 ?_
 refine RW (v:=(.slice (some ⟨b9,(cut1 pL n9 qL),none⟩) (a.drop (j+n9)).length (qL-n9))) (nM n9 (a.drop j).length U U U U U U I I) U (by rw[hda,hdn,jn]) (ZE1 ?_)
 refine gK ?_
 refine ZAm ?_
 refine KC (λh1 h1n=>?_) (λh1 h1n=>?_)
 ·have z0:=r_f h1
  refine ZA2 ?_
  have hnil:(b.drop (j+n9))=[]:=List.length_eq_zero_iff.1 I
  have hpR:(sF (a.drop j) (b.drop j)).length=0:=by unfold sF;rw[<-hn9,ag (by rw[bi];exact hnil)];rfl
  refine ZAm ?_
  refine gK ?_
  refine qW ?_
  refine cL ?_
  have hov:over a b j=b:=by rw[<-aFN hab,<-hn9,show j+n9=b.length by have h9:=M List.length hnil;simp only[az]at h9;omega,aP8 hab]
  exact iM (λ_ _=>dX U U) aJ ⟨b9,c9,sp9,by rw[hab],aR,by rw[hov]⟩
 have z0:=r_f h1
 refine ZAm ?_
 have hne:(b.drop (j+n9))≠[]:=λh=>by have h9:=M List.length h;simp only[az]at h9;omega
 have hR:sF (a.drop j) (b.drop j)=putP k9++(((b.drop (j+n9)).take k9)++dO (a.drop (j+n9+k9)) (b.drop (j+n9+k9))):=by unfold sF;rw[<-hn9,ae (by rw[bi];exact hne)];simp only[bi];rw[<-hk9]
 have hko:=Vs (a.drop (j+n9)) (b.drop (j+n9))
 rw[<-hk9]at hko
 have hop:=Gy hne aA8
 rw[<-hk9]at hop
 have hpo:=xB k9
 have hRl:(sF (a.drop j) (b.drop j)).length=(putP k9).length+(((b.drop (j+n9)).take k9)++dO (a.drop (j+n9+k9)) (b.drop (j+n9+k9))).length:=by rw[hR];exact bX
 have hLl:(((b.drop (j+n9)).take k9)++dO (a.drop (j+n9+k9)) (b.drop (j+n9+k9))).length=k9+(dO (a.drop (j+n9+k9)) (b.drop (j+n9+k9))).length:=by rw[bX,fT];omega
 have hdk:(a.drop (j+n9+k9)).length=a.length-(j+n9+k9):=dM
 have hdl:(b.drop (j+n9+k9)).length=b.length-(j+n9+k9):=dM
 have hrR:aK w b2 (cut1 pP (putP n9).length qP) ((putP k9++(((b.drop (j+n9)).take k9)++dO (a.drop (j+n9+k9)) (b.drop (j+n9+k9)))).map (.int .u8)):=by rw[<-hR];exact hrG
 have hrH:aK w b2 (cut1 (cut1 pP (putP n9).length qP) (putP k9).length (qP-(putP n9).length)) ((((b.drop (j+n9)).take k9)++dO (a.drop (j+n9+k9)) (b.drop (j+n9+k9))).map (.int .u8)):=by have h9:=Dz hrR (n:=(putP k9).length) (c:=(qP-(putP n9).length)) Fz Fz;rw[f3]at h9;exact h9
 have hcu:(cut1 pL n9 qL)=j+n9:=by rw[hpL I];exact tH I
 refine ZAm ?_
 rw[hR]
 refine aO K_ (λw hw=>aEH k9 I (((b.drop (j+n9)).take k9)++dO (a.drop (j+n9+k9)) (b.drop (j+n9+k9))) b2 (cut1 pP (putP n9).length qP) (qP-(putP n9).length) Fz Fz w (bU hrR aP w hw)) ?_
 refine kD ?_
 refine fX false U U U aP ?_
 refine ZCy ?_
 refine gK ?_
 refine qW ?_
 refine ZCy ?_
 refine gK ?_
 refine qW ?_
 refine bW ?_
 refine RY (Eg k9 U U U U I) U ?_
 have hrT:aK w b2 (cut1 (cut1 pP (putP n9).length qP) (putP k9).length (qP-(putP n9).length)) (((b.drop (j+n9)).take k9).map (.int .u8)):=by have h9:=aK.takeK hrH k9;rw[fo (by rw[fT];omega)]at h9;exact h9
 rw[hcu]
 refine eA (H':=[(b9,J ((over a b (j+n9)).map Z++sp9) 5)]) (λ_ h=>h.as (by rw[hn9,aFN hab])) ?_
 refine W (C7 (b:=b9) (off:=j+n9) (m:=k9) (l:=(over a b (j+n9)).map (.int .u8)++sp9) (ys:=((b.drop (j+n9)).take k9).map (.int .u8)) 0 U U U U U (λw hw=> .row _ _ _ _ _ Si (bU hrT aP w hw)) (kX _ _) (by rw[bX,eJ,aGV hab I];omega)) U (eA (H':=[(b9,J ((over a b (j+n9+k9)).map Z++sp9) 5)]) (λ_ h=>h.as (by rw[al,fx I,dq Si,aQi hab I])) ?_)
 refine ZBI ?_
 refine Fs ?_
 refine ZAm ?_
 refine DY U (nM k9 (a.drop (j+n9)).length U U U U U U I I) U (ZAm ?_)
 refine DY U (nM k9 (((b.drop (j+n9)).take k9)++dO (a.drop (j+n9+k9)) (b.drop (j+n9+k9))).length U U U U U U I I) U (ZA2 ?_)
 refine⟨(j+n9+k9,cut1 (j+n9) k9 (qL-n9),(qL-n9)-k9,cut1 (cut1 (cut1 pP (putP n9).length qP) (putP k9).length (qP-(putP n9).length)) k9 ((qP-(putP n9).length)-(putP k9).length),((qP-(putP n9).length)-(putP k9).length)-k9),⟨by show j+n9+k9<=b.length;omega,λh=>?_,by show(a.drop (j+n9+k9)).length<=(qL-n9)-k9;omega,?_,?_⟩,aDf,.cons ?_ (.cons ?_ .nil),bB,λ_ h=>h⟩
 ·show cut1 (j+n9) k9 (qL-n9)=j+n9+k9
  have q0:j+n9+k9<b.length:=h
  exact tH I
 ·rw[<-wT];show(dO (a.drop (j+n9+k9)) (b.drop (j+n9+k9))).length<=((qP-(putP n9).length)-(putP k9).length)-k9;omega
 ·rw[<-wT]
  have q0:=Dz hrH (n:=k9) (c:=((qP-(putP n9).length)-(putP k9).length)) I I
  rw[eg (by rw[fT];omega)]at q0
  exact q0
 ·exact M (λn=>Value.slice _ n _) (by show _=(a.drop (j+n9+k9)).length;omega)
 rw[<-wT];exact M (λn=>Value.slice _ n _) (by show _=(dO (a.drop (j+n9+k9)) (b.drop (j+n9+k9))).length;omega)
def I9(x:Int):UInt8:=x.toNat.toUInt8
def U6{l:AB}(h:bF l):(l.map I9).map (λc=>Value.int .u8 (c.toNat:Int))=l.map (.int .u8):=by
 rw[j1]
 refine List.map_congr_left λx hx=>?_
 have:=h x hx
 show Value.int .u8 ((x.toNat.toUInt8.toNat:Nat):Int)= .int .u8 x
 congr 1
 have e:x.toNat.toUInt8.toNat=x.toNat%256:=rfl
 rw[e];omega
def aRj(b1 o1 c1 b2 o2 c2:Nat)(l:AB)(hb:bF l)(w:AI)(hr1:aK w b1 o1 (l.map (.int .u8)))(hr2:aK w b2 o2 (l.map (.int .u8))):aG prog 148 [.slice (some ⟨b1,o1,none⟩) l.length c1,.slice (some ⟨b2,o2,none⟩) l.length c2] w [] (V_ (.bool true)):=by
 refine aT func148 ?_
 refine ZCy ?_
 refine W (X1 (l:=l.map I9) U U U (eJ _) (λw hw=>by rw[U6 hb];exact bU hr1 aP w hw)) U (ZBI ?_)
 refine W (X1 (l:=l.map I9) U U U (eJ _) (λw hw=>by rw[U6 hb];exact bU hr2 aP w hw)) U (RY (aGf U U) U (ZA2 ?_))
 exact E0 U ⟨U,(M Value.bool (beq_self_eq_true _))⟩
def aLu(b1 o1 c1 b2 o2 c2:Nat)(a b:AB)(h1:1<=b.length)(hl:b.length<=1000000)(hab:a.length=b.length)(hc1:a.length<=c1)(hc2:(dO a b).length<=c2)(hb:bF b)(w:AI)(hr1:aK w b1 o1 (a.map (.int .u8)))(hr2:aK w b2 o2 ((dO a b).map (.int .u8))):aG prog 110 [.slice (some ⟨b1,o1,none⟩) a.length c1,.slice (some ⟨b2,o2,none⟩) (dO a b).length c2] w [] (λv H=>∃b9 c9 sp9,v= .tuple #[.slice (Q_ b9) b.length c9,.int .i64 0]/\b.length<=c9/\H=[(b9,J (b.map Z++sp9) 5)]):=by
 refine aT func110 ?_
 refine bW ?_
 refine RX (eN K_ U (λw hw=>aPw b1 o1 c1 b2 o2 c2 a b h1 hl hab hc2 w (bU hr1 aP w hw) (bU hr2 aP w hw))) U ?_
 rintro _ _ ⟨_,⟨b9,c9,sp9,rfl,hc0,rfl⟩,rfl⟩
 rw[cn]
 refine cL ?_
 refine fX false U U U aP ?_
 refine ZE1 ?_
 refine RX (eN K_ U (λw hw=>aEO b1 o1 c1 b9 0 c9 a b hl hab hc1 hc0 w (bU hr1 aP w hw) (aI (b:=b9) (.head _) w hw).left)) U ?_
 rintro _ _ ⟨G0,⟨a22,c0,rfl,hV0⟩,rfl⟩
 have hpp:1<=(dO a b).length:=by rw[wT,bX];have:=(xB (bN a b)).1;omega
 obtain⟨b0,c0,sp0,e22,rfl,_,hcx1,_⟩:=hV0.full I
 cases e22
 refine cL ?_
 refine W (cZ K_ U (λw hw=>aRj b0 0 c0 b2 o2 c2 (dO a b) (aE2 a hb) w (aI (b:=b0) (.head _) w hw).left (bU hr2 aP w hw))) U (iO ?_)
 refine cL ?_
 exact iM (λ_ _=>dX U U) (.cons _ aJ) ⟨b9,c9,sp9,U,hc0,U⟩
def aCy(d:Db)(g:Gx)(hg:g.Ok)(k n:Nat)(hd:d.Ok g k n)(hk:k<n)(hn:n<1000000)(at_:Nat)(w:AI)(hst:St w ((d.H g k).map (·.1)) (d.H g k) w):aG prog 60 [P_ d.b,.int .u64 at_] w ((d.H g k).map (·.1)) (λv H=>v= .tuple #[]/\∃(e:Db) (j:Nat),e.Ok g j n/\d.To e/\e.done=d.done/\e.ms=d.ms/\(j:Int)=(Tm.befM d.ms at_).t/\j<n/\H=e.H g j):=by
 obtain⟨b,hb,lb,mp,fa,fc,fs,cap,asked,done,q,m,ring,GH,ms,GL,l,c,pv,wv,tab,D⟩:=d
 obtain⟨hle,hq,hm,hh,hrg,hL,hpk,hfi,hpa,htm,hpl⟩:=hd
 dsimp only at hle hq hm hh hrg hL hpk hfi hpa htm hpl
 refine I6 λhst hml=>?_
 obtain⟨hm0,hm1,hm2⟩:=hL.more I
 have hb0:0<=Tm.bef ms (at_:Int):=Tm.bef_nn hL.rise hm0 hm1 I
 have hbm:=Tm.befM_mem (ms:=ms) (x:=(at_:Int)) I
 obtain⟨i9,e9,he9,hek,hfi9⟩:=W0 (i:=0) (hpa.all _ hbm)
 have hel9:=hpa.le e9 he9
 obtain⟨j,hj⟩:∃j:Nat,(Tm.befM ms (at_:Int)).t=j:=⟨e9.1.toNat,by rw[<-hek];omega⟩
 have hbt:=hj
 have hbl:=hpk _ hbm
 rw[hj,show((j:Nat):Int).toNat=j from rfl]at hbl
 rw[hj]at hfi9 hek
 have hjn:j<n:=by omega
 obtain⟨pb,pr,GP2,hev,hph,hprg,hGP2⟩:=hpa.his e9 he9
 rw[hek,show((j:Nat):Int).toNat=j from rfl]at hph hprg
 rw[hev]at hfi9
 have hiv:=hm.inv (hg.inv k)
 have hrl:m.ram.length<=200000:=by rw[hiv.fr.ram];have:=Ue g.rom;omega
 have hel:=hg.enc_le j
 have hpp:1<=(dO (g.enc 0) (g.enc j)).length:=by rw[wT,bX];have:=(xB (bN (g.enc 0) (g.enc j))).1;omega
 have hel0:=hg.enc_len j
 have hbk:=D1 (hg.inv j) hiv
 have hbk2:uK m (g.enc j)=({g.m j with acc:=[]}:Mm):=hbk.2
 refine cG func60 hst ?_
 refine ZCy ?_
 refine RX (eN K_ U (λw hw=>(by have h9:=Tm.Before_fn lb (capT cap) ms hL.rise I (at_:Int) w (hL.line.lineW hw (λx hx=> .tail _ (.tail _ (bL _ (bL _ (lJ _ hx)))))) (hL.dat.datW hw (λx hx=> .tail _ (.tail _ (bL _ (bL _ (bL _ (hx)))))));rw[hbt,hbl]at h9;exact h9))) U ?_
 rintro _ _ ⟨_,⟨dv,rfl,hV0⟩,rfl⟩
 obtain⟨b0,c0,sp0,e15,rfl,_,hc0,_⟩:=hV0.full I
 subst e15
 refine kV ?_
 refine RX (eN K_ U (λw hw=>aLu fa 0 fc b0 0 c0 (g.enc 0) (g.enc j) I I (hg.enc_len j).symm hfi.2 hc0 (hg.enc_byts j) w (aI (b:=fa) (l:=(g.enc 0).map Z++fs) (.tail _ (.tail _ (.tail _ (bL _ (bL _ (bL _ hfi.1)))))) w hw).left (aI (b:=b0) (l:=(dO (g.enc 0) (g.enc j)).map Z++sp0) (.head _) w hw).left)) U ?_
 rintro _ _ ⟨_,⟨b1,cx1,sp1,rfl,hc1,rfl⟩,rfl⟩
 refine ZCy ?_
 refine kO (L':=(b,J (cDb cap (pM q) (P_ hb) k (.slice (Q_ fa) (g.enc 0).length fc) lb mp pv wv asked done tab) 108)::(mp,cY .u64 (l) (c))::(hM q m++(GH++(GL++((b1,J ((g.enc j).map Z++sp1) 5)::(b0,J ((dO (g.enc 0) (g.enc j)).map Z++sp0) 5)::D))))) (λ_ h=>St.fl [[(b1,J ((g.enc j).map Z++sp1) 5)],[(b0,J ((dO (g.enc 0) (g.enc j)).map Z++sp0) 5)],[(b,J (cDb cap (pM q) (P_ hb) k (.slice (Q_ fa) (g.enc 0).length fc) lb mp pv wv asked done tab) 108),(mp,cY .u64 (l) (c))],hM q m,GH,GL,D] [2,3,4,5,0,1,6] U h) ?_
 refine aH ?_
 refine RX (gZ (F:=[(b,J (cDb cap (pM q) (P_ hb) k (.slice (Q_ fa) (g.enc 0).length fc) lb mp pv wv asked done tab) 108),(mp,cY .u64 (l) (c))]) (A:=hM q m) (G:=GH++(GL++((b1,J ((g.enc j).map Z++sp1) 5)::(b0,J ((dO (g.enc 0) (g.enc j)).map Z++sp0) 5)::D))) K_ U (λw h1 h2=>(by have h9:=aNr q hq m hiv.wf hiv.rg hrl (Q_ b1) cx1 (g.enc j) (hg.enc_byts j) I hc1 _ w h1 (Ns.of (aI (b:=b1) (l:=(g.enc j).map Z++sp1) (bL _ (bL _ (bL _ (bL _ (.head _))))) w h2).left) (λp hp hb=>by cases hp;exact St.notin h2 (x:=(b1,J ((g.enc j).map Z++sp1) 5)) (bL _ (bL _ (bL _ (.head _)))) hb);rw[hbk2]at h9;exact h9))) U ?_
 rintro _ _ ⟨_,⟨rfl,A',va',hq2,hmb,rfl⟩,rfl⟩
 refine bW ?_
 refine W (aG3 U U U hfi9 (.tail _ (.head _))) U (RX (eN K_ U (λw hw=>Hs.copy_fn pb 32 j (Hs.callsL (g.sts j)) pr (by have:=Hs.callsL_len (g.sts j);omega) w (hph.histW hw (λx hx=>bL _ (bL _ (bL _ (bL _ (.tail _ (.tail _ (hGP2 x hx)))))))))) U ?_)
 rintro _ _ ⟨G0,⟨b2,rfl,hH42⟩,rfl⟩
 refine eA (H':=(b,J (cDb cap (pM q) (P_ hb) k (.slice (Q_ fa) (g.enc 0).length fc) lb mp pv wv asked done tab) 108)::(mp,cY .u64 (l) (c))::(G0++(hM (⟨A',q.tb,q.oT,va'⟩:MA) ({g.m j with acc:=[]}:Mm)++(GH++(GL++((b1,J ((g.enc j).map Z++sp1) 5)::(b0,J ((dO (g.enc 0) (g.enc j)).map Z++sp0) 5)::D)))))) (λ_ h=>St.fl [G0,[(b,J (cDb cap (pM q) (P_ hb) k (.slice (Q_ fa) (g.enc 0).length fc) lb mp pv wv asked done tab) 108),(mp,cY .u64 (l) (c))],hM (⟨A',q.tb,q.oT,va'⟩:MA) ({g.m j with acc:=[]}:Mm),GH,GL,((b1,J ((g.enc j).map Z++sp1) 5)::(b0,J ((dO (g.enc 0) (g.enc j)).map Z++sp0) 5)::D)] [1,0,2,3,4,5] U h) ?_
 refine ZA2 ?_
 refine W (bC (l':=cDb cap (pM q) (P_ b2) k (.slice (Q_ fa) (g.enc 0).length fc) lb mp pv wv asked done tab) 0) U (jE ?_)
 refine W (bC (l':=cDb cap (pM q) (P_ b2) j (.slice (Q_ fa) (g.enc 0).length fc) lb mp pv wv asked done tab) 0) U (eC ?_)
 refine ZBI ?_
 have hpm:pM (⟨A',q.tb,q.oT,va'⟩:MA)=pM q:=by unfold pM;dsimp only;rw[hmb]
 refine lN (H':=(b,J (cDb cap (pM q) (P_ b2) j (.slice (Q_ fa) (g.enc 0).length fc) lb mp pv wv asked done tab) 108)::(mp,cY .u64 (l) (c))::(hM (⟨A',q.tb,q.oT,va'⟩:MA) ({g.m j with acc:=[]}:Mm)++(G0++(GL++((b1,J ((g.enc j).map Z++sp1) 5)::(b0,J ((dO (g.enc 0) (g.enc j)).map Z++sp0) 5)::(GH++D)))))) (λ_ _=>pJ) (λ_ h=>St.fl [[(b,J (cDb cap (pM q) (P_ b2) j (.slice (Q_ fa) (g.enc 0).length fc) lb mp pv wv asked done tab) 108),(mp,cY .u64 (l) (c))],G0,hM (⟨A',q.tb,q.oT,va'⟩:MA) ({g.m j with acc:=[]}:Mm),GH,GL,[(b1,J ((g.enc j).map Z++sp1) 5),(b0,J ((dO (g.enc 0) (g.enc j)).map Z++sp0) 5)],D] [0,2,1,4,5,3,6] U h) ?_
 refine⟨U,⟨b,b2,lb,mp,fa,fc,fs,cap,asked,done,(⟨A',q.tb,q.oT,va'⟩:MA),({g.m j with acc:=[]}:Mm),pr,G0,ms,GL,l,c,pv,wv,tab,((b1,J ((g.enc j).map Z++sp1) 5)::(b0,J ((dO (g.enc 0) (g.enc j)).map Z++sp0) 5)::(GH++D))⟩,j,⟨aR,hq2,U,hH42,hprg,Hw hL (λx hx=>(.tail _ (.tail _ (bL _ (hx))))),hpk,⟨(.tail _ (.tail _ (bL _ (hfi.1)))),hfi.2⟩,hpa.more (λx hx=>(.tail _ (.tail _ (bL _ (hx))))),htm,?_⟩,⟨U,U,U,hpm,U,U,U,λx hx=>(.tail _ (.tail _ (bL _ (hx))))⟩,U,U,hbt.symm,hjn,by unfold Db.H Db.cs;dsimp only;rw[hpm]⟩
 obtain⟨GP,q0,q1⟩:=hpl
 exact⟨GP,q0,λx hx=>(.tail _ (.tail _ (bL _ (q1 x hx))))⟩
def Rt(d:Db)(g:Gx)(hg:g.Ok)(k n:Nat)(hf:d.Fine g k n)(at_:Nat)(hat:at_<900000)(w:AI)(hst:St w ((d.H g k).map (·.1)) (d.H g k) w):aG prog 51 [P_ d.b,.int .u64 at_] w ((d.H g k).map (·.1)) (λv H=>v= .tuple #[]/\∃e,Bn g d e at_ (max n (at_+1)) (oM d.ms k at_) H):=by
 obtain⟨hd,hk,hn,hdn⟩:=hf
 have hml:d.ms.length<=256:=by have:=hd.line.len;have:=(capT_ok d.cap).2;omega
 obtain⟨hm0,hm1,hm2⟩:=hd.line.more I
 refine cG func51 hst ?_
 refine mJ (σ:=Db×Nat) [4,5,6,7,8,9,10,11,12,13,14,15,16,17,18,19,20,21,22,23,24,25,26,27,28,29,30,31,32,33] (λ_=>[]) (λs=>s.1.H g s.2) (λs=>s.1.Ok g s.2 n/\d.To s.1/\s.1.done=d.done/\s.2<n/\s.2<=at_/\(at_:Int)-s.2=oM d.ms k at_) ?_ ?_
 ·refine ZBV ?_
  refine Yl ?_
  refine ZBI ?_
  refine RX (eN K_ U (λw hw=>Tm.Before_fn d.lb (capT d.cap) d.ms hd.line.rise I (at_:Int) w (hd.line.line.lineW hw (λx hx=> .tail _ (.tail _ (bL _ (bL _ (lJ _ hx)))))) (hd.line.dat.datW hw (λx hx=> .tail _ (.tail _ (bL _ (bL _ (bL _ (hx))))))))) U ?_
  rintro _ _ ⟨G0,⟨dv,rfl,hV0⟩,rfl⟩
  obtain⟨a13,c0,rfl,_,_⟩:=hV0.slice
  refine eA (H':=Db.H ({d with D:=G0++d.D}:Db) g k) (λ_ h=>St.fl [G0,[_,_],hM d.q d.m,d.GH,d.GL,d.D] [1,2,3,4,0,5] U h) ?_
  have hD13:Db.Ok ({d with D:=G0++d.D}:Db) g k n:=⟨hd.le,hd.q,hd.m,hd.hist,hd.ring,Hw hd.line (λx hx=>bL _ hx),hd.pk,⟨bL _ hd.first.1,hd.first.2⟩,hd.past.more (λx hx=>bL _ hx),hd.tms,(by obtain⟨GP,h8,h9⟩:=hd.plan;exact⟨GP,h8,λx hx=>bL _ (h9 x hx)⟩)⟩
  have hT13:d.To ({d with D:=G0++d.D}:Db):=⟨rfl,rfl,rfl,rfl,rfl,rfl,rfl,λx hx=>bL _ hx⟩
  refine ZE1 ?_
  refine mJ (σ:=Unit) [17,18,19,20,21,22,23,24,25,26,27,28,29,30] (λ_=>[(30,.bool (decide ((at_:Int)<(k:Int))||decide ((k:Int)<(Tm.befM d.ms (at_:Int)).t)))]) (λ_=>Db.H ({d with D:=G0++d.D}:Db) g k) (λ_=>True) ?_ ?_
  ·refine ZBV ?_
   refine Yl ?_
   refine ZBI ?_
   refine KL (λq0 z0=>?_) (λq0 z0=>?_)
   ·refine ZE1 ?_
    have q1:=df q0
    exact⟨(),trivial,.cons (by rw[am q1];rfl) .nil,bB,λ_ h=>h⟩
   refine ZBZ ?_
   refine Yl ?_
   refine ZA2 ?_
   have q1:=dk q0
   exact⟨(),trivial,.cons (by rw[cu q1];rfl) .nil,bB,λ_ h=>h⟩
  rintro _ y1 _
  refine KC (λq0 z0=>?_) (λq0 z0=>?_)
  ·refine ZA2 ?_
   refine RX (iB K_ U (kK (aCy ({d with D:=G0++d.D}:Db) g hg k n hD13 hk I at_))) U ?_
   rintro _ _ ⟨rfl,e,j,he,hT,hdn2,hms2,hj,hjn,rfl⟩
   refine ZBI ?_
   have hb9:=Tm.befM_le hd.line.rise (x:=(at_:Int)) (Tm.bef_nn hd.line.rise hm0 hm1 I)
   have hj9:(j:Int)=(Tm.befM d.ms (at_:Int)).t:=hj
   have q1:=q0
   rw[fm,ak,ak]at q1
   exact⟨(e,j),⟨he,hT13.trans hT,hdn2,hjn,by show j<=at_;omega,by show(at_:Int)-j=oM d.ms k at_;unfold oM;rw[ag I,hj9]⟩,.nil,bB,λ_ h=>h⟩
  refine ZBI ?_
  have q1:=q0
  rw[ib,ai,ai]at q1
  exact⟨(({d with D:=G0++d.D}:Db),k),⟨hD13,hT13,U,hk,by show k<=at_;omega,by show(at_:Int)-k=oM d.ms k at_;unfold oM;rw[ae I]⟩,.nil,bB,λ_ h=>h⟩
 rintro⟨e1,j⟩ y2 ⟨he1,hT0,hdn1,hjn,hja,hjc⟩
 dsimp only at he1 hT0 hdn1 hjn hja hjc⊢
 refine ZBI ?_
 refine dK (σ:=Db×Nat) [34,35,36,37,38,39,40,41] (λ_=>[]) (λs=>s.1.H g s.2) (λs=>s.1.Ok g s.2 (max n (s.2+1))/\d.To s.1/\s.1.done=d.done+(s.2-j)/\j<=s.2/\s.2<=at_) (λs=>at_-s.2) (e1,j) ?_ ?_ ?_ ?_
 ·exact⟨by rw[go (by show j+1<=n;omega)];exact he1,hT0,by rw[hdn1];show d.done=d.done+((j:Int)-j);omega,be _,hja⟩
 ·exact .nil
 ·exact λ_ h=>h
 rintro⟨e,i⟩ y3 ⟨he,hT,hdn3,hji,hia⟩
 dsimp only at he hT hdn3 hji hia⊢
 refine aH ?_
 refine W (aW (v:= .int .u64 (i:Nat)) U U (by rw[<-hT.b];exact bT (b:=e.b) (l:=Db.cs e g i) (.head _) rfl)) U (ZA2 ?_)
 refine KC (λq0 z0=>?_) (λq0 z0=>?_)
 ·refine ZBZ ?_
  refine RX (iB K_ U (λw hw=>(by have h9:=forward_fn e g hg i (max n (i+1)) he I I ⟨aR,aR⟩ w (St.lentA hw);rw[hT.b]at h9;exact h9))) U ?_
  rintro _ _ ⟨e2,va,GA,he2,hT1,hd2,rfl,hV,hGA,rfl⟩
  refine ZBI ?_
  exact⟨(e2,i+1),⟨(show max (max n (i+1)) (i+2)=max n (i+1+1)by omega)▸he2,hT.trans hT1,by show e2.done=d.done+(((i+1:Nat):Int)-j);omega,by show j<=i+1;omega,by show i+1<=at_;omega⟩,by show at_-(i+1)<at_-i;omega,.nil,bB,λ_ h=>h⟩
 refine ZBI ?_
 obtain rfl:i=at_:=by omega
 exact EN aJ ⟨U,e,he,hT,by rw[hdn3,hjc],U⟩
def W4(d:Db)(g:Gx)(hg:g.Ok)(k n:Nat)(hf:d.Fine g k n)(N:Nat)(hN:N<18446744073709551616)(w:AI)(hst:St w ((d.H g k).map (·.1)) (d.H g k) w):aG prog 15 [P_ d.b,.int .u64 N] w ((d.H g k).map (·.1)) (λv H=>v= .tuple #[.agg (cSt ((k+(min N 5000):Nat):Int) 0 0 false).toArray,.int .i64 0]/\∃e,Bn g d e (k+(min N 5000)) (max n (k+(min N 5000)+1)) (((min N 5000):Nat):Int) H):=by
 obtain⟨hd,hk,hn,hdn⟩:=hf
 refine cG func15 hst ?_
 refine ZAm ?_
 refine lB λb0=>?_
 refine aH ?_
 refine Jy ?_
 refine ZE1 ?_
 refine RW (v:=(.int .u64 ((min N 5000:Nat):Int))) (tD U U) U (M _ I) (ZA2 ?_)
 refine dK (σ:=Db×Nat) [12,13,14,15,16] (λs=>[(12,.int .u64 s.2)]) (λs=>(b0,J (cSt 0 0 0 false) 38)::s.1.H g (k+s.2)) (λs=>s.1.Ok g (k+s.2) (max n (k+s.2+1))/\d.To s.1/\s.1.done=d.done+s.2/\s.2<=min N 5000) (λs=>min N 5000-s.2) (d,0) ?_ ?_ ?_ ?_
 ·exact⟨O3,.refl d,M3,aq _⟩
 ·exact .cons U .nil
 ·exact λ_ h=>h
 rintro⟨e,i⟩ y4 ⟨he,hT,hdn3,hi⟩
 dsimp only at he hT hdn3 hi⊢
 refine ZBV ?_
 refine KC (λq0 z0=>?_) (λq0 z0=>?_)
 ·refine ZBV ?_
  refine RX (cB (F:=[(b0,J (cSt 0 0 0 false) 38)]) (A:=Db.H e g (k+i)) K_ U (λw hw=>N8)) U ?_
  rintro _ _ ⟨_,⟨e2,va,GA,he2,hT0,hd2,rfl,hV,hGA,rfl⟩,rfl⟩
  rw[cw,cg]
  refine ZAm ?_
  refine RW (v:=(.int .u64 ((i+1:Nat):Int))) U U (M _ ((qB I I).trans I)) (ZAm ?_)
  exact⟨(e2,i+1),⟨(show max (max n (k+i+1)) (k+i+2)=max n (k+(i+1)+1)by omega)▸he2,hT.trans hT0,Xx,by show i+1<=min N 5000;omega⟩,aEs,.cons U .nil,bB,λ_ h=>h⟩
 refine ZBZ ?_
 refine W (cZ K_ U (λw hw=>(by have h9:=Gw e.b ((k+i:Nat):Int) 0 w (bT (b:=e.b) (l:=Db.cs e g (k+i)) (.tail _ (.head _)) rfl w hw);rw[hT.b]at h9;exact h9))) U (ZAm ?_)
 refine W (bC (l':=cSt ((k+i:Nat):Int) 0 0 false) 0) U (nI ?_)
 refine ZA2 ?_
 obtain rfl:i=min N 5000:=by omega
 exact iM (λw hw=>fN U U U (aI (b:=b0) (l:=cSt ((k+min N 5000:Nat):Int) 0 0 false) (.head _) w hw) U) (.cons _ aJ) ⟨U,e,he,hT,hdn3,U⟩
def aLc(d:Db)(g:Gx)(n:Nat)(hf:d.Fine g 0 n)(N:Nat)(h0:0<N)(w:AI)(hst:St w ((d.H g 0).map (·.1)) (d.H g 0) w):aG prog 17 [P_ d.b,.int .u64 N] w ((d.H g 0).map (·.1)) (λv H=>v= .tuple #[.agg (cSt ((0:Nat):Int) 4 0 false).toArray,.int .i64 0]/\H=d.H g 0):=by
 obtain⟨hd,hk,hn,hdn⟩:=hf
 refine cG func17 hst ?_
 refine ZAm ?_
 refine lB λb0=>?_
 refine ZCy ?_
 refine aO K_ (λw hw=>ready_fn d.b d.q.A.mb w (bT (b:=d.b) (l:=Db.cs d g 0) (.tail _ (.head _)) U w hw)) ?_
 refine bW ?_
 refine W (aW U U (bT (b:=d.b) (l:=Db.cs d g 0) (.tail _ (.head _)) pE)) U (jN ?_)
 refine ZAm ?_
 refine wP ?_
 refine ZCy ?_
 refine aO K_ (λw hw=>Gw d.b ((0:Nat):Int) 4 w (bT (b:=d.b) (l:=Db.cs d g (0)) (.tail _ (.head _)) U w hw)) ?_
 refine ZAm ?_
 refine W (bC (l':=cSt ((0:Nat):Int) 4 0 false) 0) U (nI ?_)
 refine ZA2 ?_
 exact iM (λw hw=>fN U U U (aI (b:=b0) (l:=cSt ((0:Nat):Int) 4 0 false) (.head _) w hw) U) (.cons _ aJ) ⟨U,U⟩
def aDW(d:Db)(g:Gx)(hg:g.Ok)(k n:Nat)(hf:d.Fine g k n)(N:Nat)(h0:0<k\/N=0)(hN:N<18446744073709551616)(w:AI)(hst:St w ((d.H g k).map (·.1)) (d.H g k) w):aG prog 17 [P_ d.b,.int .u64 N] w ((d.H g k).map (·.1)) (λv H=>v= .tuple #[.agg (cSt (((k-min N k):Nat):Int) 0 0 false).toArray,.int .i64 0]/\∃e,Bn g d e (k-min N k) (max n ((k-min N k)+1)) (oM d.ms k (k-min N k)) H):=by
 obtain⟨hd,hk,hn,hdn⟩:=hf
 refine cG func17 hst ?_
 refine ZAm ?_
 refine lB λb0=>?_
 refine ZAm ?_
 refine mJ (σ:=Unit) [6,7,8,9,10,11,12,13,14,15,16,17,18,19,20] (λ_=>[]) (λ_=>(b0,J (cSt 0 0 0 false) 38)::d.H g k) (λ_=>True) ?_ ?_
 ·refine ZBZ ?_
  refine Jy ?_
  refine ZBV ?_
  rcases d6 k with hz|hz
  ·refine ZBZ ?_
   refine Nn ?_
   refine fX true U U U (beq_iff_eq.2 I) ?_
   refine ZAm ?_
   refine qW ?_
   refine ZBV ?_
   exact⟨(),trivial,.nil,bB,λ_ h=>h⟩
  refine ZBZ ?_
  refine Nn ?_
  refine jP ?_
  refine ZE1 ?_
  exact⟨(),trivial,.nil,bB,λ_ h=>h⟩
 rintro _ y0 _
 refine ZBI ?_
 refine DR [5,6,7,8,9,10] (bQ [0,2,4,6,8,10,12,14,16,18,20,22,25]) ?_
 refine ZBZ ?_
 refine DL U U U (dQ (b:=d.b) (l:=Db.cs d g k) (.tail _ (.head _)) pE) U (ZBZ ?_)
 refine DL U U U (dQ (b:=d.b) (l:=Db.cs d g k) (.tail _ (.head _)) pE) U (DW (v:=(.int .u64 ((min N k:Nat):Int))) U (tD U U) U (M _ I) (DW (v:=(.int .u64 (((k-min N k):Nat):Int))) U U U (M _ ((qB I I).trans I)) (DX U (cB (F:=[(b0,J (cSt 0 0 0 false) 38)]) (A:=Db.H d g k) K_ U (dG (Rt d g hg k n ⟨hd,hk,hn,hdn⟩ (k-min N k) I))) U aY ?_)))
 rintro _ _ ⟨_,⟨rfl,e,he,hT,hde,rfl⟩,rfl⟩
 refine lE (H':=(b0,J (cSt 0 0 0 false) 38)::e.H g (k-min N k)) (λ_ h=>h) ?_
 refine ZBZ ?_
 refine W (cZ K_ U (λw hw=>(by have h9:=Gw e.b (((k-min N k):Nat):Int) 0 w (bT (b:=e.b) (l:=Db.cs e g ((k-min N k))) (.tail _ (.head _)) rfl w hw);rw[hT.b]at h9;exact h9))) U (ZAm ?_)
 refine W (bC (l':=cSt (((k-min N k):Nat):Int) 0 0 false) 0) U (nI ?_)
 refine ZA2 ?_
 exact iM (λw hw=>fN U U U (aI (b:=b0) (l:=cSt (((k-min N k):Nat):Int) 0 0 false) (.head _) w hw) U) (.cons _ aJ) ⟨U,e,he,hT,hde,U⟩
def aEe(d:Db)(g:Gx)(hg:g.Ok)(k n:Nat)(hf:d.Fine g k n)(N:Nat)(hN:N<18446744073709551616)(w:AI)(hst:St w ((d.H g k).map (·.1)) (d.H g k) w):aG prog 19 [P_ d.b,.int .u64 N] w ((d.H g k).map (·.1)) (λv H=>v= .tuple #[.agg (cSt (((min N (n-1+5000)):Nat):Int) 0 0 false).toArray,.int .i64 0]/\∃e,Bn g d e (min N (n-1+5000)) (max n ((min N (n-1+5000))+1)) (oM d.ms k (min N (n-1+5000))) H):=by
 obtain⟨hd,hk,hn,hdn⟩:=hf
 have hml:d.ms.length<=256:=by have:=hd.line.len;have:=(capT_ok d.cap).2;omega
 obtain⟨hm0,hm1,hm2⟩:=hd.line.more I
 refine cG func19 hst ?_
 refine ZAm ?_
 refine lB λb0=>?_
 refine aH ?_
 refine Jy ?_
 refine bW ?_
 refine Nn ?_
 refine W (cZ K_ U (λw hw=>(by have h9:=Tm.last_fn d.lb (capT d.cap) d.ms I w (hd.line.line.lineW hw (λx hx=> .tail _ (.tail _ (.tail _ (bL _ (bL _ (lJ _ hx)))))));rw[hm2]at h9;exact h9))) U (iT ?_)
 refine RW (v:=(.int .u64 ((n-1+5000:Nat):Int))) U U (M _ ((qB I I).trans I)) (RW (v:=(.int .u64 (((min N (n-1+5000)):Nat):Int))) (tD U U) U (M _ I) (RX (cB (F:=[(b0,J (cSt 0 0 0 false) 38)]) (A:=Db.H d g k) K_ U (dG (Rt d g hg k n ⟨hd,hk,hn,hdn⟩ (min N (n-1+5000)) I))) U ?_))
 rintro _ _ ⟨_,⟨rfl,e,he,hT,hde,rfl⟩,rfl⟩
 refine eA (H':=(b0,J (cSt 0 0 0 false) 38)::e.H g (min N (n-1+5000))) (λ_ h=>h) ?_
 refine ZBZ ?_
 refine W (cZ K_ U (λw hw=>(by have h9:=Gw e.b (((min N (n-1+5000)):Nat):Int) 0 w (bT (b:=e.b) (l:=Db.cs e g ((min N (n-1+5000)))) (.tail _ (.head _)) rfl w hw);rw[hT.b]at h9;exact h9))) U (ZAm ?_)
 refine W (bC (l':=cSt (((min N (n-1+5000)):Nat):Int) 0 0 false) 0) U (nI ?_)
 refine ZA2 ?_
 exact iM (λw hw=>fN U U U (aI (b:=b0) (l:=cSt (((min N (n-1+5000)):Nat):Int) 0 0 false) (.head _) w hw) U) (.cons _ aJ) ⟨U,e,he,hT,hde,U⟩
def aHo{q:MA}{m:Mm}(h:m.Wf){w0 w:AI}{ms:AE}{H:aF}(hw:St w0 ms H w)(hs:∀x∈hM q m,x∈H):zK w (pM q) (lkOf m).pk:=λw' h' x hx=>
 C0 q.A q.va m h w' (bU (Cj hw hs).1 aP w' h') (bU (Cj hw hs).2.1 aP w' h') (bU (Cj hw hs).2.2.1 aP w' h') (bU (Cj hw hs).2.2.2 aP w' h') x hx
def aNh(d:Db)(g:Gx)(hg:g.Ok)(k n:Nat)(hd:d.Ok g k n)(x:Wt)(hx:x.l.length<=1000000)(a:Ac)(ha:(0<=a.addr/\a.addr<65536)/\0<=a.val/\a.val<256){w0:AI}{bs:AE}{H9:aF}(w:AI)(hst:St w0 bs H9 w)(hs:∀x∈d.H g k,x∈H9)(hN:eX w iJ x.a x.l):aG prog 146 [P_ d.b,.agg (cWt x).toArray,.agg (cAc a).toArray] w [] (V_ (.tuple #[.bool (matV (lkOf d.m) x a).1,.bool (matV (lkOf d.m) x a).2])):=by
 have q1:=bT (b:=d.b) (l:=d.cs g k) (off:=1) (hs _ (.head _)) rfl w hst
 have hiv:=hd.m.inv (hg.inv k)
 have hsM:∀x∈hM d.q d.m,x∈H9:=λx hx=>hs x (.tail _ (.tail _ (lJ _ hx)))
 have hr:=Cj hst hsM
 refine aT func146 ?_
 refine Tx ?_
 refine ZBF λb0=>?_
 refine RX (eE (l:=cAc a) U U) U ?_
 rintro _ _ ⟨b1,rfl,rfl⟩
 refine ZA2 ?_
 refine mJ (σ:=Unit) [8,9,10,11,12,13,14,15,16,17,18,19,20,21,22,23,24] (λ_=>[(8,.bool (kdB x a))]) (λ_=>[(b1,J (cAc a) 298),(b0,J (cWt x) 71)]) (λ_=>True) ?_ ?_
 ·refine ZBZ ?_
  refine KL (λq0 z0=>?_) (λq0 z0=>?_)
  ·refine ZA2 ?_
   refine KL (λqx1 qx1n=>?_) (λqx1 qx1n=>?_)
   ·refine cL ?_
    exact⟨(),trivial,.cons (M Value.bool aEB) .nil,bB,λ_ h=>h⟩
   refine ZA2 ?_
   refine KL (λq2 z2=>?_) (λq2 z2=>?_)
   ·exact Qh
   exact Qh
  refine ZCy ?_
  refine KL (λqx1 qx1n=>?_) (λqx1 qx1n=>?_)
  ·exact Qh
  exact Qh
 rintro _ y1 _
 refine ZBV ?_
 refine KL (λq0 z0=>?_) (λq0 z0=>?_)
 ·refine Uo ?_
  exact aU (λ_ _=>dX U U) ⟨U,L4⟩
 refine aH ?_
 refine KL (λqx1 qx1n=>?_) (λqx1 qx1n=>?_)
 ·refine jJ ?_
  exact aU (λ_ _=>dX U U) ⟨U,L4⟩
 refine ZCy ?_
 refine KC (λq2 z2=>?_) (λq2 z2=>?_)
 ·refine aH ?_
  exact aU (λ_ _=>dX U U) ⟨U,L4⟩
 refine ZAm ?_
 refine DR [2,3,4,5,6,7,8,9,10,11,12,13,14,15,16,17,18,19,20,21,22,23,24,25,26,27,28] (bQ [0,2,4,6,8,10,16,18,20,22,24,26,28,30,32,34,36,38,40,42,46,48,50,52,54,13,14,45,56,59,60,62,64,66]) ?_
 refine Tw ?_
 refine wK ?_
 refine wK ?_
 refine Tw ?_
 refine Tw ?_
 refine DW (v:=(PV (pM d.q))) U U U Gg (DZ U (cZ K_ U (λw hw=>Tp d.q.A d.q.va d.m hiv.wf.ln w (bU hr.1 aP w hw))) U gV (ZBI ?_))
 refine DZ U (cZ K_ U (λw hw=>K0 d.q.A d.q.va d.m hiv.wf w (bU hr.1 aP w hw) a.addr ha.1)) U gV (DY U (qJ (l:=cE (Ph (lkOf d.m) a) (PV (pM d.q))) (z:=[.int .u8 0,.int .u8 0,.int .u8 0,.int .u8 0,.int .u8 0,.int .u8 0,.int .u8 0,.int .u8 0,.int .u16 0,.int .u16 0,.int .i64 0,.int .i64 0,.int .i64 0,.int .i64 0,Value.nilFunc]) (ps:=[(0,.agg (cR d.m.cpu.r).toArray),(1,.int .i64 a.addr),(2,.int .i64 a.val),(3,.int .i64 a.kind),(4,.int .i64 (Gn d.m a.addr)),(5,PV (pM d.q))]) U U U aN) U (DZ U (cZ K_ U (λw hw=>aRp (Ph (lkOf d.m) a) (pM d.q) hiv.rg (λy _=>Ja hiv.wf y) x.a x.c x.l hx w ((aHo hiv.wf hst hsM).later0 hw) (hN.later0 hw))) U aY (aH ?_)))
 exact aU (λ_ _=>dX U U) ⟨U,(by have e9:matV (lkOf d.m) x a=Hg (Ph (lkOf d.m) a) x.l:=ag ⟨by simp_all,aR,aR⟩;rw[e9])⟩
def aQN{w0 w w':AI}{bs:AE}{H9 H:aF}(h:St w0 bs H9 w)(h':St w [] H w'):St w0 bs H9 w':=
 St.call (F:=[]) (F':=[]) (R:=H9) (ms2:=[]) h (λb hb=>by cases hb) (h'.sub (ed _))
def aQA{k:Lk}{p:Bp}{l:List Bp}{i:Nat}(h:ptB k p=false):uZ k (p::l) i=uZ k l (i+1):=by rw[uZ,ae Ft]
def aF2{k:Lk}{p:Bp}{l:List Bp}{i:Nat}(h:ptB k p=true):uZ k (p::l) i=some i:=by rw[uZ,ag h]
def aJf{k:Lk}{x:Wt}{a:Ac}{l:List Ac}(h:(matV k x a).1=false):wF k x (a::l)=wF k x l:=by rw[wF,ae Ft]
def aKw{k:Lk}{x:Wt}{a:Ac}{l:List Ac}(h:(matV k x a).1=true):wF k x (a::l)=some (matV k x a).2:=by rw[wF,ag h]
def aN8{k:Lk}{acc:List Ac}{x:Wt}{l:List Wt}{i:Nat}(h:wF k x acc=none):wA k acc (x::l) i=wA k acc l (i+1):=by rw[wA,h]
def aHl{k:Lk}{acc:List Ac}{x:Wt}{l:List Wt}{i:Nat}{b:Bool}(h:wF k x acc=some b):wA k acc (x::l) i=some (i,b):=by rw[wA,h]
def aMo(d:Db)(g:Gx)(hg:g.Ok)(k n:Nat)(hd:d.Ok g k n)(pa wa aa:AC)(pc wc ac:Nat)(ps:List Bp)(ws:List Wt)(acc:List Ac)(hpl:ps.length<=1000)(hwl:ws.length<=1000)(hal:acc.length<=1000000)(hpv:d.pv= .slice pa ps.length pc)(hwv:d.wv= .slice wa ws.length wc)(hac:∀a∈acc,(0<=a.addr/\a.addr<65536)/\0<=a.val/\a.val<256){w0:AI}{bs:AE}{H9:aF}(w:AI)(hst:St w0 bs H9 w)(hs:∀x∈d.H g k,x∈H9)(hP:eX w cBp pa ps)(hW:eX w cWt wa ws)(hC:∀x∈ws,x.l.length<=1000000/\eX w iJ x.a x.l)(hA:eX w cAc aa acc):aG prog 109 [P_ d.b,.slice aa acc.length ac] w [] (V_ (.agg (cSt (k:Nat) (vJ (lkOf d.m) acc ps ws).1 (vJ (lkOf d.m) acc ps ws).2.1 (vJ (lkOf d.m) acc ps ws).2.2).toArray)):=by
 have q1:=bT (b:=d.b) (l:=d.cs g k) (off:=1) (hs _ (.head _)) rfl w hst
 have q3:=bT (b:=d.b) (l:=d.cs g k) (off:=3) (hs _ (.head _)) rfl w hst
 have q7:=bT (b:=d.b) (l:=d.cs g k) (off:=7) (hs _ (.head _)) rfl w hst
 have q8:=bT (b:=d.b) (l:=d.cs g k) (off:=8) (hs _ (.head _)) rfl w hst
 rw[hpv]at q7
 rw[hwv]at q8
 have hiv:=hd.m.inv (hg.inv k)
 have hpc:=hiv.rg.pc
 have hsM:∀x∈hM d.q d.m,x∈H9:=λx hx=>hs x (.tail _ (.tail _ (lJ _ hx)))
 have hr:=Cj hst hsM
 refine aT func109 ?_
 refine ZAm ?_
 refine lB λb0=>?_
 refine aH ?_
 refine W (aW U U (dN q1 aP)) U (aO K_ (λw hw=>Tp d.q.A d.q.va d.m hiv.wf.ln w (bU hr.1 aP w hw)) ?_)
 refine ZBI ?_
 refine RY (Ov U U U U U) U (ZE1 ?_)
 refine W (aW U U (dN q7 aP)) U (mV ?_)
 refine dK (σ:=Nat) [6,7,26,27,28,29,30,31,32,33,34,35,36,37,38,39,40,41,42,43,44,45,46,47,48,49,50,51,52,53,54,55,56,57] (λi=>[(26,.int .i64 i)]) (λ_=>[(b0,J (cSt 0 0 0 false) 38)]) (λi=>i<=ps.length/\uZ (lkOf d.m) ps 0=uZ (lkOf d.m) (ps.drop i) i) (λi=>ps.length-i) 0 ?_ ?_ ?_ ?_
 ·exact⟨aq _,U⟩
 ·exact .cons U .nil
 ·exact λ_ h=>h
 rintro i y3 ⟨hi,hpt⟩
 dsimp only at hi hpt⊢
 refine ZBV ?_
 refine KC (λq0 z0=>?_) (λq0 z0=>?_)
 ·refine ZBZ ?_
  obtain⟨x,hx⟩:∃x,ps[i]? =some x:=⟨_,ap I⟩
  obtain⟨bp,op,rfl,hrP⟩:=hP.row (i:=i) I
  refine ZAm ?_
  refine Py ?_
  refine W (bJ U U U (λw hw=>(bU hrP aP w hw).part aM0 hx 0 2 (v:=cBp x) U)) U (jT λb1=>?_)
  refine ZBI ?_
  refine W (bC (l':=cBp x) 0) U (eC ?_)
  refine ZBI ?_
  refine mJ (σ:=Unit) [31,32,33,34,35,36,37,38,39,40,41,42,43,44,45,46,47,48,49,50] (λ_=>[(50,.bool (ptB (lkOf d.m) x))]) (λ_=>[(b1,J (cBp x) 67),(b0,J (cSt 0 0 0 false) 38)]) (λ_=>True) ?_ ?_
  ·refine DR [2,11,12,13,14,15,16] (bQ [0,2,4,6,8,10,12,14,16,18,20,22,24,26,28,30,33,34,36,38]) ?_
   refine ZBZ ?_
   refine KE (λqx1 qx1n=>?_) (λqx1 qx1n=>?_)
   ·refine ZA2 ?_
    refine KE (λq2 z2=>?_) (λq2 z2=>?_)
    ·refine ZCy ?_
     refine Hy U U U ?_
     exact ZEE
    refine Tw ?_
    refine ZBI ?_
    refine DZ U (cZ K_ U (λw hw=>K0 d.q.A d.q.va d.m hiv.wf w (bU hr.1 aP w hw) d.m.cpu.r.pc hpc)) U gV (ZBZ ?_)
    exact⟨(),trivial,.cons (M Value.bool (by show _=decide (x.at_=d.m.cpu.r.pc/\(x.bank<0\/x.bank=(if 32768<=d.m.cpu.r.pc then 0 else bankB d.m.cpu.r.pc d.m.bk)));generalize (if 32768<=d.m.cpu.r.pc then 0 else bankB d.m.cpu.r.pc d.m.bk)=y9;rw[ep,cj,decide_eq_true_iff];omega)) .nil,bB,λ_ h=>h⟩
   refine iT ?_
   refine Hy U U U ?_
   exact ZEE
  rintro _ y5 _
  refine KC (λqx1 qx1n=>?_) (λqx1 qx1n=>?_)
  ·refine ZBV ?_
   refine W (aW U U (dN q3 aP)) U (ZBI ?_)
   refine RS ?_
   refine W (bC (l':=cSt (k:Nat) 1 (i:Nat) false) 1) U (jE ?_)
   exact aU (λw hw=>eL U U U (aI (b:=b0) (l:=cSt (k:Nat) 1 (i:Nat) false) aE w hw)) ⟨U,by rw[aOO (hpt.trans (by rw[Cx hx,aF2 (by simpa using qx1)]))]⟩
  refine pT ?_
  exact⟨i+1,⟨aR,hpt.trans (by rw[Cx hx,aQA (by simpa using qx1)])⟩,aR,.cons U .nil,bB,λ_ h=>h.sub (.cons _ aJ)⟩
 refine ZA2 ?_
 obtain rfl:i=ps.length:=by omega
 rw[gi]at hpt
 refine ZBZ ?_
 refine W (aW U U (dN q8 aP)) U (mV ?_)
 refine dK (σ:=Nat) [8,9,11,12,13,63,64,65,66,67,68,69,70,71,72,73,74,75,76,77,78,79,80,81,82,83,84,85,86,87,88,89,90] (λj=>[(63,.int .i64 j)]) (λ_=>[(b0,J (cSt 0 0 0 false) 38)]) (λj=>j<=ws.length/\wA (lkOf d.m) acc ws 0=wA (lkOf d.m) acc (ws.drop j) j) (λj=>ws.length-j) 0 ?_ ?_ ?_ ?_
 ·exact⟨aq _,U⟩
 ·exact .cons U .nil
 ·exact λ_ h=>h
 rintro j y9 ⟨hj,hwt⟩
 dsimp only at hj hwt⊢
 refine ZBV ?_
 refine KC (λqx1 qx1n=>?_) (λqx1 qx1n=>?_)
 ·refine ZBZ ?_
  obtain⟨x,hx⟩:∃x,ws[j]? =some x:=⟨_,ap I⟩
  obtain⟨bw,ow,rfl,hrW⟩:=hW.row (i:=j) I
  have hxm:=cr hx
  refine ZAm ?_
  refine RY (fV (s:=5) j U U U U I) U (W (bJ U U U (λw hw=>(bU hrW aP w hw).part aMB hx 0 5 (v:=cWt x) U)) U (jT λb1=>?_))
  refine ZBI ?_
  refine W (bC (l':=cWt x) 0) U (eC ?_)
  refine ZBZ ?_
  refine mV ?_
  refine dK (σ:=Nat) [11,12,13,70,71,72,73,74,75,76,77,78,79,80,81,82,83,84,85,86,87,88,89] (λm=>[(70,.int .i64 m)]) (λ_=>[(b1,J (cWt x) 71),(b0,J (cSt 0 0 0 false) 38)]) (λm=>m<=acc.length/\wF (lkOf d.m) x acc=wF (lkOf d.m) x (acc.drop m)) (λm=>acc.length-m) 0 ?_ ?_ ?_ ?_
  ·exact⟨aq _,U⟩
  ·exact .cons U .nil
  ·exact λ_ h=>h
  rintro m y12 ⟨hm,hai⟩
  dsimp only at hm hai⊢
  refine ZBV ?_
  refine KC (λq2 z2=>?_) (λq2 z2=>?_)
  ·refine ZBZ ?_
   obtain⟨a,ha⟩:∃a,acc[m]? =some a:=⟨_,ap I⟩
   obtain⟨ba,oa,rfl,hrA⟩:=hA.row (i:=m) I
   refine ZBI ?_
   refine RY (fV (s:=3) m U U U U I) U (W (bJ U U U (λw hw=>(bU hrA aP w hw).part aPE ha 0 3 (v:=cAc a) U)) U (ZB9 ?_))
   rintro _ _ ⟨b2,rfl,rfl⟩
   refine W (bC (l':=cAc a) 0) U (eC ?_)
   refine ZBZ ?_
   refine oG ?_
   refine W (bJ U U U (by first|exact aI aE|exact sP aE _ 3 rfl)) U (aO K_ (λw hw=>aNh d g hg k n hd x (hC x hxm).1 a (hac a (cr ha)) w (aQN hst hw) (λy hy=>hs y hy) ((hC x hxm).2.later0 hw)) ?_)
   refine cL ?_
   refine KC (λqx3 qx3n=>?_) (λqx3 qx3n=>?_)
   ·refine ZBV ?_
    refine W (aW U U (dN q3 aP)) U (ZAm ?_)
    refine RS ?_
    refine W (bC (l':=cSt (k:Nat) 2 (j:Nat) (matV (lkOf d.m) x a).2) 2) U (jE ?_)
    exact aU (λw hw=>eL U U U (aI (b:=b0) (l:=cSt (k:Nat) 2 (j:Nat) (matV (lkOf d.m) x a).2) aE w hw)) ⟨U,by rw[aGt hpt (hwt.trans (by rw[Cx hx,aHl (hai.trans (by rw[Cx ha,aKw qx3]))]))]⟩
   refine ZAm ?_
   refine RW (v:=(.int .i64 ((m+1:Nat):Int))) U U (M _ (eU I)) (ZAm ?_)
   exact⟨m+1,⟨aR,hai.trans (by rw[Cx ha,aJf qx3])⟩,aR,.cons U .nil,bB,λ_ h=>h.sub (.cons _ aJ)⟩
  refine ZBI ?_
  obtain rfl:m=acc.length:=by omega
  rw[gi]at hai
  refine ZBI ?_
  refine RW (v:=(.int .i64 ((j+1:Nat):Int))) U U (M _ (eU I)) (ZAm ?_)
  exact⟨j+1,⟨aR,hwt.trans (by rw[Cx hx,aN8 hai])⟩,aR,.cons U .nil,bB,λ_ h=>h.sub (.cons _ aJ)⟩
 refine ZAm ?_
 obtain rfl:j=ws.length:=by omega
 refine ZBZ ?_
 refine W (aW U U (dN q3 aP)) U (RS ?_)
 refine W (bC (l':=cSt (k:Nat) 0 0 false) 0) U (jE ?_)
 exact aU (λw hw=>eL U U U (aI (b:=b0) (l:=cSt (k:Nat) 0 0 false) aE w hw)) ⟨U,by rw[aMK hpt (hwt.trans (by rw[gi];rfl))]⟩
structure Db.Has(d:Db)(ps:List Bp)(ws:List Wt):Prop where
 pl:ps.length<=1000
 wl:ws.length<=1000
 p:∃pa pc,d.pv= .slice pa ps.length pc/\∀(w0 w:AI) (bs:AE) (H9:aF),St w0 bs H9 w->(∀x∈d.D,x∈H9)->eX w cBp pa ps
 w:∃wa wc,d.wv= .slice wa ws.length wc/\∀(w0 w:AI) (bs:AE) (H9:aF),St w0 bs H9 w->(∀x∈d.D,x∈H9)->eX w cWt wa ws
 c:∀x∈ws,x.l.length<=1000000/\∀(w0 w:AI) (bs:AE) (H9:aF),St w0 bs H9 w->(∀x∈d.D,x∈H9)->eX w iJ x.a x.l
def Db.Has.to{d e:Db}{ps:List Bp}{ws:List Wt}(h:d.Has ps ws)(ht:d.To e):e.Has ps ws:=by
 obtain⟨h1,h2,⟨pa,pc,h3,h4⟩,⟨wa,wc,h5,h6⟩,h7⟩:=h
 exact⟨h1,h2,⟨pa,pc,ht.pv.trans h3,λw0 w bs H9 hw hs=>h4 w0 w bs H9 hw λx hx=>hs x (ht.D x hx)⟩,⟨wa,wc,ht.wv.trans h5,λw0 w bs H9 hw hs=>h6 w0 w bs H9 hw λx hx=>hs x (ht.D x hx)⟩,
  λx hx=>⟨(h7 x hx).1,λw0 w bs H9 hw hs=>(h7 x hx).2 w0 w bs H9 hw λx hx=>hs x (ht.D x hx)⟩⟩
def Gx.y(g:Gx)(ps:List Bp)(ws:List Wt)(j:Nat):Int:=if j=0 then 0 else(g.hit ps ws j).1
def Gx.i(g:Gx)(ps:List Bp)(ws:List Wt)(j:Nat):Int:=if j=0 then 0 else(g.hit ps ws j).2.1
def Gx.o(g:Gx)(ps:List Bp)(ws:List Wt)(j:Nat):Bool:=if j=0 then false else(g.hit ps ws j).2.2
def Gx.y_pos(g:Gx)(ps:List Bp)(ws:List Wt)(j:Nat):g.y ps ws (j+1)=(g.hit ps ws (j+1)).1:=ae I
def Gx.i_pos(g:Gx)(ps:List Bp)(ws:List Wt)(j:Nat):g.i ps ws (j+1)=(g.hit ps ws (j+1)).2.1:=ae I
def Gx.o_pos(g:Gx)(ps:List Bp)(ws:List Wt)(j:Nat):g.o ps ws (j+1)=(g.hit ps ws (j+1)).2.2:=ae I
def Gx.lastN_on{g:Gx}{ps:List Bp}{ws:List Wt}{a i:Nat}(h:(g.hit ps ws (a+i+1)).1≠0):g.lastN ps ws a (i+1)=a+i+1:=ag h
def Gx.lastN_off{g:Gx}{ps:List Bp}{ws:List Wt}{a i:Nat}(h:(g.hit ps ws (a+i+1)).1=0):g.lastN ps ws a (i+1)=g.lastN ps ws a i:=ae (λh2=>h2 h)
def Gx.y_last{g:Gx}{ps:List Bp}{ws:List Wt}{a n:Nat}:g.y ps ws (g.lastN ps ws a n)=0↔g.lastN ps ws a n=0:=by
 unfold Gx.y
 by_cases h:g.lastN ps ws a n=0
 ·simp[h]
 ·rw[ae h];exact⟨λh1=>absurd h1 (Gx.lastN_hit h).1,λh1=>absurd h1 h⟩
def Gx.lastN_add(g:Gx)(ps:List Bp)(ws:List Wt)(a b c:Nat):g.lastN ps ws a (b+c)=if g.lastN ps ws (a+b) c≠0 then g.lastN ps ws (a+b) c else g.lastN ps ws a b:=by
 induction c with
 |zero=>rw[ae (λh=>h rfl)];rfl
 |succ c ih=>
  have e1:a+(b+c)+1=a+b+c+1:=by omega
  by_cases h:(g.hit ps ws (a+b+c+1)).1≠0
  ·have h1:g.lastN ps ws a (b+(c+1))=a+b+c+1:=(ag (show(g.hit ps ws (a+(b+c)+1)).1≠0 by rw[e1];exact h)).trans e1
   have h2:g.lastN ps ws (a+b) (c+1)=a+b+c+1:=ag h
   rw[h1,h2,ag I]
  ·have h1:g.lastN ps ws a (b+(c+1))=g.lastN ps ws a (b+c):=ae (show ¬(g.hit ps ws (a+(b+c)+1)).1≠0 by rw[e1];exact h)
   have h2:g.lastN ps ws (a+b) (c+1)=g.lastN ps ws (a+b) c:=ae h
   rw[h1,h2,ih]
def Gx.lastN_at{g:Gx}{ps:List Bp}{ws:List Wt}{K t j:Nat}(h:g.lastN ps ws 0 K=g.lastN ps ws 0 t)(hj:j<=t):g.lastN ps ws 0 K=if g.lastN ps ws j (t-j)≠0 then g.lastN ps ws j (t-j)else g.lastN ps ws 0 j:=by
 have h1:=Gx.lastN_add g ps ws 0 j (t-j)
 rw[show j+(t-j)=t by omega,bj]at h1
 exact h.trans h1
def Gx.ry(g:Gx)(ps:List Bp)(ws:List Wt)(j:Nat):Int:=if j=0 then 4 else g.y ps ws j
def Db.Ok.bef{d:Db}{g:Gx}{k n:Nat}(h:d.Ok g k n)(hk:k<n)(at_:Nat):0<=(Tm.befM d.ms (at_:Int)).t/\(Tm.befM d.ms (at_:Int)).t<=at_:=by
 have hml:d.ms.length<=256:=by have:=h.line.len;have:=(capT_ok d.cap).2;omega
 obtain⟨hm0,hm1,hm2⟩:=h.line.more I
 have h0:=Tm.bef_nn h.line.rise hm0 hm1 (x:=(at_:Int)) I
 have h1:=Tm.befM_le h.line.rise h0
 have hbm:=Tm.befM_mem (ms:=d.ms) (x:=(at_:Int)) I
 obtain⟨e9,he9,hek⟩:=h.past.all _ hbm
 have h2:=h.past.le e9 he9
 omega
def Db.Ok.cost{d:Db}{g:Gx}{k n:Nat}(h:d.Ok g k n)(hk:k<n)(at_:Nat):0<=oM d.ms k at_/\oM d.ms k at_<=at_:=by
 have h1:=h.bef hk at_
 unfold oM
 split<;>omega
def aEa(d:Db)(g:Gx)(hg:g.Ok)(k n:Nat)(hd:d.Ok g (k+1) n)(ps:List Bp)(ws:List Wt)(hh:d.Has ps ws)(aa:AC)(ac:Nat){w0:AI}{bs:AE}{H9:aF}(w:AI)(hst:St w0 bs H9 w)(hs:∀x∈d.H g (k+1),x∈H9)(hA:eX w cAc aa (g.m (k+1)).acc):aG prog 109 [P_ d.b,.slice aa (g.m (k+1)).acc.length ac] w [] (V_ (.agg (cSt ((k+1:Nat):Int) (g.hit ps ws (k+1)).1 (g.hit ps ws (k+1)).2.1 (g.hit ps ws (k+1)).2.2).toArray)):=by
 obtain⟨q0,q1,⟨pa,pc,q2,q3⟩,⟨wa,wc,q4,q5⟩,q6⟩:=hh
 have hD:∀x∈d.D,x∈H9:=λx hx=>hs x (.tail _ (.tail _ (bL _ (bL _ (bL _ hx)))))
 have hq:=aL0 hg.chg (hg.inv k)
 have q7:=aMo d g hg (k+1) n hd pa wa aa pc wc ac ps ws (g.m (k+1)).acc q0 q1 hq.1 q2 q4 hq.2 w hst hs (q3 w0 w bs H9 hst hD) (q5 w0 w bs H9 hst hD) (λx hx=>⟨(q6 x hx).1,(q6 x hx).2 w0 w bs H9 hst hD⟩) hA
 rw[hd.m.lk]at q7
 exact q7
def aAR{T n c:Nat}{a:AC}{l:List Ac}{G H:aF}{w0 w:AI}{ms:AE}(h:bS T 3 (.slice a n c) l.length (aM cAc l) G)(hin:∀x∈G,x∈H)(hw:St w0 ms H w):eX w cAc a l:=λhpo=>by
 obtain⟨b,cap,sp,hs,q0,q1,q2⟩:=h.full I
 cases hs
 exact⟨b,0,U,(aK.all (hw.holds _ (hin _ (by rw[q0];exact .head _)))).left⟩
def last_fn(d:Db)(g:Gx)(hg:g.Ok)(k n:Nat)(hf:d.Fine g k n)(ps:List Bp)(ws:List Wt)(hh:d.Has ps ws)(at_:Nat)(hat:at_<900000)(w:AI)(hst:St w ((d.H g k).map (·.1)) (d.H g k) w):aG prog 61 [P_ d.b,.int .u64 at_] w ((d.H g k).map (·.1)) (λv H=>v= .tuple #[.agg (cSt ((g.lastN ps ws k (at_-k)):Nat) (g.y ps ws (g.lastN ps ws k (at_-k))) (g.i ps ws (g.lastN ps ws k (at_-k))) (g.o ps ws (g.lastN ps ws k (at_-k)))).toArray,.bool (decide ((g.lastN ps ws k (at_-k))≠0))]/\∃e,Bn g d e (k+(at_-k)) (max n (k+(at_-k)+1)) ((at_-k:Nat):Int) H):=by
 obtain⟨hd,hk,hn,hdn⟩:=hf
 refine cG func61 hst ?_
 refine ZAm ?_
 refine lB λb0=>?_
 refine ZBZ ?_
 refine jT λb1=>?_
 refine ZA2 ?_
 refine dK (σ:=Db×Nat) [7,8,9,10,11,12,13,14,15,16,17,18,19,20,21] (λs=>[]) (λs=>(b1,J (cSt ((g.lastN ps ws k s.2):Nat) (g.y ps ws (g.lastN ps ws k s.2)) (g.i ps ws (g.lastN ps ws k s.2)) (g.o ps ws (g.lastN ps ws k s.2))) 38)::(b0,J (cSt 0 0 0 false) 38)::s.1.H g (k+s.2)) (λs=>s.1.Ok g (k+s.2) (max n (k+s.2+1))/\d.To s.1/\s.1.done=d.done+s.2/\s.2<=at_-k) (λs=>at_-k-s.2) (d,0) ?_ ?_ ?_ ?_
 ·exact⟨O3,.refl d,M3,aq _⟩
 ·exact .nil
 ·exact λ_ h=>h
 rintro⟨e,i⟩ y2 ⟨he,hT,hdn3,hi⟩
 dsimp only at he hT hdn3 hi⊢
 refine aH ?_
 refine W (aW U U (λw hw=>(by have h9:=bT (b:=e.b) (l:=Db.cs e g (k+i)) (off:=3) (v:= .int .u64 ((k+i:Nat):Int)) (.tail _ (.tail _ (.head _))) rfl w hw;rw[hT.b]at h9;exact h9))) U (ZA2 ?_)
 refine KC (λq0 z0=>?_) (λq0 z0=>?_)
 ·refine aH ?_
  refine RX (cB (F:=[(b1,J (cSt ((g.lastN ps ws k i):Nat) (g.y ps ws (g.lastN ps ws k i)) (g.i ps ws (g.lastN ps ws k i)) (g.o ps ws (g.lastN ps ws k i))) 38),(b0,J (cSt 0 0 0 false) 38)]) (A:=Db.H e g (k+i)) K_ U (λw hw=>N8)) U ?_
  rintro va _ ⟨_,⟨e2,_,GA,he2,hT0,hd2,rfl,hV,hGA,rfl⟩,rfl⟩
  refine ZAa ?_
  have hT3:=hT.trans hT0
  obtain⟨aa,ac,rfl⟩:=hV.slice
  have hG9:∀x∈GA,x∈e2.H g (k+i+1):=λx hx=> .tail _ (.tail _ (bL _ (bL _ (bL _ (hGA x hx)))))
  refine W (cZ K_ U (λw hw=>(by have h9:=aEa e2 g hg (k+i) _ he2 ps ws (hh.to hT3) aa ac w hw (λx hx=>by simp only[ea];exact .inr (.inr hx)) (aAR hV (λx hx=>by simp only[ea];exact .inr (.inr (hG9 x hx))) hw);rw[hT3.b]at h9;exact h9))) U (ZB9 ?_)
  rintro _ _ ⟨b2,rfl,rfl⟩
  refine ZEK ?_
  refine ZCy ?_
  refine KC (λq1 z1=>?_) (λq1 z1=>?_)
  ·refine ZBI ?_
   refine W (bJ U U U Cb) U (ZDR ?_)
   refine ZBI ?_
   have hl9:=Gx.lastN_on (g:=g) (ps:=ps) (ws:=ws) (a:=k) (i:=i) (by have h9:=q1;simpa using h9)
   refine⟨(e2,i+1),⟨(show max (max n (k+i+1)) (k+i+2)=max n (k+(i+1)+1)by omega)▸he2,hT3,Xx,by show i+1<=at_-k;omega⟩,by show at_-k-(i+1)<at_-k-i;omega,.nil,bB,λ_ h=>?_⟩
   dsimp only
   rw[hl9,Gx.y_pos,Gx.i_pos,Gx.o_pos]
   exact h.sub (.cons _ aJ)
  refine ZBI ?_
  have hl9:=Gx.lastN_off (g:=g) (ps:=ps) (ws:=ws) (a:=k) (i:=i) (by have h9:=q1;simpa using h9)
  refine⟨(e2,i+1),⟨(show max (max n (k+i+1)) (k+i+2)=max n (k+(i+1)+1)by omega)▸he2,hT3,Xx,by show i+1<=at_-k;omega⟩,by show at_-k-(i+1)<at_-k-i;omega,.nil,bB,λ_ h=>?_⟩
  dsimp only
  rw[hl9]
  exact h.sub (.cons _ aJ)
 refine ZAm ?_
 obtain rfl:i=at_-k:=by omega
 refine nH [(b1,J (cSt ((g.lastN ps ws k (at_-k)):Nat) (g.y ps ws (g.lastN ps ws k (at_-k))) (g.i ps ws (g.lastN ps ws k (at_-k))) (g.o ps ws (g.lastN ps ws k (at_-k)))) 38)] [1,2,3,4] (.step true 0 (.step true 1 (.step true 2 (.step true 3 (.step false 4 (.step true 5 .done)))))) U aN aN (λx h=>by rw[List.mem_singleton.1 h];exact .head _) ?_
 refine fZ U U U U Kx U U ?_
 refine ZBI ?_
 refine DL U U U (dQ (b:=b1) (l:=cSt ((g.lastN ps ws k (at_-k)):Nat) (g.y ps ws (g.lastN ps ws k (at_-k))) (g.i ps ws (g.lastN ps ws k (at_-k))) (g.o ps ws (g.lastN ps ws k (at_-k)))) (.head _) pE) U (ZBI ?_)
 refine DZ U (bC (l':=cSt ((g.lastN ps ws k (at_-k)):Nat) (g.y ps ws (g.lastN ps ws k (at_-k))) (g.i ps ws (g.lastN ps ws k (at_-k))) (g.o ps ws (g.lastN ps ws k (at_-k)))) 1) U gV ?_
 rw[bg,al]
 refine ZA2 ?_
 refine iM (λw hw=>fN U U U (aI (b:=b0) (l:=cSt ((g.lastN ps ws k (at_-k)):Nat) (g.y ps ws (g.lastN ps ws k (at_-k))) (g.i ps ws (g.lastN ps ws k (at_-k))) (g.o ps ws (g.lastN ps ws k (at_-k)))) (.tail _ (.head _)) w hw) U) (.cons _ (.cons _ aJ)) ⟨?_,e,he,hT,hdn3,U⟩
 rw[show(g.y ps ws (g.lastN ps ws k (at_-k)) != 0)=decide ((g.lastN ps ws k (at_-k))≠0)by rw[ep,co,decide_eq_true_iff,ne_eq,ne_eq,Gx.y_last]]
def aMf(d:Db)(g:Gx)(hg:g.Ok)(k n:Nat)(hf:d.Fine g k n)(ps:List Bp)(ws:List Wt)(hh:d.Has ps ws)(at_:Nat)(hka:k<=at_)(han:at_<n)(w:AI)(hst:St w ((d.H g k).map (·.1)) (d.H g k) w):aG prog 61 [P_ d.b,.int .u64 at_] w ((d.H g k).map (·.1)) (λv H=>v= .tuple #[.agg (cSt (g.lastN ps ws k (at_-k):Nat) (g.y ps ws (g.lastN ps ws k (at_-k))) (g.i ps ws (g.lastN ps ws k (at_-k))) (g.o ps ws (g.lastN ps ws k (at_-k)))).toArray,.bool (decide (g.lastN ps ws k (at_-k)≠0))]/\∃e,e.Ok g at_ n/\d.To e/\e.done=d.done+((at_-k:Nat):Int)/\H=e.H g at_):=
 (last_fn d g hg k n hf ps ws hh at_ (by have:=hf.few;omega) w hst).mono λv H ⟨hv,e,h1,h2,h3,h4⟩=>by
  have h9:k+(at_-k)=at_:=by omega
  rw[h9]at h1 h4
  rw[go I]at h1
  exact⟨hv,e,h1,h2,h3,h4⟩
def Tf(d:Db)(g:Gx)(hg:g.Ok)(k n:Nat)(hf:d.Fine g k n)(hdl:d.done<90000000000000)(ps:List Bp)(ws:List Wt)(hh:d.Has ps ws)(w:AI)(hst:St w ((d.H g k).map (·.1)) (d.H g k) w):aG prog 29 [P_ d.b] w ((d.H g k).map (·.1)) (λv H=>v= .tuple #[.agg (cSt ((g.lastN ps ws 0 (k-1)):Nat) (g.ry ps ws (g.lastN ps ws 0 (k-1))) (g.i ps ws (g.lastN ps ws 0 (k-1))) (g.o ps ws (g.lastN ps ws 0 (k-1)))).toArray,.int .i64 0]/\∃e,e.Ok g (g.lastN ps ws 0 (k-1)) n/\d.To e/\(d.done<=e.done/\e.done<=d.done+2000000)/\H=e.H g (g.lastN ps ws 0 (k-1))):=by
 obtain⟨hd,hk,hn,hdn⟩:=hf
 refine cG func29 hst ?_
 refine ZAm ?_
 refine lB λb0=>?_
 refine aH ?_
 refine Jy ?_
 refine bW ?_
 refine Nn ?_
 refine RY (Ec U U) U (RW (v:=(.int .u64 ((k-1:Nat):Int))) U U (M _ ((qB I I).trans I)) (ZBZ ?_))
 refine dK (σ:=Db×Nat×Nat) [3,4,5,6,7,18,19,20,21,22,23,24,25,26,27,28,29,30,31,32,33,34,35,36,37,38,39,40] (λs=>[(4,.int .u64 (s.2.2:Nat))]) (λs=>(b0,J (cSt 0 0 0 false) 38)::s.1.H g s.2.1) (λs=>s.1.Ok g s.2.1 n/\d.To s.1/\s.1.done=d.done+(((k-1:Nat):Int)-(s.2.2:Nat))/\s.2.1<n/\s.2.2<=k-1/\(g.lastN ps ws 0 (k-1))=g.lastN ps ws 0 s.2.2) (λs=>s.2.2) (d,k,k-1) ?_ ?_ ?_ ?_
 ·exact⟨hd,.refl d,by show d.done=d.done+(((k-1:Nat):Int)-(k-1:Nat));omega,hk,be _,U⟩
 ·exact .cons U .nil
 ·exact λ_ h=>h
 rintro⟨e,p,t⟩ y4 ⟨he,hT,hdn2,hp,ht,hl⟩
 dsimp only at he hT hdn2 hp ht hl⊢
 refine aH ?_
 refine KC (λq0 z0=>?_) (λq0 z0=>?_)
 ·refine aH ?_
  refine RW (v:=(.int .u64 ((t-1:Nat):Int))) U U (M _ ((qB I I).trans I)) (RX (cB (F:=[(b0,J (cSt 0 0 0 false) 38)]) (A:=Db.H e g p) K_ U (λw hw=>(by have h9:=aCy e g hg p n he hp I (t-1) w (St.lentV hw);rw[hT.b]at h9;exact h9))) U ?_)
  rintro _ _ ⟨_,⟨rfl,e1,j,he1,hT0,hdn1,hms1,hj,hjn,rfl⟩,rfl⟩
  refine ZAa ?_
  have hb1:=he.bef hp (t-1)
  have hjt:j<t:=by omega
  have hT2:=hT.trans hT0
  refine aH ?_
  refine W (aW U U (λw hw=>(by have h9:=bT (b:=e1.b) (l:=Db.cs e1 g j) (off:=3) (v:= .int .u64 ((j:Nat):Int)) (.tail _ (.head _)) rfl w hw;rw[hT2.b]at h9;exact h9))) U (ZCy ?_)
  refine RX (cB (F:=[(b0,J (cSt 0 0 0 false) 38)]) (A:=Db.H e1 g j) K_ U (λw hw=>(by have h9:=aMf e1 g hg j n ⟨he1,hjn,hn,aR⟩ ps ws (hh.to hT2) t I I w (St.lentV hw);rw[hT2.b]at h9;exact h9))) U ?_
  rintro _ _ ⟨_,⟨rfl,e2,he2,hT1,hdn3,rfl⟩,rfl⟩
  refine ZAa ?_
  have hT4:=hT2.trans hT1
  have hlt:=Gx.lastN_at hl (Nat.le_of_lt hjt)
  refine ZA2 ?_
  refine jT λb1=>?_
  refine W (bC (l':=cSt ((g.lastN ps ws j (t-j)):Nat) (g.y ps ws (g.lastN ps ws j (t-j))) (g.i ps ws (g.lastN ps ws j (t-j))) (g.o ps ws (g.lastN ps ws j (t-j)))) 0) U (nI ?_)
  refine aH ?_
  refine KC (λq1 z1=>?_) (λq1 z1=>?_)
  ·refine ZBZ ?_
   refine W (aW U U (bT (b:=b1) (l:=cSt ((g.lastN ps ws j (t-j)):Nat) (g.y ps ws (g.lastN ps ws j (t-j))) (g.i ps ws (g.lastN ps ws j (t-j))) (g.o ps ws (g.lastN ps ws j (t-j)))) (.head _) U)) U ?_
   have hle:=g.lastN_le ps ws j (t-j)
   have hc9:=he2.cost I (g.lastN ps ws j (t-j))
   refine RX (cB (F:=[(b1,J (cSt ((g.lastN ps ws j (t-j)):Nat) (g.y ps ws (g.lastN ps ws j (t-j))) (g.i ps ws (g.lastN ps ws j (t-j))) (g.o ps ws (g.lastN ps ws j (t-j)))) 38),(b0,J (cSt 0 0 0 false) 38)]) (A:=Db.H e2 g t) K_ U (λw hw=>(by have h9:=Rt e2 g hg t n ⟨he2,aR,hn,aR⟩ (g.lastN ps ws j (t-j)) I w (St.lentV hw);rw[hT4.b]at h9;exact h9))) U ?_
   rintro _ _ ⟨_,⟨rfl,e3,⟨he3,hTx2,hdn5,rfl⟩⟩,rfl⟩
   refine ZAa ?_
   rw[go I]at he3
   refine ZA2 ?_
   refine W (bJ U U U Cb) U (W (bC (l':=cSt ((g.lastN ps ws j (t-j)):Nat) (g.y ps ws (g.lastN ps ws j (t-j))) (g.i ps ws (g.lastN ps ws j (t-j))) (g.o ps ws (g.lastN ps ws j (t-j)))) 1) U ?_)
   rw[bg,al]
   refine ZA2 ?_
   have q2:(g.lastN ps ws j (t-j))≠0:=df q1
   rw[ag q2]at hlt
   refine iM (λw hw=>fN U U U (aI (b:=b0) (l:=cSt ((g.lastN ps ws j (t-j)):Nat) (g.y ps ws (g.lastN ps ws j (t-j))) (g.i ps ws (g.lastN ps ws j (t-j))) (g.o ps ws (g.lastN ps ws j (t-j)))) (.tail _ (.head _)) w hw) U) (.cons _ (.cons _ aJ)) ⟨by rw[hlt,Gx.ry,ae q2],e3,by rw[hlt];exact he3,(hT4.trans hTx2),⟨aR,aR⟩,by rw[hlt]⟩
  refine ZBV ?_
  have q2:(g.lastN ps ws j (t-j))=0:=Decidable.not_not.1 (dk q1)
  rw[ae (λh=>h q2)]at hlt
  exact⟨(e2,t,j),⟨he2,hT4,by show e2.done=d.done+(((k-1:Nat):Int)-(j:Nat));omega,by show t<n;omega,by show j<=k-1;omega,hlt⟩,hjt,.cons U .nil,bB,λ_ h=>h.sub (.cons _ aJ)⟩
 refine ZBZ ?_
 have hc9:=he.cost hp 0
 refine RX (cB (F:=[(b0,J (cSt 0 0 0 false) 38)]) (A:=Db.H e g p) K_ U (λw hw=>(by have h9:=Rt e g hg p n ⟨he,hp,hn,aR⟩ 0 I w (St.lentV hw);rw[hT.b]at h9;exact h9))) U ?_
 rintro _ _ ⟨_,⟨rfl,e3,⟨he3,hT0,hdn5,rfl⟩⟩,rfl⟩
 refine ZAa ?_
 rw[go I]at he3
 have hT6:=hT.trans hT0
 refine ZBZ ?_
 refine W (cZ K_ U (λw hw=>(by have h9:=Gw e3.b ((0:Nat):Int) 4 w (bT (b:=e3.b) (l:=Db.cs e3 g (0)) (.tail _ (.head _)) rfl w hw);rw[hT6.b]at h9;exact h9))) U (ZAm ?_)
 refine W (bC (l':=cSt ((0:Nat):Int) 4 0 false) 0) U (nI ?_)
 refine ZA2 ?_
 obtain rfl:t=0:=by omega
 have hl0:(g.lastN ps ws 0 (k-1))=0:=hl
 refine iM (λw hw=>fN U U U (aI (b:=b0) (l:=cSt ((0:Nat):Int) 4 0 false) (.head _) w hw) U) (.cons _ aJ) ⟨by rw[hl0];rfl,e3,by rw[hl0];exact he3,hT6,⟨aR,aR⟩,by rw[hl0]⟩
structure Gx.Stops(g:Gx)(ps:List Bp)(ws:List Wt)(k M j:Nat)(y i:Int)(o:Bool):Prop where
 lo:k<=j
 hi:j<=k+M
 no:∀x,k<x->x<j->(g.hit ps ws x).1=0
 at_:(k<j/\(g.hit ps ws j).1≠0/\y=(g.hit ps ws j).1/\i=(g.hit ps ws j).2.1/\o=(g.hit ps ws j).2.2)\/(j=k+M/\y=3/\i=0/\o=false/\(k<j->(g.hit ps ws j).1=0))
def aOA{b b2:Nat}(h:b=b2)(o:Nat)(cs:AA)(T:AJ)(hc:cs[o]? =some (.int .u32 0))(w:AI)(hst:St w [b] [(b,J cs T)] w):aG prog 108 [.pointer (some ⟨b2,o,none⟩),.bool false] w [b] (λv H=>v= .bool false/\H=[(b,J (cs.set o (.int .u32 0)) T)]):=by
 subst h;exact aGZ b o cs T hc w hst
def aKX(d:Db)(g:Gx)(hg:g.Ok)(k n:Nat)(hf:d.Fine g k n)(N:Nat)(hN:N<18446744073709551616)(ps:List Bp)(ws:List Wt)(hh:d.Has ps ws)(ha0:d.asked=0)(w:AI)(hst:St w ((d.H g k).map (·.1)) (d.H g k) w):aG prog 58 [P_ d.b,.int .u64 N,.func (.func 59) #[] #[]] w ((d.H g k).map (·.1)) (λv H=>∃(j:Nat) (y z:Int) (o:Bool),v= .tuple #[.agg (cSt (j:Nat) y z o).toArray,.int .i64 0]/\g.Stops ps ws k (min N 5000) j y z o/\∃e,Bn g d e j (max n (j+1)) ((j-k:Nat):Int) H):=by
 obtain⟨hd,hk,hn,hdn⟩:=hf
 refine cG func58 hst ?_
 refine ZAm ?_
 refine lB λb0=>?_
 refine aH ?_
 refine RW (v:=(.int .u64 ((min N 5000:Nat):Int))) (tD U U) U (M _ I) (ZA2 ?_)
 refine dK (σ:=Db×Nat) [7,8,11,12,13,14,15,16,17,18,19,20,21,22,23,24,25,26,27,28,29,30,31,32,33,34,35] (λs=>[(11,.int .u64 s.2)]) (λs=>(b0,J (cSt 0 0 0 false) 38)::s.1.H g (k+s.2)) (λs=>s.1.Ok g (k+s.2) (max n (k+s.2+1))/\d.To s.1/\s.1.done=d.done+s.2/\s.2<=min N 5000/\∀x,k<x->x<=k+s.2->(g.hit ps ws x).1=0) (λs=>min N 5000-s.2) (d,0) ?_ ?_ ?_ ?_
 ·exact⟨O3,.refl d,M3,aq _,λx h1 h2=>absurd h2 (by show ¬x<=k+0;omega)⟩
 ·exact .cons U .nil
 ·exact λ_ h=>h
 rintro⟨e,i⟩ y4 ⟨he,hT,hdn3,hi,hno⟩
 dsimp only at he hT hdn3 hi hno⊢
 have hea:e.asked=0:=hT.asked.trans ha0
 have hc9:(Db.cs e g (k+i))[9]? =some (.int .u32 0):=by show some (Value.int .u32 e.asked)=_;rw[hea]
 have hset:(Db.cs e g (k+i)).set 9 (.int .u32 0)=Db.cs e g (k+i):=by unfold Db.cs;rw[hea];rfl
 refine ZBV ?_
 refine KC (λq0 z0=>?_) (λq0 z0=>?_)
 ·refine bW ?_
  refine RX (gZ (F:=[(b0,J (cSt 0 0 0 false) 38)]) (A:=[(e.b,J (Db.cs e g (k+i)) 108)]) (G:=(e.mp,cY .u64 e.l e.c)::(hM e.q e.m++(e.GH++(e.GL++e.D)))) K_ U (λw q0 _=>aOA hT.b 9 (Db.cs e g (k+i)) 108 hc9 w q0)) U (ZBB ?_)
  rw[hset]
  refine eA (H':=(b0,J (cSt 0 0 0 false) 38)::e.H g (k+i)) (λ_ h=>h) ?_
  refine ZE1 ?_
  refine RX (cB (F:=[(b0,J (cSt 0 0 0 false) 38)]) (A:=Db.H e g (k+i)) K_ U (λw hw=>N8)) U ?_
  rintro va _ ⟨_,⟨e2,_,GA,he2,hT0,hd2,rfl,hV,hGA,rfl⟩,rfl⟩
  refine ZAa ?_
  have hT3:=hT.trans hT0
  obtain⟨aa,ac,rfl⟩:=hV.slice
  have hG9:∀x∈GA,x∈e2.H g (k+i+1):=λx hx=> .tail _ (.tail _ (bL _ (bL _ (bL _ (hGA x hx)))))
  refine W (cZ K_ U (λw hw=>(by have h9:=aEa e2 g hg (k+i) _ he2 ps ws (hh.to hT3) aa ac w hw (λx hx=> .tail _ hx) (aAR hV (λx hx=> .tail _ (hG9 x hx)) hw);rw[hT3.b]at h9;exact h9))) U (jT λb1=>?_)
  refine ZEK ?_
  refine ZCy ?_
  refine KC (λq1 z1=>?_) (λq1 z1=>?_)
  ·refine ZAm ?_
   refine W (bJ U U U Cb) U (ZDR ?_)
   refine ZA2 ?_
   exact iM (λw hw=>fN U U U (aI (b:=b0) (l:=cSt ((k+i+1:Nat):Int) (g.hit ps ws (k+i+1)).1 (g.hit ps ws (k+i+1)).2.1 (g.hit ps ws (k+i+1)).2.2) (.tail _ (.head _)) w hw) U) (.cons _ (.cons _ aJ)) ⟨k+i+1,_,_,_,U,⟨aR,aR,λx q0 q1=>hno x q0 I,.inl ⟨aR,bne_iff_ne.1 q1,U,U,U⟩⟩,e2,(show max (max n (k+i+1)) (k+i+2)=max n (k+i+1+1)by omega)▸he2,hT3,aR,U⟩
  refine ZBZ ?_
  refine W (uT (A:=[]) (B:=[]) U K_ U (aS aHj)) U (ZBI ?_)
  refine oQ false U U ?_
  refine ZAm ?_
  refine RW (v:=(.int .u64 ((i+1:Nat):Int))) U U (M _ ((qB I I).trans I)) (ZAm ?_)
  have q2:(g.hit ps ws (k+i+1)).1=0:=by have h9:=q1;simpa using h9
  exact⟨(e2,i+1),⟨(show max (max n (k+i+1)) (k+i+2)=max n (k+(i+1)+1)by omega)▸he2,hT3,Xx,by show i+1<=min N 5000;omega,λx q0 q1=>(by rcases jp (show x<=k+i+1 from q1)with rfl|h3;exact q2;exact hno x q0 I)⟩,aEs,.cons U .nil,bB,λ_ h=>h.sub (.cons _ aJ)⟩
 refine ZBZ ?_
 refine W (cZ K_ U (λw hw=>(by have h9:=Gw e.b ((k+i:Nat):Int) 3 w (bT (b:=e.b) (l:=Db.cs e g (k+i)) (.tail _ (.head _)) rfl w hw);rw[hT.b]at h9;exact h9))) U (ZAm ?_)
 refine W (bC (l':=cSt ((k+i:Nat):Int) 3 0 false) 0) U (nI ?_)
 refine ZA2 ?_
 obtain rfl:i=min N 5000:=by omega
 exact iM (λw hw=>fN U U U (aI (b:=b0) (l:=cSt ((k+min N 5000:Nat):Int) 3 0 false) (.head _) w hw) U) (.cons _ aJ) ⟨k+min N 5000,3,0,false,U,⟨aR,aR,λx q0 h2=>hno x q0 I,.inr ⟨U,U,U,U,λh=>hno _ h (be _)⟩⟩,e,he,hT,aR,U⟩
def J3(d:Db)(g:Gx)(hg:g.Ok)(k n:Nat)(hf:d.Fine g k n)(N:Nat)(hN:N<18446744073709551616)(ps:List Bp)(ws:List Wt)(hh:d.Has ps ws)(ha0:d.asked=0)(w:AI)(hst:St w ((d.H g k).map (·.1)) (d.H g k) w):aG prog 28 [P_ d.b,.int .u64 N] w ((d.H g k).map (·.1)) (λv H=>∃(j:Nat) (y z:Int) (o:Bool),v= .tuple #[.agg (cSt (j:Nat) y z o).toArray,.int .i64 0]/\g.Stops ps ws k (min N 5000) j y z o/\∃e,Bn g d e j (max n (j+1)) ((j-k:Nat):Int) H):=by
 refine cG func28 hst ?_
 refine ZAm ?_
 refine lB λb0=>?_
 refine aH ?_
 refine Jy ?_
 refine ZE1 ?_
 refine RX (cB (F:=[(b0,J (cSt 0 0 0 false) 38)]) (A:=Db.H d g k) K_ U (dG (aKX d g hg k n hf N hN ps ws hh ha0))) U ?_
 rintro _ _ ⟨_,⟨j,y,z,o,rfl,hS,e,hG⟩,rfl⟩
 refine ZAa ?_
 refine ZAm ?_
 refine W (bC (l':=cSt (j:Nat) y z o) 0) U (nI ?_)
 refine ZA2 ?_
 exact iM (λw hw=>fN U U U (aI (b:=b0) (l:=cSt (j:Nat) y z o) (.head _) w hw) U) (.cons _ aJ) ⟨j,y,z,o,U,hS,e,hG⟩
def badW(x:Wt):Bool:=decide (x.hi<x.lo)||(!x.rd&& !x.wr)||decide (300<x.l.length)
def aHC(b:Nat)(cap:Int)(q h:AH)(k:Nat)(f:AH)(lb mp:Nat)(wv:AH)(asked done:Int)(tab:AH)(x y:Int)(hx:x<512)(w:AI)(hst:St w [b] [(b,J (cDb cap q h k f lb mp (.slice none 0 0) wv asked done tab) 108)] w):aG prog 30 [P_ b,.agg #[.int .i64 x,.int .u16 y]] w [b] (λv H=>v= .int .i64 0/\∃bp cp sp,([.int .i64 x,.int .u16 y]++sp:AA).length=cp*2/\1<=cp/\cp<=maxLen/\H=[(b,J (cDb cap q h k f lb mp (.slice (Q_ bp) 1 cp) wv asked done tab) 108),(bp,J ([.int .i64 x,.int .u16 y]++sp) 67)]):=by
 refine cG func30 hst ?_
 refine ZAm ?_
 refine RX (eE (l:=[.int .i64 x,.int .u16 y]) U U) U (ZBF λb0=>?_)
 refine ZCy ?_
 refine iO ?_
 refine ZCy ?_
 refine qW ?_
 refine ZE1 ?_
 refine W (aW U U (bT (b:=b) (l:=(cDb cap q h k f lb mp (.slice none 0 0) wv asked done tab)) aE pE)) U (gK ?_)
 refine iO ?_
 refine ZBV ?_
 refine DR [5,6] (bQ [0,2,4,6,8,10,13,15,16,18,21]) ?_
 refine ZBZ ?_
 refine DL U U U (dQ (b:=b) (l:=(cDb cap q h k f lb mp (.slice none 0 0) wv asked done tab)) aE pE) U (fZ U U U U (jR (b:=b0) (l:=[.int .i64 x,.int .u16 y]) aE) U U ?_)
 refine DX U (fY (z:=[.int .i64 0,.int .u16 0]) (l:=[.int .i64 x,.int .u16 y]) (ps:=[(0,.agg #[.int .i64 x,.int .u16 y])]) U U U U U U) U sC ?_
 rintro _ _ ⟨b1,rfl,rfl⟩
 refine DX U (lZ (A:=[(b1,_)]) (G:=[]) (R:=[(b0,_),(b,_)]) (v:= .slice none 0 0) (n:=0) (xs:=[]) (m:=1) (T:=67) (s:=2) (by_:=16) (ys:=[.int .i64 x,.int .u16 y]) U U U U .nil (λw hw=> .row _ _ _ _ _ U (aI (b:=b1) (.head _) w hw)) U I I) U aY ?_
 rintro v0 _ ⟨G0,hV0,_,rfl⟩
 obtain⟨bp,cp,sp,rfl,rfl,hz26,hc0,hm26⟩:=hV0.full I
 refine ZAm ?_
 refine DZ U (bC (l':=(cDb cap q h k f lb mp (.slice (Q_ bp) 1 cp) wv asked done tab)) 3) U aY (aH ?_)
 refine lN (H':=[(b,J (cDb cap q h k f lb mp (.slice (Q_ bp) 1 cp) wv asked done tab) 108),(bp,J ([.int .i64 x,.int .u16 y]++sp) 67)]) (λ_ _=>yE U) (λ_ h=>St.fl [[(bp,J ([.int .i64 x,.int .u16 y]++sp) 67)],[(b1,_)],[(b0,_)],[(b,_)]] [3,0] U h) ⟨U,bp,cp,sp,hz26,aR,hm26,U⟩
def aRc{α:Type}{w0 w:AI}{ms:AE}{H:aF}{c:α->AA}{a:AC}{l:List α}(h:uG w0 c a l)(hm:∀p,a=some p->p.block∉ms)(hw:St w0 ms H w):uG w c a l:=by
 rcases h with h|⟨b,off,rfl,h2⟩
 ·exact .inl h
 exact .inr ⟨b,off,U,bU h2 (hm _ U) w hw⟩
def aMD{G R:aF}{x:Nat×Obj}:(G++x::R)[G.length]? =some x:=by simp
def aJa{G R:aF}{a b x y:Nat×Obj}:(a::b::(G++x::y::R))[G.length+3]? =some y:=by simp
def aIx{G R:aF}{x y:Nat×Obj}:(G++x::R).set G.length y=G++y::R:=by simp
def aME{G R:aF}{a b x y z:Nat×Obj}:(a::b::(G++x::y::R)).set (G.length+3) z=a::b::(G++x::z::R):=by simp
def aFW(c:Cd):fJ (iJ c)=true:=rfl
def aI4(a:AC)(c:Nat)(l:List Cd)(hl:l.length<=1000000)(w:AI)(hS:uG w iJ a l):aG prog 62 [.slice a l.length c] w [] (λv H=>bS 171 2 v l.length (aM iJ l) H):=by
 refine aT func62 ?_
 refine aH ?_
 rcases hS with⟨rfl,rfl⟩|⟨bs,os,rfl,hr⟩
 ·refine cL ?_
  exact E0 U .nil
 refine ZE1 ?_
 refine RX (Gj (el:=171) (n:=2) U) U (ZBF λb0=>?_)
 refine ZBI ?_
 refine RX (wY (A:=[]) (G:=[(b0,J [] 171)]) (v:= .slice (Q_ b0) 0 0) (n:=0) (xs:=[]) (m:=l.length) (T:=171) (s:=2) (by_:=16) (ys:=aM iJ l) U U U U (.row b0 0 0 [] [] U U aD (be 0)) (λw hw=> .row _ _ _ _ _ (gH Oa l) (bU hr aP w hw)) (Tv aFW _) I I) U ?_
 rintro v0 _ ⟨G0,hV0,hnil7,rfl⟩
 refine tE (v:=v0) U U U ?_
 refine ZAm ?_
 exact iM (λ_ _=>Jw U) (cz _ _) (hV0.as (bj _) (cg _))
def aIn(b:Nat)(cap:Int)(q h:AH)(k:Nat)(f:AH)(lb mp:Nat)(pv:AH)(asked done:Int)(tab:AH)(x:Wt)(hx:badW x=false)(w:AI)(hst:St w [b] [(b,J (cDb cap q h k f lb mp pv (.slice none 0 0) asked done tab) 108)] w)(hS:uG w iJ x.a x.l)(hne:∀p,x.a=some p->p.block∉[b]):aG prog 31 [P_ b,.agg (cWt x).toArray] w [b] (λv H=>v= .int .i64 0/\∃a2 c2 GC bp cp sp,bS 171 2 (.slice a2 x.l.length c2) x.l.length (aM iJ x.l) GC/\(cWt ({x with a:=a2,c:=c2}:Wt)++sp:AA).length=cp*5/\1<=cp/\cp<=maxLen/\H=[(b,J (cDb cap q h k f lb mp pv (.slice (Q_ bp) 1 cp) asked done tab) 108),(bp,J (cWt ({x with a:=a2,c:=c2}:Wt)++sp) 71)]++GC):=by
 have hl3:x.l.length<=300:=by unfold badW at hx;simp only[ib,ai]at hx;omega
 refine cG func31 hst ?_
 refine Tx ?_
 refine ZBF λb0=>?_
 refine ZCy ?_
 refine iO ?_
 refine ZA2 ?_
 refine mJ (σ:=Unit) [8,9,10,11,12,13,14,15,16,17,18,19,20,21,22,23,24,25,26,27,28,29] (λ_=>[(8,.bool (badW x))]) (λ_=>[(b0,J (cWt x) 71),(b,J (cDb cap q h k f lb mp pv (.slice none 0 0) asked done tab) 108)]) (λ_=>True) ?_ ?_
 ·refine aH ?_
  refine KL (λq0 z0=>?_) (λq0 z0=>?_)
  ·refine uV ?_
   exact⟨(),trivial,.cons (M Value.bool Nj) .nil,bB,λ_ h=>h⟩
  refine ZA2 ?_
  refine KL (λq1 z1=>?_) (λq1 z1=>?_)
  ·refine ZBV ?_
   refine KL (λq2 z2=>?_) (λq2 z2=>?_)
   ·refine ZCy ?_
    exact⟨(),trivial,.cons (M Value.bool Nj) .nil,bB,λ_ h=>h⟩
   refine ZAm ?_
   refine gK ?_
   refine ZBZ ?_
   exact⟨(),trivial,.cons (M Value.bool Nj) .nil,bB,λ_ h=>h⟩
  refine ZE1 ?_
  refine gK ?_
  refine ZBZ ?_
  exact⟨(),trivial,.cons (M Value.bool Nj) .nil,bB,λ_ h=>h⟩
 rintro _ y5 _
 refine KC (λq0 z0=>?_) (λq0 z0=>?_)
 ·refine ZBV ?_
  exact absurd (hx.symm.trans q0) aD
 refine ZBV ?_
 refine W (aW U U (bT (b:=b) (l:=(cDb cap q h k f lb mp pv (.slice none 0 0) asked done tab)) aE pE)) U (gK ?_)
 refine iO ?_
 refine ZE1 ?_
 refine RX (eN K_ U (λw hw=>aI4 x.a x.c x.l I w (aRc hS hne hw))) U ?_
 rintro v0 _ ⟨G0,hV0,rfl⟩
 obtain⟨a2,c2,rfl⟩:=hV0.slice
 refine ZBI ?_
 refine W (bD (l':=cWt ({x with a:=a2,c:=c2}:Wt)) G0.length U U U U U aMD (ah U) U) U ?_
 rw[aIx]
 refine ZAm ?_
 refine DR [5,6] (bQ [0,2,4,6,8,10,13,15,16,18,21]) ?_
 refine ZBZ ?_
 refine DL U U U (dQ (b:=b) (l:=(cDb cap q h k f lb mp pv (.slice none 0 0) asked done tab)) aE pE) U (fZ U U U U (jR (b:=b0) (l:=cWt ({x with a:=a2,c:=c2}:Wt)) aE) U U ?_)
 refine DX U (fY (z:=cWt ⟨0,0,false,false,none,0,[]⟩) (l:=cWt ({x with a:=a2,c:=c2}:Wt)) (ps:=[(0,.agg (cWt ({x with a:=a2,c:=c2}:Wt)).toArray)]) U U U U U U) U sC ?_
 rintro _ _ ⟨b1,rfl,rfl⟩
 refine DX U (lZ (A:=[(b1,_)]) (G:=[]) (R:=G0++[(b0,_),(b,_)]) (v:= .slice none 0 0) (n:=0) (xs:=[]) (m:=1) (T:=71) (s:=5) (by_:=32) (ys:=cWt ({x with a:=a2,c:=c2}:Wt)) U U U U .nil (λw hw=> .row _ _ _ _ _ U (aI (b:=b1) (.head _) w hw)) U I I) U aY ?_
 rintro v1 _ ⟨G1,hV1,_,rfl⟩
 obtain⟨bp,cp,sp,rfl,rfl,hz48,hc0,hm48⟩:=hV1.full I
 refine ZAm ?_
 refine DZ U (bD (l':=(cDb cap q h k f lb mp pv (.slice (Q_ bp) 1 cp) asked done tab)) (G0.length+3) U U U U U aJa (ah U) U) U aY ?_
 simp only[cw,cg,aME]
 refine aH ?_
 refine lN (H':=[(b,J (cDb cap q h k f lb mp pv (.slice (Q_ bp) 1 cp) asked done tab) 108),(bp,J (cWt ({x with a:=a2,c:=c2}:Wt)++sp) 71)]++G0) (λ_ _=>yE U) (λ_ h=>St.fl [[(bp,J (cWt ({x with a:=a2,c:=c2}:Wt)++sp) 71)],[(b1,_)],G0,[(b0,_)],[(b,_)]] [4,0,2] U h) ⟨U,a2,c2,G0,bp,cp,sp,hV0,hz48,aR,hm48,U⟩
structure Gq where
 kind:Int
 pa:AC
 pc:Nat
 prog:AB
 qa:AC
 qc:Nat
 plan:List gG
def cGq(g:Gq):AA:=[.int .u8 g.kind,.slice g.pa g.prog.length g.pc,.slice g.qa g.plan.length g.qc]
structure Gq.Ok(w:AI)(g:Gq):Prop where
 kind:0<=g.kind/\g.kind<256
 prog:bF g.prog
 lp:g.prog.length<=g.pc/\g.prog.length<=maxLen
 np:Ns w .u8 g.pa g.prog
 plan:∀c∈g.plan,sE c
 lq:g.plan.length<=g.qc/\g.plan.length<=maxLen
 nq:eX w qN g.qa g.plan
def Gq.Ok.later{g:Gq}{w0 w:AI}{H:aF}(h:g.Ok w0)(hw:St w0 [] H w):g.Ok w:=⟨h.kind,h.prog,h.lp,h.np.later0 hw,h.plan,h.lq,h.nq.later0 hw⟩
def aJr{w:AI}(cs:AA)(h:sV w [.int .u8,.ints .u8,.rows [.int .u64,.int .u8]] cs):∃g,cs=cGq g/\g.Ok w:=by
 match cs,h with
 | [a,c,d],h=>
  obtain⟨⟨x,rfl,hx⟩,⟨pa,pc,l,rfl,h1,h2,h3,h4⟩,⟨qa,qc,L,rfl,h5,h6,h7,h8⟩,_⟩:=h
  obtain⟨l2,hl2,h9,h10⟩:=aE5 (c:=qN) (p:=sE) aHN h7 h8
  exact⟨⟨x,pa,pc,l,qa,qc,l2⟩,by show _=[_,_,Value.slice qa l2.length qc];rw[<-hl2],Vf hx,aPh h3,⟨h1,h2⟩,h4,h9,⟨by show l2.length<=qc;omega,by show l2.length<=maxLen;omega⟩,h10⟩
def pB(g:Gq):AB:=madeI g.kind 0 2 g.prog
def Yv(g:Gq):(pB g).length=romS 0:=aEx _ _ _ _
def aDC{g:Gq}{w:AI}(h:g.Ok w):bF (pB g):=aD9 h.kind aD h.prog
def aEW(g:Gq):Bool:=decide (g.prog.length<=2000/\g.plan.length<=20)
def Gq.gx(g:Gq)(pa:AC)(pc:Nat):Gx:=⟨pB g,g.plan,pa,pc⟩
def Gq.Ok.gx{g:Gq}{w:AI}(h:g.Ok w)(he:errH (pB g)=0)(hf:aEW g=true)(pa:AC)(pc:Nat):(g.gx pa pc).Ok:=
 ⟨by show(pB g).length<=_;rw[Yv];decide,aDC h,he,h.plan,by have:=df hf;show g.plan.length<=1000000;omega⟩
def xG :AB:=madeI 0 0 0 []
def aMM :errH xG=0:=by kernel_rfl
def aHb :bF xG:=aD9 aD aD (λ_ h=>by cases h)
def aDL :xG.length=romS 0:=aEx _ _ _ _
def nU :Gx:=⟨xG,[],none,0⟩
def Mw :nU.Ok:=⟨by show xG.length<=_;rw[aDL];decide,aHb,aMM,λ_ h=>yR,iH⟩
def Jn{d:Db}{g:Gx}{k n:Nat}(hd:d.Ok g k n)(h0:0<n)(j:Nat):0<=oM d.ms k j/\oM d.ms k j<=j:=by
 obtain⟨hm0,hm1,_⟩:=hd.line.more h0
 have hb:=Tm.bef_nn hd.line.rise hm0 hm1 (x:=(j:Int)) I
 have h1:=Tm.befM_le hd.line.rise hb
 have h2:0<=(Tm.befM d.ms (j:Int)).t:=(hd.line.rise.2 _ (Tm.befM_mem I)).1
 unfold oM
 split<;>omega
def Db.Fine.goes{d e:Db}{g:Gx}{k n j m:Nat}{c:Int}{H:aF}(hf:d.Fine g k n)(h:Bn g d e j m c H)(hj:j<m)(hm:m<800000)(hc:0<=c/\d.done+c<100000000000000):e.Fine g j m:=
 ⟨h.1,hj,hm,by have:=h.2.2.1;have:=hf.done;omega⟩
end Go.Proofs.YtacejanlmhbddaaGreat

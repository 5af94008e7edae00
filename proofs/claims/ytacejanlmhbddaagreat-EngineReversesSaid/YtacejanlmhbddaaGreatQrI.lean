/- Parts. -/
import Derived.Test.YtacejanlmhbddaaGreatQrH
set_option maxRecDepth 100000
set_option maxHeartbeats 1000000
set_option linter.all false
namespace Go.Proofs.YtacejanlmhbddaaGreat
open Go Go.VV Go.Proofs Go.RowKit Go.Proofs.Tryz
def aIy(o:cJ)(b:Nat)(a f:Int)(ha:0<=a/\a<256)(hf:0<=f/\f<256)(w:AI)(hr:aK w b 0 (cO o)):aG prog 214 [.int .u8 a,.int .u8 f,P_ b] w [] (V_ (.tuple #[.int .u8 (gQ o.x a f),.int .u8 (mN o.x a f)])):=by
 refine aT func214 ?_
 refine ZE1 ?_
 refine W (aW U U (dN (hr 1 _ U) aP)) U (ZAm ?_)
 refine aO K_ (aS (aCs o.x a f ha hf)) ?_
 refine aH ?_
 exact aU (λ_ _=>nJ U U) ⟨U,U⟩
def rbytes_fn{β:Type}(K:mH prog β)(rb:Nat){bn:Nat}(x:Rn β)(h:RunOk K.toaRT (bn+2) x)(G:aF)(hG:K.rep x.m G)(o:cJ)(ho:rB o)(w:AI)(hst:St w (rb::G.map (·.1)) ((rb,J (cN K x.s) 321)::G) w):aG prog 194 [P_ rb,.agg (cO o).toArray] w (rb::G.map (·.1)) (λv H=>v= .bool (kW o.kind)/\sU K rb (gR K.toaRU o x) H):=by
 have hn9:=ho.n
 have hgy9:=h.gett o.y
 have hgx9:=h.gett o.x
 have ha9:=h.r.a
 have hf9:=h.r.f
 refine cG func194 hst ?_
 refine Im ?_
 refine ZBF λb0=>?_
 refine ZA2 ?_
 refine DR [6,7,8,9] (bQ [0,2,4,6,8,10,12,14,16,18,20]) ?_
 refine ZE1 ?_
 refine wG ?_
 refine kV ?_
 refine KC (λq0 z0=>?_) (λq0 z0=>?_)
 ·refine ZC6 ?_
  refine Iu λG0 hG0=>?_
  refine DX U (cB (F:=[(b0,_)]) (A:=(rb,_)::_) K_ U (dG (Kq K rb (x.mem (gett K.toaRU o.y x).2.m) (h.gmem o.y) G0 hG0 o.x (gett K.toaRU o.y x).1 hgy9.2))) U aY (nQ λG1 hG1=>?_)
  refine aH ?_
  have e9:gR K.toaRU o x=sett K.toaRU o.x (gett K.toaRU o.y x).1 (x.mem (gett K.toaRU o.y x).2.m):=by unfold gR;rw[ag I];rw[<-Cq]
  exact EV U (.cons _ aJ) ⟨M Value.bool (am I:kW o.kind=true).symm,G1,fC,mZ⟩
 refine ZBV ?_
 refine KC (λq1 z1=>?_) (λq1 z1=>?_)
 ·refine ZBV ?_
  refine RX (cB (F:=[(b0,_)]) (A:=(rb,_)::_) K_ U (dG (Kq K rb x h G hG o.x (o.n%256) I))) U (kF λG0 hG0=>?_)
  refine aH ?_
  have e9:gR K.toaRU o x=sett K.toaRU o.x (o.n%256) x:=by unfold gR;rw[ae I];rw[ag I]
  exact EV U (.cons _ aJ) ⟨M Value.bool (am I:kW o.kind=true).symm,G0,fC,kY⟩
 refine ZBV ?_
 refine KC (λq2 z2=>?_) (λq2 z2=>?_)
 ·refine ZC6 ?_
  refine Iu λG0 hG0=>?_
  refine DX U (cB (F:=[(b0,_)]) (A:=(rb,_)::_) K_ U (dG (aD2 K rb (x.mem (gett K.toaRU o.y x).2.m) (h.gmem o.y) G0 hG0 o.x (gett K.toaRU o.y x).1 hgy9.2))) U aY (nQ λG1 hG1=>?_)
  refine aH ?_
  have e9:gR K.toaRU o x=(x.mem (gett K.toaRU o.y x).2.m).reg (kU x.s.r o.x (gett K.toaRU o.y x).1):=by unfold gR;(iterate 2 rw[ae I]);rw[ag I];rw[<-Cq,aFF]
  exact EV U (.cons _ aJ) ⟨M Value.bool (am I:kW o.kind=true).symm,G1,fC,mZ⟩
 refine ZBV ?_
 refine KC (λq3 z3=>?_) (λq3 z3=>?_)
 ·refine ZBV ?_
  refine RX (cB (F:=[(b0,_)]) (A:=(rb,_)::_) K_ U (dG (aD2 K rb x h G hG o.x (o.n%256) I))) U (kF λG0 hG0=>?_)
  refine aH ?_
  have e9:gR K.toaRU o x=x.reg (kU x.s.r o.x (o.n%256)):=by unfold gR;(iterate 3 rw[ae I]);rw[ag I]
  exact EV U (.cons _ aJ) ⟨M Value.bool (am I:kW o.kind=true).symm,G0,fC,kY⟩
 refine ZBV ?_
 refine KC (λq4 z4=>?_) (λq4 z4=>?_)
 ·refine ZBZ ?_
  refine RX (cB (F:=[(b0,_)]) (A:=(rb,_)::_) K_ U (λw hw=>Wm K rb x (h.le I:RunOk K.toaRT (bn+2) x) G hG o.x 212 [] [] K_ (λv f=>(zN v,Pb v f)) (λa f ha hf=>⟨aCC,vR _ _ _ _⟩) w (St.lentV hw) (λw' _ a f _ ha hf=>aIO a f ha hf w'))) U (kF λG0 hG0=>?_)
  refine aH ?_
  have e9:gR K.toaRU o x=change K.toaRU o.x (λv f=>(zN v,Pb v f)) x:=by unfold gR;(iterate 4 rw[ae I]);rw[ag I]
  exact EV U (.cons _ aJ) ⟨M Value.bool (am I:kW o.kind=true).symm,G0,fC,kY⟩
 refine ZBV ?_
 refine KC (λq5 z5=>?_) (λq5 z5=>?_)
 ·refine ZBZ ?_
  refine RX (cB (F:=[(b0,_)]) (A:=(rb,_)::_) K_ U (λw hw=>Wm K rb x (h.le I:RunOk K.toaRT (bn+2) x) G hG o.x 213 [] [] K_ (λv f=>(Av v,Oi v f)) (λa f ha hf=>⟨V9,vR _ _ _ _⟩) w (St.lentV hw) (λw' _ a f _ ha hf=>aHa a f ha hf w'))) U (kF λG0 hG0=>?_)
  refine aH ?_
  have e9:gR K.toaRU o x=change K.toaRU o.x (λv f=>(Av v,Oi v f)) x:=by unfold gR;(iterate 5 rw[ae I]);rw[ag I]
  exact EV U (.cons _ aJ) ⟨M Value.bool (am I:kW o.kind=true).symm,G0,fC,kY⟩
 refine ZBV ?_
 refine KC (λq6 z6=>?_) (λq6 z6=>?_)
 ·refine ZBZ ?_
  refine RW (v:=(.func (.func 214) (List.toArray []) (List.toArray [P_ b0]))) U U Gg (RX (cB (F:=[(b0,_)]) (A:=(rb,_)::_) K_ U (λw hw=>Wm K rb x (h.le I:RunOk K.toaRT (bn+2) x) G hG o.y 214 [] [P_ b0] K_ (λv f=>(gQ o.x v f,mN o.x v f)) (λa f ha hf=>⟨Yy ha,vR _ _ _ _⟩) w (St.lentV hw) (λw' H' a f hw' ha hf=>aIy o b0 a f ha hf w' (bU (aI (l:=cO o) (bL _ (.head _)) w hw) (St.notin hw (.head _)) w' hw')))) U (kF λG0 hG0=>?_))
  refine aH ?_
  have e9:gR K.toaRU o x=change K.toaRU o.y (λv f=>(gQ o.x v f,mN o.x v f)) x:=by unfold gR;(iterate 6 rw[ae I]);rw[ag I]
  exact EV U (.cons _ aJ) ⟨M Value.bool (am I:kW o.kind=true).symm,G0,fC,kY⟩
 refine ZBV ?_
 refine KC (λq7 z7=>?_) (λq7 z7=>?_)
 ·refine ZBI ?_
  refine DR [3,4,5,6,7,8,9] (bQ [0,2,4,6,8,10,12,14,16,18,21,22,24,26,28,30,32,34,37,38]) ?_
  refine cL ?_
  refine DZ U (cZ K_ U (aS (aCs o.x x.s.r.a x.s.r.f h.r.a h.r.f))) U aY (tC ?_)
  refine aH ?_
  refine DZ U (bC (l':=cN K {x.s with r:={x.s.r with a:=gQ o.x x.s.r.a x.s.r.f} }) 1) U aY (jL ?_)
  refine ZBV ?_
  refine RW (v:=(.int .u8 (fl false false false (turnO o.x x.s.r.a)))) (cM U U) U (M _ (aPf _ _ _ _)) (ZBZ ?_)
  refine W (bC (l':=cN K {x.s with r:={x.s.r with a:=gQ o.x x.s.r.a x.s.r.f,f:=fl false false false (turnO o.x x.s.r.a)} }) 1) U (oX ?_)
  have e9:gR K.toaRU o x=x.reg {x.s.r with a:=gQ o.x x.s.r.a x.s.r.f,f:=fl false false false (turnO o.x x.s.r.a)}:=by unfold gR;(iterate 7 rw[ae I]);rw[ag I]
  exact EV U (.cons _ aJ) ⟨M Value.bool (am I:kW o.kind=true).symm,G,fC,rY⟩
 refine ZBV ?_
 refine KC (λq8 z8=>?_) (λq8 z8=>?_)
 ·refine nH [(b0,J (cO o) 159)] [3,4,5,6,7] (.step true 0 (.step true 1 (.step true 2 (.step true 3 (.step true 4 (.step true 5 (.step true 7 (.step false 6 (.step false 8 (.step true 9 (.step true 10 (.step true 11 (.step true 12 (.step false 13 .done)))))))))))))) U aN aN (λx hx=>Is) ?_
  refine ZCy ?_
  refine Iu λG0 hG0=>?_
  refine DZ U (cZ K_ U (aS (aGb o.x (gett K.toaRU o.y x).1 x.s.r.f hgy9.2 h.r.f))) U aY (ZBZ ?_)
  refine DZ U (bC (l':=cN K {x.s with r:={x.s.r with f:=Se o.x (gett K.toaRU o.y x).1 x.s.r.f} }) 1) U aY (oX ?_)
  have e9:gR K.toaRU o x=(x.mem (gett K.toaRU o.y x).2.m).reg {x.s.r with f:=Se o.x (gett K.toaRU o.y x).1 x.s.r.f}:=by unfold gR;(iterate 8 rw[ae I]);rw[ag I];rw[<-Cq,aFF]
  exact EV U (.cons _ aJ) ⟨M Value.bool (am I:kW o.kind=true).symm,G0,fC,kY⟩
 refine ZBV ?_
 refine KC (λq9 z9=>?_) (λq9 z9=>?_)
 ·refine ZCH ?_
  refine DW (v:=(.int .u8 (shl .u8 1 o.x))) U (iK U U ho.x.1) U U (Iu λG0 hG0=>?_)
  refine DW (v:=(.int .u8 (tU (gett K.toaRU o.y x).1 o.x))) U (zS U U) U (M _ (aBR hgy9.2 ho.x)) (DX U (cB (F:=[(b0,_)]) (A:=(rb,_)::_) K_ U (dG (Kq K rb (x.mem (gett K.toaRU o.y x).2.m) (h.gmem o.y) G0 hG0 o.y (tU (gett K.toaRU o.y x).1 o.x) (Tn hgy9.2 ho.x).1))) U aY (nQ λG1 hG1=>?_))
  refine aH ?_
  have e9:gR K.toaRU o x=sett K.toaRU o.y (tU (gett K.toaRU o.y x).1 o.x) (x.mem (gett K.toaRU o.y x).2.m):=by unfold gR;(iterate 9 rw[ae I]);rw[ag I];rw[<-Cq]
  exact EV U (.cons _ aJ) ⟨M Value.bool (am I:kW o.kind=true).symm,G1,fC,mZ⟩
 refine ZBV ?_
 refine KC (λq10 z10=>?_) (λq10 z10=>?_)
 ·refine ZCH ?_
  refine DW (v:=(.int .u8 (shl .u8 1 o.x))) U (iK U U ho.x.1) U U (Iu λG0 hG0=>?_)
  refine DW (v:=(.int .u8 (wR (gett K.toaRU o.y x).1 o.x))) U (dE U U) U (M _ (aNv hgy9.2 ho.x)) (DX U (cB (F:=[(b0,_)]) (A:=(rb,_)::_) K_ U (dG (Kq K rb (x.mem (gett K.toaRU o.y x).2.m) (h.gmem o.y) G0 hG0 o.y (wR (gett K.toaRU o.y x).1 o.x) (Tn hgy9.2 ho.x).2))) U aY (nQ λG1 hG1=>?_))
  refine aH ?_
  have e9:gR K.toaRU o x=sett K.toaRU o.y (wR (gett K.toaRU o.y x).1 o.x) (x.mem (gett K.toaRU o.y x).2.m):=by unfold gR;(iterate 10 rw[ae I]);rw[ag I];rw[<-Cq]
  exact EV U (.cons _ aJ) ⟨M Value.bool (am I:kW o.kind=true).symm,G1,fC,mZ⟩
 refine ZBV ?_
 refine KC (λq11 z11=>?_) (λq11 z11=>?_)
 ·refine cL ?_
  refine aO K_ (aS (aJj x.s.r.a x.s.r.f h.r.a h.r.f)) ?_
  refine ZCy ?_
  refine W (bC (l':=cN K {x.s with r:={x.s.r with a:=tY x.s.r.a x.s.r.f} }) 1) U (pI ?_)
  refine W (bC (l':=cN K {x.s with r:={x.s.r with a:=tY x.s.r.a x.s.r.f,f:=Sz x.s.r.a x.s.r.f} }) 1) U (oX ?_)
  have e9:gR K.toaRU o x=x.reg {x.s.r with a:=tY x.s.r.a x.s.r.f,f:=Sz x.s.r.a x.s.r.f}:=by unfold gR;(iterate 11 rw[ae I]);rw[ag I]
  exact EV U (.cons _ aJ) ⟨M Value.bool (am I:kW o.kind=true).symm,G,fC,rY⟩
 refine ZBV ?_
 refine KC (λq12 z12=>?_) (λq12 z12=>?_)
 ·refine bW ?_
  refine RW (v:=(.int .u8 (255-x.s.r.a))) U U (M _ (aH1 h.r.a)) (ZBZ ?_)
  refine W (bC (l':=cN K {x.s with r:={x.s.r with a:=255-x.s.r.a} }) 1) U (pI ?_)
  refine RW (v:=(.int .u8 (aQ .u8 x.s.r.f 144))) (cM U U) U U (RW (v:=(.int .u8 (bI .u8 (aQ .u8 x.s.r.f 144) 64))) (dE U U) U U (RW (v:=(.int .u8 (fl (zF x.s.r.f) true true (cF x.s.r.f)))) (dE U U) U (M _ (aLq h.r.f)) (ZBZ ?_)))
  refine W (bC (l':=cN K {x.s with r:={x.s.r with a:=255-x.s.r.a,f:=fl (zF x.s.r.f) true true (cF x.s.r.f)} }) 1) U (oX ?_)
  have e9:gR K.toaRU o x=x.reg {x.s.r with a:=255-x.s.r.a,f:=fl (zF x.s.r.f) true true (cF x.s.r.f)}:=by unfold gR;(iterate 12 rw[ae I]);rw[ag I]
  exact EV U (.cons _ aJ) ⟨M Value.bool (am I:kW o.kind=true).symm,G,fC,rY⟩
 refine ZBV ?_
 refine KC (λq13 z13=>?_) (λq13 z13=>?_)
 ·refine ZA2 ?_
  refine RW (v:=(.int .u8 (aQ .u8 x.s.r.f 128))) (cM U U) U U (RW (v:=(.int .u8 (fl (zF x.s.r.f) false false true))) (dE U U) U (M _ (aNH h.r.f)) (ZBZ ?_))
  refine W (bC (l':=cN K {x.s with r:={x.s.r with f:=fl (zF x.s.r.f) false false true} }) 1) U (oX ?_)
  have e9:gR K.toaRU o x=x.reg {x.s.r with f:=fl (zF x.s.r.f) false false true}:=by unfold gR;(iterate 13 rw[ae I]);rw[ag I]
  exact EV U (.cons _ aJ) ⟨M Value.bool (am I:kW o.kind=true).symm,G,fC,rY⟩
 refine ZBV ?_
 refine KC (λq14 z14=>?_) (λq14 z14=>?_)
 ·refine ZA2 ?_
  refine RW (v:=(.int .u8 (aQ .u8 x.s.r.f 144))) (cM U U) U U (RW (v:=(.int .u8 (fl (zF x.s.r.f) false false (!cF x.s.r.f)))) (Rs U U) U (M _ (aMs h.r.f)) (ZBZ ?_))
  refine W (bC (l':=cN K {x.s with r:={x.s.r with f:=fl (zF x.s.r.f) false false (!cF x.s.r.f)} }) 1) U (oX ?_)
  have e9:gR K.toaRU o x=x.reg {x.s.r with f:=fl (zF x.s.r.f) false false (!cF x.s.r.f)}:=by unfold gR;(iterate 14 rw[ae I]);rw[ag I]
  exact EV U (.cons _ aJ) ⟨M Value.bool (am I:kW o.kind=true).symm,G,fC,rY⟩
 refine ZBV ?_
 exact EV U (.cons _ aJ) ⟨M Value.bool (cu I:kW o.kind=false).symm,G,by rw[Jz K.toaRU (cu I)],by rw[Jz K.toaRU (cu I)];exact hG⟩
def rwords_fn{β:Type}(K:mH prog β)(rb:Nat){bn:Nat}(x:Rn β)(h:RunOk K.toaRT (bn+3) x)(G:aF)(hG:K.rep x.m G)(o:cJ)(ho:rB o)(w:AI)(hst:St w (rb::G.map (·.1)) ((rb,J (cN K x.s) 321)::G) w):aG prog 195 [P_ rb,.agg (cO o).toArray] w (rb::G.map (·.1)) (λv H=>v= .bool (pA o.kind)/\sU K rb (jX K.toaRU o x) H):=by
 have hn9:=ho.n
 have hs9:=h.r.sp
 have hp9:=h.r.setP o.x (zA (w:=(pairR x.s.r o.x)))
 have hm9:=h.r.setP o.x (Aw (w:=(pairR x.s.r o.x)))
 have hq9:=(h.r.f_ (vR (zF x.s.r.f) false (decide (4095<(pairR x.s.r 2)%4096+(pairR x.s.r o.x)%4096)) (decide (65535<(pairR x.s.r 2)+(pairR x.s.r o.x))))).setP 2 (Zf (a:=(pairR x.s.r 2)) (b:=(pairR x.s.r o.x)))
 refine cG func195 hst ?_
 refine Im ?_
 refine ZBF λb0=>?_
 refine sB ?_
 refine KC (λq0 z0=>?_) (λq0 z0=>?_)
 ·refine aH ?_
  refine RX (cB (F:=[(b0,_)]) (A:=(rb,_)::_) K_ U (dG (Al K rb x h G hG o.x o.n ho.n))) U (kF λG0 hG0=>?_)
  refine aH ?_
  have e9:jX K.toaRU o x=x.reg (iX x.s.r o.x o.n):=by unfold jX;rw[ag I]
  exact EV U (.cons _ aJ) ⟨M Value.bool (am I:pA o.kind=true).symm,G0,fC,kY⟩
 refine ZBV ?_
 refine KC (λq1 z1=>?_) (λq1 z1=>?_)
 ·refine ZCq ?_
  refine aH ?_
  refine P4 ?_
  refine DW (v:=(.int .u16 (nE (pairR x.s.r o.x)))) U (nD U U) U (M _ (qC _)) (DX U (cB (F:=[(b0,_)]) (A:=(rb,_)::_) K_ U (dG (Al K rb x h G hG o.x (nE (pairR x.s.r o.x)) zA))) U aY (kF λG0 hG0=>?_))
  refine ZA2 ?_
  refine RX (cB (F:=[(b0,_)]) (A:=(rb,_)::_) K_ U (dG (ridle_fn K rb 1 aD (x.reg (iX x.s.r o.x (nE (pairR x.s.r o.x)))) (h.reg hp9) G0 hG0))) U (nQ λG1 hG1=>?_)
  refine aH ?_
  have e9:jX K.toaRU o x=idles K.toaRU 1 (x.reg (iX x.s.r o.x (nE (pairR x.s.r o.x)))):=by unfold jX;rw[ae I];rw[ag I]
  exact EV U (.cons _ aJ) ⟨M Value.bool (am I:pA o.kind=true).symm,G1,fC,mZ⟩
 refine ZBV ?_
 refine KC (λq2 z2=>?_) (λq2 z2=>?_)
 ·refine ZCq ?_
  refine aH ?_
  refine P4 ?_
  refine DW (v:=(.int .u16 (rN (pairR x.s.r o.x)))) U (mM U U) U (M _ (qC _)) (DX U (cB (F:=[(b0,_)]) (A:=(rb,_)::_) K_ U (dG (Al K rb x h G hG o.x (rN (pairR x.s.r o.x)) Aw))) U aY (kF λG0 hG0=>?_))
  refine ZA2 ?_
  refine RX (cB (F:=[(b0,_)]) (A:=(rb,_)::_) K_ U (dG (ridle_fn K rb 1 aD (x.reg (iX x.s.r o.x (rN (pairR x.s.r o.x)))) (h.reg hm9) G0 hG0))) U (nQ λG1 hG1=>?_)
  refine aH ?_
  have e9:jX K.toaRU o x=idles K.toaRU 1 (x.reg (iX x.s.r o.x (rN (pairR x.s.r o.x)))):=by unfold jX;(iterate 2 rw[ae I]);rw[ag I]
  exact EV U (.cons _ aJ) ⟨M Value.bool (am I:pA o.kind=true).symm,G1,fC,mZ⟩
 refine ZBV ?_
 refine KC (λq3 z3=>?_) (λq3 z3=>?_)
 ·refine ZBI ?_
  refine DR [2,6,7,8,9,10,11,12] (bQ [0,2,6,8,10,14,16,18,20,22,24,5,13,27,28,30,32,34,36,38,40,42,45]) ?_
  refine iT ?_
  refine DZ U (cZ K_ U (λw hw=>rpair_fn K rb x.s h.r w (aI (l:=cN K x.s) aE w hw) 2)) U gV (P4 ?_)
  refine DZ U (cZ K_ U (aS (aRK (pairR x.s.r 2) (pairR x.s.r o.x) x.s.r.f (tF h.r 2) (tF h.r o.x) h.r.f))) U aY (tC ?_)
  refine ZCy ?_
  refine DZ U (bC (l':=cN K {x.s with r:={x.s.r with f:=Hf (pairR x.s.r 2) (pairR x.s.r o.x) x.s.r.f} }) 1) U aY (jL ?_)
  refine ZBV ?_
  refine RX (cB (F:=[(b0,_)]) (A:=(rb,_)::_) K_ U (dG (Al K rb (x.reg {x.s.r with f:=Hf (pairR x.s.r 2) (pairR x.s.r o.x) x.s.r.f}) (h.reg (h.r.f_ (vR _ _ _ _))) G hG 2 (zP (pairR x.s.r 2) (pairR x.s.r o.x)) Zf))) U (kF λG0 hG0=>?_)
  refine ZA2 ?_
  refine RX (cB (F:=[(b0,_)]) (A:=(rb,_)::_) K_ U (dG (ridle_fn K rb 1 aD (x.reg (iX {x.s.r with f:=Hf (pairR x.s.r 2) (pairR x.s.r o.x) x.s.r.f} 2 (zP (pairR x.s.r 2) (pairR x.s.r o.x)))) (h.reg hq9) G0 hG0))) U (nQ λG1 hG1=>?_)
  refine aH ?_
  have e9:jX K.toaRU o x=idles K.toaRU 1 (x.reg (iX {x.s.r with f:=Hf (pairR x.s.r 2) (pairR x.s.r o.x) x.s.r.f} 2 (zP (pairR x.s.r 2) (pairR x.s.r o.x)))):=by unfold jX;(iterate 3 rw[ae I]);rw[ag I]
  exact EV U (.cons _ aJ) ⟨M Value.bool (am I:pA o.kind=true).symm,G1,fC,mZ⟩
 refine ZBV ?_
 refine KC (λq4 z4=>?_) (λq4 z4=>?_)
 ·refine ZBI ?_
  refine DR [8,9,10] (bQ [0,2,4,6,8,10,12,14,16,18,20,23,24,26,28,30,32,34,36,39,40,42,44,46,49]) ?_
  refine cL ?_
  refine wG ?_
  refine DZ U (cZ K_ U (aS (aBk x.s.r.sp (o.n%256) h.r.sp I))) U aY (tC ?_)
  refine aH ?_
  refine DZ U (bC (l':=cN K {x.s with r:={x.s.r with sp:=rK x.s.r.sp (o.n%256)} }) 1) U aY (pI ?_)
  refine DZ U (bC (l':=cN K {x.s with r:={x.s.r with sp:=rK x.s.r.sp (o.n%256),f:=wM x.s.r.sp (o.n%256)} }) 1) U aY (xP ?_)
  refine RX (cB (F:=[(b0,_)]) (A:=(rb,_)::_) K_ U (dG (ridle_fn K rb 2 aD (x.reg {x.s.r with sp:=rK x.s.r.sp (o.n%256),f:=wM x.s.r.sp (o.n%256)}) (h.reg ((h.r.sp_ Lm).f_ (vR _ _ _ _))) G hG))) U (kF λG0 hG0=>?_)
  refine aH ?_
  have e9:jX K.toaRU o x=idles K.toaRU 2 (x.reg {x.s.r with sp:=rK x.s.r.sp (o.n%256),f:=wM x.s.r.sp (o.n%256)}):=by unfold jX;(iterate 4 rw[ae I]);rw[ag I]
  exact EV U (.cons _ aJ) ⟨M Value.bool (am I:pA o.kind=true).symm,G0,fC,kY⟩
 refine ZBV ?_
 refine KC (λq5 z5=>?_) (λq5 z5=>?_)
 ·refine ZBI ?_
  refine DR [7,8,9] (bQ [0,2,4,6,8,10,12,14,16,18,21,22,24,26,28,30,32,34,36,39]) ?_
  refine bW ?_
  refine wG ?_
  refine DZ U (cZ K_ U (aS (aBk x.s.r.sp (o.n%256) h.r.sp I))) U aY (tC ?_)
  refine ZCy ?_
  refine DZ U (bC (l':=cN K {x.s with r:={x.s.r with f:=wM x.s.r.sp (o.n%256)} }) 1) U aY (jL ?_)
  refine ZBV ?_
  refine RX (cB (F:=[(b0,_)]) (A:=(rb,_)::_) K_ U (dG (Al K rb (x.reg {x.s.r with f:=wM x.s.r.sp (o.n%256)}) (h.reg (h.r.f_ (vR _ _ _ _))) G hG 2 (rK x.s.r.sp (o.n%256)) Lm))) U (kF λG0 hG0=>?_)
  refine ZA2 ?_
  refine RX (cB (F:=[(b0,_)]) (A:=(rb,_)::_) K_ U (dG (ridle_fn K rb 1 aD (x.reg (iX {x.s.r with f:=wM x.s.r.sp (o.n%256)} 2 (rK x.s.r.sp (o.n%256)))) (h.reg ((h.r.f_ (vR _ _ _ _)).setP 2 Lm)) G0 hG0))) U (nQ λG1 hG1=>?_)
  refine aH ?_
  have e9:jX K.toaRU o x=idles K.toaRU 1 (x.reg (iX {x.s.r with f:=wM x.s.r.sp (o.n%256)} 2 (rK x.s.r.sp (o.n%256)))):=by unfold jX;(iterate 5 rw[ae I]);rw[ag I]
  exact EV U (.cons _ aJ) ⟨M Value.bool (am I:pA o.kind=true).symm,G1,fC,mZ⟩
 refine ZBV ?_
 refine KC (λq6 z6=>?_) (λq6 z6=>?_)
 ·refine ZBZ ?_
  refine aO K_ (λw hw=>rpair_fn K rb x.s h.r w (aI (l:=cN K x.s) aE w hw) 2) ?_
  refine ZBZ ?_
  refine W (bC (l':=cN K {x.s with r:={x.s.r with sp:=(pairR x.s.r 2)} }) 1) U (xP ?_)
  refine RX (cB (F:=[(b0,_)]) (A:=(rb,_)::_) K_ U (dG (ridle_fn K rb 1 aD (x.reg {x.s.r with sp:=(pairR x.s.r 2)}) (h.reg (h.r.sp_ (tF h.r 2))) G hG))) U (kF λG0 hG0=>?_)
  refine aH ?_
  have e9:jX K.toaRU o x=idles K.toaRU 1 (x.reg {x.s.r with sp:=(pairR x.s.r 2)}):=by unfold jX;(iterate 6 rw[ae I]);rw[ag I]
  exact EV U (.cons _ aJ) ⟨M Value.bool (am I:pA o.kind=true).symm,G0,fC,kY⟩
 refine ZBV ?_
 refine KC (λq7 z7=>?_) (λq7 z7=>?_)
 ·refine ZA2 ?_
  refine Ha λG0 hG0=>?_
  refine aH ?_
  refine aO K_ (λw hw=>rpair_fn K rb (idles K.toaRU 1 x).s (h.idleK 1).r w (aI (l:=cN K (idles K.toaRU 1 x).s) aE w hw) o.x) ?_
  refine RX (cB (F:=[(b0,_)]) (A:=(rb,_)::_) K_ U (dG (rpush_fn K rb (idles K.toaRU 1 x) (h.idleK 1) G0 hG0 (pairR (idles K.toaRU 1 x).s.r o.x) (tF h.r o.x)))) U (nQ λG1 hG1=>?_)
  refine aH ?_
  have e9:jX K.toaRU o x=push K.toaRU (pairR (idles K.toaRU 1 x).s.r o.x) (idles K.toaRU 1 x):=by unfold jX;(iterate 7 rw[ae I]);rw[ag I]
  exact EV U (.cons _ aJ) ⟨M Value.bool (am I:pA o.kind=true).symm,G1,fC,mZ⟩
 refine ZBV ?_
 refine KC (λq8 z8=>?_) (λq8 z8=>?_)
 ·refine ZA2 ?_
  refine RX (cB (F:=[(b0,_)]) (A:=(rb,_)::_) K_ U (dG (Mz K rb x h G hG))) U (kF λG0 hG0=>?_)
  refine ZCy ?_
  refine RX (cB (F:=[(b0,_)]) (A:=(rb,_)::_) K_ U (dG (Al K rb (pop K.toaRU x).2 h.pop.1 G0 hG0 o.x (pop K.toaRU x).1 h.pop.2))) U (nQ λG1 hG1=>?_)
  refine aH ?_
  have e9:jX K.toaRU o x=(pop K.toaRU x).2.reg (iX (pop K.toaRU x).2.s.r o.x (pop K.toaRU x).1):=by unfold jX;(iterate 8 rw[ae I]);rw[ag I]
  exact EV U (.cons _ aJ) ⟨M Value.bool (am I:pA o.kind=true).symm,G1,fC,mZ⟩
 refine ZBV ?_
 refine KC (λq9 z9=>?_) (λq9 z9=>?_)
 ·refine ZBI ?_
  refine DR [4,5,6,7,8,9,10,11,12,13,14] (bQ [0,2,4,6,8,10,12,14,16,18,20,22,24,26,28,31]) ?_
  refine fG ?_
  refine wG ?_
  refine ZAm ?_
  refine DX U (rG (F:=[(b0,_),(rb,_)]) (A:=G) U K.mW K.cW U (λw hw=>K.dW (n:=bn+2) h.m hG (St.lentV hw) ho.n I)) U aY ?_
  rintro _ _ ⟨G0,⟨rfl,hG0⟩,rfl⟩
  refine ZBI ?_
  refine DR [4,5,6,7,8,9,10,11,12,13,14,15,16] (bQ [0,2,4,6,8,10,12,14,16,18,20,22,24,26,28,30,32,35]) ?_
  refine aH ?_
  refine DW (v:=(.int .u16 (nE o.n))) U (nD U U) U (M _ (qC _)) (aH ?_)
  refine Sj ?_
  refine ZAm ?_
  refine DX U (rG (F:=[(b0,_),(rb,_)]) (A:=G0) U K.mW K.cW U (λw hw=>K.dW (n:=bn+1) (K.oW h.m ho.n I) hG0 (St.lentV hw) zA I)) U aY ?_
  rintro _ _ ⟨G1,⟨rfl,hG1⟩,rfl⟩
  refine aH ?_
  have e9:jX K.toaRU o x=x.mem (K.write (nE o.n) (x.s.r.sp/256) (K.write o.n (x.s.r.sp%256) x.m)):=by unfold jX;(iterate 9 rw[ae I]);rw[ag I]
  exact EV U (.cons _ aJ) ⟨M Value.bool (am I:pA o.kind=true).symm,G1,fC,mZ⟩
 refine ZBV ?_
 exact EV U (.cons _ aJ) ⟨M Value.bool (cu I:pA o.kind=false).symm,G,by rw[Np K.toaRU (cu I)],by rw[Np K.toaRU (cu I)];exact hG⟩
def rplaces_fn{β:Type}(K:mH prog β)(rb:Nat){bn:Nat}(x:Rn β)(h:RunOk K.toaRT (bn+1) x)(G:aF)(hG:K.rep x.m G)(o:cJ)(ho:rB o)(w:AI)(hst:St w (rb::G.map (·.1)) ((rb,J (cN K x.s) 321)::G) w):aG prog 196 [P_ rb,.agg (cO o).toArray] w (rb::G.map (·.1)) (λv H=>v= .bool (isP o.kind)/\sU K rb (if isP o.kind=true then mO K.toaRU o x else x) H):=by
 have hn9:=ho.n
 have hs9:=ho.small
 have hc9:=h.r.c
 refine cG func196 hst ?_
 refine Im ?_
 refine ZBF λb0=>?_
 refine ZE1 ?_
 rcases(show o.kind=32\/o.kind=33\/o.kind=34\/o.kind=35\/o.kind=36\/o.kind=37\/o.kind=38\/o.kind=39\/(o.kind<32\/39<o.kind)by omega)with hk|hk|hk|hk|hk|hk|hk|hk|hk
 ·refine ZE1 ?_
  refine kE ?_
  refine bW ?_
  refine RX (cB (F:=[(b0,_)]) (A:=(rb,_)::_) K_ U (dG (aFr K rb x h G hG o.x))) U (kF λG0 hG0=>?_)
  refine fG ?_
  refine kE ?_
  refine fG ?_
  refine RX (rG (F:=[(b0,_),(rb,_)]) (A:=G0) U K.mR K.cR U (λw hw=>K.dR (h.far o.x).1.m hG0 (St.lentV hw) (h.far o.x).2)) U ?_
  rintro _ _ ⟨G1,⟨rfl,hG1⟩,rfl⟩
  refine ZBZ ?_
  refine W (bC (l':=cN K { (far o.x x).2.s with r:={ (far o.x x).2.s.r with a:=(K.read (far o.x x).1 (far o.x x).2.m).1} }) 1) U (oX ?_)
  have e8:place o x=((far o.x x).1,(far o.x x).2):=by unfold place;simp only[hk];rfl
  have e9:(if isP o.kind=true then mO K.toaRU o x else x)=⟨{ (far o.x x).2.s with r:={ (far o.x x).2.s.r with a:=(K.read (far o.x x).1 (far o.x x).2.m).1} },(K.read (far o.x x).1 (far o.x x).2.m).2⟩:=by rw[ag (show isP o.kind=true from am I)];unfold mO;simp only[e8,hk];rfl
  exact EV U (.cons _ aJ) ⟨M Value.bool (am I:isP o.kind=true).symm,G1,fC,mZ⟩
 ·refine ZE1 ?_
  refine xJ ?_
  refine kE ?_
  refine ZCy ?_
  refine RX (cB (F:=[(b0,_)]) (A:=(rb,_)::_) K_ U (dG (aFr K rb x h G hG o.x))) U (kF λG0 hG0=>?_)
  refine fG ?_
  refine sZ ?_
  refine oO ?_
  refine ZA2 ?_
  refine M8 ?_
  refine DX U (rG (F:=[(b0,_),(rb,_)]) (A:=G0) U K.mW K.cW U (λw hw=>K.dW (h.far o.x).1.m hG0 (St.lentV hw) (h.far o.x).2 (h.far o.x).1.r.a)) U aY ?_
  rintro _ _ ⟨G1,⟨rfl,hG1⟩,rfl⟩
  refine aH ?_
  have e8:place o x=((far o.x x).1,(far o.x x).2):=by unfold place;simp only[hk];rfl
  have e9:(if isP o.kind=true then mO K.toaRU o x else x)=(far o.x x).2.mem (K.write (far o.x x).1 (far o.x x).2.s.r.a (far o.x x).2.m):=by rw[ag (show isP o.kind=true from am I)];unfold mO;simp only[e8,hk];rfl
  exact EV U (.cons _ aJ) ⟨M Value.bool (am I:isP o.kind=true).symm,G1,fC,mZ⟩
 ·refine uC ?_
  refine aH ?_
  refine kE ?_
  refine ZE1 ?_
  refine RW (v:=(.int .u16 (65280+o.n%256))) (dE U U) U (M _ ((Rh I).trans I)) (fG ?_)
  refine Va ?_
  refine kE ?_
  refine fG ?_
  refine N4 λG0 hG0=>?_
  refine ZBZ ?_
  refine W (bC (l':=cN K {x.s with r:={x.s.r with a:=(K.read (65280+o.n%256) x.m).1} }) 1) U (oX ?_)
  have e8:place o x=((65280+o.n%256),x):=by unfold place;simp only[hk];rfl
  have e9:(if isP o.kind=true then mO K.toaRU o x else x)=⟨{x.s with r:={x.s.r with a:=(K.read (65280+o.n%256) x.m).1} },(K.read (65280+o.n%256) x.m).2⟩:=by rw[ag (show isP o.kind=true from am I)];unfold mO;simp only[e8,hk];rfl
  exact EV U (.cons _ aJ) ⟨M Value.bool (am I:isP o.kind=true).symm,G0,fC,kY⟩
 ·refine uC ?_
  refine aH ?_
  refine xJ ?_
  refine kE ?_
  refine aH ?_
  refine RW (v:=(.int .u16 (65280+o.n%256))) (dE U U) U (M _ ((Rh I).trans I)) (fG ?_)
  refine sZ ?_
  refine oO ?_
  refine ZA2 ?_
  refine Yt ?_
  rintro _ _ ⟨G0,⟨rfl,hG0⟩,rfl⟩
  refine aH ?_
  have e8:place o x=((65280+o.n%256),x):=by unfold place;simp only[hk];rfl
  have e9:(if isP o.kind=true then mO K.toaRU o x else x)=x.mem (K.write (65280+o.n%256) x.s.r.a x.m):=by rw[ag (show isP o.kind=true from am I)];unfold mO;simp only[e8,hk];rfl
  exact EV U (.cons _ aJ) ⟨M Value.bool (am I:isP o.kind=true).symm,G0,fC,kY⟩
 ·refine uC ?_
  refine aH ?_
  refine oO ?_
  refine aH ?_
  refine kE ?_
  refine fG ?_
  refine Ea ?_
  refine RW (v:=(.int .u16 (65280+x.s.r.c))) (dE U U) U (M _ (Rh h.r.c)) (fG ?_)
  refine sZ ?_
  refine kE ?_
  refine fG ?_
  refine N4 λG0 hG0=>?_
  refine ZBZ ?_
  refine W (bC (l':=cN K {x.s with r:={x.s.r with a:=(K.read (65280+x.s.r.c) x.m).1} }) 1) U (oX ?_)
  have e8:place o x=((65280+x.s.r.c),x):=by unfold place;simp only[hk];rfl
  have e9:(if isP o.kind=true then mO K.toaRU o x else x)=⟨{x.s with r:={x.s.r with a:=(K.read (65280+x.s.r.c) x.m).1} },(K.read (65280+x.s.r.c) x.m).2⟩:=by rw[ag (show isP o.kind=true from am I)];unfold mO;simp only[e8,hk];rfl
  exact EV U (.cons _ aJ) ⟨M Value.bool (am I:isP o.kind=true).symm,G0,fC,kY⟩
 ·refine uC ?_
  refine aH ?_
  refine oO ?_
  refine aH ?_
  refine xJ ?_
  refine kE ?_
  refine cL ?_
  refine Ea ?_
  refine RW (v:=(.int .u16 (65280+x.s.r.c))) (dE U U) U (M _ (Rh h.r.c)) (fG ?_)
  refine sZ ?_
  refine oO ?_
  refine ZA2 ?_
  refine Yt ?_
  rintro _ _ ⟨G0,⟨rfl,hG0⟩,rfl⟩
  refine aH ?_
  have e8:place o x=((65280+x.s.r.c),x):=by unfold place;simp only[hk];rfl
  have e9:(if isP o.kind=true then mO K.toaRU o x else x)=x.mem (K.write (65280+x.s.r.c) x.s.r.a x.m):=by rw[ag (show isP o.kind=true from am I)];unfold mO;simp only[e8,hk];rfl
  exact EV U (.cons _ aJ) ⟨M Value.bool (am I:isP o.kind=true).symm,G0,fC,kY⟩
 ·refine uC ?_
  refine aH ?_
  refine oO ?_
  refine aH ?_
  refine oO ?_
  refine aH ?_
  refine kE ?_
  refine aKG ?_
  refine sZ ?_
  refine xJ ?_
  refine kE ?_
  refine cL ?_
  refine N4 λG0 hG0=>?_
  refine ZBZ ?_
  refine W (bC (l':=cN K {x.s with r:={x.s.r with a:=(K.read o.n x.m).1} }) 1) U (oX ?_)
  have e8:place o x=(o.n,x):=by unfold place;simp only[hk];rfl
  have e9:(if isP o.kind=true then mO K.toaRU o x else x)=⟨{x.s with r:={x.s.r with a:=(K.read o.n x.m).1} },(K.read o.n x.m).2⟩:=by rw[ag (show isP o.kind=true from am I)];unfold mO;simp only[e8,hk];rfl
  exact EV U (.cons _ aJ) ⟨M Value.bool (am I:isP o.kind=true).symm,G0,fC,kY⟩
 ·refine uC ?_
  refine aH ?_
  refine oO ?_
  refine aH ?_
  refine oO ?_
  refine aH ?_
  refine xJ ?_
  refine kE ?_
  refine sB ?_
  refine sZ ?_
  refine oO ?_
  refine ZA2 ?_
  refine Yt ?_
  rintro _ _ ⟨G0,⟨rfl,hG0⟩,rfl⟩
  refine aH ?_
  have e8:place o x=(o.n,x):=by unfold place;simp only[hk];rfl
  have e9:(if isP o.kind=true then mO K.toaRU o x else x)=x.mem (K.write o.n x.s.r.a x.m):=by rw[ag (show isP o.kind=true from am I)];unfold mO;simp only[e8,hk];rfl
  exact EV U (.cons _ aJ) ⟨M Value.bool (am I:isP o.kind=true).symm,G0,fC,kY⟩
 refine uC ?_
 refine aH ?_
 refine oO ?_
 refine aH ?_
 refine oO ?_
 refine aH ?_
 refine oO ?_
 refine ZE1 ?_
 exact EV U (.cons _ aJ) ⟨M Value.bool (cu I:isP o.kind=false).symm,G,by rw[ae aEU],by rw[ae aEU];exact hG⟩
def aQ1{β:Type}(K:mH prog β)(rb:Nat){bn:Nat}(x:Rn β)(h:RunOk K.toaRT (bn+4) x)(G:aF)(hG:K.rep x.m G)(o:cJ)(ho:rB o)(w:AI)(hst:St w (rb::G.map (·.1)) ((rb,J (cN K x.s) 321)::G) w):aG prog 197 [P_ rb,.agg (cO o).toArray] w (rb::G.map (·.1)) (λv H=>v= .bool (metJ o x)/\sU K rb (effJ K.toaRU o x) H):=by
 have hn9:=ho.n
 have hi9:=h.idleK 1
 have hp9:=h.r.pc
 refine cG func197 hst ?_
 refine Im ?_
 refine ZBF λb0=>?_
 refine ZA2 ?_
 refine DR [5,6] (bQ [0,2,4,6,8,10,12,15,16]) ?_
 refine ZBZ ?_
 refine fZ U U U U (λw hw=>aK.left (aK.left (jR (l:=cN K x.s) aE w hw))) U U ?_
 refine ZAm ?_
 refine DZ U (cZ K_ U (aS (aHw x.s.r h.r o.x))) U aY (ZBZ ?_)
 rcases(show o.kind=23\/o.kind=24\/o.kind=25\/o.kind=26\/o.kind=27\/o.kind=28\/o.kind=29\/(o.kind<23\/29<o.kind)by omega)with hk|hk|hk|hk|hk|hk|hk|hk
 ·refine ZA2 ?_
  refine jP ?_
  refine sB ?_
  refine kE ?_
  refine cL ?_
  refine KC (λq0 z0=>?_) (λq0 z0=>?_)
  ·refine ZBV ?_
   refine Bz λe7=>?_
   have e8:metJ o x=false:=by unfold metJ;rw[(am I:decide (23<=o.kind/\o.kind<=26)=true)];simpa using q0
   exact Qu
  refine Kg ?_
  refine kE ?_
  refine ZE1 ?_
  refine Ha λG0 hG0=>?_
  refine ZBI ?_
  refine DR [6,7,8,9] (bQ [0,2,4,6,8,10,12,14,16,18,20,22,24,26,28,31]) ?_
  refine ZE1 ?_
  refine DW (v:=(.int .i8 (s8 (o.n%256)))) U (gF U U U) U (M _ (aJW _)) (DW (v:=(.int .u16 (s8 (o.n%256)%65536))) U (gF U U U) U (M _ (qC _)) (DW (v:=(.int .u16 ((x.s.r.pc+s8 (o.n%256))%65536))) U (nD U U) U (M _ ((qC _).trans (show(x.s.r.pc+s8 (o.n%256)%65536)%65536=(x.s.r.pc+s8 (o.n%256))%65536 by omega))) (ZBZ ?_)))
  refine DZ U (bC (l':=cN K { (idles K.toaRU 1 x).s with r:={ (idles K.toaRU 1 x).s.r with pc:=(x.s.r.pc+s8 (o.n%256))%65536} }) 1) U aY (jL ?_)
  refine ZCy ?_
  refine B4 λe7 e8=>?_
  have e9:effJ K.toaRU o x=goto ((x.s.r.pc+s8 (o.n%256))%65536) (idles K.toaRU 1 x):=by unfold effJ;rw[e7,e8];simp only[eh,if_false];simp only[hk];rfl
  exact EV U (.cons _ aJ) ⟨M Value.bool e8.symm,G0,fC,kY⟩
 ·refine ZA2 ?_
  refine jP ?_
  refine sB ?_
  refine Va ?_
  refine kE ?_
  refine cL ?_
  refine KC (λq0 z0=>?_) (λq0 z0=>?_)
  ·refine ZBV ?_
   refine Bz λe7=>?_
   have e8:metJ o x=false:=by unfold metJ;rw[(am I:decide (23<=o.kind/\o.kind<=26)=true)];simpa using q0
   exact Qu
  refine Kg ?_
  refine tO ?_
  refine kE ?_
  refine ZE1 ?_
  refine Ha λG0 hG0=>?_
  refine bW ?_
  refine W (bC (l':=cN K { (idles K.toaRU 1 x).s with r:={ (idles K.toaRU 1 x).s.r with pc:=o.n} }) 1) U (jL ?_)
  refine ZCy ?_
  refine B4 λe7 e8=>?_
  have e9:effJ K.toaRU o x=goto o.n (idles K.toaRU 1 x):=by unfold effJ;rw[e7,e8];simp only[eh,if_false];simp only[hk];rfl
  exact EV U (.cons _ aJ) ⟨M Value.bool e8.symm,G0,fC,kY⟩
 ·refine ZA2 ?_
  refine jP ?_
  refine sB ?_
  refine sZ ?_
  refine kE ?_
  refine cL ?_
  refine KC (λq0 z0=>?_) (λq0 z0=>?_)
  ·refine ZBV ?_
   refine Bz λe7=>?_
   have e8:metJ o x=false:=by unfold metJ;rw[(am I:decide (23<=o.kind/\o.kind<=26)=true)];simpa using q0
   exact Qu
  refine Kg ?_
  refine tO ?_
  refine jP ?_
  refine ZE1 ?_
  refine kE ?_
  refine cL ?_
  refine Ha λG0 hG0=>?_
  refine ZEJ ?_
  refine nQ λG1 hG1=>?_
  refine ZDn ?_
  refine jL ?_
  refine ZCy ?_
  refine B4 λe7 e8=>?_
  exact ZCP
 ·refine ZA2 ?_
  refine kE ?_
  refine aH ?_
  refine KC (λq0 z0=>?_) (λq0 z0=>?_)
  ·refine ZAm ?_
   refine Ha λG0 hG0=>?_
   refine iT ?_
   refine sZ ?_
   refine xJ ?_
   refine kE ?_
   refine ZE1 ?_
   refine KC (λq1 z1=>?_) (λq1 z1=>?_)
   ·refine ZBV ?_
    have e7:(if o.kind=26/\o.x≠4 then idles K.toaRU 1 x else x)=(idles K.toaRU 1 x):=ag I
    have e8:metJ o x=false:=by unfold metJ;rw[(am I:decide (23<=o.kind/\o.kind<=26)=true)];simpa using q1
    have e9:effJ K.toaRU o x=(idles K.toaRU 1 x):=by unfold effJ;rw[e7,e8];rfl
    exact EV U (.cons _ aJ) ⟨M Value.bool e8.symm,G0,fC,kY⟩
   refine Kg ?_
   refine tO ?_
   refine jP ?_
   refine uC ?_
   refine ZCy ?_
   refine tO ?_
   refine kE ?_
   refine bW ?_
   refine RX (cB (F:=[(b0,_)]) (A:=(rb,_)::_) K_ U (dG (Mz K rb (idles K.toaRU 1 x) (h.idleK 1) G0 hG0))) U (nQ λG1 hG1=>?_)
   refine ZBZ ?_
   refine W (bC (l':=cN K { (pop K.toaRU (idles K.toaRU 1 x)).2.s with r:={ (pop K.toaRU (idles K.toaRU 1 x)).2.s.r with pc:=(pop K.toaRU (idles K.toaRU 1 x)).1} }) 1) U (xP ?_)
   refine RX (cB (F:=[(b0,_)]) (A:=(rb,_)::_) K_ U (dG (ridle_fn K rb 1 aD (goto (pop K.toaRU (idles K.toaRU 1 x)).1 (pop K.toaRU (idles K.toaRU 1 x)).2) ((RunOk.pop (h.idleK 1)).1.reg ((RunOk.pop (h.idleK 1)).1.r.pc_ (RunOk.pop (h.idleK 1)).2)) G1 hG1))) U ?_
   rintro _ _ ⟨_,⟨rfl,G2,rfl,hG2⟩,rfl⟩
   refine ZCy ?_
   have e7:(if o.kind=26/\o.x≠4 then idles K.toaRU 1 x else x)=(idles K.toaRU 1 x):=ag I
   have e8:metJ o x=true:=by unfold metJ;rw[(am I:decide (23<=o.kind/\o.kind<=26)=true)];simpa using q1
   have e9:effJ K.toaRU o x=idles K.toaRU 1 (goto (pop K.toaRU (idles K.toaRU 1 x)).1 (pop K.toaRU (idles K.toaRU 1 x)).2):=by unfold effJ;rw[e7,e8];simp only[eh,if_false];simp only[hk];rfl
   exact EV U (.cons _ aJ) ⟨M Value.bool e8.symm,G2,fC,by rw[e9];exact hG2⟩
  refine iT ?_
  refine sZ ?_
  refine xJ ?_
  refine kE ?_
  refine ZE1 ?_
  refine KC (λq1 z1=>?_) (λq1 z1=>?_)
  ·refine ZBV ?_
   refine Bz λe7=>?_
   have e8:metJ o x=false:=by unfold metJ;rw[(am I:decide (23<=o.kind/\o.kind<=26)=true)];simpa using q1
   exact Qu
  refine Kg ?_
  refine tO ?_
  refine jP ?_
  refine uC ?_
  refine ZCy ?_
  refine tO ?_
  refine kE ?_
  refine bW ?_
  refine RX (cB (F:=[(b0,_)]) (A:=(rb,_)::_) K_ U (dG (Mz K rb x h G hG))) U (kF λG0 hG0=>?_)
  refine ZBZ ?_
  refine W (bC (l':=cN K { (pop K.toaRU x).2.s with r:={ (pop K.toaRU x).2.s.r with pc:=(pop K.toaRU x).1} }) 1) U (xP ?_)
  refine RX (cB (F:=[(b0,_)]) (A:=(rb,_)::_) K_ U (dG (ridle_fn K rb 1 aD (goto (pop K.toaRU x).1 (pop K.toaRU x).2) ((RunOk.pop h).1.reg ((RunOk.pop h).1.r.pc_ (RunOk.pop h).2)) G0 hG0))) U (nQ λG1 hG1=>?_)
  refine ZCy ?_
  refine Bz λe7=>?_
  have e8:metJ o x=true:=by unfold metJ;rw[(am I:decide (23<=o.kind/\o.kind<=26)=true)];simpa using q1
  have e9:effJ K.toaRU o x=idles K.toaRU 1 (goto (pop K.toaRU x).1 (pop K.toaRU x).2):=by unfold effJ;rw[e7,e8];simp only[eh,if_false];simp only[hk];rfl
  exact EV U (.cons _ aJ) ⟨M Value.bool e8.symm,G1,fC,mZ⟩
 ·refine ZA2 ?_
  refine jP ?_
  refine sB ?_
  refine sZ ?_
  refine oO ?_
  refine Qa ?_
  refine tO ?_
  refine jP ?_
  refine uC ?_
  refine ZCy ?_
  refine kE ?_
  refine bW ?_
  refine W (bC (l':=cN K {x.s with ime:=true}) 1) U (oX ?_)
  refine RX (cB (F:=[(b0,_)]) (A:=(rb,_)::_) K_ U (dG (Mz K rb (⟨{x.s with ime:=true},x.m⟩:Rn _) (⟨h.r,h.m⟩:RunOk K.toaRT _ (⟨{x.s with ime:=true},x.m⟩:Rn _)) G hG))) U (kF λG0 hG0=>?_)
  refine ZBZ ?_
  refine W (bC (l':=cN K { (pop K.toaRU (⟨{x.s with ime:=true},x.m⟩:Rn _)).2.s with r:={ (pop K.toaRU (⟨{x.s with ime:=true},x.m⟩:Rn _)).2.s.r with pc:=(pop K.toaRU (⟨{x.s with ime:=true},x.m⟩:Rn _)).1} }) 1) U (xP ?_)
  refine RX (cB (F:=[(b0,_)]) (A:=(rb,_)::_) K_ U (dG (ridle_fn K rb 1 aD (goto (pop K.toaRU (⟨{x.s with ime:=true},x.m⟩:Rn _)).1 (pop K.toaRU (⟨{x.s with ime:=true},x.m⟩:Rn _)).2) ((RunOk.pop (⟨h.r,h.m⟩:RunOk K.toaRT (bn+1+1+2) (⟨{x.s with ime:=true},x.m⟩:Rn _))).1.reg ((RunOk.pop (⟨h.r,h.m⟩:RunOk K.toaRT (bn+1+1+2) (⟨{x.s with ime:=true},x.m⟩:Rn _))).1.r.pc_ (RunOk.pop (⟨h.r,h.m⟩:RunOk K.toaRT (bn+1+1+2) (⟨{x.s with ime:=true},x.m⟩:Rn _))).2)) G0 hG0))) U (nQ λG1 hG1=>?_)
  refine ZCy ?_
  refine Mh λe7 e8=>?_
  have e9:effJ K.toaRU o x=idles K.toaRU 1 (goto (pop K.toaRU (⟨{x.s with ime:=true},x.m⟩:Rn _)).1 (pop K.toaRU (⟨{x.s with ime:=true},x.m⟩:Rn _)).2):=by unfold effJ;rw[e7,e8];simp only[eh,if_false];simp only[hk];rfl
  exact EV U (.cons _ aJ) ⟨M Value.bool e8.symm,G1,fC,mZ⟩
 ·refine ZA2 ?_
  refine jP ?_
  refine sB ?_
  refine sZ ?_
  refine oO ?_
  refine Qa ?_
  refine tO ?_
  refine jP ?_
  refine ZE1 ?_
  refine xJ ?_
  refine kE ?_
  refine ZE1 ?_
  refine Ha λG0 hG0=>?_
  refine ZEJ ?_
  refine nQ λG1 hG1=>?_
  refine ZDn ?_
  refine jL ?_
  refine ZCy ?_
  refine Mh λe7 e8=>?_
  exact ZCP
 ·refine ZA2 ?_
  refine jP ?_
  refine sB ?_
  refine sZ ?_
  refine oO ?_
  refine Qa ?_
  refine tO ?_
  refine jP ?_
  refine uC ?_
  refine ZCy ?_
  refine tO ?_
  refine jP ?_
  refine aH ?_
  refine kE ?_
  refine ZE1 ?_
  refine aO K_ (λw hw=>rpair_fn K rb x.s h.r w (aI (l:=cN K x.s) aE w hw) 2) ?_
  refine ZBZ ?_
  refine W (bC (l':=cN K {x.s with r:={x.s.r with pc:=pairR x.s.r 2} }) 1) U (jL ?_)
  refine ZCy ?_
  refine Mh λe7 e8=>?_
  have e9:effJ K.toaRU o x=goto (pairR x.s.r 2) x:=by unfold effJ;rw[e7,e8];simp only[eh,if_false];simp only[hk];rfl
  exact EV U (.cons _ aJ) ⟨M Value.bool e8.symm,G,fC,rY⟩
 refine ZA2 ?_
 refine jP ?_
 refine sB ?_
 refine sZ ?_
 refine oO ?_
 refine Qa ?_
 refine tO ?_
 refine jP ?_
 refine uC ?_
 refine ZCy ?_
 refine tO ?_
 refine jP ?_
 refine aH ?_
 refine jP ?_
 refine cL ?_
 refine Mh λe7 e8=>?_
 have e9:effJ K.toaRU o x=x:=by unfold effJ;rw[e7,e8];simp only[eh,if_false];repeat rw[ae I]
 exact EV U (.cons _ aJ) ⟨M Value.bool e8.symm,G,fC,rY⟩
def kJ.blocks{b:Nat}{u3:AH}{H:aF}(h:kJ b u3 H):H.map (·.1)=[b]:=by
 rcases h with⟨_,_,_,_,rfl⟩|rfl<;>rfl
def kJ.lent{b:Nat}{u3:AH}{H R:aF}(h:kJ b u3 H){w0 w:AI}{ms:AE}(hw:St w0 ms (H++R) w):St w [b] H w:=by
 have:=hw.lentV
 rwa[h.blocks]at this
def kJ.mem{b:Nat}{u3:AH}{H:aF}(h:kJ b u3 H):∀x∈[b],∃o,(x,o)∈H:=λx hx=>by
 rw[<-h.blocks]at hx;exact kA hx
def tT.tab(b:Nat)(u3:AH):kJ b u3 (tT b u3):= .inr rfl
def aI9(b:Nat)(u3:AH)(H0:aF)(hT:kJ b u3 H0)(w:AI)(hst:St w [b] H0 w):
  aG prog 112 [P_ b,(.func (.func 113) #[P_ b] #[])] w [b] (λv H=>v= .tuple #[]/\H=tT b u3):=by
 refine cG func112 hst ?_
 refine bG ?_
 rcases hT with⟨P,B,hP,hB,rfl⟩|rfl
 ·refine eV ?_
  refine aO K_ (λw hw=>aAK b 0 w (bT (.head _) U w hw)) ?_
  refine eD ?_
  refine W (iB K_ U (λw hw=>aIZ b u3 P B hP hB w (hw.holds _ (.head _)))) U (bG ?_)
  exact EN aJ ⟨U,U⟩
 refine eV ?_
 refine aO K_ (λw hw=>aAK b 1 w (bT (.head _) U w hw)) ?_
 refine eV ?_
 exact EN aJ ⟨U,U⟩
def L6(w:AI):
  aG prog 42 [] w [] (λv H=>∃b,v=P_ b/\kJ b (.int .u32 0) H):=by
 refine aT func42 ?_
 refine eD ?_
 refine RY (qJ (pl:=[(0,3),(3,1280),(1283,1280)]) (z:=jS (.int .u32 0) (.int .i32 0) (.int .u32 0) (List.replicate 256 o0) (List.replicate 256 o0)) (l:=jS (.int .u32 0) (.int .i32 0) (.int .u32 0) (List.replicate 256 o0) (List.replicate 256 o0)) (ps:=[]) aN aN U aN) U (RX (eE U (l:=jS (.int .u32 0) (.int .i32 0) (.int .u32 0) (List.replicate 256 o0) (List.replicate 256 o0)) U) U ?_)
 rintro _ _ ⟨b2,rfl,rfl⟩
 refine bY ?_
 exact EV U aJ ⟨_,U,.inl ⟨_,_,kQ,kQ,U⟩⟩
def aIl(b:Nat)(u3:AH)(H0:aF)(hT:kJ b u3 H0)(a x c:Int)(ha:0<=a/\a<256)(hx:0<=x/\x<256)(hc:0<=c/\c<256)(w:AI)(hst:St w [b] H0 w):
  aG prog 64 [P_ b,.int .u8 a,.int .u8 x,.int .u8 c] w [b] (λv H=>v= .agg (cO (zT a x c)).toArray/\kJ b u3 H):=by
 obtain⟨m,o,rfl,hm,ho⟩:=Yu ha.1 ha.2
 obtain⟨k,rfl⟩:∃k:Nat,x=k:=⟨x.toNat,aR⟩
 refine cG func64 hst ?_
 refine aX ?_
 refine RX (gJ U) U ?_
 rintro _ _ ⟨b8,rfl,rfl⟩
 refine kV ?_
 refine RW (v:=(.func (.func 113) #[P_ b] #[])) U U Gg (eA (H':=H0++[(b8,_)]) (λ_ h=>St.fl [[_],H0] [1,0] U (h.as U)) ?_)
 refine RX (kP (A:=H0) (G:=[(b8,_)]) [b] K_ U hT.mem (λw hw=>aI9 b u3 H0 hT w (hT.lent hw))) U ?_
 rintro _ _ ⟨_,⟨rfl,rfl⟩,rfl⟩
 refine gL ?_
 refine KC (λh1 h1n=>?_) (λh1 h1n=>?_)
 ·refine eD ?_
  refine RY (iU (s:=5) k U U U U I) U (W (bJ U U U (λw hw=>aG2 T6 (aI (.head _) w hw) (aLs I))) U (W iF U (aX ?_)))
  exact lN (H':=tT b u3) (λw hw=>eL U U U (aI aE w hw)) (λ_ h=>h.sub (cz _ _)) ⟨Qz (by rw[Ym aL];rfl),tT.tab b u3⟩
 refine gL ?_
 refine RY (iU (s:=5) m U U U U hm) U (W (bJ U U U (λw hw=>aLN (aI (.head _) w hw) ho)) U (RX (gJ U) U ?_))
 rintro _ _ ⟨b9,rfl,rfl⟩
 refine W iF U (kD ?_)
 refine KC (λh2 h2n=>?_) (λh2 h2n=>?_)
 ·refine aX ?_
  refine RW (v:=(.int .u16 k)) U U (M _ (tW I I)) (bG ?_)
  refine W iF U (bY ?_)
  refine W (bJ U U U sW) U (W iF U (aX ?_))
  exact lN (H':=tT b u3) (λw hw=>eL U U U (aI aE w hw)) (λ_ h=>St.fl [[_],[_],[_]] [1] U h) ⟨Qz (by rw[Mc rfl aL ho,Yr aL];rfl),tT.tab b u3⟩
 refine cT ?_
 refine KC (λh3 h3n=>?_) (λh3 h3n=>?_)
 ·refine aX ?_
  refine RW (v:=(.int .u16 k)) U U (M _ (tW I I)) (bG ?_)
  refine RW (v:=(.int .u16 c)) U U (M _ (tW I I)) (RY (iK U U aD) U (RW (v:=(.int .u16 (k+256*c))) U U (M _ (L3 hx hc)) (bG ?_)))
  refine W iF U (bY ?_)
  refine W (bJ U U U sW) U (W iF U (aX ?_))
  exact lN (H':=tT b u3) (λw hw=>eL U U U (aI aE w hw)) (λ_ h=>St.fl [[_],[_],[_]] [1] U h) ⟨Qz (by rw[Mc rfl aL ho,P0 aL];rfl),tT.tab b u3⟩
 refine bY ?_
 refine W (bJ U U U sW) U (W iF U (aX ?_))
 exact lN (H':=tT b u3) (λw hw=>eL U U U (aI aE w hw)) (λ_ h=>St.fl [[_],[_],[_]] [1] U h) ⟨Qz (by rw[Mc rfl aL ho,Zj aL aL];rfl),tT.tab b u3⟩
def aRd{β:Type}(K:mH prog β)(rb:Nat){bn:Nat}(x:Rn β)(h:RunOk K.toaRT (bn+4) x)(G:aF)(hG:K.rep x.m G)(o:cJ)(ho:rB o)(p:Int)(hp:0<=p/\p<65536)(w:AI)(hst:St w (rb::G.map (·.1)) ((rb,J (cN K x.s) 321)::G) w):aG prog 171 [P_ rb,.agg (cO o).toArray,.int .u16 p] w (rb::G.map (·.1)) (λv H=>v= .bool (ordT K.toaRU o p x).1/\sU K rb (ordT K.toaRU o p x).2 H):=by
 refine cG func171 hst ?_
 refine Im ?_
 refine ZBF λb0=>?_
 refine jJ ?_
 refine KC (λq0 z0=>?_) (λq0 z0=>?_)
 ·refine ZBV ?_
  refine W (bC (l':=cN K {x.s with stop:=true}) 1) U (oX ?_)
  have e9:ordT K.toaRU o p x=(true,⟨{x.s with stop:=true},x.m⟩):=by unfold ordT;rw[ag I]
  exact EV U (.cons _ aJ) ⟨jK,G,jK,rY⟩
 refine ZBV ?_
 refine KC (λq1 z1=>?_) (λq1 z1=>?_)
 ·refine ZBV ?_
  refine W (bC (l':=cN K {x.s with halt:=true}) 1) U (oX ?_)
  have e9:ordT K.toaRU o p x=(true,⟨{x.s with halt:=true},x.m⟩):=by unfold ordT;rw[ae I];rw[ag I]
  exact EV U (.cons _ aJ) ⟨jK,G,jK,rY⟩
 refine ZBV ?_
 refine KC (λq2 z2=>?_) (λq2 z2=>?_)
 ·refine ZCy ?_
  refine W (bC (l':=cN K {x.s with r:={x.s.r with pc:=p} }) 1) U (oX ?_)
  have e9:ordT K.toaRU o p x=(true,⟨{x.s with r:={x.s.r with pc:=p} },x.m⟩):=by unfold ordT;(iterate 2 rw[ae I]);rw[ag I];rfl
  exact EV U (.cons _ aJ) ⟨jK,G,jK,rY⟩
 refine ZBV ?_
 refine KC (λq3 z3=>?_) (λq3 z3=>?_)
 ·refine ZBV ?_
  refine W (bC (l':=cN K {x.s with ime:=false}) 1) U (oX ?_)
  have e9:ordT K.toaRU o p x=(true,⟨{x.s with ime:=false},x.m⟩):=by unfold ordT;(iterate 3 rw[ae I]);rw[ag I]
  exact EV U (.cons _ aJ) ⟨jK,G,jK,rY⟩
 refine ZBV ?_
 refine KC (λq4 z4=>?_) (λq4 z4=>?_)
 ·refine ZBV ?_
  refine W (bC (l':=cN K {x.s with soon:=true}) 1) U (oX ?_)
  have e9:ordT K.toaRU o p x=(true,⟨{x.s with soon:=true},x.m⟩):=by unfold ordT;(iterate 4 rw[ae I]);rw[ag I]
  exact EV U (.cons _ aJ) ⟨jK,G,jK,rY⟩
 refine ZBI ?_
 rcases(show kW o.kind=true\/(kW o.kind=false/\pA o.kind=true)\/(kW o.kind=false/\pA o.kind=false/\isP o.kind=true)\/(kW o.kind=false/\pA o.kind=false/\isP o.kind=false)by cases kW o.kind<;>cases pA o.kind<;>cases isP o.kind<;>simp)with hB|⟨hB,hW⟩|⟨hB,hW,hP⟩|⟨hB,hW,hP⟩
 ·refine ZAm ?_
  refine Rc ?_
  refine kF λG0 hG0=>?_
  rw[hB]
  refine sB ?_
  have e9:ordT K.toaRU o p x=(true,gR K.toaRU o x):=by unfold ordT;(iterate 5 rw[ae I]);rw[ag hB]
  exact EV U (.cons _ aJ) ⟨jK,G0,fC,kY⟩
 ·refine ZAm ?_
  refine Rc ?_
  refine kF λG0 hG0=>?_
  rw[hB]
  rw[Jz K.toaRU hB]at hG0⊢
  refine ZAm ?_
  refine C5 ?_
  refine nQ λG1 hG1=>?_
  rw[hW]
  refine jJ ?_
  have e9:ordT K.toaRU o p x=(true,jX K.toaRU o x):=by unfold ordT;(iterate 5 rw[ae I]);rw[ae (by rw[hB];decide),ag hW]
  exact EV U (.cons _ aJ) ⟨jK,G1,fC,mZ⟩
 ·refine ZAm ?_
  refine Rc ?_
  refine kF λG0 hG0=>?_
  rw[hB]
  rw[Jz K.toaRU hB]at hG0⊢
  refine ZAm ?_
  refine C5 ?_
  refine nQ λG1 hG1=>?_
  rw[hW]
  rw[Np K.toaRU hW]at hG1⊢
  refine ZA2 ?_
  refine ZEQ ?_
  rintro _ _ ⟨_,⟨rfl,G2,rfl,hG2⟩,rfl⟩
  rw[ag (show isP o.kind=true by rw[hP])]at hG2⊢
  rw[hP]
  refine bW ?_
  have e9:ordT K.toaRU o p x=(true,mO K.toaRU o x):=by unfold ordT;(iterate 5 rw[ae I]);rw[ae (by rw[hB];decide),ae (by rw[hW];decide),ag hP]
  exact EV U (.cons _ aJ) ⟨jK,G2,fC,by rw[e9];exact hG2⟩
 refine ZAm ?_
 refine Rc ?_
 refine kF λG0 hG0=>?_
 rw[hB]
 rw[Jz K.toaRU hB]at hG0⊢
 refine ZAm ?_
 refine C5 ?_
 refine nQ λG1 hG1=>?_
 rw[hW]
 rw[Np K.toaRU hW]at hG1⊢
 refine ZA2 ?_
 refine ZEQ ?_
 rintro _ _ ⟨_,⟨rfl,G2,rfl,hG2⟩,rfl⟩
 rw[ae (show ¬isP o.kind=true by rw[hP];decide)]at hG2⊢
 rw[hP]
 refine ZA2 ?_
 refine oG ?_
 refine RX (cB (F:=[(b0,_)]) (A:=(rb,_)::_) K_ U (dG (aQ1 K rb x (h.le I:RunOk K.toaRT (bn+4) x) G2 hG2 o ho))) U ?_
 rintro _ _ ⟨_,⟨rfl,G3,rfl,hG3⟩,rfl⟩
 refine ZBZ ?_
 have e9:ordT K.toaRU o p x=(metJ o x,effJ K.toaRU o x):=by unfold ordT;(iterate 5 rw[ae I]);rw[ae (by rw[hB];decide),ae (by rw[hW];decide),ae (by rw[hP];decide)]
 exact EV U (.cons _ aJ) ⟨jK,G3,fC,by rw[e9];exact hG3⟩
def aHq(p:Int)(hp:0<p/\p<32)(w:AI):aG prog 192 [.int .u8 p] w [] (V_ (.int .i64 (oC p))):=by
 refine aT func192 ?_
 refine ZBV ?_
 rcases(show p=1\/p=2\/p=3\/p=4\/p=5\/p=6\/p=7\/p=8\/p=9\/p=10\/p=11\/p=12\/p=13\/p=14\/p=15\/p=16\/p=17\/p=18\/p=19\/p=20\/p=21\/p=22\/p=23\/p=24\/p=25\/p=26\/p=27\/p=28\/p=29\/p=30\/p=31 by omega)with rfl|rfl|rfl|rfl|rfl|rfl|rfl|rfl|rfl|rfl|rfl|rfl|rfl|rfl|rfl|rfl|rfl|rfl|rfl|rfl|rfl|rfl|rfl|rfl|rfl|rfl|rfl|rfl|rfl|rfl|rfl
 ·refine ZA2 ?_
  refine eR ?_
  exact fD
 ·refine ZA2 ?_
  refine eR ?_
  exact fD
 ·refine ZA2 ?_
  refine eR ?_
  exact fD
 ·refine ZA2 ?_
  refine eR ?_
  exact fD
 ·refine ZA2 ?_
  refine eR ?_
  exact fD
 ·refine ZA2 ?_
  refine eR ?_
  exact fD
 ·refine ZA2 ?_
  refine eR ?_
  exact fD
 ·refine ZA2 ?_
  refine eR ?_
  exact fD
 ·refine ZA2 ?_
  refine eR ?_
  exact fD
 ·refine ZA2 ?_
  refine eR ?_
  exact fD
 ·refine ZA2 ?_
  refine eR ?_
  exact fD
 ·refine ZA2 ?_
  refine eR ?_
  exact fD
 ·refine ZA2 ?_
  refine eR ?_
  exact fD
 ·refine ZA2 ?_
  refine eR ?_
  exact fD
 ·refine ZA2 ?_
  refine eR ?_
  exact fD
 ·refine ZA2 ?_
  refine eR ?_
  exact fD
 ·refine ZA2 ?_
  refine eR ?_
  exact fD
 ·refine ZA2 ?_
  refine eR ?_
  exact fD
 ·refine ZA2 ?_
  refine eR ?_
  exact fD
 ·refine ZA2 ?_
  refine eR ?_
  exact fD
 ·refine ZA2 ?_
  refine eR ?_
  exact fD
 ·refine ZA2 ?_
  refine eR ?_
  exact fD
 ·refine ZA2 ?_
  refine eR ?_
  exact fD
 ·refine ZA2 ?_
  refine eR ?_
  exact fD
 ·refine ZA2 ?_
  refine eR ?_
  exact fD
 ·refine ZA2 ?_
  refine eR ?_
  exact fD
 ·refine ZA2 ?_
  refine eR ?_
  exact fD
 ·refine ZA2 ?_
  refine eR ?_
  exact fD
 ·refine ZA2 ?_
  refine eR ?_
  exact fD
 ·refine ZA2 ?_
  refine eR ?_
  exact fD
 refine ZA2 ?_
 refine eR ?_
 exact fD
def aRa{β:Type}(K:mH prog β)(rb:Nat){bn:Nat}(x:Rn β)(h:RunOk K.toaRT (bn+5) x)(G:aF)(hG:K.rep x.m G)(p:Int)(hp:0<p/\p<32)(w:AI)(hst:St w (rb::G.map (·.1)) ((rb,J (cN K x.s) 321)::G) w):aG prog 169 [P_ rb,.int .u8 p] w (rb::G.map (·.1)) (λv H=>v= .int .i64 (oC p)/\sU K rb (An K.toaRU p x) H):=by
 have hl9:=aBe p
 refine cG func169 hst ?_
 refine ZCy ?_
 refine aO K_ (aS (aHq p hp)) ?_
 refine ZBV ?_
 refine RX (iB K_ U (kK (ridle_fn K rb 2 aD x (h.le I:RunOk K.toaRT (bn+3+2) x) G hG))) U ?_
 rintro _ _ ⟨rfl,G0,rfl,hG0⟩
 refine cL ?_
 refine RX (iB K_ U (kK (rpush_fn K rb (idles K.toaRU 2 x) (h.idleK 2) G0 hG0 x.s.r.pc h.r.pc))) U ?_
 rintro _ _ ⟨rfl,G1,rfl,hG1⟩
 refine ZE1 ?_
 refine RX (rG (F:=[(rb,_)]) (A:=G1) U K.mA K.cA U (λw hw=>K.dA ((h.idleK 2).push h.r.pc).m hG1 (St.lentV hw) hl9)) U ?_
 rintro _ _ ⟨G2,⟨rfl,hG2⟩,rfl⟩
 refine pI ?_
 refine RX (iB K_ U (kK (ridle_fn K rb 1 aD ((push K.toaRU x.s.r.pc (idles K.toaRU 2 x)).mem (K.ack (oC p) (push K.toaRU x.s.r.pc (idles K.toaRU 2 x)).m)) (((h.idleK 2).push h.r.pc).mem (K.oA ((h.idleK 2).push h.r.pc).m hl9)) G2 hG2))) U ?_
 rintro _ _ ⟨rfl,G3,rfl,hG3⟩
 refine ZE1 ?_
 refine W (bC (l':=cN K { (idles K.toaRU 1 ((push K.toaRU x.s.r.pc (idles K.toaRU 2 x)).mem (K.ack (oC p) (push K.toaRU x.s.r.pc (idles K.toaRU 2 x)).m))).s with ime:=false}) 0) U (xP ?_)
 refine W (bC (l':=cN K { (idles K.toaRU 1 ((push K.toaRU x.s.r.pc (idles K.toaRU 2 x)).mem (K.ack (oC p) (push K.toaRU x.s.r.pc (idles K.toaRU 2 x)).m))).s with ime:=false,soon:=false}) 0) U (jL ?_)
 refine ZBV ?_
 refine sN ?_
 refine gY ?_
 refine Ea ?_
 refine ZBZ ?_
 refine W (bC (l':=cN K { (idles K.toaRU 1 ((push K.toaRU x.s.r.pc (idles K.toaRU 2 x)).mem (K.ack (oC p) (push K.toaRU x.s.r.pc (idles K.toaRU 2 x)).m))).s with ime:=false,soon:=false,r:={ (idles K.toaRU 1 ((push K.toaRU x.s.r.pc (idles K.toaRU 2 x)).mem (K.ack (oC p) (push K.toaRU x.s.r.pc (idles K.toaRU 2 x)).m))).s.r with pc:=64+8*oC p} }) 0) U (jL ?_)
 refine ZCy ?_
 exact EV U aJ ⟨U,G3,U,hG3⟩
def aM2{β:Type}(K:mH prog β)(rb:Nat){bn:Nat}(x:Rn β)(h:RunOk K.toaRT (bn+3) x)(G:aF)(hG:K.rep x.m G)(tb:Nat)(u3:AH)(oT:Obj)(hT:kJ tb u3 [(tb,oT)])(w:AI)(hst:St w (tb::rb::G.map (·.1)) ((tb,oT)::(rb,J (cN K x.s) 321)::G) w):aG prog 170 [P_ rb,P_ tb] w (tb::rb::G.map (·.1)) (λv H=>v= .agg (cO (nextT K.toaRU x).1).toArray/\∃oT',kJ tb u3 [(tb,oT')]/\∃G',H=(tb,oT')::(rb,J (cN K (nextT K.toaRU x).2.s) 321)::G'/\K.rep (nextT K.toaRU x).2.m G'):=by
 refine cG func170 hst ?_
 refine ZAm ?_
 refine lB λb0=>?_
 refine ZA2 ?_
 refine jT λb1=>?_
 refine ZA2 ?_
 refine RS ?_
 refine ZB9 ?_
 rintro _ _ ⟨b2,rfl,rfl⟩
 refine ZEm ?_
 refine ZCy ?_
 refine dK (σ:=Nat×Obj×aF) [7,9,10,11,12,13,14,15,16,17,18,19,20,21,22,23,24,25,26,27,28,29,30,31,32,33,34,35,36,37,38,39,40,41,42,43,44,45,46,47,48] (λs=>[(7,.int .i64 s.1)]) (λs=>(b2,J (cO (iQ K.toaRU x s.1).o) 159)::(b1,J ((iQ K.toaRU x s.1).b.map (.int .u8)) 355)::(b0,J (cO oN) 159)::(tb,s.2.1)::(rb,J (cN K (iQ K.toaRU x s.1).x.s) 321)::s.2.2) (λs=>s.1<=3/\(∀j:Nat,j<s.1->(j:Int)<(iQ K.toaRU x j).o.size)/\kJ tb u3 [(tb,s.2.1)]/\K.rep (iQ K.toaRU x s.1).x.m s.2.2) (λs=>3-s.1) (0,oT,G) ?_ ?_ ?_ ?_
 ·exact⟨aq _,λj hj=>absurd hj (Nat.not_lt_zero _),hT,hG⟩
 ·exact .cons U .nil
 ·exact λ_ h=>h
 rintro⟨i,oi,Gi⟩ y4 ⟨hi,hpi,hTi,hGi⟩
 dsimp only at hi hpi hTi hGi⊢
 have hx9:=h.nx i hi
 refine ZE1 ?_
 refine KC (λq0 z0=>?_) (λq0 z0=>?_)
 ·refine ZBZ ?_
  have hs9:i<3:=by have:=hx9.sz;omega
  have hy9:=hx9.le (k:=0+1) I
  have hl9:=hx9.len
  have hb9:=xW hx9.by_ i hy9.x.fetch1.2
  refine DR [5,6,7,8,9,10,11,12] (bQ [0,2,4,6,8,10,12,14,16,18,20,22,24,27,28,31]) ?_
  refine kD ?_
  refine DX U (rG (F:=[(b2,_),(b1,_),(b0,_),(tb,_),(rb,_)]) (A:=Gi) U K.mF K.cF U (λw hw=>K.dF hy9.x.m hGi (St.lentV hw) hx9.x.r.pc)) U aY ?_
  rintro _ _ ⟨G0,⟨rfl,hG0⟩,rfl⟩
  refine jL ?_
  refine DY U (eB i U U U U I) U (DZ U (bD (l':=((iQ K.toaRU x i).b.set i (K.fetch (iQ K.toaRU x i).x.s.r.pc (iQ K.toaRU x i).x.m).1).map (.int .u8)) 1 U U U U U U (by simp[hl9];omega) (by rw[bj];exact vP _ I _)) U aY (jL ?_))
  refine bW ?_
  refine RW (v:=(.int .u16 (nE (iQ K.toaRU x i).x.s.r.pc))) (nD U U) U (M _ (qC _)) (ZBZ ?_)
  refine W (bC (l':=cN K { (iQ K.toaRU x i).x.s with r:={ (iQ K.toaRU x i).x.s.r with pc:=nE (iQ K.toaRU x i).x.s.r.pc} }) 4) U (xP ?_)
  refine RY zO U (W (aW U U (bT aE (gD (j:=0) (by simp[hl9])))) U (RY Ky U (W (aW U U (bT aE (gD (j:=1) (by simp[hl9])))) U ?_)))
  refine RY Nf U (W (aW U U (bT aE (gD (j:=2) (by simp[hl9])))) U (RX (aCm (F:=[(b2,_),(b1,_),(b0,_)]) (A:=[(tb,_)]) (G:=(rb,_)::_) [tb] K_ U (λ_ hb=>kA (G:=[(tb,_)]) hb) (λw hw=>aIl tb u3 _ hTi _ _ _ (hb9.get 0) (hb9.get 1) (hb9.get 2) w (hTi.lent hw))) U ?_))
  rintro _ _ ⟨HT,⟨rfl,hT0⟩,rfl⟩
  obtain⟨oT0,rfl⟩:=hT0.one
  refine jL ?_
  refine W (bC (l':=cO (iQ K.toaRU x (i+1)).o) 0) U (xP ?_)
  refine pU ?_
  exact⟨(i+1,oT0,G0),⟨aR,λj hj=>by rcases Nat.lt_succ_iff_lt_or_eq.1 hj with q0|rfl;exact hpi j q0;assumption,hT0,hG0⟩,Pz,.cons U .nil,bB,λ_ h=>h⟩
 refine ZA2 ?_
 refine tQ ?_
 have e9:=aGx K.toaRU hi hpi (by assumption)
 exact iM (λw hw=>eL U U U (aI (b:=b0) (l:=cO (iQ K.toaRU x i).o) aE w hw)) (.cons _ (.cons _ (.cons _ aJ))) ⟨jK,oi,hTi,Gi,jK,by rw[e9];exact hGi⟩
set_option maxHeartbeats 4000000 in
def aH0{β:Type}(K:mH prog β){bn:Nat}(s:CS)(m:β)(h:RunOk K.toaRT (bn+7) (⟨s,m⟩:Rn _))(G:aF)(hG:K.rep m G)(tb:Nat)(u3:AH)(oT:Obj)(hT:kJ tb u3 [(tb,oT)])(w:AI)(hst:St w (tb::G.map (·.1)) ((tb,oT)::G) w):aG prog 123 [P_ tb,.agg (cS s).toArray,.iface K.t0 K.v] w (tb::G.map (·.1)) (λv H=>v= .tuple #[.agg (cS (fL K.toaRU (⟨s,m⟩:Rn _)).2.s).toArray,.agg (cDd (fL K.toaRU (⟨s,m⟩:Rn _)).1).toArray]/\∃oT',kJ tb u3 [(tb,oT')]/\∃G',H=(tb,oT')::G'/\K.rep (fL K.toaRU (⟨s,m⟩:Rn _)).2.m G'):=by
 have hp9:0<=K.pend m/\K.pend m<32:=K.oP h.m
 obtain⟨r,ime,soon,halt,stop⟩:=s
 refine cG func123 hst ?_
 refine ZAm ?_
 refine RX (eE (l:=cS ⟨r,ime,soon,halt,stop⟩) U U) U (tZ λb0 b1=>?_)
 refine ZB9 ?_
 rintro _ _ ⟨b2,rfl,rfl⟩
 refine aH ?_
 refine RS ?_
 refine ZB9 ?_
 rintro _ _ ⟨b3,rfl,rfl⟩
 refine W (bC (l':=cDd ⟨0,0,r.pc,oN,false⟩) 0) U (jL ?_)
 refine kV ?_
 refine W (bJ U U U (by first|exact aI aE|exact sP aE _ 14 rfl)) U (ZBI ?_)
 refine RS ?_
 refine RX (eE (l:=cN K ⟨r,ime,soon,halt,stop⟩) U U) U ?_
 rintro _ _ ⟨b4,rfl,rfl⟩
 refine eA (aMG [(b3,_),(b2,_),(b1,_),(b0,_),(tb,_)]) ?_
 refine pI ?_
 rcases stop with _|_
 ·refine fG ?_
  refine RX (rG (F:=[(b3,_),(b2,_),(b1,_),(b0,_),(tb,_),(b4,_)]) (A:=G) U K.mP K.cP U (λw hw=>K.dP h.m hG (St.lentV hw))) U ?_
  rintro _ _ ⟨GP,⟨rfl,hGP⟩,rfl⟩
  rw[hGP]
  refine xP ?_
  refine Pv [50,51,52,53,54,55,56,57,58] [(58,.bool (decide (halt=true/\K.pend m=0)))] ?_ (λy10=>?_)
  ·rcases halt with _|_
   ·exact Nq
   exact Nq
  refine KC (λq0 z0=>?_) (λq0 z0=>?_)
  ·refine ZA2 ?_
   refine RX (cB (F:=[(b3,_),(b2,_),(b1,_),(b0,_),(tb,_)]) (A:=(b4,_)::_) K_ U (dG (ridle_fn K b4 1 aD (⟨(⟨r,ime,soon,halt,false⟩:CS),m⟩:Rn _) (h.le I:RunOk K.toaRT (0+1) _) G hG))) U (kF λG0 hG0=>?_)
   refine ZAm ?_
   refine nH [(b3,J (cDd ⟨0,0,r.pc,oN,false⟩) 184),(b4,J (cN K (⟨r,ime,soon,halt,false⟩:CS)) 321)] [4,5] (.step true 0 (.step true 1 (.step true 2 (.step true 3 (.step true 4 (.step false 5 (.step false 6 .done))))))) U aN aN (λx hx=>uY) ?_
   refine ZA2 ?_
   refine fZ U U U U (λw hw=>aK.left (jR (l:=cN K (⟨r,ime,soon,halt,false⟩:CS)) aE w hw)) U U ?_
   refine Hl ?_
   refine DZ U (bC (l':=cS (⟨r,ime,soon,halt,false⟩:CS)) 2) U yD (jL ?_)
   refine DZ U (bC (l':=cDd ⟨0,0,r.pc,oN,false⟩) 1) U yD (sH ?_)
   have e9:fL K.toaRU (⟨(⟨r,ime,soon,halt,false⟩:CS),m⟩:Rn _)=(⟨0,0,r.pc,oN,false⟩,(⟨(⟨r,ime,soon,halt,false⟩:CS),K.idle m⟩:Rn _)):=by unfold fL;exact(ae (c:=false=true) aD).trans (ag (c:=halt=true/\K.pend m=0) z0)
   exact iM (λw hw=>Lg U U U (aI (b:=b1) (l:=cS (⟨r,ime,soon,halt,false⟩:CS)) aE w hw) U U U (aI (b:=b2) (l:=cDd ⟨0,0,r.pc,oN,false⟩) aE w hw)) (.cons _ (.cons _ (.cons _ (.cons _ (.cons_cons _ (.cons _ aJ)))))) ⟨jK,oT,hT,G0,U,kY⟩
  refine ZCy ?_
  refine W (bC (l':=cN K (⟨r,ime,soon,false,false⟩:CS)) 5) U (sH ?_)
  refine Pv [70,71,72,73,74,75,76,77,78] [(78,.bool (decide (ime=true/\K.pend m≠0)))] ?_ (λy14=>?_)
  ·rcases ime with _|_
   ·exact Nq
   exact Nq
  refine KC (λq1 z1=>?_) (λq1 z1=>?_)
  ·refine ZBZ ?_
   refine RX (cB (F:=[(b3,_),(b2,_),(b1,_),(b0,_),(tb,_)]) (A:=(b4,_)::_) K_ U (dG (aRa K b4 (⟨(⟨r,ime,soon,false,false⟩:CS),m⟩:Rn _) (⟨h.r,K.oL h.m I⟩:RunOk K.toaRT (0+5) (⟨(⟨r,ime,soon,false,false⟩:CS),m⟩:Rn _)) G hG (K.pend m) I))) U (kF λG0 hG0=>?_)
   refine ZBI ?_
   refine W (bC (l':=cDd ⟨2,0,r.pc,oN,false⟩) 0) U (xA ?_)
   refine W (bC (l':=cDd ⟨2,oC (K.pend m),r.pc,oN,false⟩) 0) U (sH ?_)
   refine nH [(b3,J (cDd ⟨2,oC (K.pend m),r.pc,oN,false⟩) 184),(b4,J (cN K (An K.toaRU (K.pend m) (⟨(⟨r,ime,soon,false,false⟩:CS),m⟩:Rn _)).s) 321)] [4,5] (.step true 0 (.step true 1 (.step true 2 (.step true 3 (.step true 4 (.step false 5 (.step false 6 .done))))))) U aN aN (λx hx=>uY) ?_
   refine ZA2 ?_
   refine fZ U U U U (λw hw=>aK.left (jR (l:=cN K (An K.toaRU (K.pend m) (⟨(⟨r,ime,soon,false,false⟩:CS),m⟩:Rn _)).s) aE w hw)) U U ?_
   refine Hl ?_
   refine DZ U (bC (l':=cS (An K.toaRU (K.pend m) (⟨(⟨r,ime,soon,false,false⟩:CS),m⟩:Rn _)).s) 2) U yD (jL ?_)
   refine DZ U (bC (l':=cDd ⟨2,oC (K.pend m),r.pc,oN,false⟩) 1) U yD (sH ?_)
   have e9:fL K.toaRU (⟨(⟨r,ime,soon,halt,false⟩:CS),m⟩:Rn _)=(⟨2,oC (K.pend m),r.pc,oN,false⟩,(An K.toaRU (K.pend m) (⟨(⟨r,ime,soon,false,false⟩:CS),m⟩:Rn _))):=by unfold fL;exact(ae (c:=false=true) aD).trans ((ae (c:=halt=true/\K.pend m=0) z0).trans (ag (c:=ime=true/\K.pend m≠0) z1))
   exact iM (λw hw=>Lg U U U (aI (b:=b1) (l:=cS (An K.toaRU (K.pend m) (⟨(⟨r,ime,soon,false,false⟩:CS),m⟩:Rn _)).s) aE w hw) U U U (aI (b:=b2) (l:=cDd ⟨2,oC (K.pend m),r.pc,oN,false⟩) aE w hw)) (.cons _ (.cons _ (.cons _ (.cons _ (.cons_cons _ (.cons _ aJ)))))) ⟨jK,oT,hT,G0,U,kY⟩
  refine Aa ?_
  refine W (bC (l':=cN K (⟨r,ime,false,false,false⟩:CS)) 5) U (jL ?_)
  refine ZBV ?_
  refine RX (cB (F:=[(b3,_),(b2,_),(b1,_),(b0,_)]) (A:=(tb,_)::(b4,_)::_) K_ U (dG (aM2 K b4 (⟨(⟨r,ime,false,false,false⟩:CS),m⟩:Rn _) (⟨h.r,K.oL h.m I⟩:RunOk K.toaRT (4+3) (⟨(⟨r,ime,false,false,false⟩:CS),m⟩:Rn _)) G hG tb u3 oT hT))) U ?_
  rintro _ _ ⟨_,⟨rfl,oT0,hT0,G0,rfl,hG0⟩,rfl⟩
  refine xA ?_
  refine W (bC (l':=cDd ⟨1,0,r.pc,oN,false⟩) 0) U (xA ?_)
  refine W (bC (l':=cDd ⟨1,0,r.pc,(nextT K.toaRU (⟨(⟨r,ime,false,false,false⟩:CS),m⟩:Rn _)).1,false⟩) 0) U (sH ?_)
  have n9:=aBu (⟨h.r,K.oL h.m I⟩:RunOk K.toaRT (4+3) (⟨(⟨r,ime,false,false,false⟩:CS),m⟩:Rn _))
  refine ZA2 ?_
  refine oG ?_
  refine ZAm ?_
  refine RX (cB (F:=[(b3,_),(b2,_),(b1,_),(b0,_),(tb,_)]) (A:=(b4,_)::_) K_ U (dG (aRd K b4 (nextT K.toaRU (⟨(⟨r,ime,false,false,false⟩:CS),m⟩:Rn _)).2 (n9.1:RunOk K.toaRT (0+4) _) G0 hG0 (nextT K.toaRU (⟨(⟨r,ime,false,false,false⟩:CS),m⟩:Rn _)).1 n9.2 r.pc h.r.pc))) U (nQ λG1 hG1=>?_)
  refine ZBI ?_
  refine W (bC (l':=cDd ⟨1,0,r.pc,(nextT K.toaRU (⟨(⟨r,ime,false,false,false⟩:CS),m⟩:Rn _)).1,(ordT K.toaRU (nextT K.toaRU (⟨(⟨r,ime,false,false,false⟩:CS),m⟩:Rn _)).1 r.pc (nextT K.toaRU (⟨(⟨r,ime,false,false,false⟩:CS),m⟩:Rn _)).2).1⟩) 0) U (sH ?_)
  refine Pv [110,111,112,113,114,115,116] [(116,.bool (decide (soon=true/\(nextT K.toaRU (⟨(⟨r,ime,false,false,false⟩:CS),m⟩:Rn _)).1.kind≠5)))] ?_ (λy21=>?_)
  ·rcases soon with _|_
   ·refine bW ?_
    exact⟨.cons (M Value.bool Wq) .nil,bB,λ_ h=>h⟩
   refine bW ?_
   exact⟨.cons (M Value.bool Wq) .nil,bB,λ_ h=>h⟩
  refine KC (λq2 z2=>?_) (λq2 z2=>?_)
  ·refine ZBV ?_
   refine W (bC (l':=cN K { (ordT K.toaRU (nextT K.toaRU (⟨(⟨r,ime,false,false,false⟩:CS),m⟩:Rn _)).1 r.pc (nextT K.toaRU (⟨(⟨r,ime,false,false,false⟩:CS),m⟩:Rn _)).2).2.s with ime:=true}) 5) U (sH ?_)
   refine nH [(b3,J (cDd ⟨1,0,r.pc,(nextT K.toaRU (⟨(⟨r,ime,false,false,false⟩:CS),m⟩:Rn _)).1,(ordT K.toaRU (nextT K.toaRU (⟨(⟨r,ime,false,false,false⟩:CS),m⟩:Rn _)).1 r.pc (nextT K.toaRU (⟨(⟨r,ime,false,false,false⟩:CS),m⟩:Rn _)).2).1⟩) 184),(b4,J (cN K { (ordT K.toaRU (nextT K.toaRU (⟨(⟨r,ime,false,false,false⟩:CS),m⟩:Rn _)).1 r.pc (nextT K.toaRU (⟨(⟨r,ime,false,false,false⟩:CS),m⟩:Rn _)).2).2.s with ime:=true}) 321)] [4,5] (.step true 0 (.step true 1 (.step true 2 (.step true 3 (.step true 4 (.step false 5 (.step false 6 .done))))))) U aN aN (λx hx=>uY) ?_
   refine ZA2 ?_
   refine fZ U U U U (λw hw=>aK.left (jR (l:=cN K { (ordT K.toaRU (nextT K.toaRU (⟨(⟨r,ime,false,false,false⟩:CS),m⟩:Rn _)).1 r.pc (nextT K.toaRU (⟨(⟨r,ime,false,false,false⟩:CS),m⟩:Rn _)).2).2.s with ime:=true}) aE w hw)) U U ?_
   refine Hl ?_
   refine DZ U (bC (l':=cS { (ordT K.toaRU (nextT K.toaRU (⟨(⟨r,ime,false,false,false⟩:CS),m⟩:Rn _)).1 r.pc (nextT K.toaRU (⟨(⟨r,ime,false,false,false⟩:CS),m⟩:Rn _)).2).2.s with ime:=true}) 2) U yD (R1 ?_)
   refine sH ?_
   have e9:fL K.toaRU (⟨(⟨r,ime,soon,halt,false⟩:CS),m⟩:Rn _)=(⟨1,0,r.pc,(nextT K.toaRU (⟨(⟨r,ime,false,false,false⟩:CS),m⟩:Rn _)).1,(ordT K.toaRU (nextT K.toaRU (⟨(⟨r,ime,false,false,false⟩:CS),m⟩:Rn _)).1 r.pc (nextT K.toaRU (⟨(⟨r,ime,false,false,false⟩:CS),m⟩:Rn _)).2).1⟩,(⟨{ (ordT K.toaRU (nextT K.toaRU (⟨(⟨r,ime,false,false,false⟩:CS),m⟩:Rn _)).1 r.pc (nextT K.toaRU (⟨(⟨r,ime,false,false,false⟩:CS),m⟩:Rn _)).2).2.s with ime:=true},(ordT K.toaRU (nextT K.toaRU (⟨(⟨r,ime,false,false,false⟩:CS),m⟩:Rn _)).1 r.pc (nextT K.toaRU (⟨(⟨r,ime,false,false,false⟩:CS),m⟩:Rn _)).2).2.m⟩:Rn _)):=by unfold fL;exact(ae (c:=false=true) aD).trans ((ae (c:=halt=true/\K.pend m=0) z0).trans ((ae (c:=ime=true/\K.pend m≠0) z1).trans (M (Prod.mk _) (ag (c:=soon=true/\(nextT K.toaRU (⟨(⟨r,ime,false,false,false⟩:CS),m⟩:Rn _)).1.kind≠5) z2))))
   exact iM (λw hw=>Lg U U U (aI (b:=b1) (l:=cS { (ordT K.toaRU (nextT K.toaRU (⟨(⟨r,ime,false,false,false⟩:CS),m⟩:Rn _)).1 r.pc (nextT K.toaRU (⟨(⟨r,ime,false,false,false⟩:CS),m⟩:Rn _)).2).2.s with ime:=true}) aE w hw) U U U (aI (b:=b2) (l:=cDd ⟨1,0,r.pc,(nextT K.toaRU (⟨(⟨r,ime,false,false,false⟩:CS),m⟩:Rn _)).1,(ordT K.toaRU (nextT K.toaRU (⟨(⟨r,ime,false,false,false⟩:CS),m⟩:Rn _)).1 r.pc (nextT K.toaRU (⟨(⟨r,ime,false,false,false⟩:CS),m⟩:Rn _)).2).1⟩) aE w hw)) (.cons _ (.cons _ (.cons _ (.cons _ (.cons_cons _ (.cons _ aJ)))))) ⟨jK,oT0,hT0,G1,U,mZ⟩
  refine ZAm ?_
  refine nH [(b3,J (cDd ⟨1,0,r.pc,(nextT K.toaRU (⟨(⟨r,ime,false,false,false⟩:CS),m⟩:Rn _)).1,(ordT K.toaRU (nextT K.toaRU (⟨(⟨r,ime,false,false,false⟩:CS),m⟩:Rn _)).1 r.pc (nextT K.toaRU (⟨(⟨r,ime,false,false,false⟩:CS),m⟩:Rn _)).2).1⟩) 184),(b4,J (cN K (ordT K.toaRU (nextT K.toaRU (⟨(⟨r,ime,false,false,false⟩:CS),m⟩:Rn _)).1 r.pc (nextT K.toaRU (⟨(⟨r,ime,false,false,false⟩:CS),m⟩:Rn _)).2).2.s) 321)] [4,5] (.step true 0 (.step true 1 (.step true 2 (.step true 3 (.step true 4 (.step false 5 (.step false 6 .done))))))) U aN aN (λx hx=>uY) ?_
  refine ZA2 ?_
  refine fZ U U U U (λw hw=>aK.left (jR (l:=cN K (ordT K.toaRU (nextT K.toaRU (⟨(⟨r,ime,false,false,false⟩:CS),m⟩:Rn _)).1 r.pc (nextT K.toaRU (⟨(⟨r,ime,false,false,false⟩:CS),m⟩:Rn _)).2).2.s) aE w hw)) U U ?_
  refine Hl ?_
  refine DZ U (bC (l':=cS (ordT K.toaRU (nextT K.toaRU (⟨(⟨r,ime,false,false,false⟩:CS),m⟩:Rn _)).1 r.pc (nextT K.toaRU (⟨(⟨r,ime,false,false,false⟩:CS),m⟩:Rn _)).2).2.s) 2) U yD (R1 ?_)
  refine sH ?_
  have e9:fL K.toaRU (⟨(⟨r,ime,soon,halt,false⟩:CS),m⟩:Rn _)=(⟨1,0,r.pc,(nextT K.toaRU (⟨(⟨r,ime,false,false,false⟩:CS),m⟩:Rn _)).1,(ordT K.toaRU (nextT K.toaRU (⟨(⟨r,ime,false,false,false⟩:CS),m⟩:Rn _)).1 r.pc (nextT K.toaRU (⟨(⟨r,ime,false,false,false⟩:CS),m⟩:Rn _)).2).1⟩,((ordT K.toaRU (nextT K.toaRU (⟨(⟨r,ime,false,false,false⟩:CS),m⟩:Rn _)).1 r.pc (nextT K.toaRU (⟨(⟨r,ime,false,false,false⟩:CS),m⟩:Rn _)).2).2:Rn _)):=by unfold fL;exact(ae (c:=false=true) aD).trans ((ae (c:=halt=true/\K.pend m=0) z0).trans ((ae (c:=ime=true/\K.pend m≠0) z1).trans (M (Prod.mk _) (ae (c:=soon=true/\(nextT K.toaRU (⟨(⟨r,ime,false,false,false⟩:CS),m⟩:Rn _)).1.kind≠5) z2))))
  exact iM (λw hw=>Lg U U U (aI (b:=b1) (l:=cS (ordT K.toaRU (nextT K.toaRU (⟨(⟨r,ime,false,false,false⟩:CS),m⟩:Rn _)).1 r.pc (nextT K.toaRU (⟨(⟨r,ime,false,false,false⟩:CS),m⟩:Rn _)).2).2.s) aE w hw) U U U (aI (b:=b2) (l:=cDd ⟨1,0,r.pc,(nextT K.toaRU (⟨(⟨r,ime,false,false,false⟩:CS),m⟩:Rn _)).1,(ordT K.toaRU (nextT K.toaRU (⟨(⟨r,ime,false,false,false⟩:CS),m⟩:Rn _)).1 r.pc (nextT K.toaRU (⟨(⟨r,ime,false,false,false⟩:CS),m⟩:Rn _)).2).1⟩) aE w hw)) (.cons _ (.cons _ (.cons _ (.cons _ (.cons_cons _ (.cons _ aJ)))))) ⟨jK,oT0,hT0,G1,U,mZ⟩
 refine iT ?_
 refine RX (cB (F:=[(b3,_),(b2,_),(b1,_),(b0,_),(tb,_)]) (A:=(b4,_)::_) K_ U (dG (ridle_fn K b4 1 aD (⟨(⟨r,ime,soon,halt,true⟩:CS),m⟩:Rn _) (h.le I:RunOk K.toaRT (0+1) _) G hG))) U (kF λG0 hG0=>?_)
 refine ZBV ?_
 refine RX (rG (F:=[(b3,_),(b2,_),(b1,_),(b0,_),(tb,_),(b4,_)]) (A:=G0) U K.mP K.cP U (λw hw=>K.dP (K.oI h.m) hG0 (St.lentV hw))) U ?_
 rintro _ _ ⟨GP,⟨rfl,hGP⟩,rfl⟩
 rw[hGP]
 refine jL ?_
 refine RW (v:=(.int .u8 (aQ .u8 (K.pend (K.idle m)) 16))) (cM U U) U U (RW (v:=(.bool (K.pend (K.idle m)/16%2==0))) U U (M _ (aQP (K.oP (K.oI h.m)))) (ZA2 ?_))
 refine W (bC (l':=cN K (⟨r,ime,soon,halt,(K.pend (K.idle m)/16%2==0)⟩:CS)) 5) U (sH ?_)
 refine nH [(b3,J (cDd ⟨0,0,r.pc,oN,false⟩) 184),(b4,J (cN K (⟨r,ime,soon,halt,(K.pend (K.idle m)/16%2==0)⟩:CS)) 321)] [4,5] (.step true 0 (.step true 1 (.step true 2 (.step true 3 (.step true 4 (.step false 5 (.step false 6 .done))))))) U aN aN (λx hx=>uY) ?_
 refine ZA2 ?_
 refine fZ U U U U (λw hw=>aK.left (jR (l:=cN K (⟨r,ime,soon,halt,(K.pend (K.idle m)/16%2==0)⟩:CS)) aE w hw)) U U ?_
 refine Hl ?_
 refine DZ U (bC (l':=cS (⟨r,ime,soon,halt,(K.pend (K.idle m)/16%2==0)⟩:CS)) 2) U yD (jL ?_)
 refine DZ U (bC (l':=cDd ⟨0,0,r.pc,oN,false⟩) 1) U yD (sH ?_)
 have e9:fL K.toaRU (⟨(⟨r,ime,soon,halt,true⟩:CS),m⟩:Rn _)=(⟨0,0,r.pc,oN,false⟩,(⟨(⟨r,ime,soon,halt,(K.pend (K.idle m)/16%2==0)⟩:CS),K.idle m⟩:Rn _)):=by unfold fL;exact ag (c:=true=true) rfl
 exact iM (λw hw=>Lg U U U (aI (b:=b1) (l:=cS (⟨r,ime,soon,halt,(K.pend (K.idle m)/16%2==0)⟩:CS)) aE w hw) U U U (aI (b:=b2) (l:=cDd ⟨0,0,r.pc,oN,false⟩) aE w hw)) (.cons _ (.cons _ (.cons _ (.cons _ (.cons_cons _ (.cons _ aJ)))))) ⟨jK,oT,hT,G0,U,kY⟩
def aA0(A:Ad)(hd:A.rb∉[A.mb,A.ub]/\A.ob∉[A.mb,A.ub]):mH prog Mm where
 toaRU:=fE
 t0:=268
 v:= .agg #[P_ A.mb]
 rep:=tL A
 ok:=iS
 fF:=314
 mF:=λv w=>by rfl
 cF:=K_
 fR:=317
 mR:=λv w=>by rfl
 cR:=K_
 fW:=318
 mW:=λv w=>by rfl
 cW:=K_
 fI:=315
 mI:=λv w=>by rfl
 cI:=K_
 fP:=316
 mP:=λv w=>by rfl
 cP:=K_
 fA:=313
 mA:=λv w=>by rfl
 cA:=K_
 dF:=λh hr hw ha=>aRg A hd _ h _ hr _ ha _ hw
 dR:=λh hr hw ha=>aQg A hd _ h _ hr _ ha _ hw
 dW:=λh hr hw ha hx=>aP1 A hd _ h _ hr _ _ ha hx _ hw
 dI:=λh hr hw=>aM9 A hd _ h _ hr _ hw
 dP:=λh hr hw=>aRH A hd _ h _ hr _ hw
 dA:=λh hr hw hk=>aHX A hd _ h _ hr _ hk _ hw
 oF:=λh ha=>⟨h.get 3 ha,Ix h.wf.cycle _⟩
 oR:=λh ha=>⟨h.get 1 ha,Ix h.wf.cycle _⟩
 oW:=λh ha hx=>h.write ha hx
 oI:=λh=>h.cycle.note 0 aD aD
 oP:=λ_=>aE1 _
 oA:=λh hk=>h.ack hk
 oL:=λh hk=>h.le hk
set_option maxHeartbeats 2000000 in
def aM5(A:Ad)(hd:A.rb∉[A.mb,A.ub]/\A.ob∉[A.mb,A.ub])(tb:Nat)(u3:AH)(oT:Obj)(hT:kJ tb u3 [(tb,oT)])(hAt:A.tab=P_ tb)(plan:List gG)(pa:AC)(pc:Nat)(hAp:A.plan= .slice pa plan.length pc)(hpo:∀c∈plan,sE c)(hpl:plan.length<=1000000)(m:Mm)(h:m.Wf)(hcr:m.cpu.r.Ok)(va:AH)(ms:AE)(w:AI)(hst:St w ms [(tb,oT),(A.mb,J (cMm A va m) 156),(A.ub,J (cU m.u) 247),(A.rb,J (List.map Z m.ram++A.rs) 5),(A.ob,J (List.map Z m.rom++A.sp) 5)] w)(hE:eX w qN pa plan)(hpn:∀p,pa=some p->p.block∉ms):aG prog 72 [P_ A.mb] w ms (λv H=>∃va' oT' Ga',v= .tuple #[.agg (cDd (eP plan m).1).toArray,va']/\bS 298 3 va' (eP plan m).2.acc.length (aM cAc (eP plan m).2.acc) Ga'/\kJ tb u3 [(tb,oT')]/\H=(tb,oT')::(Ga'++[(A.mb,J (cMm A va' (eP plan m).2) 156),(A.ub,J (cU (eP plan m).2.u) 247),(A.rb,J (List.map Z (eP plan m).2.ram++A.rs) 5),(A.ob,J (List.map Z (eP plan m).2.rom++A.sp) 5)])):=by
 have hA1:dV ({m with pd:=rA (jQ plan m.steps) m.pd}:Mm):=⟨h.ln.bd,h.ln.work,h.ln.high⟩
 have hs1:((sY (jQ plan m.steps) m)).Wf:=h.press (aDl hpo _)
 have e9:((sY (jQ plan m.steps) m)).cpu=m.cpu:=by unfold sY askM;split<;>rfl
 have eu9:(fB plan m).u=m.u:=Di _ _ _
 have er9:(fB plan m).ram=m.ram:=Eh _ _ _
 have eo9:(fB plan m).rom=m.rom:=Cn _ _ _
 have hst0:iS 7 (fB plan m):=⟨h.start hpo,by show(0:Nat)+7<=1000000;decide,λe he=>by cases he⟩
 have hq:=(M9 (K:=(aA0 A hd).toaRT) (n:=0) (x:=(⟨m.cpu,fB plan m⟩:Rn Mm)) ⟨hcr,hst0⟩)
 have hqw:((fL fE (⟨m.cpu,fB plan m⟩:Rn Mm)).2.m).Wf:=hq.m.wf
 have hc1:dV ({ (fL fE (⟨m.cpu,fB plan m⟩:Rn Mm)).2.m with cpu:=(fL fE (⟨m.cpu,fB plan m⟩:Rn Mm)).2.s}:Mm):=⟨hqw.ln.bd,hqw.ln.work,hqw.ln.high⟩
 refine cG func72 hst ?_
 refine ZAm ?_
 refine lB λb0=>?_
 refine aH ?_
 refine iO ?_
 refine ZE1 ?_
 refine DR [6,7,8,9,10,11,12,13,14,15] (bQ [0,2,4,6,8,10,12,14,16,18,20,22,24,26,28,31,33,34,36,38,40,42,44,47,48]) ?_
 refine ZBV ?_
 refine fZ U U U U (λw hw=>N3 (m:=m) (acc:=va) (jR (b:=A.mb) aE w hw)) U U ?_
 refine ZA2 ?_
 refine DL U U U (dQ (v:= .slice pa plan.length pc) aE (by rw[<-hAp];exact get_mid h.ln (j:=5) rfl)) U (ZBZ ?_)
 refine DL U U U (dQ (v:= .int .u64 m.steps) aE (get_mid h.ln (j:=2) U)) U (DZ U (cZ K_ U (λw hw=>aRL plan pa pc hpl m.steps w (eX.laterM hE hpn hw))) U gV (DZ U (cZ K_ U (aS (aOc m.pd (jQ plan m.steps)))) U aY (tC ?_)))
 refine ZBV ?_
 refine DZ U (bD (l':=cMm A va {m with pd:=rA (jQ plan m.steps) m.pd}) 2 U U U U U U mU (T9 _)) U aY (sS ?_)
 refine RX (gZ (F:=[(b0,_),(tb,oT)]) (A:=[(A.mb,J (cMm A va {m with pd:=rA (jQ plan m.steps) m.pd}) 156)]) (G:=[(A.ub,J (cU m.u) 247),(A.rb,J (List.map Z m.ram++A.rs) 5),(A.ob,J (List.map Z m.rom++A.sp) 5)]) (R:=λv H=>v= .tuple #[]/\H=[(A.mb,J (cMm A va (askM 16 (zD m.pd (rA (jQ plan m.steps) m.pd)) {m with pd:=rA (jQ plan m.steps) m.pd})) 156)]) K_ U (λw hw _=>ask_fnM A va {m with pd:=rA (jQ plan m.steps) m.pd} hA1 16 (zD m.pd (rA (jQ plan m.steps) m.pd)) w hw)) U (jW ?_)
 refine ZAm ?_
 refine kO (L':=[(b0,_),(tb,oT),(A.mb,J (cMm A va (sY (jQ plan m.steps) m)) 156),(A.ub,J (cU m.u) 247),(A.rb,J (List.map Z m.ram++A.rs) 5),(A.ob,J (List.map Z m.rom++A.sp) 5)]) (λ_ h=>h) ?_
 refine ZBZ ?_
 refine W (bD (l':=cMm A (.slice none 0 0) (sY (jQ plan m.steps) m)) 2 U U U U U U (by rw[cMm_len hs1.ln];exact ah rfl) (J1 hs1.ln _)) U (nO ?_)
 refine jT λb1=>?_
 refine ZAm ?_
 refine DR [5,6,7,8,9,10,11,12] (bQ [0,2,4,6,8,10,12,14,16,18,20,22,24,27,28,30,32,34,36,38,41,43]) ?_
 refine ZBZ ?_
 refine DL U U U (dQ (v:=P_ tb) aE (by rw[<-hAt];exact get_mid (m:=(sY (jQ plan m.steps) m)) hs1.ln (j:=13) rfl)) U (ZBZ ?_)
 refine fZ U U U U (λw hw=>(show aK w A.mb 0 (cS m.cpu)from by have h9:=T3 (m:=(sY (jQ plan m.steps) m)) (acc:=(.slice none 0 0)) (jR (b:=A.mb) aE w hw);rwa[e9]at h9)) U U ?_
 refine ZBI ?_
 refine ZEA ?_
 refine ZBI ?_
 refine DX U (cB (F:=[(b1,_),(b0,_)]) (A:=(tb,oT)::[(A.mb,J (cMm A (.slice none 0 0) (sY (jQ plan m.steps) m)) 156),(A.ub,J (cU m.u) 247),(A.rb,J (List.map Z m.ram++A.rs) 5),(A.ob,J (List.map Z m.rom++A.sp) 5)]) (R:=λv H=>v= .tuple #[.agg (cS (fL fE (⟨m.cpu,fB plan m⟩:Rn Mm)).2.s).toArray,.agg (cDd (fL fE (⟨m.cpu,fB plan m⟩:Rn Mm)).1).toArray]/\∃oT',kJ tb u3 [(tb,oT')]/\∃G',H=(tb,oT')::G'/\tL A (fL fE (⟨m.cpu,fB plan m⟩:Rn Mm)).2.m G') K_ U (dG (aH0 (bn:=0) (aA0 A hd) m.cpu (fB plan m) ⟨hcr,hst0⟩ [(A.mb,J (cMm A (.slice none 0 0) (sY (jQ plan m.steps) m)) 156),(A.ub,J (cU m.u) 247),(A.rb,J (List.map Z m.ram++A.rs) 5),(A.ob,J (List.map Z m.rom++A.sp) 5)] ⟨.slice none 0 0,[],.nil,by show _=[(A.mb,_),(A.ub,J (cU (fB plan m).u) _),(A.rb,J (List.map _ (fB plan m).ram++A.rs) _),(A.ob,J (List.map _ (fB plan m).rom++A.sp) _)];rw[eu9,er9,eo9];rfl⟩ tb u3 oT hT))) U aY ?_
 rintro _ _ ⟨_,⟨rfl,oT',hT',G',rfl,va',Ga',hV',rfl⟩,rfl⟩
 obtain⟨a8,c0,rfl⟩:=hV'.slice
 refine lE (λw hw=>hw.perm (bf (l₁:=[(b1,_),(b0,_),(tb,oT')]++Ga') (l₂:=[(A.mb,J (cMm A (.slice a8 (fL fE (⟨m.cpu,fB plan m⟩:Rn Mm)).2.m.acc.length c0) (fL fE (⟨m.cpu,fB plan m⟩:Rn Mm)).2.m) 156),(A.ub,J (cU (fL fE (⟨m.cpu,fB plan m⟩:Rn Mm)).2.m.u) 247),(A.rb,J (List.map Z (fL fE (⟨m.cpu,fB plan m⟩:Rn Mm)).2.m.ram++A.rs) 5),(A.ob,J (List.map Z (fL fE (⟨m.cpu,fB plan m⟩:Rn Mm)).2.m.rom++A.sp) 5)]))) ?_
 refine ZAa ?_
 refine tC ?_
 refine ZBV ?_
 refine DZ U (bD (l':=cMm A (.slice a8 (fL fE (⟨m.cpu,fB plan m⟩:Rn Mm)).2.m.acc.length c0) { (fL fE (⟨m.cpu,fB plan m⟩:Rn Mm)).2.m with cpu:=(fL fE (⟨m.cpu,fB plan m⟩:Rn Mm)).2.s}) 0 U U U U U U (by rw[cMm_len hqw.ln];exact ah rfl) (aJp _)) U aY (jL ?_)
 refine DZ U (bC (l':=cDd (fL fE (⟨m.cpu,fB plan m⟩:Rn Mm)).1) 4) U aY (jL ?_)
 refine ZCy ?_
 refine W (aW U U (bT (v:= .int .u64 (fL fE (⟨m.cpu,fB plan m⟩:Rn Mm)).2.m.steps) aE (get_mid (m:=({ (fL fE (⟨m.cpu,fB plan m⟩:Rn Mm)).2.m with cpu:=(fL fE (⟨m.cpu,fB plan m⟩:Rn Mm)).2.s}:Mm)) hc1 (j:=2) U))) U (RW (v:=(.int .u64 (((fL fE (⟨m.cpu,fB plan m⟩:Rn Mm)).2.m.steps+1)%18446744073709551616))) (nD U U) U (A3 _) (ZA2 ?_))
 refine W (bD (l':=cMm A (.slice a8 (fL fE (⟨m.cpu,fB plan m⟩:Rn Mm)).2.m.acc.length c0) (eP plan m).2) 0 U U U U U U (by rw[cMm_len hc1];exact ah rfl) (aCn hc1 _)) U (sH ?_)
 refine nH [(A.mb,J (cMm A (.slice a8 (fL fE (⟨m.cpu,fB plan m⟩:Rn Mm)).2.m.acc.length c0) (eP plan m).2) 156),(b1,J (cDd (eP plan m).1) 184)] [1,2,3,4,5] (.step true 0 (.step true 1 (.step true 2 (.step true 3 (.step true 4 (.step false 5 (.step true 6 .done))))))) U aN aN (λx hx=>uY) ?_
 refine fZ U U U U (jR (b:=b1) (l:=cDd (fL fE (⟨m.cpu,fB plan m⟩:Rn Mm)).1) aE) U U ?_
 refine ZA2 ?_
 refine DL U U U (dQ (v:=(.slice a8 (fL fE (⟨m.cpu,fB plan m⟩:Rn Mm)).2.m.acc.length c0)) aE (Z6 (m:=(eP plan m).2) (⟨hqw.ln.bd,hqw.ln.work,hqw.ln.high⟩:dV (eP plan m).2))) U (DZ U (bC (l':=cDd (eP plan m).1) 5) U (by intro _ _ _ hK;obtain⟨rfl,rfl⟩:=hK;exact(λx hx=>uY)) (xP ?_))
 exact lN (λw hw=>fN U U U (aI (b:=b0) (l:=cDd (eP plan m).1) aE w hw) U) (λw hw=>(hw.sub (.cons_cons _ (.cons_cons _ (.cons_cons _ (.cons_cons _ (.cons _ (.cons _ aJ))))))).perm (bf (l₁:=[(A.mb,J (cMm A (.slice a8 (fL fE (⟨m.cpu,fB plan m⟩:Rn Mm)).2.m.acc.length c0) (eP plan m).2) 156),(A.ub,J (cU (eP plan m).2.u) 247),(A.rb,J (List.map Z (eP plan m).2.ram++A.rs) 5),(A.ob,J (List.map Z (eP plan m).2.rom++A.sp) 5)]) (l₂:=(tb,oT')::Ga'))) ⟨_,oT',Ga',U,hV',hT',U⟩
def Q0(r:Bool)(lb pb o n:Nat)(hn:n<=8)(va:AH)(bs:AB)(Gl:aF)(hV:LineB 5 r va bs Gl)(L:AA)(hS:kT r n (L,bs))(T:Nat)(hf:gN (.long n) L o)(ms:AE)(w:AI)(hst:St w ms ((pb,J L T)::(lb,J [va,.bool r] 123)::Gl) w):aG prog 99 [P_ lb,.pointer (some ⟨pb,o,none⟩),.int .i64 n] w ms (λv H=>v= .tuple #[]/\∃va' Gl',LineB 5 r va' (pass1 r (.long n) (L,bs) o).2 Gl'/\H=(pb,J (pass1 r (.long n) (L,bs) o).1 T)::(lb,J [va',.bool r] 123)::Gl'):=by
 have hby:=hS.byts
 have hen:=hS.en
 have hsz:=hS.sz
 dsimp only at hby hen hsz
 have hx9:L[o]? =some (.int .u64 (FK.at L o)):=hf.at.1
 have hk9:0<=(FK.at L o)/\(FK.at L o)<18446744073709551616:=hf.at.2
 have ho9:=hf.lt
 refine cG func99 hst ?_
 refine ZAm ?_
 rcases r with _|_
 ·refine ZBV ?_
  refine jN ?_
  refine ZBZ ?_
  replace hV:=hV.write
  refine ZBV ?_
  refine dK (σ:=Nat×AH×aF) [6,14,15,16,17,18,19,20,21,22,23,24,25,26,27,28,29,30,31,32,33] (λs=>[(14,.int .i64 s.1)]) (λs=>(pb,J L T)::(lb,J [s.2.1,.bool false] 123)::(s.2.2++[])) (λs=>s.1<=n/\bS 5 1 s.2.1 (bs++dT s.1 (FK.at L o)).length ((bs++dT s.1 (FK.at L o)).map (.int .u8)) s.2.2) (λs=>n-s.1) (0,va,Gl) ?_ ?_ ?_ ?_
  ·exact⟨aq _,by rw[show dT 0 (FK.at L o)=[]from rfl,cn];exact hV⟩
  ·exact .cons U .nil
  ·exact λ_ h=>by rw[cn];exact h
  rintro⟨i,v0,G0⟩ y2 ⟨hi,hV0⟩
  dsimp only at hi hV0⊢
  obtain⟨a6,c0,rfl⟩:=hV0.slice
  refine ZBV ?_
  refine KC (λq0 z0=>?_) (λq0 z0=>?_)
  ·refine ZE1 ?_
   refine nH [(pb,J L T),(lb,J [(.slice a6 (bs++dT i (FK.at L o)).length c0),.bool false] 123)] [5,6,7,8,9,10,11,12] (.step true 0 (.step true 1 (.step true 2 (.step true 3 (.step true 4 (.step true 5 (.step true 6 (.step true 7 (.step true 8 (.step true 9 (.step true 10 (.step true 11 (.step false 12 (.step false 13 (.step true 14 (.step true 15 (.step false 16 .done))))))))))))))))) U aN aN (λx hx=>uY) ?_
   refine ZBZ ?_
   refine DL U U U (dQ (v:=(.slice a6 (bs++dT i (FK.at L o)).length c0)) aE U) U (ZAm ?_)
   refine DL U U U (dQ (v:= .int .u64 (FK.at L o)) aE hx9) U (ZBI ?_)
   refine DW (v:=(.int .i64 ((8*i:Nat):Int))) U (zH U U) U ((uW I I).trans (M _ I)) (DY U (jB U U I) U (DW (v:=(.int .u8 (aZ (FK.at L o) i))) U (gF U U U) U (M _ (aLE I U)) (DX U (fY (z:=[.int .u8 0]) (l:=[.int .u8 (aZ (FK.at L o) i)]) (ps:=[(0,.int .u8 (aZ (FK.at L o) i))]) U U U U U U) U aBG ?_)))
   refine ZBF λb0=>?_
   refine DX U (lZ (A:=[(b0,_),(pb,_),(lb,_)]) (G:=G0) (R:=[]) (v:=(.slice a6 (bs++dT i (FK.at L o)).length c0)) (n:=(bs++dT i (FK.at L o)).length) (xs:=(bs++dT i (FK.at L o)).map (.int .u8)) (m:=1) (T:=5) (s:=1) (by_:=1) (ys:=[.int .u8 (aZ (FK.at L o) i)]) U U U U hV0 (λw hw=> .row _ _ _ _ _ U (aI (b:=b0) (.head _) w hw)) U (by rw[bX,Ff];omega) (by rw[bX,Ff];omega)) U aY ?_
   rintro v1 _ ⟨G1,hV1,_,rfl⟩
   obtain⟨b1,cp9,sp0,rfl,rfl,hc0,hle9,hm9⟩:=hV1.full I
   refine jE ?_
   refine DZ U (bC (l':=[(.slice (Q_ b1) ((bs++dT i (FK.at L o)).length+1) cp9),.bool false]) 3) U aY (jE ?_)
   refine pU ?_
   exact⟨(i+1,_,[(b1,_)]),⟨aR,hV1.as (by simp only[aFL,bX,au];omega) (by simp only[aFL,bz,cq,dh,eG])⟩,aR,.cons U .nil,bB,λ_ h=>(h.sub (.cons_cons _ (.cons _ aJ))).perm (bf (l₁:=[(b1,_)]) (l₂:=[_,_]))⟩
  refine ZAm ?_
  obtain rfl:i=n:=by omega
  exact EN (by rw[cn];exact List.Sublist.refl _) ⟨U,_,G0,hV0,U⟩
 refine ZBV ?_
 refine iO ?_
 refine ZBZ ?_
 obtain⟨cb,off,c,all,rfl,hle,rfl,hall⟩:=hV.read
 replace hen:=hen rfl
 refine ZA2 ?_
 refine W (bD (l':=(aV L o [.int .u64 (val bs 0)])) 0 U U U U U U ho9 U) U (eC ?_)
 refine ZE1 ?_
 refine dK (σ:=Nat) [7,37,38,39,40,41,42,43,44,45,46,47,48,49,50,51,52,53,54,55,56] (λi=>[(37,.int .i64 i)]) (λi=>[(pb,J (aV L o [.int .u64 (val bs i)]) T),(lb,J [(.slice (some ⟨cb,off,none⟩) bs.length c),.bool true] 123),(cb,J all 5)]) (λi=>i<=n) (λi=>n-i) 0 ?_ ?_ ?_ ?_
 ·exact aq _
 ·exact .cons U .nil
 ·exact λ_ h=>h
 rintro i y8 hi
 refine ZBV ?_
 refine KC (λq0 z0=>?_) (λq0 z0=>?_)
 ·refine ZE1 ?_
  refine nH [(pb,J (aV L o [.int .u64 (val bs i)]) T),(lb,J [(.slice (some ⟨cb,off,none⟩) bs.length c),.bool true] 123),(cb,J all 5)] [3,4,5,6,7,8,9,10,11,12,13] (.step true 0 (.step true 1 (.step true 2 (.step true 3 (.step true 4 (.step true 5 (.step true 6 (.step true 7 (.step true 8 (.step true 9 (.step true 10 (.step true 11 (.step true 12 (.step true 13 (.step true 14 (.step true 15 (.step false 16 .done))))))))))))))))) U aN aN (λ_ h=>h) ?_
  refine ZAm ?_
  refine DL U U U (dQ (v:= .int .u64 (val bs i)) aE (by rw[Ko ho9,ag rfl])) U (ZA2 ?_)
  refine DL U U U (dQ (v:=(.slice (some ⟨cb,off,none⟩) bs.length c)) aE U) U (ZBI ?_)
  refine DY U (eF i U U U U I) U (DL U U U (dQ (v:= .int .u8 (bs.getD i 0)) aE (hall i _ (gD I))) U (DW (v:=(.int .u64 (bs.getD i 0))) U (gF U U U) U (Hz (hby.get i).1 (by have:=(hby.get i).2;omega)) (ZBI ?_)))
  refine DW (v:=(.int .i64 ((8*i:Nat):Int))) U (zH U U) U ((uW I I).trans (M _ I)) (DY U (iK U U I) U (DW (v:=(.int .u64 (val bs (i+1)))) U (dE U U) U (M _ (aGq I U (val_ok hby i) (hby.get i))) (ZBI ?_)))
  refine DZ U (bD (l':=(aV L o [.int .u64 (val bs (i+1))])) 0 U U U U U U (by rw[M7 ho9];exact ho9) (aOp ho9)) U aY (jE ?_)
  exact Xu
 refine ZE1 ?_
 refine RY (nM n bs.length U U U U U U I I) U (ZAm ?_)
 refine W (bC (l':=[.slice (some ⟨cb,cut1 off n c,none⟩) (bs.length-n) (c-n),.bool true]) 1) U (eC ?_)
 refine ZBI ?_
 obtain rfl:i=n:=by omega
 exact EN aJ ⟨U,_,_,LineB.cut hle hen hall,U⟩
def number1L_fn(r:Bool)(lb xb n:Nat)(hn:n<=8)(va:AH)(x:Int)(hx:0<=x/\x<18446744073709551616)(bs:AB)(Gl:aF)(hV:LineB 5 r va bs Gl)(hS:∀L:AA,kT r n (L,bs))(ms:AE)(w:AI)(hst:St w ms ((xb,J [.int .u64 x] 36)::(lb,J [va,.bool r] 123)::Gl) w):aG prog 99 [P_ lb,P_ xb,.int .i64 n] w ms (λv H=>v= .tuple #[]/\∃va' Gl',LineB 5 r va' (goes r n x bs).2 Gl'/\H=(xb,J [.int .u64 (goes r n x bs).1] 36)::(lb,J [va',.bool r] 123)::Gl'):=
 (Q0 r lb xb 0 n hn va bs Gl hV [.int .u64 x] (hS _) 36 ⟨x,rfl,hx⟩ ms w hst).mono λv H ⟨h1,va',Gl',h2,h3⟩=>⟨h1,va',Gl',by cases r<;>exact h2,by rw[h3];cases r<;>rfl⟩
def A5(r:Bool)(lb pb:Nat)(va:AH)(Gl:aF)(S:Ps)(hV:LineB 5 r va S.2 Gl)(os:AE)(hol:os.length<=1000000)(hS:kT r (os.length*1) S)(T:Nat)(hf:∀o∈os,gN .byte S.1 o)(pa:AC)(pc:Nat)(ms:AE)(w:AI)(hst:St w ms ((lb,J [va,.bool r] 123)::(Gl++[(pb,J S.1 T)])) w)(hE:eX w (Lr pb) pa os)(hpn:∀p,pa=some p->p.block∉ms):aG prog 96 [P_ lb,.slice pa os.length pc] w ms (λv H=>v= .tuple #[]/\∃va' Gl',LineB 5 r va' (bH r .byte os S).2 Gl'/\H=(lb,J [va',.bool r] 123)::(Gl'++[(pb,J (bH r .byte os S).1 T)])):=by
 refine cG func96 hst ?_
 refine ZA2 ?_
 refine mV ?_
 refine dK (σ:=Nat×AH×aF) [5,6,9,10,11,12,13,14,15,16,17,18,19,20,21,22,23] (λs=>[(9,.int .i64 s.1)]) (λs=>(lb,J [s.2.1,.bool r] 123)::(s.2.2++[(pb,J (bH r .byte (os.take s.1) S).1 T)])) (λs=>s.1<=os.length/\LineB 5 r s.2.1 (bH r .byte (os.take s.1) S).2 s.2.2) (λs=>os.length-s.1) (0,va,Gl) ?_ ?_ ?_ ?_
 ·exact⟨aq _,hV⟩
 ·exact .cons U .nil
 ·exact λ_ h=>h
 rintro⟨i,v0,G0⟩ y1 ⟨hi,hV0⟩
 dsimp only at hi hV0⊢
 refine ZBV ?_
 refine KC (λq0 z0=>?_) (λq0 z0=>?_)
 ·refine ZBZ ?_
  obtain⟨oi,hoi⟩:∃o,os[i]? =some o:=⟨_,ap I⟩
  obtain⟨bp,op,rfl,hrow⟩:=hE.row (i:=i) I
  obtain⟨Z,hZ⟩:∃Z,Z=(bH r .byte (os.take i) S):=⟨_,rfl⟩
  have hfz:gN .byte Z.1 oi:=hZ▸Vp trivial hS.byts hf hoi
  have hSz:kT r 1 Z:=hZ▸hS.at (k:= .byte) I
  rw[<-hZ]at hV0⊢
  have hv9:Z.1[oi]? =some (.int .u8 (FK.at Z.1 oi)):=hfz.at.1
  have hx9:0<=(FK.at Z.1 oi)/\(FK.at Z.1 oi)<256:=hfz.at.2
  have hx8:0<=(FK.at Z.1 oi)/\(FK.at Z.1 oi)<18446744073709551616:=⟨hx9.1,by have:=hx9.2;omega⟩
  have hy9:=X6 (r:=r) (n:=1) (x:=(FK.at Z.1 oi)) (bs:=Z.2) hx9 hSz.byts
  refine ZBI ?_
  refine Uc ?_
  refine aH ?_
  refine W (aW U U (bT (v:= .int .u8 (FK.at Z.1 oi)) aE hv9)) U (RW (v:=(.int .u64 (FK.at Z.1 oi))) (gF U U U) U (Hz hx8.1 hx8.2) (lB λb0=>?_))
  refine W (bC (l':=[.int .u64 (FK.at Z.1 oi)]) 0) U (eC ?_)
  refine ZBZ ?_
  refine Zk λva0 G1 hV1=>?_
  refine Kl ?_
  refine ZBZ ?_
  refine RW (v:=(.int .u8 (goes r 1 (FK.at Z.1 oi) Z.2).1)) (gF U U U) U (Ug hy9.1 hy9.2) (ZBI ?_)
  refine W (bD (l':=(pass1 r .byte Z oi).1) 0 U U U U U U hfz.lt (M Prod.fst (pass1_goes hfz r)).symm) U (jE ?_)
  exact Mp
 refine ZBI ?_
 exact Ub
def aMj(r:Bool)(lb pb:Nat)(va:AH)(Gl:aF)(S:Ps)(hV:LineB 5 r va S.2 Gl)(os:AE)(hol:os.length<=1000000)(hS:kT r (os.length*2) S)(T:Nat)(hf:∀o∈os,gN .word S.1 o)(pa:AC)(pc:Nat)(ms:AE)(w:AI)(hst:St w ms ((lb,J [va,.bool r] 123)::(Gl++[(pb,J S.1 T)])) w)(hE:eX w (Lr pb) pa os)(hpn:∀p,pa=some p->p.block∉ms):aG prog 97 [P_ lb,.slice pa os.length pc] w ms (λv H=>v= .tuple #[]/\∃va' Gl',LineB 5 r va' (bH r .word os S).2 Gl'/\H=(lb,J [va',.bool r] 123)::(Gl'++[(pb,J (bH r .word os S).1 T)])):=by
 refine cG func97 hst ?_
 refine ZA2 ?_
 refine mV ?_
 refine dK (σ:=Nat×AH×aF) [5,6,9,10,11,12,13,14,15,16,17,18,19,20,21,22,23] (λs=>[(9,.int .i64 s.1)]) (λs=>(lb,J [s.2.1,.bool r] 123)::(s.2.2++[(pb,J (bH r .word (os.take s.1) S).1 T)])) (λs=>s.1<=os.length/\LineB 5 r s.2.1 (bH r .word (os.take s.1) S).2 s.2.2) (λs=>os.length-s.1) (0,va,Gl) ?_ ?_ ?_ ?_
 ·exact⟨aq _,hV⟩
 ·exact .cons U .nil
 ·exact λ_ h=>h
 rintro⟨i,v0,G0⟩ y1 ⟨hi,hV0⟩
 dsimp only at hi hV0⊢
 refine ZBV ?_
 refine KC (λq0 z0=>?_) (λq0 z0=>?_)
 ·refine ZBZ ?_
  obtain⟨oi,hoi⟩:∃o,os[i]? =some o:=⟨_,ap I⟩
  obtain⟨bp,op,rfl,hrow⟩:=hE.row (i:=i) I
  obtain⟨Z,hZ⟩:∃Z,Z=(bH r .word (os.take i) S):=⟨_,rfl⟩
  have hfz:gN .word Z.1 oi:=hZ▸Vp trivial hS.byts hf hoi
  have hSz:kT r 2 Z:=hZ▸hS.at (k:= .word) I
  rw[<-hZ]at hV0⊢
  have hv9:Z.1[oi]? =some (.int .u16 (FK.at Z.1 oi)):=hfz.at.1
  have hx9:0<=(FK.at Z.1 oi)/\(FK.at Z.1 oi)<65536:=hfz.at.2
  have hx8:0<=(FK.at Z.1 oi)/\(FK.at Z.1 oi)<18446744073709551616:=⟨hx9.1,by have:=hx9.2;omega⟩
  have hy9:=X6 (r:=r) (n:=2) (x:=(FK.at Z.1 oi)) (bs:=Z.2) hx9 hSz.byts
  refine ZBI ?_
  refine Uc ?_
  refine aH ?_
  refine W (aW U U (bT (v:= .int .u16 (FK.at Z.1 oi)) aE hv9)) U (RW (v:=(.int .u64 (FK.at Z.1 oi))) (gF U U U) U (Hz hx8.1 hx8.2) (lB λb0=>?_))
  refine W (bC (l':=[.int .u64 (FK.at Z.1 oi)]) 0) U (eC ?_)
  refine ZBZ ?_
  refine RX (kP (A:=(b0,J [.int .u64 (FK.at Z.1 oi)] 36)::(lb,J [v0,.bool r] 123)::G0) (G:=[(pb,J Z.1 T)]) (R:=λv H=>v= .tuple #[]/\∃va' Gl',LineB 5 r va' (goes r 2 (FK.at Z.1 oi) Z.2).2 Gl'/\H=(b0,J [.int .u64 (goes r 2 (FK.at Z.1 oi) Z.2).1] 36)::(lb,J [va',.bool r] 123)::Gl') (((b0,J [.int .u64 (FK.at Z.1 oi)] 36)::(lb,J [v0,.bool r] 123)::G0).map (·.1)) K_ U (λ_ hb=>kA hb) (dG (number1L_fn r lb b0 2 aD v0 (FK.at Z.1 oi) hx8 Z.2 G0 hV0 (λL=>⟨hSz.byts,hSz.en,hSz.sz⟩) _))) U ?_
  rintro _ _ ⟨_,⟨rfl,va0,G1,hV1,rfl⟩,rfl⟩
  refine Kl ?_
  refine ZBZ ?_
  refine RW (v:=(.int .u16 (goes r 2 (FK.at Z.1 oi) Z.2).1)) (gF U U U) U (Md hy9.1 hy9.2) (ZBI ?_)
  refine W (bD (l':=(pass1 r .word Z oi).1) 0 U U U U U U hfz.lt (M Prod.fst (pass1_goes hfz r)).symm) U (jE ?_)
  exact Mp
 refine ZBI ?_
 exact Ub
def P6(r:Bool)(lb pb:Nat)(va:AH)(Gl:aF)(S:Ps)(hV:LineB 5 r va S.2 Gl)(os:AE)(hol:os.length<=1000000)(hS:kT r (os.length*1) S)(T:Nat)(hf:∀o∈os,gN .bool S.1 o)(pa:AC)(pc:Nat)(ms:AE)(w:AI)(hst:St w ms ((lb,J [va,.bool r] 123)::(Gl++[(pb,J S.1 T)])) w)(hE:eX w (Lr pb) pa os)(hpn:∀p,pa=some p->p.block∉ms):aG prog 98 [P_ lb,.slice pa os.length pc] w ms (λv H=>v= .tuple #[]/\∃va' Gl',LineB 5 r va' (bH r .bool os S).2 Gl'/\H=(lb,J [va',.bool r] 123)::(Gl'++[(pb,J (bH r .bool os S).1 T)])):=by
 refine cG func98 hst ?_
 refine ZA2 ?_
 refine mV ?_
 refine dK (σ:=Nat×AH×aF) [5,6,9,10,11,12,13,14,15,16,17,18,19,20,21,22] (λs=>[(9,.int .i64 s.1)]) (λs=>(lb,J [s.2.1,.bool r] 123)::(s.2.2++[(pb,J (bH r .bool (os.take s.1) S).1 T)])) (λs=>s.1<=os.length/\LineB 5 r s.2.1 (bH r .bool (os.take s.1) S).2 s.2.2) (λs=>os.length-s.1) (0,va,Gl) ?_ ?_ ?_ ?_
 ·exact⟨aq _,hV⟩
 ·exact .cons U .nil
 ·exact λ_ h=>h
 rintro⟨i,v0,G0⟩ y1 ⟨hi,hV0⟩
 dsimp only at hi hV0⊢
 refine ZBV ?_
 refine KC (λq0 z0=>?_) (λq0 z0=>?_)
 ·refine ZBZ ?_
  obtain⟨oi,hoi⟩:∃o,os[i]? =some o:=⟨_,ap I⟩
  obtain⟨bp,op,rfl,hrow⟩:=hE.row (i:=i) I
  obtain⟨Z,hZ⟩:∃Z,Z=(bH r .bool (os.take i) S):=⟨_,rfl⟩
  have hfz:gN .bool Z.1 oi:=hZ▸Vp trivial hS.byts hf hoi
  have hSz:kT r 1 Z:=hZ▸hS.at (k:= .bool) I
  rw[<-hZ]at hV0⊢
  have hv9:Z.1[oi]? =some (.bool ((FK.at Z.1 oi)==1)):=hfz.at.1
  have hx9:(FK.at Z.1 oi)=0\/(FK.at Z.1 oi)=1:=hfz.at.2
  have hx8:0<=(FK.at Z.1 oi)/\(FK.at Z.1 oi)<18446744073709551616:=by rcases hx9 with h|h<;>rw[h]<;>decide
  refine ZBI ?_
  refine Uc ?_
  refine ZBZ ?_
  refine lB λb0=>?_
  refine aH ?_
  refine W (aW U U (bT (v:= .bool ((FK.at Z.1 oi)==1)) aE hv9)) U (ZBI ?_)
  refine KC (λq1 z1=>?_) (λq1 z1=>?_)
  ·refine ZBI ?_
   refine W (bC (l':=[.int .u64 1]) 0) U (jE ?_)
   have e8:(FK.at Z.1 oi)=1:=by simpa using q1
   refine ZEC ?_
   refine Zk λva0 G1 hV1=>?_
   refine Kl ?_
   refine ZEv ?_
   refine jE ?_
   exact Mp
  refine ZAm ?_
  have e8:(FK.at Z.1 oi)=0:=by rcases hx9 with h9|h9;exact h9;rw[h9]at q1;cases q1
  refine ZEC ?_
  refine Zk λva0 G1 hV1=>?_
  refine Kl ?_
  refine ZEv ?_
  refine jE ?_
  exact Mp
 refine ZBI ?_
 exact Ub
def Tt(r:Bool)(lb pb:Nat)(mn:Nat)(hmn:mn<=4)(hmn8:mn<=8)(va:AH)(Gl:aF)(S:Ps)(hV:LineB 5 r va S.2 Gl)(os:AE)(hol:os.length<=1000000)(hS:kT r (os.length*mn) S)(T:Nat)(hf:∀o∈os,gN (.int mn) S.1 o)(pa:AC)(pc:Nat)(ms:AE)(w:AI)(hst:St w ms ((lb,J [va,.bool r] 123)::(Gl++[(pb,J S.1 T)])) w)(hE:eX w (Lr pb) pa os)(hpn:∀p,pa=some p->p.block∉ms):aG prog 100 [P_ lb,.int .i64 mn,.slice pa os.length pc] w ms (λv H=>v= .tuple #[]/\∃va' Gl',LineB 5 r va' (bH r (.int mn) os S).2 Gl'/\H=(lb,J [va',.bool r] 123)::(Gl'++[(pb,J (bH r (.int mn) os S).1 T)])):=by
 refine cG func100 hst ?_
 refine ZA2 ?_
 refine mV ?_
 refine dK (σ:=Nat×AH×aF) [7,8,11,12,13,14,15,16,17,18,19,20,21,22,23,24,25,26] (λs=>[(11,.int .i64 s.1)]) (λs=>(lb,J [s.2.1,.bool r] 123)::(s.2.2++[(pb,J (bH r (.int mn) (os.take s.1) S).1 T)])) (λs=>s.1<=os.length/\LineB 5 r s.2.1 (bH r (.int mn) (os.take s.1) S).2 s.2.2) (λs=>os.length-s.1) (0,va,Gl) ?_ ?_ ?_ ?_
 ·exact⟨aq _,hV⟩
 ·exact .cons U .nil
 ·exact λ_ h=>h
 rintro⟨i,v0,G0⟩ y1 ⟨hi,hV0⟩
 dsimp only at hi hV0⊢
 refine ZBV ?_
 refine KC (λq0 z0=>?_) (λq0 z0=>?_)
 ·refine ZBZ ?_
  obtain⟨oi,hoi⟩:∃o,os[i]? =some o:=⟨_,ap I⟩
  obtain⟨bp,op,rfl,hrow⟩:=hE.row (i:=i) I
  obtain⟨Z,hZ⟩:∃Z,Z=(bH r (.int mn) (os.take i) S):=⟨_,rfl⟩
  have hfz:gN (.int mn) Z.1 oi:=hZ▸Vp hmn hS.byts hf hoi
  have hSz:kT r mn Z:=hZ▸hS.at (k:=(.int mn)) I
  rw[<-hZ]at hV0⊢
  have hv9:Z.1[oi]? =some (.int .i64 (FK.at Z.1 oi)):=hfz.at.1
  have hx9: -9223372036854775808<=(FK.at Z.1 oi)/\(FK.at Z.1 oi)<=9223372036854775807:=hfz.at.2
  have hx8:0<=((FK.at Z.1 oi)%18446744073709551616)/\((FK.at Z.1 oi)%18446744073709551616)<18446744073709551616:=by omega
  refine ZBI ?_
  refine Uc ?_
  refine aH ?_
  refine W (aW U U (bT (v:= .int .i64 (FK.at Z.1 oi)) aE hv9)) U (RW (v:=(.int .u64 ((FK.at Z.1 oi)%18446744073709551616))) (gF U U U) U (A3 _) (lB λb0=>?_))
  refine W (bC (l':=[.int .u64 ((FK.at Z.1 oi)%18446744073709551616)]) 0) U (eC ?_)
  refine ZBV ?_
  refine RX (kP (A:=(b0,J [.int .u64 ((FK.at Z.1 oi)%18446744073709551616)] 36)::(lb,J [v0,.bool r] 123)::G0) (G:=[(pb,J Z.1 T)]) (R:=λv H=>v= .tuple #[]/\∃va' Gl',LineB 5 r va' (goes r mn ((FK.at Z.1 oi)%18446744073709551616) Z.2).2 Gl'/\H=(b0,J [.int .u64 (goes r mn ((FK.at Z.1 oi)%18446744073709551616) Z.2).1] 36)::(lb,J [va',.bool r] 123)::Gl') (((b0,J [.int .u64 ((FK.at Z.1 oi)%18446744073709551616)] 36)::(lb,J [v0,.bool r] 123)::G0).map (·.1)) K_ U (λ_ hb=>kA hb) (dG (number1L_fn r lb b0 mn hmn8 v0 ((FK.at Z.1 oi)%18446744073709551616) hx8 Z.2 G0 hV0 (λL=>⟨hSz.byts,hSz.en,hSz.sz⟩) _))) U ?_
  rintro _ _ ⟨_,⟨rfl,va0,G1,hV1,rfl⟩,rfl⟩
  refine Kl ?_
  refine ZBZ ?_
  refine RW (v:=(.int .i64 (goes r mn (FK.at Z.1 oi) Z.2).1)) (gF U U U) U (M _ (aCQ hmn hx9 hSz.byts).1) (ZBI ?_)
  refine W (bD (l':=(pass1 r (.int mn) Z oi).1) 0 U U U U U U hfz.lt (M Prod.fst (pass1_goes hfz r)).symm) U (jE ?_)
  refine pU ?_
  exact⟨(i+1,va0,G1),⟨aR,(by rw[passes_snoc hoi,<-hZ,pass1_goes hfz];show LineB _ r va0 (goes r mn (FK.at Z.1 oi) Z.2).2 G1;rw[<-(aCQ hmn hx9 hSz.byts).2];exact hV1)⟩,aR,.cons U .nil,bB,λ_ h=>(((h.sub (.cons_cons _ (.cons _ aJ))).perm (bf (l₁:=[(pb,_)]) (l₂:=(lb,_)::G1)))).as aBO⟩
 refine ZBI ?_
 exact Ub
def If(r:Bool)(lb pb o0 nn:Nat)(hnn:nn<=1000000)(va:AH)(Gl:aF)(S:Ps)(hV:LineB 5 r va S.2 Gl)(hS:kT r nn S)(T:Nat)(hf:∀o∈cQ o0 nn,gN .byte S.1 o)(pc:Nat)(ms:AE)(w:AI)(hst:St w ms ((lb,J [va,.bool r] 123)::(Gl++[(pb,J S.1 T)])) w):aG prog 101 [P_ lb,.slice (some ⟨pb,o0,none⟩) nn pc] w ms (λv H=>v= .tuple #[]/\∃va' Gl',LineB 5 r va' (bH r .byte (cQ o0 nn) S).2 Gl'/\H=(lb,J [va',.bool r] 123)::(Gl'++[(pb,J (bH r .byte (cQ o0 nn) S).1 T)])):=by
 refine cG func101 hst ?_
 refine ZA2 ?_
 refine mV ?_
 refine dK (σ:=Nat×AH×aF) [4,7,8,9,10,11,12,13,14,15,16] (λs=>[(7,.int .i64 s.1)]) (λs=>(lb,J [s.2.1,.bool r] 123)::(s.2.2++[(pb,J (bH r .byte (cQ o0 s.1) S).1 T)])) (λs=>s.1<=nn/\LineB 5 r s.2.1 (bH r .byte (cQ o0 s.1) S).2 s.2.2) (λs=>nn-s.1) (0,va,Gl) ?_ ?_ ?_ ?_
 ·exact⟨aq _,hV⟩
 ·exact .cons U .nil
 ·exact λ_ h=>h
 rintro⟨i,v0,G0⟩ y1 ⟨hi,hV0⟩
 dsimp only at hi hV0⊢
 refine ZBV ?_
 refine KC (λq0 z0=>?_) (λq0 z0=>?_)
 ·refine ZBZ ?_
  obtain⟨Z,hZ⟩:∃Z,Z=(bH r .byte (cQ o0 i) S):=⟨_,rfl⟩
  have hfz:gN .byte Z.1 (o0+i):=hZ▸Uz (k:= .byte) trivial hS.byts (λo ho=>by obtain⟨j,hj,rfl⟩:=Yn ho;exact hf _ (It I)) (hf _ (It I)) (λ_=>rfl)
  have hSz:kT r 1 Z:=hZ▸kT.pass (k:= .byte) (hS.le (by rw[Jf];show i*1+1<=nn;omega))
  rw[<-hZ]at hV0⊢
  refine ZE1 ?_
  refine Dn ?_
  refine RX (fY (z:=[.pointer none]) (l:=[.pointer (some ⟨pb,o0+i,none⟩)]) (ps:=[(0,.pointer (some ⟨pb,o0+i,none⟩))]) U U U U U U) U (ZBF λb0=>?_)
  refine RX (cB (F:=[(b0,J [.pointer (some ⟨pb,o0+i,none⟩)] 234)]) (A:=(lb,J [v0,.bool r] 123)::(G0++[(pb,J Z.1 T)])) (R:=λv H=>v= .tuple #[]/\∃va' Gl',LineB 5 r va' (bH r .byte [o0+i] Z).2 Gl'/\H=(lb,J [va',.bool r] 123)::(Gl'++[(pb,J (bH r .byte [o0+i] Z).1 T)])) K_ U (λw hw=>A5 r lb pb v0 G0 Z hV0 [o0+i] (ah U) hSz T (λo ho=>by rw[List.mem_singleton.1 ho];exact hfz) _ _ _ w (St.lentV hw) (λ_=>⟨b0,0,U,aI (b:=b0) (bL _ (.head _)) w hw⟩) (λp hp=>Kr))) U ?_
  rintro _ _ ⟨_,⟨rfl,va0,G1,hV1,rfl⟩,rfl⟩
  refine jE ?_
  refine pU ?_
  exact⟨(i+1,va0,G1),⟨aR,by rw[aEg,<-hZ];exact hV1⟩,aR,.cons U .nil,bB,λ_ h=>(h.sub (.cons _ aJ)).as (by rw[aEg,<-hZ])⟩
 refine ZBI ?_
 obtain rfl:i=nn:=by omega
 exact EN aJ ⟨U,_,G0,hV0,U⟩
def aPt(r:Bool)(lb mb:Nat)(va:AH)(G:aF)(S:Ps)(hV:LineB 5 r va S.2 G)(hT:gM r 86 S)(ms:AE)(w:AI)(hst:St w ms ((lb,J [va,.bool r] 123)::(G++[(mb,J S.1 156)])) w):aG prog 102 [P_ mb,P_ lb] w ms (λv H=>v= .tuple #[]/\∃va' Gl',LineB 5 r va' (uU r S).2 Gl'/\H=(lb,J [va',.bool r] 123)::(Gl'++[(mb,J (uU r S).1 156)])):=by
 refine cG func102 hst ?_
 refine jJ ?_
 refine RW (v:=(.slice (some ⟨mb,49,none⟩) 48 48)) (pR 0 48 U U U U U U aD aD) U U (RX (cB (F:=[]) (A:=(lb,J [va,.bool r] 123)::(G++[(mb,J S.1 156)])) (R:=(λv H=>v= .tuple #[]/\∃va' Gl',LineB 5 r va' (bH r .byte (cQ 49 48) S).2 Gl'/\H=(lb,J [va',.bool r] 123)::(Gl'++[(mb,J (bH r .byte (cQ 49 48) S).1 156)]))) K_ U (λw hw=>If r lb mb 49 48 aD va G S hV (hT.ok.le (m:=48) I) 156 (hT.fit Lh) _ _ w (St.lentV (G:=[]) hw))) U ?_)
 rintro _ _ ⟨_,⟨rfl,va0,G0,hV0,rfl⟩,rfl⟩
 obtain⟨Z16,hZ16⟩:∃Z,Z=bH r .byte (cQ 49 48) S:=⟨_,rfl⟩
 have hT16:gM r 38 Z16:=hZ16▸(hT.le (m:=48*1+38) I).pass (k:= .byte) (os:=cQ 49 48) (n:=38) trivial Lh
 rw[<-hZ16]at hV0
 refine eA (λw hw=>hw.as (by rw[<-hZ16];rfl)) (H':=(lb,J [va0,.bool r] 123)::(G0++[(mb,J Z16.1 156)])) ?_
 refine ZAm ?_
 refine DR [] (bQ [0,2,4,6,8,10,12,15,17]) ?_
 refine ZCy ?_
 refine DX U (fY (z:=[.pointer none]) (l:=[.pointer (some ⟨mb,97,none⟩),.pointer (some ⟨mb,118,none⟩)]) (ps:=[(0,.pointer (some ⟨mb,97,none⟩)),(1,.pointer (some ⟨mb,118,none⟩))]) U U U U aN aN) U aY (ZBF λb0=>?_)
 refine DX U (cB (F:=[(b0,_)]) (A:=(lb,J [va0,.bool r] 123)::(G0++[(mb,J Z16.1 156)])) (R:=(λv H=>v= .tuple #[]/\∃va' Gl',LineB 5 r va' (bH r .bool [97,118] Z16).2 Gl'/\H=(lb,J [va',.bool r] 123)::(Gl'++[(mb,J (bH r .bool [97,118] Z16).1 156)]))) K_ U (λw hw=>P6 r lb mb va0 G0 Z16 hV0 [97,118] (ah U) (hT16.ok.le (m:=2) I) 156 (hT16.fit (show ∀o∈[97,118],eT o=some .bool by decide)) _ _ _ w (St.lentV hw) (λ_=>⟨b0,0,U,aI (b:=b0) (bL _ (.head _)) w hw⟩) (λp hp=>Kr))) U aY ?_
 rintro _ _ ⟨_,⟨rfl,va1,G1,hV1,rfl⟩,rfl⟩
 obtain⟨Z25,hZ25⟩:∃Z,Z=bH r .bool [97,118] Z16:=⟨_,rfl⟩
 have hT25:gM r 36 Z25:=hZ25▸(hT16.le (m:=2+36) I).pass (k:= .bool) (os:=[97,118]) (n:=36) trivial (show ∀o∈[97,118],eT o=some .bool by decide)
 rw[<-hZ25]at hV1
 refine lE (λw hw=>(hw.sub (.cons _ aJ)).as (by rw[<-hZ25];rfl)) (H':=(lb,J [va1,.bool r] 123)::(G1++[(mb,J Z25.1 156)])) ?_
 refine ZAm ?_
 refine DR [] (bQ [0,2,4,6,8,10,12,14,16,18,20,22,24,27,29]) ?_
 refine kD ?_
 refine DX U (fY (z:=[.pointer none]) (l:=[.pointer (some ⟨mb,98,none⟩),.pointer (some ⟨mb,99,none⟩),.pointer (some ⟨mb,116,none⟩),.pointer (some ⟨mb,117,none⟩)]) (ps:=[(0,.pointer (some ⟨mb,98,none⟩)),(1,.pointer (some ⟨mb,99,none⟩)),(2,.pointer (some ⟨mb,116,none⟩)),(3,.pointer (some ⟨mb,117,none⟩))]) U U U U aN aN) U aY ?_
 rintro _ _ ⟨b1,rfl,rfl⟩
 refine DX U (cB (F:=[(b1,_)]) (A:=(lb,J [va1,.bool r] 123)::(G1++[(mb,J Z25.1 156)])) (R:=(λv H=>v= .tuple #[]/\∃va' Gl',LineB 5 r va' (bH r (.int 2) [98,99,116,117] Z25).2 Gl'/\H=(lb,J [va',.bool r] 123)::(Gl'++[(mb,J (bH r (.int 2) [98,99,116,117] Z25).1 156)]))) K_ U (λw hw=>Tt r lb mb 2 aD aD va1 G1 Z25 hV1 [98,99,116,117] (ah U) (hT25.ok.le (m:=8) I) 156 (hT25.fit (show ∀o∈[98,99,116,117],eT o=some (.int 2)by decide)) _ _ _ w (St.lentV hw) (λ_=>⟨b1,0,U,aI (b:=b1) (bL _ (.head _)) w hw⟩) (λp hp=>Kr))) U aY ?_
 rintro _ _ ⟨_,⟨rfl,va2,G2,hV2,rfl⟩,rfl⟩
 obtain⟨Z40,hZ40⟩:∃Z,Z=bH r (.int 2) [98,99,116,117] Z25:=⟨_,rfl⟩
 have hT40:gM r 28 Z40:=hZ40▸(hT25.le (m:=8+28) I).pass (k:=(.int 2)) (os:=[98,99,116,117]) (n:=28) (show 2<=4 by decide) (show ∀o∈[98,99,116,117],eT o=some (.int 2)by decide)
 rw[<-hZ40]at hV2
 refine lE (λw hw=>(hw.sub (.cons _ aJ)).as (by rw[<-hZ40];rfl)) (H':=(lb,J [va2,.bool r] 123)::(G2++[(mb,J Z40.1 156)])) ?_
 refine aH ?_
 refine dK (σ:=Nat×AH×aF) [5,6,41,42,43,44,45,46,47,48,49,50,51,52,53,54,55,56,57,58,59,60,61,62,63,64,65,66,67] (λs=>[(41,.int .i64 s.1)]) (λs=>(lb,J [s.2.1,.bool r] 123)::(s.2.2++[(mb,J (rF r Z40 s.1).1 156)])) (λs=>s.1<=4/\LineB 5 r s.2.1 (rF r Z40 s.1).2 s.2.2) (λs=>4-s.1) (0,va2,G2) ?_ ?_ ?_ ?_
 ·exact⟨aq _,hV2⟩
 ·exact .cons U .nil
 ·exact λ_ h=>h
 rintro⟨i,va3,G3⟩ y5 ⟨hi,hV3⟩
 dsimp only at hi hV3⊢
 refine ZBV ?_
 refine KC (λq0 z0=>?_) (λq0 z0=>?_)
 ·refine ZBZ ?_
  have hi4:i<4:=by omega
  obtain⟨Z5,hZ5⟩:∃Z,Z=rF r Z40 i:=⟨_,rfl⟩
  have hT5:gM r (7*(4-i)) Z5:=hZ5▸(hT40.voices (n:=0) i I)
  rw[<-hZ5]at hV3⊢
  refine cL ?_
  refine RW (v:=(.pointer (some ⟨mb,100+4*i,none⟩))) (iU (s:=4) i U U U U I) U (M (λz:Nat=>Value.pointer (some ⟨mb,z,none⟩)) I) (ZCy ?_)
  refine RW (v:=(.pointer (some ⟨mb,100+4*i,none⟩))) (Gc U U) U (M (λz:Nat=>Value.pointer (some ⟨mb,z,none⟩)) I) (RX (fY (z:=[.pointer none]) (l:=[.pointer (some ⟨mb,100+4*i,none⟩)]) (ps:=[(0,.pointer (some ⟨mb,100+4*i,none⟩))]) U U U U aN aN) U ?_)
  rintro _ _ ⟨b2,rfl,rfl⟩
  refine RX (cB (F:=[(b2,_)]) (A:=(lb,J [va3,.bool r] 123)::(G3++[(mb,J Z5.1 156)])) (R:=(λv H=>v= .tuple #[]/\∃va' Gl',LineB 5 r va' (bH r .bool [100+4*i] Z5).2 Gl'/\H=(lb,J [va',.bool r] 123)::(Gl'++[(mb,J (bH r .bool [100+4*i] Z5).1 156)]))) K_ U (λw hw=>P6 r lb mb va3 G3 Z5 hV3 [100+4*i] (ah U) (hT5.ok.le (m:=1) I) 156 (hT5.fit (Uf hi4)) _ _ _ w (St.lentV hw) (λ_=>⟨b2,0,U,aI (b:=b2) (bL _ (.head _)) w hw⟩) (λp hp=>Kr))) U ?_
  rintro _ _ ⟨_,⟨rfl,va4,G4,hV4,rfl⟩,rfl⟩
  obtain⟨Z54,hZ54⟩:∃Z,Z=bH r .bool [100+4*i] Z5:=⟨_,rfl⟩
  have hT54:gM r (7*(4-i)-1) Z54:=hZ54▸(hT5.le (m:=1+(7*(4-i)-1)) I).pass (k:= .bool) (os:=[100+4*i]) (n:=(7*(4-i)-1)) trivial (Uf hi4)
  rw[<-hZ54]at hV4
  refine eA (λw hw=>(hw.sub (.cons _ aJ)).as (by rw[<-hZ54];rfl)) (H':=(lb,J [va4,.bool r] 123)::(G4++[(mb,J Z54.1 156)])) ?_
  refine ZBI ?_
  refine DR [] (bQ [0,2,4,6,8,10,12,14,16,18,21,23]) ?_
  refine ZA2 ?_
  refine DW (v:=(.pointer (some ⟨mb,101+4*i,none⟩))) U (Gc U U) U (M (λz:Nat=>Value.pointer (some ⟨mb,z,none⟩)) I) (ZAm ?_)
  refine DW (v:=(.pointer (some ⟨mb,102+4*i,none⟩))) U (Gc U U) U (M (λz:Nat=>Value.pointer (some ⟨mb,z,none⟩)) I) (ZAm ?_)
  refine DW (v:=(.pointer (some ⟨mb,103+4*i,none⟩))) U (Gc U U) U (M (λz:Nat=>Value.pointer (some ⟨mb,z,none⟩)) I) (DX U (fY (z:=[.pointer none]) (l:=[.pointer (some ⟨mb,101+4*i,none⟩),.pointer (some ⟨mb,102+4*i,none⟩),.pointer (some ⟨mb,103+4*i,none⟩)]) (ps:=[(0,.pointer (some ⟨mb,101+4*i,none⟩)),(1,.pointer (some ⟨mb,102+4*i,none⟩)),(2,.pointer (some ⟨mb,103+4*i,none⟩))]) U U U U aN aN) U aY ?_)
  rintro _ _ ⟨b3,rfl,rfl⟩
  refine DX U (cB (F:=[(b3,_)]) (A:=(lb,J [va4,.bool r] 123)::(G4++[(mb,J Z54.1 156)])) (R:=(λv H=>v= .tuple #[]/\∃va' Gl',LineB 5 r va' (bH r (.int 2) [101+4*i,102+4*i,103+4*i] Z54).2 Gl'/\H=(lb,J [va',.bool r] 123)::(Gl'++[(mb,J (bH r (.int 2) [101+4*i,102+4*i,103+4*i] Z54).1 156)]))) K_ U (λw hw=>Tt r lb mb 2 aD aD va4 G4 Z54 hV4 [101+4*i,102+4*i,103+4*i] (ah U) (hT54.ok.le (m:=6) I) 156 (hT54.fit (Vz hi4)) _ _ _ w (St.lentV hw) (λ_=>⟨b3,0,U,aI (b:=b3) (bL _ (.head _)) w hw⟩) (λp hp=>Kr))) U aY ?_
  rintro _ _ ⟨_,⟨rfl,va5,G5,hV5,rfl⟩,rfl⟩
  obtain⟨Z66,hZ66⟩:∃Z,Z=bH r (.int 2) [101+4*i,102+4*i,103+4*i] Z54:=⟨_,rfl⟩
  have hT66:gM r (7*(4-(i+1))) Z66:=hZ66▸(hT54.le (m:=6+(7*(4-(i+1)))) I).pass (k:=(.int 2)) (os:=[101+4*i,102+4*i,103+4*i]) (n:=(7*(4-(i+1)))) (show 2<=4 by decide) (Vz hi4)
  rw[<-hZ66]at hV5
  refine lE (λw hw=>(hw.sub (.cons _ aJ)).as (by rw[<-hZ66];rfl)) (H':=(lb,J [va5,.bool r] 123)::(G5++[(mb,J Z66.1 156)])) ?_
  refine pT ?_
  exact⟨(i+1,va5,G5),⟨aR,by show LineB _ r va5 (bH r (.int 2) _ (bH r .bool _ (rF r Z40 i))).2 G5;rw[<-hZ5,<-hZ54,<-hZ66];exact hV5⟩,aR,.cons U .nil,bB,λ_ h=>h.as (by show _=(lb,_)::(G5++[(mb,J (bH r (.int 2) _ (bH r .bool _ (rF r Z40 i))).1 _)]);rw[<-hZ5,<-hZ54,<-hZ66])⟩
 refine ZBI ?_
 obtain rfl:i=4:=by omega
 exact EN aJ ⟨U,_,G3,by unfold uU;rw[<-hZ16,<-hZ25,<-hZ40];exact hV3,by unfold uU;rw[<-hZ16,<-hZ25,<-hZ40]⟩
set_option maxHeartbeats 4000000 in
def aAk(r:Bool)(lb mb rb nn rc:Nat)(hnn:nn<=200000)(va:AH)(G:aF)(S:Ps)(hV:LineB 5 r va S.2 G)(hT:gM r (8482+nn) S)(RL:AA)(hR:∀o∈cQ 0 nn,gN .byte RL o)(hrv:S.1[134]? =some (.slice (Q_ rb) nn rc))(ms:AE)(w:AI)(hst:St w ms ((lb,J [va,.bool r] 123)::((G++[(mb,J S.1 156)])++[(rb,J RL 5)])) w):aG prog 54 [P_ mb,P_ lb] w ms (λv H=>v= .tuple #[]/\∃va' Gl',LineB 5 r va' (bH r .byte (cQ 0 nn) (RL,(vK r S).2)).2 Gl'/\H=(lb,J [va',.bool r] 123)::((Gl'++[(mb,J (vK r S).1 156)])++[(rb,J (bH r .byte (cQ 0 nn) (RL,(vK r S).2)).1 5)])):=by
 refine cG func54 hst ?_
 refine ZBI ?_
 refine DR [] (bQ [0,2,4,6,8,10,12,14,16,18,20,22,24,26,28,30,32,34,36,38,40]) ?_
 refine Zg ?_
 refine DR [] (bQ [0,2,4,6,8,10,12,14,16,18,20,22,24,26,28,30,32,34,36,38,40,42,44,46,48,50,52,54,56,58,60,62,64,66,68,70,72,74,76,78,80,82,84,86,88,90,92,94,96,98,100,102,104,107,109]) ?_
 refine aGw ?_
 refine DX U (fY (z:=[.pointer none]) (l:=[P_ mb,.pointer (some ⟨mb,1,none⟩),.pointer (some ⟨mb,2,none⟩),.pointer (some ⟨mb,3,none⟩),.pointer (some ⟨mb,4,none⟩),.pointer (some ⟨mb,5,none⟩),.pointer (some ⟨mb,6,none⟩),.pointer (some ⟨mb,7,none⟩),.pointer (some ⟨mb,119,none⟩),.pointer (some ⟨mb,120,none⟩),.pointer (some ⟨mb,21,none⟩),.pointer (some ⟨mb,39,none⟩),.pointer (some ⟨mb,40,none⟩),.pointer (some ⟨mb,47,none⟩)]) (ps:=[(0,P_ mb),(1,.pointer (some ⟨mb,1,none⟩)),(2,.pointer (some ⟨mb,2,none⟩)),(3,.pointer (some ⟨mb,3,none⟩)),(4,.pointer (some ⟨mb,4,none⟩)),(5,.pointer (some ⟨mb,5,none⟩)),(6,.pointer (some ⟨mb,6,none⟩)),(7,.pointer (some ⟨mb,7,none⟩)),(8,.pointer (some ⟨mb,119,none⟩)),(9,.pointer (some ⟨mb,120,none⟩)),(10,.pointer (some ⟨mb,21,none⟩)),(11,.pointer (some ⟨mb,39,none⟩)),(12,.pointer (some ⟨mb,40,none⟩)),(13,.pointer (some ⟨mb,47,none⟩))]) U U U U aN aN) U aY (ZBF λb0=>?_)
 refine DX U (gZ (F:=[(b0,_)]) (A:=(lb,J [va,.bool r] 123)::(G++[(mb,J S.1 156)])) (G:=[(rb,J RL 5)]) (R:=(λv H=>v= .tuple #[]/\∃va' Gl',LineB 5 r va' (bH r .byte gA S).2 Gl'/\H=(lb,J [va',.bool r] 123)::(Gl'++[(mb,J (bH r .byte gA S).1 156)]))) K_ U (λw hw hw2=>A5 r lb mb va G S hV gA (ah U) (hT.ok.le (m:=14) I) 156 (hT.fit I3) _ _ _ w hw (λ_=>⟨b0,0,U,aI (b:=b0) (bL _ (.head _)) w hw2⟩) (λp hp=>Gu))) U aY ?_
 rintro _ _ ⟨_,⟨rfl,va0,G0,hV0,rfl⟩,rfl⟩
 obtain⟨Z79,hZ79⟩:∃Z,Z=bH r .byte gA S:=⟨_,rfl⟩
 have hT79:gM r (8468+nn) Z79:=hZ79▸(hT.le (m:=14+(8468+nn)) I).pass (k:= .byte) (os:=gA) (n:=(8468+nn)) trivial I3
 rw[<-hZ79]at hV0
 refine lE (λw hw=>(hw.sub (.cons _ aJ)).as (by rw[<-hZ79];rfl)) (H':=(lb,J [va0,.bool r] 123)::((G0++[(mb,J Z79.1 156)])++[(rb,J RL 5)])) ?_
 refine ZAm ?_
 refine DR [] (bQ [0,2,4,6,8,10,12,14,16,18,21,23]) ?_
 refine cL ?_
 refine DX U (fY (z:=[.pointer none]) (l:=[.pointer (some ⟨mb,8,none⟩),.pointer (some ⟨mb,9,none⟩),.pointer (some ⟨mb,34,none⟩)]) (ps:=[(0,.pointer (some ⟨mb,8,none⟩)),(1,.pointer (some ⟨mb,9,none⟩)),(2,.pointer (some ⟨mb,34,none⟩))]) U U U U aN aN) U aY ?_
 rintro _ _ ⟨b1,rfl,rfl⟩
 refine DX U (gZ (F:=[(b1,_)]) (A:=(lb,J [va0,.bool r] 123)::(G0++[(mb,J Z79.1 156)])) (G:=[(rb,J RL 5)]) (R:=(λv H=>v= .tuple #[]/\∃va' Gl',LineB 5 r va' (bH r .word gW Z79).2 Gl'/\H=(lb,J [va',.bool r] 123)::(Gl'++[(mb,J (bH r .word gW Z79).1 156)]))) K_ U (λw hw hw2=>aMj r lb mb va0 G0 Z79 hV0 gW (ah U) (hT79.ok.le (m:=6) I) 156 (hT79.fit F6) _ _ _ w hw (λ_=>⟨b1,0,U,aI (b:=b1) (bL _ (.head _)) w hw2⟩) (λp hp=>Gu))) U aY ?_
 rintro _ _ ⟨_,⟨rfl,va1,G1,hV1,rfl⟩,rfl⟩
 obtain⟨Z91,hZ91⟩:∃Z,Z=bH r .word gW Z79:=⟨_,rfl⟩
 have hT91:gM r (8462+nn) Z91:=hZ91▸(hT79.le (m:=6+(8462+nn)) I).pass (k:= .word) (os:=gW) (n:=(8462+nn)) trivial F6
 rw[<-hZ91]at hV1
 refine lE (λw hw=>(hw.sub (.cons _ aJ)).as (by rw[<-hZ91];rfl)) (H':=(lb,J [va1,.bool r] 123)::((G1++[(mb,J Z91.1 156)])++[(rb,J RL 5)])) ?_
 refine ZAm ?_
 refine DR [] (bQ [0,2,4,6,8,10,12,14,16,18,20,22,24,26,28,30,32,34,36,38,40,42,44,46,48,50,52,54,56,58,60,62,64,66,68,70,72,74,76,78,81,83]) ?_
 refine aHi ?_
 refine DX U (fY (z:=[.pointer none]) (l:=[.pointer (some ⟨mb,10,none⟩),.pointer (some ⟨mb,11,none⟩),.pointer (some ⟨mb,12,none⟩),.pointer (some ⟨mb,13,none⟩),.pointer (some ⟨mb,17,none⟩),.pointer (some ⟨mb,18,none⟩),.pointer (some ⟨mb,38,none⟩),.pointer (some ⟨mb,27,none⟩),.pointer (some ⟨mb,28,none⟩)]) (ps:=[(0,.pointer (some ⟨mb,10,none⟩)),(1,.pointer (some ⟨mb,11,none⟩)),(2,.pointer (some ⟨mb,12,none⟩)),(3,.pointer (some ⟨mb,13,none⟩)),(4,.pointer (some ⟨mb,17,none⟩)),(5,.pointer (some ⟨mb,18,none⟩)),(6,.pointer (some ⟨mb,38,none⟩)),(7,.pointer (some ⟨mb,27,none⟩)),(8,.pointer (some ⟨mb,28,none⟩))]) U U U U aN aN) U aY ?_
 rintro _ _ ⟨b2,rfl,rfl⟩
 refine DX U (gZ (F:=[(b2,_)]) (A:=(lb,J [va1,.bool r] 123)::(G1++[(mb,J Z91.1 156)])) (G:=[(rb,J RL 5)]) (R:=(λv H=>v= .tuple #[]/\∃va' Gl',LineB 5 r va' (bH r .bool gB Z91).2 Gl'/\H=(lb,J [va',.bool r] 123)::(Gl'++[(mb,J (bH r .bool gB Z91).1 156)]))) K_ U (λw hw hw2=>P6 r lb mb va1 G1 Z91 hV1 gB (ah U) (hT91.ok.le (m:=9) I) 156 (hT91.fit Yz) _ _ _ w hw (λ_=>⟨b2,0,U,aI (b:=b2) (bL _ (.head _)) w hw2⟩) (λp hp=>Gu))) U aY ?_
 rintro _ _ ⟨_,⟨rfl,va2,G2,hV2,rfl⟩,rfl⟩
 obtain⟨Z133,hZ133⟩:∃Z,Z=bH r .bool gB Z91:=⟨_,rfl⟩
 have hT133:gM r (8453+nn) Z133:=hZ133▸(hT91.le (m:=9+(8453+nn)) I).pass (k:= .bool) (os:=gB) (n:=(8453+nn)) trivial Yz
 rw[<-hZ133]at hV2
 refine lE (λw hw=>(hw.sub (.cons _ aJ)).as (by rw[<-hZ133];rfl)) (H':=(lb,J [va2,.bool r] 123)::((G2++[(mb,J Z133.1 156)])++[(rb,J RL 5)])) ?_
 refine ZE1 ?_
 refine eA (λw hw=>hw.perm (dz [(rb,J RL 5)] (bf (l₁:=(lb,J [va2,.bool r] 123)::G2) (l₂:=[_])))) (H':=((mb,J Z133.1 156)::(lb,J [va2,.bool r] 123)::G2)++[(rb,J RL 5)]) ?_
 refine RX (kP (A:=(mb,J Z133.1 156)::(lb,J [va2,.bool r] 123)::G2) (G:=[(rb,J RL 5)]) (R:=(λv H=>v= .tuple #[]/\∃va' Gl',LineB 5 r va' (pass1 r (.long 8) Z133 121).2 Gl'/\H=(mb,J (pass1 r (.long 8) Z133 121).1 156)::(lb,J [va',.bool r] 123)::Gl')) (((mb,J Z133.1 156)::(lb,J [va2,.bool r] 123)::G2).map (·.1)) K_ U (λ_ hb=>kA hb) (dG (Q0 r lb mb 121 8 aD va2 Z133.2 G2 hV2 Z133.1 (hT133.ok.le (m:=8) I) 156 (hT133.ty 121 _ aD) _))) U ?_
 rintro _ _ ⟨_,⟨rfl,va3,G3,hV3,rfl⟩,rfl⟩
 obtain⟨Z139,hZ139⟩:∃Z,Z=pass1 r (.long 8) Z133 121:=⟨_,rfl⟩
 have hT139:gM r (8445+nn) Z139:=hZ139▸(hT133.le (m:=8+(8445+nn)) I).one (k:= .long 8) (n:=(8445+nn)) (show 8<=8 by decide) aD
 rw[<-hZ139]at hV3
 refine eA (λw hw=>(hw.perm (dz [(rb,J RL 5)] (bf (l₁:=[_]) (l₂:=(lb,J [va3,.bool r] 123)::G3)))).as (by rw[<-hZ139];rfl)) (H':=(lb,J [va3,.bool r] 123)::((G3++[(mb,J Z139.1 156)])++[(rb,J RL 5)])) ?_
 refine ZE1 ?_
 refine eA (λw hw=>hw.perm (dz [(rb,J RL 5)] (bf (l₁:=(lb,J [va3,.bool r] 123)::G3) (l₂:=[_])))) (H':=((mb,J Z139.1 156)::(lb,J [va3,.bool r] 123)::G3)++[(rb,J RL 5)]) ?_
 refine RX (kP (A:=(mb,J Z139.1 156)::(lb,J [va3,.bool r] 123)::G3) (G:=[(rb,J RL 5)]) (R:=(λv H=>v= .tuple #[]/\∃va' Gl',LineB 5 r va' (pass1 r (.long 8) Z139 122).2 Gl'/\H=(mb,J (pass1 r (.long 8) Z139 122).1 156)::(lb,J [va',.bool r] 123)::Gl')) (((mb,J Z139.1 156)::(lb,J [va3,.bool r] 123)::G3).map (·.1)) K_ U (λ_ hb=>kA hb) (dG (Q0 r lb mb 122 8 aD va3 Z139.2 G3 hV3 Z139.1 (hT139.ok.le (m:=8) I) 156 (hT139.ty 122 _ aD) _))) U ?_
 rintro _ _ ⟨_,⟨rfl,va4,G4,hV4,rfl⟩,rfl⟩
 obtain⟨Z145,hZ145⟩:∃Z,Z=pass1 r (.long 8) Z139 122:=⟨_,rfl⟩
 have hT145:gM r (8437+nn) Z145:=hZ145▸(hT139.le (m:=8+(8437+nn)) I).one (k:= .long 8) (n:=(8437+nn)) (show 8<=8 by decide) aD
 rw[<-hZ145]at hV4
 refine eA (λw hw=>(hw.perm (dz [(rb,J RL 5)] (bf (l₁:=[_]) (l₂:=(lb,J [va4,.bool r] 123)::G4)))).as (by rw[<-hZ145];rfl)) (H':=(lb,J [va4,.bool r] 123)::((G4++[(mb,J Z145.1 156)])++[(rb,J RL 5)])) ?_
 refine ZAm ?_
 refine ZEb ?_
 refine DX U (fY (z:=[.pointer none]) (l:=[.pointer (some ⟨mb,19,none⟩),.pointer (some ⟨mb,20,none⟩),.pointer (some ⟨mb,25,none⟩),.pointer (some ⟨mb,44,none⟩),.pointer (some ⟨mb,45,none⟩),.pointer (some ⟨mb,46,none⟩),.pointer (some ⟨mb,48,none⟩)]) (ps:=[(0,.pointer (some ⟨mb,19,none⟩)),(1,.pointer (some ⟨mb,20,none⟩)),(2,.pointer (some ⟨mb,25,none⟩)),(3,.pointer (some ⟨mb,44,none⟩)),(4,.pointer (some ⟨mb,45,none⟩)),(5,.pointer (some ⟨mb,46,none⟩)),(6,.pointer (some ⟨mb,48,none⟩))]) U U U U aN aN) U aY ?_
 rintro _ _ ⟨b3,rfl,rfl⟩
 refine DX U (gZ (F:=[(b3,_)]) (A:=(lb,J [va4,.bool r] 123)::(G4++[(mb,J Z145.1 156)])) (G:=[(rb,J RL 5)]) (R:=(λv H=>v= .tuple #[]/\∃va' Gl',LineB 5 r va' (bH r (.int 2) gI Z145).2 Gl'/\H=(lb,J [va',.bool r] 123)::(Gl'++[(mb,J (bH r (.int 2) gI Z145).1 156)]))) K_ U (λw hw hw2=>Tt r lb mb 2 aD aD va4 G4 Z145 hV4 gI (ah U) (hT145.ok.le (m:=14) I) 156 (hT145.fit Wu) _ _ _ w hw (λ_=>⟨b3,0,U,aI (b:=b3) (bL _ (.head _)) w hw2⟩) (λp hp=>Gu))) U aY ?_
 rintro _ _ ⟨_,⟨rfl,va5,G5,hV5,rfl⟩,rfl⟩
 obtain⟨Z175,hZ175⟩:∃Z,Z=bH r (.int 2) gI Z145:=⟨_,rfl⟩
 have hT175:gM r (8423+nn) Z175:=hZ175▸(hT145.le (m:=14+(8423+nn)) I).pass (k:=(.int 2)) (os:=gI) (n:=(8423+nn)) (show 2<=4 by decide) Wu
 rw[<-hZ175]at hV5
 refine lE (λw hw=>(hw.sub (.cons _ aJ)).as (by rw[<-hZ175];rfl)) (H':=(lb,J [va5,.bool r] 123)::((G5++[(mb,J Z175.1 156)])++[(rb,J RL 5)])) ?_
 refine ZCy ?_
 refine RX (fY (z:=[.pointer none]) (l:=[.pointer (some ⟨mb,26,none⟩)]) (ps:=[(0,.pointer (some ⟨mb,26,none⟩))]) U U U U aN aN) U ?_
 rintro _ _ ⟨b4,rfl,rfl⟩
 refine RX (gZ (F:=[(b4,_)]) (A:=(lb,J [va5,.bool r] 123)::(G5++[(mb,J Z175.1 156)])) (G:=[(rb,J RL 5)]) (R:=(λv H=>v= .tuple #[]/\∃va' Gl',LineB 5 r va' (bH r (.int 4) [26] Z175).2 Gl'/\H=(lb,J [va',.bool r] 123)::(Gl'++[(mb,J (bH r (.int 4) [26] Z175).1 156)]))) K_ U (λw hw hw2=>Tt r lb mb 4 aD aD va5 G5 Z175 hV5 [26] (ah U) (hT175.ok.le (m:=4) I) 156 (hT175.fit (show ∀o∈[26],eT o=some (.int 4)by decide)) _ _ _ w hw (λ_=>⟨b4,0,U,aI (b:=b4) (bL _ (.head _)) w hw2⟩) (λp hp=>Gu))) U ?_
 rintro _ _ ⟨_,⟨rfl,va6,G6,hV6,rfl⟩,rfl⟩
 obtain⟨Z181,hZ181⟩:∃Z,Z=bH r (.int 4) [26] Z175:=⟨_,rfl⟩
 have hT181:gM r (8419+nn) Z181:=hZ181▸(hT175.le (m:=4+(8419+nn)) I).pass (k:=(.int 4)) (os:=[26]) (n:=(8419+nn)) (show 4<=4 by decide) (show ∀o∈[26],eT o=some (.int 4)by decide)
 rw[<-hZ181]at hV6
 refine eA (λw hw=>(hw.sub (.cons _ aJ)).as (by rw[<-hZ181];rfl)) (H':=(lb,J [va6,.bool r] 123)::((G6++[(mb,J Z181.1 156)])++[(rb,J RL 5)])) ?_
 refine ZAm ?_
 refine ZEb ?_
 refine DX U (fY (z:=[.pointer none]) (l:=[.pointer (some ⟨mb,22,none⟩),.pointer (some ⟨mb,23,none⟩),.pointer (some ⟨mb,24,none⟩),.pointer (some ⟨mb,35,none⟩),.pointer (some ⟨mb,36,none⟩),.pointer (some ⟨mb,37,none⟩),.pointer (some ⟨mb,41,none⟩),.pointer (some ⟨mb,42,none⟩),.pointer (some ⟨mb,43,none⟩)]) (ps:=[(0,.pointer (some ⟨mb,22,none⟩)),(1,.pointer (some ⟨mb,23,none⟩)),(2,.pointer (some ⟨mb,24,none⟩)),(3,.pointer (some ⟨mb,35,none⟩)),(4,.pointer (some ⟨mb,36,none⟩)),(5,.pointer (some ⟨mb,37,none⟩)),(6,.pointer (some ⟨mb,41,none⟩)),(7,.pointer (some ⟨mb,42,none⟩)),(8,.pointer (some ⟨mb,43,none⟩))]) U U U U aN aN) U aY ?_
 rintro _ _ ⟨b5,rfl,rfl⟩
 refine DX U (gZ (F:=[(b5,_)]) (A:=(lb,J [va6,.bool r] 123)::(G6++[(mb,J Z181.1 156)])) (G:=[(rb,J RL 5)]) (R:=(λv H=>v= .tuple #[]/\∃va' Gl',LineB 5 r va' (bH r .byte gC Z181).2 Gl'/\H=(lb,J [va',.bool r] 123)::(Gl'++[(mb,J (bH r .byte gC Z181).1 156)]))) K_ U (λw hw hw2=>A5 r lb mb va6 G6 Z181 hV6 gC (ah U) (hT181.ok.le (m:=9) I) 156 (hT181.fit Yh) _ _ _ w hw (λ_=>⟨b5,0,U,aI (b:=b5) (bL _ (.head _)) w hw2⟩) (λp hp=>Gu))) U aY ?_
 rintro _ _ ⟨_,⟨rfl,va7,G7,hV7,rfl⟩,rfl⟩
 obtain⟨Z211,hZ211⟩:∃Z,Z=bH r .byte gC Z181:=⟨_,rfl⟩
 have hT211:gM r (8410+nn) Z211:=hZ211▸(hT181.le (m:=9+(8410+nn)) I).pass (k:= .byte) (os:=gC) (n:=(8410+nn)) trivial Yh
 rw[<-hZ211]at hV7
 refine lE (λw hw=>(hw.sub (.cons _ aJ)).as (by rw[<-hZ211];rfl)) (H':=(lb,J [va7,.bool r] 123)::((G7++[(mb,J Z211.1 156)])++[(rb,J RL 5)])) ?_
 refine ZCy ?_
 refine RW (v:=(.slice (some ⟨mb,29,none⟩) 5 5)) (pR 0 5 U U U U U U aD aD) U U (RX (kP (A:=(lb,J [va7,.bool r] 123)::(G7++[(mb,J Z211.1 156)])) (G:=[(rb,J RL 5)]) (R:=(λv H=>v= .tuple #[]/\∃va' Gl',LineB 5 r va' (bH r .byte (cQ 29 5) Z211).2 Gl'/\H=(lb,J [va',.bool r] 123)::(Gl'++[(mb,J (bH r .byte (cQ 29 5) Z211).1 156)]))) (((lb,J [va7,.bool r] 123)::(G7++[(mb,J Z211.1 156)])).map (·.1)) K_ U (λ_ hb=>kA hb) (dG (If r lb mb 29 5 aD va7 G7 Z211 hV7 (hT211.ok.le (m:=5) I) 156 (hT211.fit Wh) _ _))) U ?_)
 rintro _ _ ⟨_,⟨rfl,va8,G8,hV8,rfl⟩,rfl⟩
 obtain⟨Z217,hZ217⟩:∃Z,Z=bH r .byte (cQ 29 5) Z211:=⟨_,rfl⟩
 have hT217:gM r (8405+nn) Z217:=hZ217▸(hT211.le (m:=5*1+(8405+nn)) I).pass (k:= .byte) (os:=cQ 29 5) (n:=(8405+nn)) trivial Wh
 rw[<-hZ217]at hV8
 refine eA (λw hw=>hw.as (by rw[<-hZ217];rfl)) (H':=(lb,J [va8,.bool r] 123)::((G8++[(mb,J Z217.1 156)])++[(rb,J RL 5)])) ?_
 refine ZBV ?_
 refine RX (kP (A:=(lb,J [va8,.bool r] 123)::(G8++[(mb,J Z217.1 156)])) (G:=[(rb,J RL 5)]) (R:=(λv H=>v= .tuple #[]/\∃va' Gl',LineB 5 r va' (uU r Z217).2 Gl'/\H=(lb,J [va',.bool r] 123)::(Gl'++[(mb,J (uU r Z217).1 156)]))) (((lb,J [va8,.bool r] 123)::(G8++[(mb,J Z217.1 156)])).map (·.1)) K_ U (λ_ hb=>kA hb) (dG (aPt r lb mb va8 G8 Z217 hV8 (hT217.le (m:=86) I) _))) U ?_
 rintro _ _ ⟨_,⟨rfl,va9,G9,hV9,rfl⟩,rfl⟩
 obtain⟨Z220,hZ220⟩:∃Z,Z=uU r Z217:=⟨_,rfl⟩
 have hT220:gM r (8319+nn) Z220:=hZ220▸(hT217.le (m:=86+(8319+nn)) I).board
 rw[<-hZ220]at hV9
 refine eA (λw hw=>hw.as (by rw[<-hZ220];rfl)) (H':=(lb,J [va9,.bool r] 123)::((G9++[(mb,J Z220.1 156)])++[(rb,J RL 5)])) ?_
 refine ZCy ?_
 refine RW (v:=(.slice (some ⟨mb,135,none⟩) 8192 8192)) (pR 0 8192 U U U U U U aD aD) U U (RX (kP (A:=(lb,J [va9,.bool r] 123)::(G9++[(mb,J Z220.1 156)])) (G:=[(rb,J RL 5)]) (R:=(λv H=>v= .tuple #[]/\∃va' Gl',LineB 5 r va' (bH r .byte (cQ 135 8192) Z220).2 Gl'/\H=(lb,J [va',.bool r] 123)::(Gl'++[(mb,J (bH r .byte (cQ 135 8192) Z220).1 156)]))) (((lb,J [va9,.bool r] 123)::(G9++[(mb,J Z220.1 156)])).map (·.1)) K_ U (λ_ hb=>kA hb) (dG (If r lb mb 135 8192 aD va9 G9 Z220 hV9 (hT220.ok.le (m:=8192) I) 156 (hT220.fit Ou) _ _))) U ?_)
 rintro _ _ ⟨_,⟨rfl,va10,G10,hV10,rfl⟩,rfl⟩
 obtain⟨Z226,hZ226⟩:∃Z,Z=bH r .byte (cQ 135 8192) Z220:=⟨_,rfl⟩
 have hT226:gM r (127+nn) Z226:=hZ226▸(hT220.le (m:=8192*1+(127+nn)) I).pass (k:= .byte) (os:=cQ 135 8192) (n:=(127+nn)) trivial Ou
 rw[<-hZ226]at hV10
 refine eA (λw hw=>hw.as (by rw[<-hZ226];rfl)) (H':=(lb,J [va10,.bool r] 123)::((G10++[(mb,J Z226.1 156)])++[(rb,J RL 5)])) ?_
 refine ZCy ?_
 refine RW (v:=(.slice (some ⟨mb,8327,none⟩) 127 127)) (pR 0 127 U U U U U U aD aD) U U (RX (kP (A:=(lb,J [va10,.bool r] 123)::(G10++[(mb,J Z226.1 156)])) (G:=[(rb,J RL 5)]) (R:=(λv H=>v= .tuple #[]/\∃va' Gl',LineB 5 r va' (bH r .byte (cQ 8327 127) Z226).2 Gl'/\H=(lb,J [va',.bool r] 123)::(Gl'++[(mb,J (bH r .byte (cQ 8327 127) Z226).1 156)]))) (((lb,J [va10,.bool r] 123)::(G10++[(mb,J Z226.1 156)])).map (·.1)) K_ U (λ_ hb=>kA hb) (dG (If r lb mb 8327 127 aD va10 G10 Z226 hV10 (hT226.ok.le (m:=127) I) 156 (hT226.fit Rq) _ _))) U ?_)
 rintro _ _ ⟨_,⟨rfl,va11,G11,hV11,rfl⟩,rfl⟩
 obtain⟨Z232,hZ232⟩:∃Z,Z=bH r .byte (cQ 8327 127) Z226:=⟨_,rfl⟩
 have hT232:gM r nn Z232:=hZ232▸(hT226.le (m:=127*1+nn) I).pass (k:= .byte) (os:=cQ 8327 127) (n:=nn) trivial Rq
 rw[<-hZ232]at hV11
 refine eA (λw hw=>hw.as (by rw[<-hZ232];rfl)) (H':=(lb,J [va11,.bool r] 123)::((G11++[(mb,J Z232.1 156)])++[(rb,J RL 5)])) ?_
 refine ZBI ?_
 have hr9:Z232.1[134]? =some (.slice (Q_ rb) nn rc):=by
  rw[hZ232,hZ226,hZ220,hZ217,hZ211,hZ181,hZ175,hZ145,hZ139,hZ133,hZ91,hZ79];exact(aHD r S aD hT.ty hT.ok.byts).trans hrv
 refine ZBV ?_
 refine W (aW U U (bT (v:= .slice (Q_ rb) nn rc) (.tail _ (lJ _ (bL _ (.head _)))) hr9)) U (eA (λw hw=>hw.perm (List.Perm.cons _ (aDj G11 _ _))) (H':=((lb,J [va11,.bool r] 123)::(G11++[(rb,J RL 5)]))++[(mb,J Z232.1 156)]) ?_)
 refine RX (kP (A:=(lb,J [va11,.bool r] 123)::(G11++[(rb,J RL 5)])) (G:=[(mb,J Z232.1 156)]) (R:=λv H=>v= .tuple #[]/\∃va' Gl',LineB 5 r va' (bH r .byte (cQ 0 nn) (RL,Z232.2)).2 Gl'/\H=(lb,J [va',.bool r] 123)::(Gl'++[(rb,J (bH r .byte (cQ 0 nn) (RL,Z232.2)).1 5)])) (((lb,J [va11,.bool r] 123)::(G11++[(rb,J RL 5)])).map (·.1)) K_ U (λ_ hb=>kA hb) (dG (If r lb rb 0 nn I va11 G11 (RL,Z232.2) hV11 ⟨hT232.ok.byts,hT232.ok.en,hT232.ok.sz⟩ 5 hR _ _))) U ?_
 rintro _ _ ⟨_,⟨rfl,va12,G12,hV12,rfl⟩,rfl⟩
 refine eA (λw hw=>hw.perm (List.Perm.cons _ (aDj G12 _ _))) (H':=(lb,J [va12,.bool r] 123)::((G12++[(mb,J Z232.1 156)])++[(rb,J (bH r .byte (cQ 0 nn) (RL,Z232.2)).1 5)])) ?_
 refine ZBI ?_
 exact EN aJ ⟨U,va12,G12,by unfold vK Dq;rw[<-hZ79,<-hZ91,<-hZ133,<-hZ139,<-hZ145,<-hZ175,<-hZ181,<-hZ211,<-hZ217,<-hZ220,<-hZ226,<-hZ232];exact hV12,by unfold vK Dq;rw[<-hZ79,<-hZ91,<-hZ133,<-hZ139,<-hZ145,<-hZ175,<-hZ181,<-hZ211,<-hZ217,<-hZ220,<-hZ226,<-hZ232]⟩
def zQ(b off c:Nat)(l:AB)(hc:l.length<=1000000)(w:AI)(hB:Ns w .u8 (some ⟨b,off,none⟩) l):aG prog 150 [.slice (some ⟨b,off,none⟩) l.length c] w [] (λv H=>∃b5 c5 sp,v= .slice (Q_ b5) l.length c5/\l.length<=c5/\H=[(b5,(J (l.map Z++sp) 5))]):=by
 refine aT func150 ?_
 refine uS ?_
 refine ZBZ ?_
 rcases d6 l.length with hz|hz
 ·refine ZBI ?_
  refine RX (Gj U) U ?_
  rintro _ _ ⟨b5,rfl,rfl⟩
  refine ZBI ?_
  refine W (aCa U U hz U U (be _)) U (ZA2 ?_)
  exact EV U aJ ⟨b5,0,[],by rw[hz],aR,by rw[db hz];rfl⟩
 refine ZBI ?_
 refine RX (Gj U) U ?_
 rintro _ _ ⟨b5,rfl,rfl⟩
 refine ZBI ?_
 obtain⟨b0,o9,e9,hrow⟩:=hB.row (i:=0) hz
 cases e9
 refine RX (lZ (A:=[]) (G:=[(b5,J [] 5)]) (R:=[]) (v:= .slice (Q_ b5) 0 0) (n:=0) (xs:=[]) (m:=l.length) (T:=5) (s:=1) (by_:=1) (ys:=l.map Z) U U U U (.row b5 0 0 [] [] U U aD (be _)) (λw hw=> .row _ _ _ _ _ aP (bU hrow aP w hw)) (kX _ _) I I) U ?_
 rintro v0 _ ⟨G0,hV0,_,rfl⟩
 obtain⟨b1,c0,sp0,rfl,rfl,hc0,hle7,hm7⟩:=hV0.full I
 simp only[bj,cg,cn]
 refine ZA2 ?_
 exact EV U aJ ⟨b1,c0,sp0,U,aR,U⟩
def aHE(a a2:AC)(c c2:Nat)(la lb:AB)(ha:la.length<=1000000)(hb:lb.length<=1000000)(w:AI)(hA:Ns w .u8 a la)(hB:Ns w .u8 a2 lb):aG prog 152 [.slice a la.length c,.slice a2 lb.length c2] w [] (V_ (.bool (decide (la=lb)))):=by
 refine aT func152 ?_
 refine ZE1 ?_
 refine gK ?_
 refine ZBI ?_
 refine gK ?_
 refine ZAm ?_
 refine KC (λq0 z0=>?_) (λq0 z0=>?_)
 ·refine ZBV ?_
  exact E0 U ⟨U,(M Value.bool (cu (by rintro rfl;omega)).symm)⟩
 refine ZBV ?_
 refine mV ?_
 refine dK (σ:=Nat) [4,5,13,14,15,16,17,18,19,20,21,22,23,24,25] (λi=>[(13,.int .i64 i)]) (λ_=>[]) (λi=>i<=la.length/\∀j,j<i->la.getD j 0=lb.getD j 0) (λi=>la.length-i) 0 ?_ ?_ ?_ ?_
 ·exact⟨aq _,λj hj=>aR⟩
 ·exact .cons U .nil
 ·exact λ_ h=>h
 rintro i y4 ⟨hi,hj⟩
 refine ZBV ?_
 refine KC (λq1 z1=>?_) (λq1 z1=>?_)
 ·refine ZBZ ?_
  have hl9:la.length=lb.length:=by omega
  obtain⟨ba,oa,rfl,hra⟩:=hA.row (i:=i) I
  obtain⟨bb,ob,rfl,hrb⟩:=hB.row (i:=i) I
  refine ZBV ?_
  refine DR [4,5,6,7] (bQ [0,2,4,6,8,10,12,14,16]) ?_
  refine ZAm ?_
  refine DY U (eF i U U U U I) U (DL U U U (gS (hra _ _ (gD I)) aP) U (ZAm ?_))
  refine DY U (eF i U U U U I) U (DL U U U (gS (hrb _ _ (gD I)) aP) U (ZAm ?_))
  refine KC (λq2 z2=>?_) (λq2 z2=>?_)
  ·refine ZBV ?_
   exact E0 U ⟨U,(M Value.bool (cu (by rintro rfl;simp at q2)).symm)⟩
  refine pT ?_
  exact⟨i+1,⟨aR,λj hj'=>D6⟩,aR,.cons U .nil,bB,λ_ h=>h⟩
 refine aH ?_
 exact E0 U ⟨U,(M Value.bool (am (j0 I (λj h8 h9=>by have:=hj j I;simpa[gU,ap h8,ap h9] using this))).symm)⟩
def Ye(A:Ad)(acc:AH)(m:Mm)(h:m.Wf)(hr:m.cpu.r.Ok)(hrl:m.ram.length<=200000)(ms:AE)(w:AI)(hst:St w ms [(A.mb,J (cMm A acc m) 156),(A.rb,J (m.ram.map Z++A.rs) 5)] w)(hu:aK w A.ub 0 (cU m.u))(hub:A.ub∉ms):aG prog 22 [P_ A.mb] w ms (λv H=>∃b c sp,v= .slice (Q_ b) (fQ m).length c/\(fQ m).length<=c/\H=(b,J ((fQ m).map Z++sp) 5)::[(A.mb,J (cMm A acc m) 156),(A.rb,J (m.ram.map Z++A.rs) 5)]):=by
 refine cG func22 hst ?_
 refine uS ?_
 refine ZBV ?_
 refine RS ?_
 refine RX (eE (l:=[.slice none 0 0,.bool false]) U U) U (ZBF λb0=>?_)
 refine ZBZ ?_
 have hml:=C8 h
 have hbl:(oS m++m.ram).length=8482+m.ram.length:=by rw[bX,hml]
 refine ZAm ?_
 refine RX (cB (F:=[]) (A:=(b0,J [.slice none 0 0,.bool false] 123)::((([]:aF)++[(A.mb,J (cMm A acc m) 156)])++[(A.rb,J (m.ram.map Z++A.rs) 5)])) (R:=λv H=>v= .tuple #[]/\∃va' Gl',bS 5 1 va' (oS m++m.ram).length ((oS m++m.ram).map Z) Gl'/\H=(b0,J [va',.bool false] 123)::((Gl'++[(A.mb,J (cMm A acc m) 156)])++[(A.rb,J (m.ram.map Z++A.rs) 5)])) K_ U (λw hw=>(aAk false b0 A.mb A.rb m.ram.length A.rc hrl (.slice none 0 0) [] (cMm A acc m,[]) .nil ⟨aBS h hr,⟨λx hx=>(by cases hx),λhx=>(by cases hx),(by show 0+_<=_;omega)⟩⟩ (m.ram.map Z++A.rs) (aCt h A.rs) (get_mid h.ln (j:=15) U) _ w (St.lentV (G:=[]) hw)).mono λv H ⟨e1,va',Gl',e2,e3⟩=>⟨e1,va',Gl',(by rw[aCW,aEj h,aJ6 h]at e2;exact e2),(by rw[aCW,aEj h]at e3;exact e3)⟩)) U ?_
 rintro _ _ ⟨_,⟨rfl,va0,G0,hV0,rfl⟩,rfl⟩
 obtain⟨a8,c0,rfl⟩:=hV0.slice
 refine eA (H':=(b0,J [(.slice a8 (oS m++m.ram).length c0),.bool false] 123)::((G0++[(A.mb,J (cMm A acc m) 156)])++[(A.rb,J (m.ram.map Z++A.rs) 5)])) (λ_ h=>h) ?_
 refine ZAm ?_
 refine DR [4,5,6,7,8] (bQ [0,2,4,6,8,10,12,14,17,19,20]) ?_
 refine ZA2 ?_
 refine DL U U U (dQ (v:=(.slice a8 (oS m++m.ram).length c0)) aE U) U (ZA2 ?_)
 refine DL U U U (dQ (v:=P_ A.ub) (.tail _ (lJ _ (bL _ (.head _)))) (get_mid (m:=m) h.ln (j:=14) U)) U (DX U (eN K_ U (λw hw=>aBb A.ub m.u h.u.wf w (bU hu hub w hw))) U (by intro _ _ _ hK;obtain⟨G19,_,rfl⟩:=hK;exact λx hx=>bL _ hx) ?_)
 rintro v0 _ ⟨G1,hV1,rfl⟩
 have hul:=Ul h.u.wf
 obtain⟨b1,cx1,sp0,rfl,rfl,hc0,hle19,hm19⟩:=hV1.full I
 refine lE (λw hw=>hw.as (by simp only[eG,cw,cg])) (H':=[(b1,J ((fM m.u).map Z++sp0) 5),(b0,J [(.slice a8 (oS m++m.ram).length c0),.bool false] 123)]++(G0++[(A.mb,J (cMm A acc m) 156),(A.rb,J (m.ram.map Z++A.rs) 5)])) ?_
 refine DX U (lZ (A:=[(b1,_),(b0,_)]) (G:=G0) (R:=[(A.mb,J (cMm A acc m) 156),(A.rb,J (m.ram.map Z++A.rs) 5)]) (v:=(.slice a8 (oS m++m.ram).length c0)) (n:=(oS m++m.ram).length) (xs:=(oS m++m.ram).map Z) (m:=(fM m.u).length) (T:=5) (s:=1) (by_:=1) (ys:=(fM m.u).map Z) U U U U hV0 (λw hw=> .row _ _ _ _ _ aP (aK.left (aI (b:=b1) (.head _) w hw))) (kX _ _) I I) U aY ?_
 rintro v1 _ ⟨G2,hV2,_,rfl⟩
 obtain⟨b2,c2,sp1,rfl,rfl,hc1,hle20,hm20⟩:=hV2.full I
 refine ZA2 ?_
 exact EV U (.cons_cons _ (.cons _ (.cons _ aJ))) ⟨b2,c2,sp1,M (λz=>Value.slice (Q_ b2) z c2) (by unfold fQ;simp only[bX,eG,ec]),(by unfold fQ;simp only[bX]at hle20⊢; omega),(by unfold fQ;simp only[bz,eG];rfl)⟩
def aLk(A:Ad)(acc:AH)(m:Mm)(h:m.Wf)(hrl:m.ram.length<=200000)(hon:fJ [acc,A.plan,A.tab]=true)(w:AI)(hm:aK w A.mb 0 (cMm A acc m))(hu:aK w A.ub 0 (cU m.u))(hr:aK w A.rb 0 (m.ram.map Z)):aG prog 149 [P_ A.mb] w [] (λv H=>∃b3 b12 bc cc sp,v=P_ b3/\m.ram.length<=cc/\H=[(b12,J (cU (kZ jV (fM m.u))) 247),(bc,J (m.ram.map Z++sp) 5),(b3,J (cMm ({A with mb:=b3,ub:=b12,rb:=bc,rc:=cc,rs:=sp}:Ad) (.slice none 0 0) m) 156)]):=by
 refine aT func149 ?_
 refine ZE1 ?_
 refine W (bJ U U (by rw[cMm_len h.ln];rfl) (bU hm aP)) U (RX (gJ (l:=Hi) aN) U ?_)
 rintro _ _ ⟨b3,rfl,rfl⟩
 refine W (bD (l':=cMm A acc m) 0 U U U (by rw[cMm_len h.ln];rfl) (aCP hon) U (by rw[cMm_len h.ln,T7];exact ah rfl) (Dp (by rw[cMm_len h.ln,T7]))) U (eC ?_)
 refine aH ?_
 refine Yw ?_
 refine RX (eN K_ U (λw hw=>zQ A.rb 0 A.rc m.ram I w (Ns.of (bU hr aP w hw)))) U ?_
 rintro _ _ ⟨_,⟨bc,cc,sp,rfl,hcc,rfl⟩,rfl⟩
 refine eC ?_
 refine RX (eN K_ U (aS new_fn)) U ?_
 rintro _ _ ⟨_,⟨b12,rfl,rfl⟩,rfl⟩
 refine eC ?_
 refine ZBI ?_
 refine W (bD (l':=cMm {A with rb:=bc,rc:=cc,rs:=sp} acc m) 2 U U U U U U mU (aPT h.ln bc cc sp)) U (eC ?_)
 refine ZBI ?_
 refine W (bD (l':=cMm {A with rb:=bc,rc:=cc,rs:=sp,ub:=b12} acc m) 2 U U U U U U mU (aFE h.ln b12)) U (eC ?_)
 refine ZBI ?_
 refine W (bD (l':=cMm {A with rb:=bc,rc:=cc,rs:=sp,ub:=b12} (.slice none 0 0) m) 2 U U U U U U mU (J1 h.ln _)) U (jE ?_)
 refine DR [2,3,4,5,6] (bQ [0,2,4,6,8,10,13,15]) ?_
 refine ZBI ?_
 refine DL U U U (dQ (v:=P_ b12) aE (get_mid (A:={A with rb:=bc,rc:=cc,rs:=sp,ub:=b12}) (m:=m) h.ln (j:=14) U)) U (ZA2 ?_)
 refine DL U U U (gS (hm _ _ (get_mid h.ln (j:=14) U)) aP) U (DX U (eN K_ U (λw hw=>aBb A.ub m.u h.u.wf w (bU hu aP w hw))) U (by intro _ _ _ hK;obtain⟨G22,_,rfl⟩:=hK;exact λx hx=>bL _ hx) ?_)
 rintro v0 _ ⟨G0,hV0,rfl⟩
 have hul:=Ul h.u.wf
 obtain⟨b0,c0,sp0,rfl,rfl,hc0,hle22,hm22⟩:=hV0.full I
 refine eC ?_
 refine DX U (gZ (F:=[(b0,_)]) (A:=[(b12,J (cU jV) 247)]) (G:=[(bc,J (m.ram.map Z++sp) 5),(b3,J (cMm ({A with rb:=bc,rc:=cc,rs:=sp,ub:=b12}:Ad) (.slice none 0 0) m) 156)]) (R:=λv H=>v= .int .i64 (lU (fM m.u))/\H=[(b12,J (cU (kZ jV (fM m.u))) 247)]) K_ U (λw hw hw2=>Zc b12 jV Oj w hw (Q_ b0) c0 (fM m.u) (enc_byts h.u.wf) hle22 (Ns.of (aK.left (aI (b:=b0) (bL _ (.head _)) w hw2))) (λp hp=>by cases hp;exact λe=>St.apartT hw2 (show _∈[_]from List.mem_singleton.2 e)))) U aY (ZBB ?_)
 refine eC ?_
 refine aH ?_
 exact EV U (.cons _ aJ) ⟨b3,b12,bc,cc,sp,U,hcc,U⟩
end Go.Proofs.YtacejanlmhbddaaGreat

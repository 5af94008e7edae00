/- Parts. -/
import Derived.Test.YtacejanlmhbddaaGreatQrG
set_option maxRecDepth 100000
set_option maxHeartbeats 1000000
set_option linter.all false
namespace Go.Proofs.YtacejanlmhbddaaGreat
open Go Go.VV Go.Proofs Go.RowKit Go.Proofs.Tryz
def Oe(b:Nat)(B:Bd)(hB:B.Ln)(w:AI)(hr:aK w b 0 (cBd B)):aG prog 303 [P_ b] w [] (V_ (.int .i64 (everyB B))):=by
 have q0:=hB.r_ 0
 refine aT func303 ?_
 refine bW ?_
 refine Zz ?_
 refine RW (jB U U aD) U (qM 16 aD aD) (RW (cM U U) U yL (eR ?_))
 exact fD
def Fa(b:Nat)(B:Bd)(hB:B.Ln)(w:AI)(hr:aK w b 0 (cBd B)):aG prog 304 [P_ b] w [] (V_ (.int .i64 (byB B))):=by
 have q0:=hB.r_ 0
 refine aT func304 ?_
 refine bW ?_
 refine Zz ?_
 refine RW (cM U U) U yL (eR ?_)
 exact fD
def readyB_fn(b:Nat)(B:Bd)(hB:B.Ln)(w:AI)(hr:aK w b 0 (cBd B))(n:Nat)(hn:n<4):aG prog 301 [P_ b,.int .i64 n] w [] (V_ (.bool (readyB n B))):=by
 have q0:=hB.r_ (5*n)
 have q1:=hB.r_ (5*n+2)
 refine aT func301 ?_
 refine cL ?_
 refine KC (λq0 z0=>?_) (λq0 z0=>?_)
 ·refine ZBZ ?_
  refine sN ?_
  refine ZAm ?_
  refine RY (eB (5*n) U U U I I) U (W (aW U U (dN (hr _ _ (cBd_r hB (j:=5*n) I)) aP)) U (Ej ?_))
  refine ZBZ ?_
  obtain rfl:n=2:=by omega
  have q2:B.r (5*2)=B.r 10:=rfl
  exact E0 U ⟨U,(M Value.bool (by unfold readyB;rw[ag I,ep];simp only[co,ak,ne_eq];omega))⟩
 refine ZBV ?_
 refine sN ?_
 refine gY ?_
 refine ZAm ?_
 refine RY (eB (5*n+2) U U U I I) U (W (aW U U (dN (hr _ _ (cBd_r hB (j:=5*n+2) I)) aP)) U (RW (v:=(.int .u8 (B.r (5*n+2)/8*8))) (cM U U) U (M Z (aLM q1)) (ZBZ ?_)))
 exact E0 U ⟨U,(M Value.bool (by unfold readyB;rw[ae I,ep];simp only[co,ak,ne_eq];omega))⟩
def aDm(b:Nat)(B:Bd)(hB:B.Wf)(w:AI)(hr:aK w b 0 (cBd B)):aG prog 306 [P_ b] w [] (V_ (.int .i64 (kG B))):=by
 have q0:=hB.r_ 0
 have q1:=hB.pitch
 have q2:=Zu B
 have q3:=aCS q1.1 (byB B).toNat
 refine aT func306 ?_
 refine ZBV ?_
 refine DR [4,5] (bQ [0,2,4,6,8,11,12,14]) ?_
 refine ZA2 ?_
 refine DL U U U (gS (hr _ _ (Me hB)) aP) U (ZBI ?_)
 refine DZ U (cZ K_ U (λw hw=>Fa b B hB w (bU hr aP w hw))) U gV (DW (v:=(.int .i64 (B.pitch/2^(byB B).toNat))) U (jB U U q2.1) U (M (Value.int .i64) (aQt q2 q1.1)) (ZE1 ?_))
 refine Zz ?_
 refine RW (cM U U) U aD8 (ZAm ?_)
 refine KC (λq1 z1=>?_) (λq1 z1=>?_)
 ·refine ZAm ?_
  refine RW (v:=(.int .i64 (0-(B.pitch/2^(byB B).toNat)))) U U (M (Value.int .i64) (bZ (n:=0-(B.pitch/2^(byB B).toNat)) I I)) (ZCy ?_)
  refine W (aW U U (dN (hr _ _ (Me hB)) aP)) U (ZBI ?_)
  refine gY ?_
  refine ZA2 ?_
  exact E0 U ⟨U,(M (Value.int .i64) (by unfold kG;rw[ag I];first|done|omega))⟩
 refine aH ?_
 refine W (aW U U (dN (hr _ _ (Me hB)) aP)) U (ZBI ?_)
 refine gY ?_
 refine ZA2 ?_
 exact E0 U ⟨U,(M (Value.int .i64) (by unfold kG;rw[ae I];first|done|omega))⟩
def Ll(n:Nat)(w:AI):aG prog 299 [.int .i64 n] w [] (V_ (.int .i64 (longest n))):=by
 refine aT func299 ?_
 refine cL ?_
 refine KC (λq0 z0=>?_) (λq0 z0=>?_)
 ·refine ZBV ?_
  exact E0 U ⟨U,(by unfold longest;rw[ag I])⟩
 refine aH ?_
 exact E0 U ⟨U,(by unfold longest;rw[ae I])⟩
def Xb(b:Nat)(B:Bd)(hB:B.Ln)(w:AI)(hst:St w [b] [(b,J (cBd B) 147)] w):aG prog 302 [P_ b] w [b] (λv H=>v= .tuple #[]/\H=[(b,J (cBd (dY B)) 147)]):=by
 have q0:=Fl B
 have hW:({B with slide:=everyB B}:Bd).Ln:=hB.slide_ _
 refine cG func302 hst ?_
 refine ZBZ ?_
 refine aO K_ (λw hw=>Oe b B hB w (aI aE w hw)) ?_
 refine ZAm ?_
 refine W (bD (l':=cBd ({B with slide:=everyB B})) 0 U U U U U U Ar (E3 hB _)) U (sS ?_)
 refine W (aW U U (bT aE (by exact Ww hW))) U (ZAm ?_)
 refine KC (λq1 z1=>?_) (λq1 z1=>?_)
 ·refine ZBZ ?_
  refine W (bD (l':=cBd ({B with slide:=8})) 0 U U U U U U (by rw[cBd_len hW];simp only[eZ,az];omega) (E3 hW _)) U (cX ?_)
  refine ZBI ?_
  exact EN aJ ⟨U,by unfold dY;rw[ag z1]⟩
 refine ZBI ?_
 exact EN aJ ⟨U,by unfold dY;rw[ae z1]⟩
def Qj(b:Nat)(B:Bd)(hB:B.Wf)(w:AI)(hst:St w [b] [(b,J (cBd B) 147)] w):aG prog 305 [P_ b] w [b] (λv H=>v= .bool (uD B)/\H=[(b,J (cBd (tN B)) 147)]):=by
 refine cG func305 hst ?_
 refine ZCy ?_
 refine aO K_ (λw hw=>aDm b B hB w (aI aE w hw)) ?_
 refine ZE1 ?_
 refine KC (λq0 z0=>?_) (λq0 z0=>?_)
 ·refine ZBZ ?_
  refine RY zO U (ZBI ?_)
  refine W (bD (l':=cBd (Ob B)) 0 U U U U U U Ar (putBd_v hB (n:=0) (k:=0) aD aD U)) U (cX ?_)
  refine ZCy ?_
  have q1:uD B=true:=q0
  exact EV U aJ ⟨by rw[q1];exact M Value.bool q0,by unfold tN;rw[q1];rfl⟩
 refine ZCy ?_
 have q1:uD B=false:=q0
 exact EV U aJ ⟨by rw[q1];exact M Value.bool q0,by unfold tN;rw[q1];rfl⟩
set_option maxHeartbeats 2000000 in
def aGz(b:Nat)(B:Bd)(hB:B.Wf)(w:AI)(hst:St w [b] [(b,J (cBd B) 147)] w):aG prog 332 [P_ b] w [b] (λv H=>v= .tuple #[]/\H=[(b,J (cBd (Rj B)) 147)]):=by
 refine cG func332 hst ?_
 refine ZBV ?_
 refine dK (σ:=Nat) [2,3,4,5,6,7,8,9,10,11,12,13,14,15,16,17,18,19,20,21,22,23,24,25,26,27,28,29,30,31,32,33,34,35,36,37,38,39,40,41,42,43,44,45,46,47,48,49,50] (λn=>[(4,.int .i64 n)]) (λn=>[(b,J (cBd (turnV lenV B n)) 147)]) (λn=>n<=4) (λn=>4-n) 0 ?_ ?_ ?_ ?_
 ·exact aq _
 ·exact .cons U .nil
 ·exact λ_ h=>h
 rintro n y1 hn
 refine ZBV ?_
 refine KC (λq0 z0=>?_) (λq0 z0=>?_)
 ·refine bW ?_
  have hX9:=hB.turn aFI n
  have hr9:=hX9.r_ (5*n+4)
  have hv9:=hX9.v_ n
  have hv1:=hv9.len
  have hv2:=hv9.lev
  have hv3:=hv9.wait
  refine ZBV ?_
  refine RY (iU (s:=4) n U U U I I) U (ZCy ?_)
  refine sN ?_
  refine gY ?_
  refine ZAm ?_
  refine RY (eB (5*n+4) U U U I I) U (W (aW U U (bT aE (by rw[bj];exact cBd_r hX9 (j:=5*n+4) I))) U (RW (cM U U) U J5 (ZBI ?_)))
  refine KL (λq1 z1=>?_) (λq1 z1=>?_)
  ·refine cL ?_
   refine yA ?_
   exact⟨n+1,aR,aR,.cons U .nil,bB,λ_ h=>h.as aDx⟩
  refine ZA2 ?_
  refine W (aW U U (bT aE (vI hX9 (k:=1) I U))) U (ZA2 ?_)
  refine KC (λq2 z2=>?_) (λq2 z2=>?_)
  ·refine ZAm ?_
   refine yA ?_
   exact⟨n+1,aR,aR,.cons U .nil,bB,λ_ h=>h.as aDx⟩
  refine ZAm ?_
  have hX1:((turnV lenV B n).setV n { (turnV lenV B n).v n with len:=((turnV lenV B n).v n).len-1}).Wf:=hX9.setV n ⟨tB,hv2,hv3⟩
  refine ZBZ ?_
  refine W (aW U U (bT aE (vI hX9 (k:=1) I U))) U (oE ?_)
  refine ZAm ?_
  refine W (bD (l':=cBd ((turnV lenV B n).setV n { (turnV lenV B n).v n with len:=((turnV lenV B n).v n).len-1})) 0 U U U U U U aDB (putBd_v hX9 (k:=1) I aD U)) U (sS ?_)
  refine W (aW U U (bT (v:= .bool ((turnV lenV B n).v n).on) aE (vI hX1 (k:=0) I xM))) U (KL (λq3 z3=>?_) (λq3 z3=>?_))
  ·refine ZA2 ?_
   refine W (aW U U (bT (v:= .int .i64 (((turnV lenV B n).v n).len-1)) aE (vI hX1 (k:=1) I xM))) U (ZBZ ?_)
   refine W (bD (l':=cBd ((turnV lenV B n).setV n { (turnV lenV B n).v n with len:=((turnV lenV B n).v n).len-1,on:=decide (0<((turnV lenV B n).v n).len-1)})) 0 U U U U U U Yx ((putBd_v hX1 (k:=0) (y:={ (turnV lenV B n).v n with len:=((turnV lenV B n).v n).len-1,on:=decide (0<((turnV lenV B n).v n).len-1)}) I aD xM).trans Ao)) U (iI ?_)
   refine yA ?_
   exact⟨n+1,aR,aR,.cons U .nil,bB,λ_ h=>h.as (by show _=[(b,J (cBd ((turnV lenV B n).setV n (lenV (turnV lenV B n) n ((turnV lenV B n).v n)))) 147)];rw[show lenV (turnV lenV B n) n ((turnV lenV B n).v n)=_ from ae I,show((turnV lenV B n).v n).on=true from q3];rfl)⟩
  refine ZE1 ?_
  refine W (bD (l':=cBd ((turnV lenV B n).setV n { (turnV lenV B n).v n with len:=((turnV lenV B n).v n).len-1,on:=false})) 0 U U U U U U Yx ((putBd_v hX1 (k:=0) (y:={ (turnV lenV B n).v n with len:=((turnV lenV B n).v n).len-1,on:=false}) I aD xM).trans Ao)) U (iI ?_)
  refine yA ?_
  exact⟨n+1,aR,aR,.cons U .nil,bB,λ_ h=>h.as (by show _=[(b,J (cBd ((turnV lenV B n).setV n (lenV (turnV lenV B n) n ((turnV lenV B n).v n)))) 147)];rw[show lenV (turnV lenV B n) n ((turnV lenV B n).v n)=_ from ae I,show((turnV lenV B n).v n).on=false from q3];rfl)⟩
 refine ZBI ?_
 obtain rfl:n=4:=by omega
 exact EN aJ ⟨U,U⟩
set_option maxHeartbeats 2000000 in
def aBH(b:Nat)(B:Bd)(hB:B.Wf)(w:AI)(hst:St w [b] [(b,J (cBd B) 147)] w):aG prog 334 [P_ b] w [b] (λv H=>v= .tuple #[]/\H=[(b,J (cBd (Dv B)) 147)]):=by
 refine cG func334 hst ?_
 refine ZBV ?_
 refine dK (σ:=Nat) [2,3,4,5,6,7,8,9,10,11,12,13,14,15,16,17,18,19,20,21,22,23,24,25,26,27,28,29,30,31,32,33,34,35,36,37,38,39,40,41,42,43,44,45,46,47,48,49,50,51,52,53,54,55,56,57,58,59,60,61,62,63,64,65,66,67] (λn=>[(5,.int .i64 n)]) (λn=>[(b,J (cBd (turnV levV B n)) 147)]) (λn=>n<=4) (λn=>4-n) 0 ?_ ?_ ?_ ?_
 ·exact aq _
 ·exact .cons U .nil
 ·exact λ_ h=>h
 rintro n y1 hn
 refine ZBV ?_
 refine KC (λq0 z0=>?_) (λq0 z0=>?_)
 ·refine bW ?_
  have hX9:=hB.turn Q2 n
  have hr9:=hX9.r_ (5*n+2)
  have hv9:=hX9.v_ n
  have hv1:=hv9.len
  have hv2:=hv9.lev
  have hv3:=hv9.wait
  refine DR [13] (bQ [0,2,4,6,8,10,12,14,16,18,20,22,24,26,28]) ?_
  refine ZBZ ?_
  refine DY U (iU (s:=4) n U U U I I) U (ZAm ?_)
  refine DW U (zH U U) U mC (DW U (nD U U) U mC (ZAm ?_))
  refine DY U (eB (5*n+2) U U U I I) U (DL U U U (dQ aE (by rw[bj];exact cBd_r hX9 (j:=5*n+2) I)) U (ZE1 ?_))
  refine KL (λq1 z1=>?_) (λq1 z1=>?_)
  ·refine ZE1 ?_
   refine yA ?_
   exact⟨n+1,aR,aR,.cons U .nil,bB,λ_ h=>h.as aAP⟩
  refine ZBI ?_
  refine RW (cM U U) U yL (ZA2 ?_)
  refine KC (λq2 z2=>?_) (λq2 z2=>?_)
  ·refine ZAm ?_
   refine yA ?_
   exact⟨n+1,aR,aR,.cons U .nil,bB,λ_ h=>h.as aAP⟩
  refine ZCy ?_
  refine W (aW U U (bT aE (vI hX9 (k:=3) I U))) U (oE ?_)
  refine ZAm ?_
  refine W (bD (l':=cBd ((turnV levV B n).setV n { (turnV levV B n).v n with wait:=((turnV levV B n).v n).wait-1})) 0 U U U U U U aDB (putBd_v hX9 (k:=3) (y:={ (turnV levV B n).v n with wait:=((turnV levV B n).v n).wait-1}) I aD U)) U (iI ?_)
  have hX1:((turnV levV B n).setV n { (turnV levV B n).v n with wait:=((turnV levV B n).v n).wait-1}).Ln:=hX9.ln.setV n _
  refine ZBZ ?_
  refine W (aW U U (bT (v:= .int .i64 (((turnV levV B n).v n).wait-1)) aE (vI hX1 (k:=3) I xM))) U (ZAm ?_)
  refine KC (λq3 z3=>?_) (λq3 z3=>?_)
  ·refine ZAm ?_
   refine yA ?_
   exact⟨n+1,aR,aR,.cons U .nil,bB,λ_ h=>h.as (by show _=[(b,J (cBd ((turnV levV B n).setV n (levV (turnV levV B n) n ((turnV levV B n).v n)))) 147)];rw[aOB I I])⟩
  refine ZBV ?_
  refine RW (cM U U) U yL (eR ?_)
  refine ZAm ?_
  refine W (bD (l':=cBd ((turnV levV B n).setV n { (turnV levV B n).v n with wait:=(turnV levV B n).r (5*n+2)%8})) 0 U U U U U U Yx ((putBd_v hX1 (k:=3) (y:={ (turnV levV B n).v n with wait:=(turnV levV B n).r (5*n+2)%8}) I aD xM).trans Ao)) U (iI ?_)
  have hX2:((turnV levV B n).setV n { (turnV levV B n).v n with wait:=(turnV levV B n).r (5*n+2)%8}).Ln:=hX9.ln.setV n _
  refine ZAm ?_
  refine RW (cM U U) U aD8 (ZAm ?_)
  refine KC (λq4 z4=>?_) (λq4 z4=>?_)
  ·refine ZBV ?_
   refine W (aW U U (bT (v:= .int .i64 ((turnV levV B n).v n).lev) aE (vI hX2 (k:=2) I xM))) U (gY ?_)
   refine RY (tD U U) U (ZAm ?_)
   refine W (bD (l':=cBd ((turnV levV B n).setV n { (turnV levV B n).v n with wait:=(turnV levV B n).r (5*n+2)%8,lev:=min (((turnV levV B n).v n).lev+1) 15})) 0 U U U U U U aAb ((putBd_v hX2 (k:=2) (y:={ (turnV levV B n).v n with wait:=(turnV levV B n).r (5*n+2)%8,lev:=min (((turnV levV B n).v n).lev+1) 15}) I aD xM).trans Ao)) U (iI ?_)
   refine yA ?_
   exact⟨n+1,aR,aR,.cons U .nil,bB,λ_ h=>h.as (by show _=[(b,J (cBd ((turnV levV B n).setV n (levV (turnV levV B n) n ((turnV levV B n).v n)))) 147)];rw[aO1 I I I])⟩
  refine ZBV ?_
  refine W (aW U U (bT (v:= .int .i64 ((turnV levV B n).v n).lev) aE (vI hX2 (k:=2) I xM))) U (oE ?_)
  refine RY (Ec U U) U (ZAm ?_)
  refine W (bD (l':=cBd ((turnV levV B n).setV n { (turnV levV B n).v n with wait:=(turnV levV B n).r (5*n+2)%8,lev:=max (((turnV levV B n).v n).lev-1) 0})) 0 U U U U U U aAb ((putBd_v hX2 (k:=2) (y:={ (turnV levV B n).v n with wait:=(turnV levV B n).r (5*n+2)%8,lev:=max (((turnV levV B n).v n).lev-1) 0}) I aD xM).trans Ao)) U (iI ?_)
  refine yA ?_
  exact⟨n+1,aR,aR,.cons U .nil,bB,λ_ h=>h.as (by show _=[(b,J (cBd ((turnV levV B n).setV n (levV (turnV levV B n) n ((turnV levV B n).v n)))) 147)];rw[aOl I I I])⟩
 refine ZBI ?_
 obtain rfl:n=4:=by omega
 exact EN aJ ⟨U,U⟩
set_option maxHeartbeats 2000000 in
def slideB_fn(b:Nat)(B:Bd)(hB:B.Wf)(w:AI)(hst:St w [b] [(b,J (cBd B) 147)] w):aG prog 333 [P_ b] w [b] (λv H=>v= .tuple #[]/\H=[(b,J (cBd (slideB B)) 147)]):=by
 have k1:=hB.slide
 have hB1:({B with slide:=B.slide-1}:Bd).Ln:=hB.ln.slide_ _
 have hB2:(dY ({B with slide:=B.slide-1}:Bd)).Wf:=aPA hB
 refine cG func333 hst ?_
 refine aH ?_
 refine W (aW U U (bT aE (by exact aQD hB))) U (ZAm ?_)
 refine KC (λq0 z0=>?_) (λq0 z0=>?_)
 ·refine ZBI ?_
  exact EN aJ ⟨U,by rw[aPG (by simpa using q0)]⟩
 refine aH ?_
 refine W (aW U U (bT aE (by exact Ww hB))) U (oE ?_)
 refine ZAm ?_
 refine W (bD (l':=cBd (({B with slide:=B.slide-1}:Bd))) 0 U U U U U U Ar (E3 hB _)) U (cX ?_)
 refine ZCy ?_
 refine W (aW U U (bT aE (by exact Ww hB1))) U (ZAm ?_)
 refine KC (λq1 z1=>?_) (λq1 z1=>?_)
 ·refine ZBI ?_
  exact EN aJ ⟨U,by rw[aRE (show B.slides=true by simpa using q0) z1]⟩
 refine ZBZ ?_
 refine W (iB K_ U (kK (Xb b ({B with slide:=B.slide-1}:Bd) hB1))) U (ZBV ?_)
 refine aO K_ (λw hw=>Oe b (dY ({B with slide:=B.slide-1}:Bd)) hB2 w (aI aE w hw)) ?_
 refine ZBI ?_
 refine KL (λq2 z2=>?_) (λq2 z2=>?_)
 ·refine iT ?_
  exact EN aJ ⟨U,by rw[aF7 (show B.slides=true by simpa using q0) I z2]⟩
 refine ZBI ?_
 refine W (iB K_ U (kK (Qj b (dY ({B with slide:=B.slide-1}:Bd)) hB2))) U (ZBI ?_)
 refine KL (λq3 z3=>?_) (λq3 z3=>?_)
 ·refine ZCy ?_
  exact EN aJ ⟨U,by rw[aGD (show B.slides=true by simpa using q0) I z2 q3]⟩
 refine ZBI ?_
 have hc9:=aRl q3
 refine eA (H':=[(b,J (cBd (dY ({B with slide:=B.slide-1}:Bd))) 147)]) (λ_ h=>h.as (by rw[hc9])) ?_
 refine aO K_ (λw hw=>Fa b (dY ({B with slide:=B.slide-1}:Bd)) hB2 w (aI aE w hw)) ?_
 refine ZA2 ?_
 refine KC (λq4 z4=>?_) (λq4 z4=>?_)
 ·refine ZBI ?_
  exact EN aJ ⟨U,by rw[aIe (show B.slides=true by simpa using q0) I z2 q3 z4]⟩
 refine ZAm ?_
 have hn9:=aBx hB2
 have hn8:kG (dY ({B with slide:=B.slide-1}:Bd))<=2047:=by have h9:=dk (show decide (2047<kG (dY ({B with slide:=B.slide-1}:Bd)))=false from q3);omega
 have hB3:({ (dY ({B with slide:=B.slide-1}:Bd))with pitch:=kG (dY ({B with slide:=B.slide-1}:Bd))}:Bd).Wf:=hB2.pitch_ I
 have hB4:(putB 3 (kG (dY ({B with slide:=B.slide-1}:Bd))%256) ({ (dY ({B with slide:=B.slide-1}:Bd))with pitch:=kG (dY ({B with slide:=B.slide-1}:Bd))}:Bd)).Wf:=hB3.put 3 I
 have hr4:=hB2.r_ 4
 refine ZA2 ?_
 refine aO K_ (λw hw=>aDm b (dY ({B with slide:=B.slide-1}:Bd)) hB2 w (aI aE w hw)) ?_
 refine ZAm ?_
 refine W (bD (l':=cBd (({ (dY ({B with slide:=B.slide-1}:Bd))with pitch:=kG (dY ({B with slide:=B.slide-1}:Bd))}:Bd))) 0 U U U U U U (by rw[cBd_len hB2];simp only[eZ,az];omega) (Wi hB2 _)) U (iI ?_)
 refine DR [7,8,9,10,11,12,13,14,15,16,17,18,19,20,21,22,25,26] (bQ [0,2,4,6,8,10,12,14,16,18,20,22,24,26,28,30,32,34,36,38,40,42,44,46,50,52,49,54,57]) ?_
 refine ZBV ?_
 refine DL U U U (dQ (v:= .int .i64 (kG (dY ({B with slide:=B.slide-1}:Bd)))) aE (Me hB3.ln)) U (wG ?_)
 refine ZA2 ?_
 refine DY U Da U (DL U U U (dQ aE (cBd_r hB3.ln (j:=4) aD)) U (DW (v:=(.int .u8 ((dY ({B with slide:=B.slide-1}:Bd)).r 4/8*8))) U (zS U U) U (M Z (aKH hr4)) (ZA2 ?_)))
 refine DL U U U (dQ (v:= .int .i64 (kG (dY ({B with slide:=B.slide-1}:Bd)))) aE (Me hB3.ln)) U (Sj ?_)
 refine DW U (cM U U) U yL (DW (v:=(.int .u8 ((dY ({B with slide:=B.slide-1}:Bd)).r 4/8*8+kG (dY ({B with slide:=B.slide-1}:Bd))/256%8))) U (dE U U) U (M Z (aHJ (y:=kG (dY ({B with slide:=B.slide-1}:Bd))/256%8) hr4 I)) (ZAm ?_))
 refine DY U Gk U (ZAm ?_)
 refine DZ U (bD (l':=cBd ((putB 3 (kG (dY ({B with slide:=B.slide-1}:Bd))%256) ({ (dY ({B with slide:=B.slide-1}:Bd))with pitch:=kG (dY ({B with slide:=B.slide-1}:Bd))}:Bd)))) 0 U U U U U U (by rw[cBd_len hB3];simp only[eZ,az];omega) (putBd_r hB3.ln (j:=3) aD _)) U aY (cX ?_)
 refine DY U Da U (DZ U (bD (l':=cBd (Ld (dY ({B with slide:=B.slide-1}:Bd)))) 0 U U U U U U (by rw[cBd_len hB4];simp only[eZ,az];omega) (putBd_r hB4.ln (j:=4) aD _)) U aY (nO ?_))
 refine W (iB K_ U (kK (Qj b (Ld (dY ({B with slide:=B.slide-1}:Bd))) (aC2 hB2 q3)))) U (ZBI ?_)
 exact EN aJ ⟨U,by rw[aJ3 (show B.slides=true by simpa using q0) I z2 q3 z4]⟩
set_option maxHeartbeats 2000000 in
def beginB_fn(b:Nat)(B:Bd)(hB:B.Wf)(n:Nat)(hn:n<4)(w:AI)(hst:St w [b] [(b,J (cBd B) 147)] w):aG prog 300 [P_ b,.int .i64 n] w [b] (λv H=>v= .tuple #[]/\H=[(b,J (cBd (beginB n B)) 147)]):=by
 have hr9:=hB.r_ (5*n+2)
 have hv9:=(hB.v_ n).len
 have hV1:(B.setV n {B.v n with on:=readyB n B}).Ln:=hB.ln.setV n _
 have hV2:(B.setV n {B.v n with on:=readyB n B,lev:=B.r (5*n+2)/16}).Ln:=hB.ln.setV n _
 have hV3:(B.setV n {B.v n with on:=readyB n B,lev:=B.r (5*n+2)/16,wait:=B.r (5*n+2)%8}).Ln:=hB.ln.setV n _
 refine cG func300 hst ?_
 refine ZBI ?_
 refine DR [13] (bQ [0,2,4,6,8,10,12,14,16,18,20,22,24,26,28]) ?_
 refine ZBZ ?_
 refine DY U (iU (s:=4) n U U U I I) U (ZAm ?_)
 refine DW U (zH U U) U mC (DW U (nD U U) U mC (ZAm ?_))
 refine DY U (eB (5*n+2) U U U I I) U (DL U U U (dQ aE (by rw[bj];exact cBd_r hB (j:=5*n+2) I)) U (cL ?_))
 refine aO K_ (λw hw=>readyB_fn b B hB w (aI aE w hw) n hn) ?_
 refine ZBI ?_
 refine RW (jB U U aD) U (qM 16 aD aD) (eR ?_)
 refine ZBI ?_
 refine RW (cM U U) U yL (eR ?_)
 refine ZAm ?_
 refine W (bD (l':=cBd (B.setV n {B.v n with on:=readyB n B})) 0 U U U U U U Ar ((putBd_v hB (k:=0) (y:={B.v n with on:=readyB n B}) hn aD pE).trans pE)) U (iI ?_)
 refine W (bD (l':=cBd (B.setV n {B.v n with on:=readyB n B,lev:=B.r (5*n+2)/16})) 0 U U U U U U (by rw[cBd_len hV1];simp only[eZ,az];omega) ((putBd_v hV1 (k:=2) (y:={B.v n with on:=readyB n B,lev:=B.r (5*n+2)/16}) hn aD Pf).trans Ao)) U (iI ?_)
 refine W (bD (l':=cBd (B.setV n {B.v n with on:=readyB n B,lev:=B.r (5*n+2)/16,wait:=B.r (5*n+2)%8})) 0 U U U U U U (by rw[cBd_len hV2];simp only[eZ,az];omega) ((putBd_v hV2 (k:=3) (y:={B.v n with on:=readyB n B,lev:=B.r (5*n+2)/16,wait:=B.r (5*n+2)%8}) hn aD Pf).trans Ao)) U (cX ?_)
 refine ZCy ?_
 refine W (aW U U (bT (v:= .int .i64 (B.v n).len) aE (vI hV3 (k:=1) hn Pf))) U (ZAm ?_)
 refine KC (λq0 z0=>?_) (λq0 z0=>?_)
 ·refine ZA2 ?_
  refine aO K_ (aS (Ll n)) ?_
  refine ZAm ?_
  refine W (bD (l':=cBd (B.setV n {B.v n with on:=readyB n B,lev:=B.r (5*n+2)/16,wait:=B.r (5*n+2)%8,len:=longest n})) 0 U U U U U U (by rw[cBd_len hV3];simp only[eZ,az];omega) ((putBd_v hV3 (k:=1) (y:={B.v n with on:=readyB n B,lev:=B.r (5*n+2)/16,wait:=B.r (5*n+2)%8,len:=longest n}) hn aD Pf).trans Ao)) U (nO ?_)
  have hc9:cH B n={B.v n with on:=readyB n B,lev:=B.r (5*n+2)/16,wait:=B.r (5*n+2)%8,len:=longest n}:=by unfold cH;rw[ag I]
  rw[<-hc9]
  have hC9:=hB.setV n (K6 hB n)
  rcases d6 n with rfl|hn0
  ·refine ZAm ?_
   refine fX false U U U aD ?_
   refine ZBZ ?_
   have hP9:({ (B.setV 0 (cH B 0))with pitch:=(B.setV 0 (cH B 0)).r 3+(B.setV 0 (cH B 0)).r 4%8*256}:Bd).Wf:=hC9.pitch_ (by have:=hC9.r_ 3;omega)
   have hr3:=hC9.r_ 3
   have hr4:=hC9.r_ 4
   have hW9:(dY ({ (B.setV 0 (cH B 0))with pitch:=(B.setV 0 (cH B 0)).r 3+(B.setV 0 (cH B 0)).r 4%8*256}:Bd)).Wf:=hP9.waitW
   have hS9:(vV (dY ({ (B.setV 0 (cH B 0))with pitch:=(B.setV 0 (cH B 0)).r 3+(B.setV 0 (cH B 0)).r 4%8*256}:Bd))).Wf:=hW9.slidesW
   refine DR [7,8,9,10,11,12,13,14] (bQ [0,2,4,6,8,10,12,14,16,18,20,22,24,26,28,30,32,34,37]) ?_
   refine ZBZ ?_
   refine DY U Gk U (DL U U U (dQ aE (cBd_r hC9 (j:=3) aD)) U (DW U (gF U U U) U mC (ZA2 ?_)))
   refine DY U Da U (DL U U U (dQ aE (cBd_r hC9 (j:=4) aD)) U (DW U (cM U U) U yL (DW U (gF U U U) U mC ?_)))
   refine DW U (iK U U aD) U Ma (DW (v:=(.int .i64 ((B.setV 0 (cH B 0)).r 3+(B.setV 0 (cH B 0)).r 4%8*256))) U (dE U U) U (M (Value.int .i64) (Rb (A:=(B.setV 0 (cH B 0)).r 4%8*256) I I I hr3)) (ZAm ?_))
   refine DZ U (bD (l':=cBd (({ (B.setV 0 (cH B 0))with pitch:=(B.setV 0 (cH B 0)).r 3+(B.setV 0 (cH B 0)).r 4%8*256}:Bd))) 0 U U U U U U aEq (Wi hC9 _)) U aY (cX ?_)
   refine ZBZ ?_
   refine W (iB K_ U (kK (Xb b ({ (B.setV 0 (cH B 0))with pitch:=(B.setV 0 (cH B 0)).r 3+(B.setV 0 (cH B 0)).r 4%8*256}:Bd) hP9))) U (ZBV ?_)
   refine aO K_ (λw hw=>Oe b (dY ({ (B.setV 0 (cH B 0))with pitch:=(B.setV 0 (cH B 0)).r 3+(B.setV 0 (cH B 0)).r 4%8*256}:Bd)) hW9 w (aI aE w hw)) ?_
   refine ZBI ?_
   refine aO K_ (λw hw=>Fa b (dY ({ (B.setV 0 (cH B 0))with pitch:=(B.setV 0 (cH B 0)).r 3+(B.setV 0 (cH B 0)).r 4%8*256}:Bd)) hW9 w (aI aE w hw)) ?_
   refine RY (dE U U) U (RW (v:=(.bool (decide (everyB (dY ({ (B.setV 0 (cH B 0))with pitch:=(B.setV 0 (cH B 0)).r 3+(B.setV 0 (cH B 0)).r 4%8*256}:Bd))≠0\/byB (dY ({ (B.setV 0 (cH B 0))with pitch:=(B.setV 0 (cH B 0)).r 3+(B.setV 0 (cH B 0)).r 4%8*256}:Bd))≠0)))) U U (M Value.bool (aDn (Fl _) (Zu _))) (ZAm ?_))
   refine W (bD (l':=cBd ((vV (dY ({ (B.setV 0 (cH B 0))with pitch:=(B.setV 0 (cH B 0)).r 3+(B.setV 0 (cH B 0)).r 4%8*256}:Bd))))) 0 U U U U U U aFw (Y2 hW9 _)) U (cX ?_)
   refine ZBZ ?_
   refine aO K_ (λw hw=>Fa b (vV (dY ({ (B.setV 0 (cH B 0))with pitch:=(B.setV 0 (cH B 0)).r 3+(B.setV 0 (cH B 0)).r 4%8*256}:Bd))) hS9 w (aI aE w hw)) ?_
   refine ZAm ?_
   refine KC (λq1 z1=>?_) (λq1 z1=>?_)
   ·refine ZAm ?_
    refine W (iB K_ U (kK (Qj b (vV (dY ({ (B.setV 0 (cH B 0))with pitch:=(B.setV 0 (cH B 0)).r 3+(B.setV 0 (cH B 0)).r 4%8*256}:Bd))) hS9))) U (ZBI ?_)
    exact EN aJ ⟨U,aEo⟩
   refine ZBI ?_
   exact EN aJ ⟨U,aEN⟩
  refine ZAm ?_
  refine wP ?_
  refine ZA2 ?_
  exact EN aJ ⟨U,by unfold beginB;dsimp only;rw[ag hn0]⟩
 refine ZA2 ?_
 have hc9:cH B n={B.v n with on:=readyB n B,lev:=B.r (5*n+2)/16,wait:=B.r (5*n+2)%8}:=by unfold cH;rw[ae I]
 rw[<-hc9]
 have hC9:=hB.setV n (K6 hB n)
 rcases d6 n with rfl|hn0
 ·refine ZAm ?_
  refine fX false U U U aD ?_
  refine ZBZ ?_
  have hP9:({ (B.setV 0 (cH B 0))with pitch:=(B.setV 0 (cH B 0)).r 3+(B.setV 0 (cH B 0)).r 4%8*256}:Bd).Wf:=hC9.pitch_ (by have:=hC9.r_ 3;omega)
  have hr3:=hC9.r_ 3
  have hr4:=hC9.r_ 4
  have hW9:(dY ({ (B.setV 0 (cH B 0))with pitch:=(B.setV 0 (cH B 0)).r 3+(B.setV 0 (cH B 0)).r 4%8*256}:Bd)).Wf:=hP9.waitW
  have hS9:(vV (dY ({ (B.setV 0 (cH B 0))with pitch:=(B.setV 0 (cH B 0)).r 3+(B.setV 0 (cH B 0)).r 4%8*256}:Bd))).Wf:=hW9.slidesW
  refine DR [7,8,9,10,11,12,13,14] (bQ [0,2,4,6,8,10,12,14,16,18,20,22,24,26,28,30,32,34,37]) ?_
  refine ZBZ ?_
  refine DY U Gk U (DL U U U (dQ aE (cBd_r hC9 (j:=3) aD)) U (DW U (gF U U U) U mC (ZA2 ?_)))
  refine DY U Da U (DL U U U (dQ aE (cBd_r hC9 (j:=4) aD)) U (DW U (cM U U) U yL (DW U (gF U U U) U mC ?_)))
  refine DW U (iK U U aD) U Ma (DW (v:=(.int .i64 ((B.setV 0 (cH B 0)).r 3+(B.setV 0 (cH B 0)).r 4%8*256))) U (dE U U) U (M (Value.int .i64) (Rb (A:=(B.setV 0 (cH B 0)).r 4%8*256) I I I hr3)) (ZAm ?_))
  refine DZ U (bD (l':=cBd (({ (B.setV 0 (cH B 0))with pitch:=(B.setV 0 (cH B 0)).r 3+(B.setV 0 (cH B 0)).r 4%8*256}:Bd))) 0 U U U U U U aEq (Wi hC9 _)) U aY (cX ?_)
  refine ZBZ ?_
  refine W (iB K_ U (kK (Xb b ({ (B.setV 0 (cH B 0))with pitch:=(B.setV 0 (cH B 0)).r 3+(B.setV 0 (cH B 0)).r 4%8*256}:Bd) hP9))) U (ZBV ?_)
  refine aO K_ (λw hw=>Oe b (dY ({ (B.setV 0 (cH B 0))with pitch:=(B.setV 0 (cH B 0)).r 3+(B.setV 0 (cH B 0)).r 4%8*256}:Bd)) hW9 w (aI aE w hw)) ?_
  refine ZBI ?_
  refine aO K_ (λw hw=>Fa b (dY ({ (B.setV 0 (cH B 0))with pitch:=(B.setV 0 (cH B 0)).r 3+(B.setV 0 (cH B 0)).r 4%8*256}:Bd)) hW9 w (aI aE w hw)) ?_
  refine RY (dE U U) U (RW (v:=(.bool (decide (everyB (dY ({ (B.setV 0 (cH B 0))with pitch:=(B.setV 0 (cH B 0)).r 3+(B.setV 0 (cH B 0)).r 4%8*256}:Bd))≠0\/byB (dY ({ (B.setV 0 (cH B 0))with pitch:=(B.setV 0 (cH B 0)).r 3+(B.setV 0 (cH B 0)).r 4%8*256}:Bd))≠0)))) U U (M Value.bool (aDn (Fl _) (Zu _))) (ZAm ?_))
  refine W (bD (l':=cBd ((vV (dY ({ (B.setV 0 (cH B 0))with pitch:=(B.setV 0 (cH B 0)).r 3+(B.setV 0 (cH B 0)).r 4%8*256}:Bd))))) 0 U U U U U U aFw (Y2 hW9 _)) U (cX ?_)
  refine ZBZ ?_
  refine aO K_ (λw hw=>Fa b (vV (dY ({ (B.setV 0 (cH B 0))with pitch:=(B.setV 0 (cH B 0)).r 3+(B.setV 0 (cH B 0)).r 4%8*256}:Bd))) hS9 w (aI aE w hw)) ?_
  refine ZAm ?_
  refine KC (λq1 z1=>?_) (λq1 z1=>?_)
  ·refine ZAm ?_
   refine W (iB K_ U (kK (Qj b (vV (dY ({ (B.setV 0 (cH B 0))with pitch:=(B.setV 0 (cH B 0)).r 3+(B.setV 0 (cH B 0)).r 4%8*256}:Bd))) hS9))) U (ZBI ?_)
   exact EN aJ ⟨U,aEo⟩
  refine ZBI ?_
  exact EN aJ ⟨U,aEN⟩
 refine ZAm ?_
 refine wP ?_
 refine ZA2 ?_
 exact EN aJ ⟨U,by unfold beginB;dsimp only;rw[ag hn0]⟩
def tickB_fn(B:Bd)(hB:B.Wf)(w:AI):aG prog 325 [.agg (cBd B).toArray] w [] (V_ (.agg (cBd (tickB B)).toArray)):=by
 have k1:=hB.div
 have k2:=hB.step
 have hD1:({B with div:=B.div+1}:Bd).Ln:=⟨hB.lR,hB.bR,hB.lV⟩
 have hD0:({B with div:=0}:Bd).Wf:=hB.div_ I
 have hH:(halfB ({B with div:=0}:Bd)).Wf:=hD0.half
 have hE:(beatB ({B with div:=0}:Bd)).Wf:=hD0.beat
 have hFN:({ (beatB ({B with div:=0}:Bd))with step:=(B.step+1)%8}:Bd).Ln:=⟨hE.lR,hE.bR,hE.lV⟩
 refine aT func325 ?_
 refine Nh ?_
 refine ZBF λb0=>?_
 refine RX (gJ (l:=cBd bdZ) aN) U ?_
 rintro _ _ ⟨b1,rfl,rfl⟩
 refine ZBV ?_
 refine W (aW U U (bT (v:= .bool B.on) aE (cBd_on hB))) U (ZAm ?_)
 refine KC (λq0 z0=>?_) (λq0 z0=>?_)
 ·refine ZAm ?_
  refine Po ?_
  refine iI ?_
  exact aU (λw hw=>eL U U Gh (aI (b:=b1) (l:=cBd B) aE w hw)) ⟨U,by unfold tickB;rw[ag (by simpa using q0)]⟩
 refine ZBV ?_
 refine W (aW U U (bT aE (Xv hB))) U (gY ?_)
 refine ZBI ?_
 refine W (bD (l':=cBd (({B with div:=B.div+1}:Bd))) 1 U U U U U U Ar (Zn hB _)) U (cX ?_)
 refine ZBZ ?_
 refine W (aW U U (bT (v:= .int .i64 (B.div+1)) aE (Xv (b:=({B with div:=B.div+1}:Bd)) hD1))) U (ZAm ?_)
 refine KC (λq1 z1=>?_) (λq1 z1=>?_)
 ·refine ZAm ?_
  refine W (bJ U U (by rw[cBd_len hD1];rfl) (aI (b:=b0) (l:=cBd ({B with div:=B.div+1}:Bd)) aE)) U (W (bD (l':=cBd ({B with div:=B.div+1}:Bd)) 0 U U U (by rw[cBd_len hD1];rfl) (ones_cBd _) U (by rw[cBd_len hD1,cBd_len bdZ_wf];decide) (putZ hD1)) U (iI ?_))
  exact aU (λw hw=>eL U U (by rw[cBd_len hD1];rfl) (aI (b:=b1) (l:=cBd ({B with div:=B.div+1}:Bd)) aE w hw)) ⟨U,by unfold tickB;rw[ae (by rw[show B.on=true by simpa using q0];decide),ag I]⟩
 refine ZBZ ?_
 refine W (bD (l':=cBd (({B with div:=0}:Bd))) 1 U U U U U U (by rw[cBd_len hD1];simp only[eZ,az];omega) (Zn hD1 _)) U (cX ?_)
 refine ZBV ?_
 refine W (aW U U (bT (v:= .int .i64 B.step) aE (cBd_step (b:=({B with div:=0}:Bd)) hD0))) U (RW (cM U U) U (by first|exact rE 1 2 aD rfl I (show _<(9223372036854775808:Int)by omega) (show _<(9223372036854775808:Int)by decide)|rfl) (ZAm ?_))
 refine KC (λq2 z2=>?_) (λq2 z2=>?_)
 ·refine ZBI ?_
  refine RX (cB (F:=[(b1,J (cBd bdZ) 147)]) (A:=[(b0,J (cBd ({B with div:=0}:Bd)) 147)]) (R:=λv H=>v= .tuple #[]/\H=[(b0,J (cBd (Rj ({B with div:=0}:Bd))) 147)]) K_ U (dG (aGz b0 ({B with div:=0}:Bd) hD0))) U (jW ?_)
  refine ZA2 ?_
  have hh9:Rj ({B with div:=0}:Bd)=(halfB ({B with div:=0}:Bd)):=by unfold halfB;rw[ag (show(B.step%2=0)by omega)]
  refine ZEZ ?_
  refine W (aW U U (bT (v:= .int .i64 B.step) aE ((cBd_step hH).trans (by rw[Jm])))) U (ZE1 ?_)
  refine KC (λq3 z3=>?_) (λq3 z3=>?_)
  ·refine ZBI ?_
   refine oQ true U q3 ?_
   refine Uw ?_
   refine jW ?_
   refine Vd λhh8=>?_
   refine zZ ?_
   refine gY ?_
   refine qR ?_
   refine Ay ?_
   refine nO ?_
   refine Af ?_
   refine cX ?_
   exact zW
  refine ZBZ ?_
  refine KC (λq4 z4=>?_) (λq4 z4=>?_)
  ·refine Uw ?_
   refine jW ?_
   refine Vd λhh8=>?_
   refine zZ ?_
   refine gY ?_
   refine qR ?_
   refine Ay ?_
   refine nO ?_
   refine Af ?_
   refine cX ?_
   exact zW
  refine ZBV ?_
  refine KC (λq5 z5=>?_) (λq5 z5=>?_)
  ·refine ZBI ?_
   refine RX (cB (F:=[(b1,J (cBd bdZ) 147)]) (A:=[(b0,J (cBd (halfB ({B with div:=0}:Bd))) 147)]) (R:=λv H=>v= .tuple #[]/\H=[(b0,J (cBd (Dv (halfB ({B with div:=0}:Bd)))) 147)]) K_ U (dG (aBH b0 (halfB ({B with div:=0}:Bd)) hH))) U (jW ?_)
   refine ZAm ?_
   have hh8:Dv (halfB ({B with div:=0}:Bd))=(beatB ({B with div:=0}:Bd)):=by unfold beatB;rw[ae (show ¬(B.step=2\/B.step=6)by omega),ag (show B.step=7 by omega)]
   refine zZ ?_
   refine gY ?_
   refine qR ?_
   refine Ay ?_
   refine nO ?_
   refine Af ?_
   refine cX ?_
   exact zW
  refine ZDy λhh8=>?_
  refine zZ ?_
  refine gY ?_
  refine qR ?_
  refine Ay ?_
  refine nO ?_
  refine Af ?_
  refine cX ?_
  exact zW
 refine ZA2 ?_
 have hh9:({B with div:=0}:Bd)=(halfB ({B with div:=0}:Bd)):=by unfold halfB;rw[ae (show ¬(B.step%2=0)by omega)]
 refine ZEZ ?_
 refine W (aW U U (bT (v:= .int .i64 B.step) aE ((cBd_step hH).trans (by rw[Jm])))) U (ZE1 ?_)
 refine KC (λq3 z3=>?_) (λq3 z3=>?_)
 ·refine ZBI ?_
  refine oQ true U q3 ?_
  refine Uw ?_
  refine jW ?_
  refine Vd λhh8=>?_
  refine zZ ?_
  refine gY ?_
  refine qR ?_
  refine Ay ?_
  refine nO ?_
  refine Af ?_
  refine cX ?_
  exact zW
 refine ZBZ ?_
 refine KC (λq4 z4=>?_) (λq4 z4=>?_)
 ·refine Uw ?_
  refine jW ?_
  refine Vd λhh8=>?_
  refine zZ ?_
  refine gY ?_
  refine qR ?_
  refine Ay ?_
  refine nO ?_
  refine Af ?_
  refine cX ?_
  exact zW
 refine ZBV ?_
 refine KC (λq5 z5=>?_) (λq5 z5=>?_)
 ·refine ZBI ?_
  refine RX (cB (F:=[(b1,J (cBd bdZ) 147)]) (A:=[(b0,J (cBd (halfB ({B with div:=0}:Bd))) 147)]) (R:=λv H=>v= .tuple #[]/\H=[(b0,J (cBd (Dv (halfB ({B with div:=0}:Bd)))) 147)]) K_ U (dG (aBH b0 (halfB ({B with div:=0}:Bd)) hH))) U (jW ?_)
  refine ZAm ?_
  have hh8:Dv (halfB ({B with div:=0}:Bd))=(beatB ({B with div:=0}:Bd)):=by unfold beatB;rw[ae (show ¬(B.step=2\/B.step=6)by omega),ag (show B.step=7 by omega)]
  refine zZ ?_
  refine gY ?_
  refine qR ?_
  refine Ay ?_
  refine nO ?_
  refine Af ?_
  refine cX ?_
  exact zW
 refine ZDy λhh8=>?_
 refine zZ ?_
 refine gY ?_
 refine qR ?_
 refine Ay ?_
 refine nO ?_
 refine Af ?_
 refine cX ?_
 exact zW
def aKj(B:Bd)(hB:B.Wf)(on:Bool)(w:AI):aG prog 298 [.agg (cBd B).toArray,.bool on] w [] (V_ (.agg (cBd (if on=true then onB B else offB B)).toArray)):=by
 have hZ2:({bdZ with div:=B.div,step:=B.step}:Bd).Ln:=⟨bdZ_wf.lR,bdZ_wf.bR,bdZ_wf.lV⟩
 have hN0:({B with div:=0}:Bd).Ln:=⟨hB.lR,hB.bR,hB.lV⟩
 have hN1:({B with div:=0,step:=0}:Bd).Ln:=⟨hB.lR,hB.bR,hB.lV⟩
 have hN2:({B with div:=0,step:=0,on:=true}:Bd).Ln:=⟨hB.lR,hB.bR,hB.lV⟩
 have hN3:({B with on:=true}:Bd).Ln:=⟨hB.lR,hB.bR,hB.lV⟩
 refine aT func298 ?_
 refine Nh ?_
 refine ZBF λb0=>?_
 refine RX (gJ (l:=cBd bdZ) aN) U ?_
 rintro _ _ ⟨b1,rfl,rfl⟩
 refine ZCy ?_
 refine KC (λq0 z0=>?_) (λq0 z0=>?_)
 ·refine ZA2 ?_
  refine W (aW U U (bT aE (Xv hB))) U (ZBI ?_)
  refine W (aW U U (bT aE (cBd_step hB))) U (RY (qJ (l:=cBd ({bdZ with div:=B.div,step:=B.step}:Bd)) (z:=cBd bdZ) (ps:=[(2,.int .i64 B.div),(3,.int .i64 B.step)]) U aN U U) U (RX (gJ (l:=cBd bdZ) aN) U ?_))
  rintro _ _ ⟨b2,rfl,rfl⟩
  refine W (bD (l':=cBd ({bdZ with div:=B.div,step:=B.step}:Bd)) 0 U U U (by rw[cBd_len hZ2];rfl) (ones_cBd _) U (by rw[cBd_len hZ2,cBd_len bdZ_wf];decide) (putZ hZ2)) U (iI ?_)
  refine DR [] (bQ [0,2,4,6,9]) ?_
  refine ZBI ?_
  refine DY U (pR 22 48 U U U U U U aD aD) U (ZBI ?_)
  refine DY U (pR 22 48 U U U U U U aD aD) U (DZ U (Eu (l':=cBd (offB B)) (m:=26) (ys:=(B.regs.drop 22).map (.int .u8)) 0 U U U U U (λw hw=>vA.row (s:=1) b0 22 26 26 ((B.regs.drop 22).map (.int .u8)) (by simp[hB.lR]) (aMC (aI (b:=b0) (l:=cBd B) aE w hw))) (kX _ _) (by rw[cBd_len hZ2];decide) (aPa hB)) U aY (nO ?_))
  refine W (bJ U U N6 (aI (b:=b2) (l:=cBd (offB B)) aE)) U (W (bD (l':=cBd (offB B)) 1 U U U N6 (ones_cBd _) U (by rw[cBd_len hB.off.ln,cBd_len bdZ_wf];decide) (putZ hB.off.ln)) U (iI ?_))
  exact aU (λw hw=>eL U U N6 (aI (b:=b1) (l:=cBd (offB B)) aE w hw)) ⟨U,by rw[show on=false by simpa using q0];rfl⟩
 refine ZBV ?_
 refine W (aW U U (bT (v:= .bool B.on) aE (cBd_on hB))) U (ZAm ?_)
 refine KC (λq1 z1=>?_) (λq1 z1=>?_)
 ·refine ZAm ?_
  refine W (bD (l':=cBd (({B with div:=0}:Bd))) 1 U U U U U U Ar (Zn hB _)) U (cX ?_)
  refine ZBI ?_
  refine W (bD (l':=cBd (({B with div:=0,step:=0}:Bd))) 1 U U U U U U (by rw[cBd_len hN0];simp only[eZ,az];omega) (putBd_step hN0 _)) U (cX ?_)
  refine ZBZ ?_
  refine W (bD (l':=cBd (({B with div:=0,step:=0,on:=true}:Bd))) 1 U U U U U U (by rw[cBd_len hN1];simp only[eZ,az];omega) (aD1 hN1 _)) U (nO ?_)
  refine W (bJ U U W2 (aI (b:=b0) (l:=cBd ({B with div:=0,step:=0,on:=true}:Bd)) aE)) U (W (bD (l':=cBd ({B with div:=0,step:=0,on:=true}:Bd)) 0 U U U (by rw[cBd_len hN2];rfl) (ones_cBd _) U (by rw[cBd_len hN2,cBd_len bdZ_wf];decide) (putZ hN2)) U (iI ?_))
  exact aU (λw hw=>eL U U (by rw[cBd_len hN2];rfl) (aI (b:=b1) (l:=cBd ({B with div:=0,step:=0,on:=true}:Bd)) aE w hw)) ⟨U,by rw[show on=true by simpa using q0,ag rfl];unfold onB;rw[ae (by rw[show B.on=false by simpa using q1];decide)]⟩
 refine ZBZ ?_
 refine W (bD (l':=cBd (({B with on:=true}:Bd))) 1 U U U U U U Ar (aD1 hB _)) U (nO ?_)
 refine W (bJ U U W2 (aI (b:=b0) (l:=cBd ({B with on:=true}:Bd)) aE)) U (W (bD (l':=cBd ({B with on:=true}:Bd)) 0 U U U (by rw[cBd_len hN3];rfl) (ones_cBd _) U (by rw[cBd_len hN3,cBd_len bdZ_wf];decide) (putZ hN3)) U (iI ?_))
 have hon:B.on=true:=by simpa using q1
 exact aU (λw hw=>eL U U (by rw[cBd_len hN3];rfl) (aI (b:=b1) (l:=cBd ({B with on:=true}:Bd)) aE w hw)) ⟨U,by rw[show on=true by simpa using q0,ag rfl];unfold onB;rw[ag hon,<-hon]⟩
set_option maxHeartbeats 2000000 in
def aDX(B:Bd)(hB:B.Wf)(n x:Int)(hx:0<=x/\x<256)(w:AI):aG prog 297 [.agg (cBd B).toArray,.int .i64 n,.int .u8 x] w [] (V_ (.agg (cBd (writeBd n x B)).toArray)):=by
 refine aT func297 ?_
 refine Nh ?_
 refine ZBF λb0=>?_
 refine RX (gJ (l:=cBd bdZ) aN) U ?_
 rintro _ _ ⟨b1,rfl,rfl⟩
 refine ZCy ?_
 refine KL (λq0 z0=>?_) (λq0 z0=>?_)
 ·refine ZE1 ?_
  refine Po ?_
  exact ZDP
 refine ZBV ?_
 refine KC (λq1 z1=>?_) (λq1 z1=>?_)
 ·refine ZAm ?_
  refine Po ?_
  exact ZDP
 refine aH ?_
 refine KC (λq2 z2=>?_) (λq2 z2=>?_)
 ·refine ZAm ?_
  refine W (bJ U U Gh (aI (b:=b0) (l:=cBd B) aE)) U (ZBI ?_)
  refine Ej ?_
  refine RW (v:=(.bool (decide (x/128=1)))) U U (M Value.bool A0) (aO K_ (aS (aKj B hB _)) ?_)
  refine W (bD (l':=cBd (if decide (x/128=1)=true then onB B else offB B)) 0 U U U aBh (ones_cBd _) U (by rw[cBd_len (show(if decide (x/128=1)=true then onB B else offB B).Wf by split;exact hB.onW;exact hB.off),cBd_len bdZ_wf];decide) (putZ (show(if decide (x/128=1)=true then onB B else offB B).Wf by split;exact hB.onW;exact hB.off))) U (iI ?_)
  exact aU (λw hw=>eL U U aBh (aI (b:=b1) (l:=cBd (if decide (x/128=1)=true then onB B else offB B)) aE w hw)) ⟨U,by rw[show writeBd n x B=(if x/128=1 then onB B else offB B)from by unfold writeBd;rw[ae I,ag I]];simp only[ak]⟩
 refine ZBI ?_
 have hon9:B.on=B.on:=rfl
 rcases hon9:B.on with _|_
 ·refine P7 ?_
  refine jN ?_
  refine aH ?_
  refine KC (λq3 z3=>?_) (λq3 z3=>?_)
  ·refine ZAm ?_
   refine Po ?_
   refine iI ?_
   exact aU (λw hw=>eL U U Gh (aI (b:=b1) (l:=cBd B) aE w hw)) ⟨U,by unfold writeBd;rw[ae I,ae I,ag ⟨hon9,aR⟩]⟩
  refine ZAm ?_
  obtain⟨k,rfl⟩:∃k:Nat,n=k:=⟨n.toNat,aR⟩
  have hPK:(putB k x B).Wf:=hB.put k hx
  refine ZBZ ?_
  refine ZEo ?_
  refine cX ?_
  refine ZCy ?_
  refine KC (λq4 z4=>?_) (λq4 z4=>?_)
  ·refine ZAm ?_
   refine W (bJ U U Ce (aI (b:=b0) (l:=cBd (putB k x B)) aE)) U (Wd ?_)
   exact aU (λw hw=>eL U U Ce (aI (b:=b1) (l:=cBd (putB k x B)) aE w hw)) ⟨U,aEY⟩
  refine ZET ?_
  refine ZBZ ?_
  have hv9:=hPK.v_ (k/5)
  have hlg:longest (k/5)=64\/longest (k/5)=256:=by unfold longest;split<;>simp
  have hm9:=f7 x (show 0<longest (k/5)by omega)
  have hm8:=fz x (show longest (k/5)≠0 by omega)
  refine ZCG λhWL hWO=>?_
  refine ZAm ?_
  refine qR ?_
  refine ZCy ?_
  refine KC (λq5 z5=>?_) (λq5 z5=>?_)
  ·refine ZA2 ?_
   refine aO K_ (aS (Ll (k/5))) ?_
   refine rH ?_
   refine ZBI ?_
   refine aO K_ (aS (Ll (k/5))) ?_
   refine RW (v:=(.int .i64 (x%longest (k/5)))) (tK U U I) U (M _ (cy I)) (oE ?_)
   refine ZBI ?_
   refine Ba ?_
   refine ZBI ?_
   refine W (bD (l':=cBd (((putB k x B).setV (k/5) { ((putB k x B).v (k/5))with len:=longest (k/5)-x%longest (k/5)}))) 1 U U U U U U D4 (putBd_v hPK (k:=1) I aD U)) U (nO ?_)
   refine W (bJ U U Fh (aI (b:=b0) (l:=cBd ((putB k x B).setV (k/5) { ((putB k x B).v (k/5))with len:=longest (k/5)-x%longest (k/5)})) aE)) U (W (bD (l':=cBd ((putB k x B).setV (k/5) { ((putB k x B).v (k/5))with len:=longest (k/5)-x%longest (k/5)})) 0 U U U Qg (ones_cBd _) U (by rw[cBd_len hWL,cBd_len bdZ_wf];decide) (putZ hWL)) U (iI ?_))
   exact aU (λw hw=>eL U U Qg (aI (b:=b1) (l:=cBd ((putB k x B).setV (k/5) { ((putB k x B).v (k/5))with len:=longest (k/5)-x%longest (k/5)})) aE w hw)) ⟨U,aDK⟩
  refine ZBV ?_
  refine KC (λq6 z6=>?_) (λq6 z6=>?_)
  ·refine ZA2 ?_
   refine Ej ?_
   refine ZAm ?_
   refine KC (λq7 z7=>?_) (λq7 z7=>?_)
   ·refine W7 ?_
    refine jW ?_
    refine ZA2 ?_
    refine Z7 ?_
    refine iI ?_
    exact aU (λw hw=>eL U U B0 (aI (b:=b1) (l:=cBd (beginB (k/5) (putB k x B))) aE w hw)) ⟨U,by unfold writeBd;rw[ae I,ae I,ae Y5,ae I,c8];unfold voiceB;rw[ae I,ag I,ag I]⟩
   refine ZA2 ?_
   refine W (bJ U U Fh (aI (b:=b0) (l:=cBd (putB k x B)) aE)) U (Wd ?_)
   exact aU (λw hw=>eL U U Ce (aI (b:=b1) (l:=cBd (putB k x B)) aE w hw)) ⟨U,by unfold writeBd;rw[ae I,ae I,ae Y5,ae I,c8];unfold voiceB;rw[ae I,ag I,ae I]⟩
  refine ZBZ ?_
  refine Ba ?_
  refine ZBI ?_
  refine W (aW U U (bT (v:= .bool ((putB k x B).v (k/5)).on) aE (vI hPK (k:=0) I U))) U (KL (λq7 z7=>?_) (λq7 z7=>?_))
  ·refine ZE9 ?_
   refine RW (v:=(.bool (((putB k x B).v (k/5)).on&&readyB (k/5) (putB k x B)))) U U (by rw[show((putB k x B).v (k/5)).on=true from q7];rfl) (ZBI ?_)
   refine Ba ?_
   refine Tg ?_
   refine nO ?_
   refine Mv ?_
   exact Q8
  refine ZAm ?_
  refine RW (v:=(.bool (((putB k x B).v (k/5)).on&&readyB (k/5) (putB k x B)))) U U (by rw[show((putB k x B).v (k/5)).on=false from q7];rfl) (ZBI ?_)
  refine Ba ?_
  refine Tg ?_
  refine nO ?_
  refine Mv ?_
  exact Q8
 refine H7 ?_
 refine iO ?_
 refine bW ?_
 obtain⟨k,rfl⟩:∃k:Nat,n=k:=⟨n.toNat,aR⟩
 have hPK:(putB k x B).Wf:=hB.put k hx
 refine ZBZ ?_
 refine ZEo ?_
 refine cX ?_
 refine ZCy ?_
 refine KC (λq3 z3=>?_) (λq3 z3=>?_)
 ·refine ZAm ?_
  refine W (bJ U U Ce (aI (b:=b0) (l:=cBd (putB k x B)) aE)) U (Wd ?_)
  exact aU (λw hw=>eL U U Ce (aI (b:=b1) (l:=cBd (putB k x B)) aE w hw)) ⟨U,aEY⟩
 refine ZET ?_
 refine ZBZ ?_
 have hv9:=hPK.v_ (k/5)
 have hlg:longest (k/5)=64\/longest (k/5)=256:=by unfold longest;split<;>simp
 have hm9:=f7 x (show 0<longest (k/5)by omega)
 have hm8:=fz x (show longest (k/5)≠0 by omega)
 refine ZCG λhWL hWO=>?_
 refine ZAm ?_
 refine qR ?_
 refine ZCy ?_
 refine KC (λq4 z4=>?_) (λq4 z4=>?_)
 ·refine ZA2 ?_
  refine aO K_ (aS (Ll (k/5))) ?_
  refine rH ?_
  refine ZBI ?_
  refine aO K_ (aS (Ll (k/5))) ?_
  refine RW (v:=(.int .i64 (x%longest (k/5)))) (tK U U I) U (M _ (cy I)) (oE ?_)
  refine ZBI ?_
  refine Ba ?_
  refine ZBI ?_
  refine W (bD (l':=cBd (((putB k x B).setV (k/5) { ((putB k x B).v (k/5))with len:=longest (k/5)-x%longest (k/5)}))) 1 U U U U U U D4 (putBd_v hPK (k:=1) I aD U)) U (nO ?_)
  refine W (bJ U U Fh (aI (b:=b0) (l:=cBd ((putB k x B).setV (k/5) { ((putB k x B).v (k/5))with len:=longest (k/5)-x%longest (k/5)})) aE)) U (W (bD (l':=cBd ((putB k x B).setV (k/5) { ((putB k x B).v (k/5))with len:=longest (k/5)-x%longest (k/5)})) 0 U U U Qg (ones_cBd _) U (by rw[cBd_len hWL,cBd_len bdZ_wf];decide) (putZ hWL)) U (iI ?_))
  exact aU (λw hw=>eL U U Qg (aI (b:=b1) (l:=cBd ((putB k x B).setV (k/5) { ((putB k x B).v (k/5))with len:=longest (k/5)-x%longest (k/5)})) aE w hw)) ⟨U,aDK⟩
 refine ZBV ?_
 refine KC (λq5 z5=>?_) (λq5 z5=>?_)
 ·refine ZA2 ?_
  refine Ej ?_
  refine ZAm ?_
  refine KC (λq6 z6=>?_) (λq6 z6=>?_)
  ·refine W7 ?_
   refine jW ?_
   refine ZA2 ?_
   refine Z7 ?_
   refine iI ?_
   exact aU (λw hw=>eL U U B0 (aI (b:=b1) (l:=cBd (beginB (k/5) (putB k x B))) aE w hw)) ⟨U,by unfold writeBd;rw[ae I,ae I,ae Kn,ae I,c8];unfold voiceB;rw[ae I,ag I,ag I]⟩
  refine ZA2 ?_
  refine W (bJ U U Fh (aI (b:=b0) (l:=cBd (putB k x B)) aE)) U (Wd ?_)
  exact aU (λw hw=>eL U U Ce (aI (b:=b1) (l:=cBd (putB k x B)) aE w hw)) ⟨U,by unfold writeBd;rw[ae I,ae I,ae Kn,ae I,c8];unfold voiceB;rw[ae I,ag I,ae I]⟩
 refine ZBZ ?_
 refine Ba ?_
 refine ZBI ?_
 refine W (aW U U (bT (v:= .bool ((putB k x B).v (k/5)).on) aE (vI hPK (k:=0) I U))) U (KL (λq6 z6=>?_) (λq6 z6=>?_))
 ·refine ZE9 ?_
  refine RW (v:=(.bool (((putB k x B).v (k/5)).on&&readyB (k/5) (putB k x B)))) U U (by rw[show((putB k x B).v (k/5)).on=true from q6];rfl) (ZBI ?_)
  refine Ba ?_
  refine Tg ?_
  refine nO ?_
  refine Mv ?_
  exact ZCS
 refine ZAm ?_
 refine RW (v:=(.bool (((putB k x B).v (k/5)).on&&readyB (k/5) (putB k x B)))) U U (by rw[show((putB k x B).v (k/5)).on=false from q6];rfl) (ZBI ?_)
 refine Ba ?_
 refine Tg ?_
 refine nO ?_
 refine Mv ?_
 exact ZCS
def Tu(w:AI):aG prog 191 [] w [] (V_ (.agg (Bv.map Z).toArray)):=by
 refine aT func191 ?_
 refine ZAm ?_
 refine lB λb0=>?_
 refine ZA2 ?_
 refine RY (De (l:=[.int .u8 128,.int .u8 63,.int .u8 0,.int .u8 255,.int .u8 191,.int .u8 255,.int .u8 63,.int .u8 0,.int .u8 255,.int .u8 191,.int .u8 127,.int .u8 255,.int .u8 159,.int .u8 255,.int .u8 191,.int .u8 255,.int .u8 255,.int .u8 0,.int .u8 0,.int .u8 191,.int .u8 0,.int .u8 0,.int .u8 112]) (z:=[.int .u8 0,.int .u8 0,.int .u8 0,.int .u8 0,.int .u8 0,.int .u8 0,.int .u8 0,.int .u8 0,.int .u8 0,.int .u8 0,.int .u8 0,.int .u8 0,.int .u8 0,.int .u8 0,.int .u8 0,.int .u8 0,.int .u8 0,.int .u8 0,.int .u8 0,.int .u8 0,.int .u8 0,.int .u8 0,.int .u8 0]) (ps:=[(0,.int .u8 128),(1,.int .u8 63),(2,.int .u8 0),(3,.int .u8 255),(4,.int .u8 191),(5,.int .u8 255),(6,.int .u8 63),(7,.int .u8 0),(8,.int .u8 255),(9,.int .u8 191),(10,.int .u8 127),(11,.int .u8 255),(12,.int .u8 159),(13,.int .u8 255),(14,.int .u8 191),(15,.int .u8 255),(16,.int .u8 255),(17,.int .u8 0),(18,.int .u8 0),(19,.int .u8 191),(20,.int .u8 0),(21,.int .u8 0),(22,.int .u8 112)]) U U U aN) U (qO ?_)
 exact aU (λw hw=>eL U U U (aI (b:=b0) (l:=Bv.map Z) aE w hw)) ⟨U,U⟩
def aEy(B:Bd)(hB:B.Wf)(n:Int)(w:AI):aG prog 166 [.agg (cBd B).toArray,.int .i64 n] w [] (V_ (.int .u8 (readB n B))):=by
 refine aT func166 ?_
 refine Nh ?_
 refine ZBF λb0=>?_
 refine ZE1 ?_
 refine KL (λq0 z0=>?_) (λq0 z0=>?_)
 ·refine Cv ?_
  exact E0 U ⟨U,A9⟩
 refine ZA2 ?_
 refine KL (λq1 z1=>?_) (λq1 z1=>?_)
 ·refine kV ?_
  exact E0 U ⟨U,A9⟩
 refine ZAm ?_
 refine KL (λq2 z2=>?_) (λq2 z2=>?_)
 ·refine aH ?_
  refine KC (λq3 z3=>?_) (λq3 z3=>?_)
  ·refine ZBV ?_
   exact E0 U ⟨U,A9⟩
  refine ZBI ?_
  obtain⟨k,rfl⟩:∃k:Nat,n=k:=⟨n.toNat,aR⟩
  refine ZBV ?_
  refine KC (λq4 z4=>?_) (λq4 z4=>?_)
  ·refine ZBZ ?_
   refine RY (eB k U U U I I) U (W (aW U U (bT aE Qq)) U (ZA2 ?_))
   exact E0 U ⟨U,aCF⟩
  refine aH ?_
  refine KC (λq5 z5=>?_) (λq5 z5=>?_)
  ·refine ZBI ?_
   refine DR [4,5,6] (bQ [0,2,4,6,10,9,12,14,16]) ?_
   refine ZAm ?_
   refine DY U (eB k U U U I I) U (DL U U U (dQ aE Qq) U (ZBI ?_))
   refine DZ U (cZ K_ U (aS Tu)) U gV (DY U (Oo (l:=Bv.map Z) k U U U U U U I (gD (by show k<23;omega)) U) U (DW U (dE U U) U U (ZA2 ?_)))
   exact E0 U ⟨U,aFH⟩
  refine ZA2 ?_
  refine aO K_ (aS Tu) ?_
  refine ZBI ?_
  refine RY (Oo (l:=Bv.map Z) 22 U U U U U I I U U) U (ZBZ ?_)
  rcases hon9:B.on with _|_
  ·refine P7 ?_
   refine ZBI ?_
   refine oQ false U U ?_
   refine ZBV ?_
   refine Pa ?_
   refine dK (σ:=Nat) [5,6,7,50,51,52,53,54,55,56,57,58,59,60] (λi=>[(5,.int .u8 (onV B i)),(50,.int .i64 i)]) (λ_=>[(b0,J (cBd B) 147)]) (λi=>i<=4) (λi=>4-i) 0 ?_ ?_ ?_ ?_
   ·exact aq _
   ·exact .cons Rw (.cons U .nil)
   ·exact λ_ h=>h
   rintro i y11 hi
   refine ZBV ?_
   refine KC (λq6 z6=>?_) (λq6 z6=>?_)
   ·refine aH ?_
    refine RY (Qe (l:=aM dD B.vs) (c:=dD (B.v i)) i U U U U U U I (Ku B.vs i Ti)) U (jT λb1=>?_)
    refine kR ?_
    refine ZBZ ?_
    refine W (aW U U (bT (v:= .bool (B.v i).on) aE U)) U (ZBI ?_)
    refine KC (λq7 z7=>?_) (λq7 z7=>?_)
    ·rcases(show i=0\/i=1\/i=2\/i=3 by omega)with rfl|rfl|rfl|rfl
     ·refine pY ?_
      refine RW (v:=(.int .u8 (onV B (0+1)))) (dE U U) U (M Z (qI B (n:=0) aD q7)) (ZA2 ?_)
      exact RW (v:=(.int .i64 ((0+1:Nat):Int))) U U (M _ (eU I)) Ts
     ·refine pY ?_
      refine RW (v:=(.int .u8 (onV B (1+1)))) (dE U U) U (M Z (qI B (n:=1) aD q7)) (ZA2 ?_)
      exact RW (v:=(.int .i64 ((1+1:Nat):Int))) U U (M _ (eU I)) Pu
     ·refine pY ?_
      refine RW (v:=(.int .u8 (onV B (2+1)))) (dE U U) U (M Z (qI B (n:=2) aD q7)) (ZA2 ?_)
      exact RW (v:=(.int .i64 ((2+1:Nat):Int))) U U (M _ (eU I)) Nu
     refine pY ?_
     refine RW (v:=(.int .u8 (onV B (3+1)))) (dE U U) U (M Z (qI B (n:=3) aD q7)) (ZA2 ?_)
     exact RW (v:=(.int .i64 ((3+1:Nat):Int))) U U (M _ (eU I)) Qt
    refine pT ?_
    exact⟨i+1,aR,aR,.cons (M Z (Tj B q7)) (.cons U .nil),bB,λ_ h=>h.sub (.cons _ aJ)⟩
   refine ZCy ?_
   exact Sk
  refine H7 ?_
  refine ZBI ?_
  refine oQ true U U ?_
  refine ZAm ?_
  refine RW (v:=(.int .u8 240)) (dE U U) U (M Z (show bI .u8 112 128=240 by decide)) (aH ?_)
  refine Pa ?_
  refine dK (σ:=Nat) [5,6,7,50,51,52,53,54,55,56,57,58,59,60] (λi=>[(5,.int .u8 (onV B i)),(50,.int .i64 i)]) (λ_=>[(b0,J (cBd B) 147)]) (λi=>i<=4) (λi=>4-i) 0 ?_ ?_ ?_ ?_
  ·exact aq _
  ·exact .cons Rw (.cons U .nil)
  ·exact λ_ h=>h
  rintro i y11 hi
  refine ZBV ?_
  refine KC (λq6 z6=>?_) (λq6 z6=>?_)
  ·refine aH ?_
   refine RY (Qe (l:=aM dD B.vs) (c:=dD (B.v i)) i U U U U U U I (Ku B.vs i Ti)) U (jT λb1=>?_)
   refine kR ?_
   refine ZBZ ?_
   refine W (aW U U (bT (v:= .bool (B.v i).on) aE U)) U (ZBI ?_)
   refine KC (λq7 z7=>?_) (λq7 z7=>?_)
   ·rcases(show i=0\/i=1\/i=2\/i=3 by omega)with rfl|rfl|rfl|rfl
    ·refine pY ?_
     refine RW (v:=(.int .u8 (onV B (0+1)))) (dE U U) U (M Z (qI B (n:=0) aD q7)) (ZA2 ?_)
     exact RW (v:=(.int .i64 ((0+1:Nat):Int))) U U (M _ (eU I)) Ts
    ·refine pY ?_
     refine RW (v:=(.int .u8 (onV B (1+1)))) (dE U U) U (M Z (qI B (n:=1) aD q7)) (ZA2 ?_)
     exact RW (v:=(.int .i64 ((1+1:Nat):Int))) U U (M _ (eU I)) Pu
    ·refine pY ?_
     refine RW (v:=(.int .u8 (onV B (2+1)))) (dE U U) U (M Z (qI B (n:=2) aD q7)) (ZA2 ?_)
     exact RW (v:=(.int .i64 ((2+1:Nat):Int))) U U (M _ (eU I)) Nu
    refine pY ?_
    refine RW (v:=(.int .u8 (onV B (3+1)))) (dE U U) U (M Z (qI B (n:=3) aD q7)) (ZA2 ?_)
    exact RW (v:=(.int .i64 ((3+1:Nat):Int))) U U (M _ (eU I)) Qt
   refine pT ?_
   exact⟨i+1,aR,aR,.cons (M Z (Tj B q7)) (.cons U .nil),bB,λ_ h=>h.sub (.cons _ aJ)⟩
  refine ZCy ?_
  exact Sk
 refine ZE1 ?_
 obtain⟨k,rfl⟩:∃k:Nat,n=k:=⟨n.toNat,aR⟩
 refine ZBV ?_
 refine KC (λq3 z3=>?_) (λq3 z3=>?_)
 ·refine ZBZ ?_
  refine RY (eB k U U U I I) U (W (aW U U (bT aE Qq)) U (ZA2 ?_))
  exact E0 U ⟨U,aCF⟩
 refine aH ?_
 refine KC (λq4 z4=>?_) (λq4 z4=>?_)
 ·refine ZBI ?_
  refine DR [4,5,6] (bQ [0,2,4,6,10,9,12,14,16]) ?_
  refine ZAm ?_
  refine DY U (eB k U U U I I) U (DL U U U (dQ aE Qq) U (ZBI ?_))
  refine DZ U (cZ K_ U (aS Tu)) U gV (DY U (Oo (l:=Bv.map Z) k U U U U U U I (gD (by show k<23;omega)) U) U (DW U (dE U U) U U (ZA2 ?_)))
  exact E0 U ⟨U,aFH⟩
 refine ZA2 ?_
 refine aO K_ (aS Tu) ?_
 refine ZBI ?_
 refine RY (Oo (l:=Bv.map Z) 22 U U U U U I I U U) U (ZBZ ?_)
 rcases hon9:B.on with _|_
 ·refine P7 ?_
  refine ZBI ?_
  refine oQ false U U ?_
  refine ZBV ?_
  refine Pa ?_
  refine dK (σ:=Nat) [5,6,7,50,51,52,53,54,55,56,57,58,59,60] (λi=>[(5,.int .u8 (onV B i)),(50,.int .i64 i)]) (λ_=>[(b0,J (cBd B) 147)]) (λi=>i<=4) (λi=>4-i) 0 ?_ ?_ ?_ ?_
  ·exact aq _
  ·exact .cons Rw (.cons U .nil)
  ·exact λ_ h=>h
  rintro i y11 hi
  refine ZBV ?_
  refine KC (λq5 z5=>?_) (λq5 z5=>?_)
  ·refine aH ?_
   refine RY (Qe (l:=aM dD B.vs) (c:=dD (B.v i)) i U U U U U U I (Ku B.vs i Ti)) U (jT λb1=>?_)
   refine kR ?_
   refine ZBZ ?_
   refine W (aW U U (bT (v:= .bool (B.v i).on) aE U)) U (ZBI ?_)
   refine KC (λq6 z6=>?_) (λq6 z6=>?_)
   ·rcases(show i=0\/i=1\/i=2\/i=3 by omega)with rfl|rfl|rfl|rfl
    ·refine pY ?_
     refine RW (v:=(.int .u8 (onV B (0+1)))) (dE U U) U (M Z (qI B (n:=0) aD q6)) (ZA2 ?_)
     exact RW (v:=(.int .i64 ((0+1:Nat):Int))) U U (M _ (eU I)) Ts
    ·refine pY ?_
     refine RW (v:=(.int .u8 (onV B (1+1)))) (dE U U) U (M Z (qI B (n:=1) aD q6)) (ZA2 ?_)
     exact RW (v:=(.int .i64 ((1+1:Nat):Int))) U U (M _ (eU I)) Pu
    ·refine pY ?_
     refine RW (v:=(.int .u8 (onV B (2+1)))) (dE U U) U (M Z (qI B (n:=2) aD q6)) (ZA2 ?_)
     exact RW (v:=(.int .i64 ((2+1:Nat):Int))) U U (M _ (eU I)) Nu
    refine pY ?_
    refine RW (v:=(.int .u8 (onV B (3+1)))) (dE U U) U (M Z (qI B (n:=3) aD q6)) (ZA2 ?_)
    exact RW (v:=(.int .i64 ((3+1:Nat):Int))) U U (M _ (eU I)) Qt
   refine pT ?_
   exact⟨i+1,aR,aR,.cons (M Z (Tj B q6)) (.cons U .nil),bB,λ_ h=>h.sub (.cons _ aJ)⟩
  refine ZCy ?_
  exact Sk
 refine H7 ?_
 refine ZBI ?_
 refine oQ true U U ?_
 refine ZAm ?_
 refine RW (v:=(.int .u8 240)) (dE U U) U (M Z (show bI .u8 112 128=240 by decide)) (aH ?_)
 refine Pa ?_
 refine dK (σ:=Nat) [5,6,7,50,51,52,53,54,55,56,57,58,59,60] (λi=>[(5,.int .u8 (onV B i)),(50,.int .i64 i)]) (λ_=>[(b0,J (cBd B) 147)]) (λi=>i<=4) (λi=>4-i) 0 ?_ ?_ ?_ ?_
 ·exact aq _
 ·exact .cons Rw (.cons U .nil)
 ·exact λ_ h=>h
 rintro i y11 hi
 refine ZBV ?_
 refine KC (λq5 z5=>?_) (λq5 z5=>?_)
 ·refine aH ?_
  refine RY (Qe (l:=aM dD B.vs) (c:=dD (B.v i)) i U U U U U U I (Ku B.vs i Ti)) U (jT λb1=>?_)
  refine kR ?_
  refine ZBZ ?_
  refine W (aW U U (bT (v:= .bool (B.v i).on) aE U)) U (ZBI ?_)
  refine KC (λq6 z6=>?_) (λq6 z6=>?_)
  ·rcases(show i=0\/i=1\/i=2\/i=3 by omega)with rfl|rfl|rfl|rfl
   ·refine pY ?_
    refine RW (v:=(.int .u8 (onV B (0+1)))) (dE U U) U (M Z (qI B (n:=0) aD q6)) (ZA2 ?_)
    exact RW (v:=(.int .i64 ((0+1:Nat):Int))) U U (M _ (eU I)) Ts
   ·refine pY ?_
    refine RW (v:=(.int .u8 (onV B (1+1)))) (dE U U) U (M Z (qI B (n:=1) aD q6)) (ZA2 ?_)
    exact RW (v:=(.int .i64 ((1+1:Nat):Int))) U U (M _ (eU I)) Pu
   ·refine pY ?_
    refine RW (v:=(.int .u8 (onV B (2+1)))) (dE U U) U (M Z (qI B (n:=2) aD q6)) (ZA2 ?_)
    exact RW (v:=(.int .i64 ((2+1:Nat):Int))) U U (M _ (eU I)) Nu
   refine pY ?_
   refine RW (v:=(.int .u8 (onV B (3+1)))) (dE U U) U (M Z (qI B (n:=3) aD q6)) (ZA2 ?_)
   exact RW (v:=(.int .i64 ((3+1:Nat):Int))) U U (M _ (eU I)) Qt
  refine pT ?_
  exact⟨i+1,aR,aR,.cons (M Z (Tj B q6)) (.cons U .nil),bB,λ_ h=>h.sub (.cons _ aJ)⟩
 refine ZCy ?_
 exact Sk
def J4(a:Int)(ha:0<=a/\a<65536)(w:AI):aG prog 115 [.int .u16 a] w [] (V_ (.bool (pictured a))):=by
 refine aT func115 ?_
 refine ZE1 ?_
 refine KL (λq0 z0=>?_) (λq0 z0=>?_)
 ·refine ZA2 ?_
  refine KL (λq1 z1=>?_) (λq1 z1=>?_)
  ·refine By ?_
   exact E0 U ⟨U,(M Value.bool Gs)⟩
  refine ZAm ?_
  refine KL (λq2 z2=>?_) (λq2 z2=>?_)
  ·refine ZBZ ?_
   refine KL (λq3 z3=>?_) (λq3 z3=>?_)
   ·refine jJ ?_
    exact E0 U ⟨U,(M Value.bool Gs)⟩
   refine ZAm ?_
   refine KL (λq4 z4=>?_) (λq4 z4=>?_)
   ·refine ZA2 ?_
    refine KL (λq5 z5=>?_) (λq5 z5=>?_)
    ·exact ZE6
    exact ZE6
   exact Zt
  refine ZCy ?_
  exact ZDM
 refine aH ?_
 refine KL (λq1 z1=>?_) (λq1 z1=>?_)
 ·refine ZBZ ?_
  refine KL (λq2 z2=>?_) (λq2 z2=>?_)
  ·refine jJ ?_
   exact E0 U ⟨U,(M Value.bool Gs)⟩
  refine ZAm ?_
  exact ZDM
 refine ZCy ?_
 refine KL (λq2 z2=>?_) (λq2 z2=>?_)
 ·refine ZA2 ?_
  refine KL (λq3 z3=>?_) (λq3 z3=>?_)
  ·exact ZE6
  exact ZE6
 exact Zt
def aRt(A:Ad)(acc:AH)(m:Mm)(h:m.Wf)(w:AI)(hm:aK w A.mb 0 (cMm A acc m))(hu:aK w A.ub 0 (cU m.u))(hr:aK w A.rb 0 (m.ram.map (.int .u8)))(ho:aK w A.ob 0 (m.rom.map (.int .u8)))(a:Int)(ha:0<=a/\a<65536):aG prog 117 [P_ A.mb,.int .u16 a] w [] (V_ (.int .u8 (yY a m))):=by
 have hl9:=h.lRam
 refine aT func117 ?_
 refine aH ?_
 rcases hc9:clockB m.bk with _|p
 ·refine ZBV ?_
  refine Lw ?_
  refine Uh ?_
  refine uS ?_
  refine ZBZ ?_
  rcases hat9:atB_ a m.bk with _|n
  ·refine ZBV ?_
   refine Lw ?_
   refine Nk ?_
   rw[hat9]
   refine iT ?_
   refine jN ?_
   refine ZE1 ?_
   exact E0 U ⟨U,(by unfold yY;rw[hc9];dsimp only;rw[hat9])⟩
  refine ZBV ?_
  refine Lw ?_
  refine Nk ?_
  rw[hat9]
  refine iT ?_
  refine iO ?_
  refine bW ?_
  refine W (aW U U (dN (hm _ _ (get_mid h.ln (j:=7) U)) aP)) U (ZA2 ?_)
  refine KC (λq0 z0=>?_) (λq0 z0=>?_)
  ·refine ZBV ?_
   have hn9:=O0 a hat9
   refine Yw ?_
   refine ZBI ?_
   refine ZE0 ?_
   refine pD ?_
   refine ZA2 ?_
   exact E0 U ⟨U,(by unfold yY;rw[hc9];dsimp only;rw[hat9];dsimp only;rw[ag I])⟩
  refine aH ?_
  have hn9:=O0 a hat9
  refine Yw ?_
  refine ZBI ?_
  refine ZE0 ?_
  refine ZA2 ?_
  exact E0 U ⟨U,(by unfold yY;rw[hc9];dsimp only;rw[hat9];dsimp only;rw[ae I])⟩
 refine ZBV ?_
 refine Lw ?_
 refine Uh ?_
 refine ZE1 ?_
 refine jN ?_
 refine ZE1 ?_
 refine W (bJ U U U (λw hw=>rowM_ck (bU hm aP w hw))) U (ZBI ?_)
 refine aO K_ (aS (aQh m.ck h.ck p)) ?_
 refine ZA2 ?_
 exact E0 U ⟨U,(by unfold yY;rw[hc9])⟩
def aMw(A:Ad)(acc:AH)(m:Mm)(h:m.Wf)(w:AI)(hm:aK w A.mb 0 (cMm A acc m))(hu:aK w A.ub 0 (cU m.u))(hr:aK w A.rb 0 (m.ram.map (.int .u8)))(ho:aK w A.ob 0 (m.rom.map (.int .u8)))(a:Int)(ha:65280<=a/\a<65536):aG prog 118 [P_ A.mb,.int .u16 a] w [] (V_ (.int .u8 (deviceM a m))):=by
 refine aT func118 ?_
 refine ZCy ?_
 refine eR ?_
 refine cL ?_
 refine KC (λq0 z0=>?_) (λq0 z0=>?_)
 ·refine aH ?_
  refine W (bJ U U U (λw hw=>N3 (bU hm aP w hw))) U (aO K_ (aS (aRG m.pd)) ?_)
  exact oK
 refine aH ?_
 refine KC (λq1 z1=>?_) (λq1 z1=>?_)
 ·refine aH ?_
  refine W (bJ U U U (λw hw=>Zh (bU hm aP w hw))) U (ZBI ?_)
  refine oE ?_
  refine aO K_ (aS (aJv m.pt h.pt _)) ?_
  exact oK
 refine ZBZ ?_
 refine KL (λq2 z2=>?_) (λq2 z2=>?_)
 ·refine ZBV ?_
  refine KC (λq3 z3=>?_) (λq3 z3=>?_)
  ·refine aH ?_
   refine W (bJ U U U (λw hw=>Xi (bU hm aP w hw))) U (ZBI ?_)
   refine oE ?_
   refine aO K_ (aS (aMr m.tm h.tm _)) ?_
   exact oK
  refine aH ?_
  refine KC (λq4 z4=>?_) (λq4 z4=>?_)
  ·refine aH ?_
   refine W (aW U U (dN (hm _ _ (get_mid h.ln (j:=0) U)) aP)) U (pD ?_)
   exact oK
  refine ZBZ ?_
  refine KL (λq5 z5=>?_) (λq5 z5=>?_)
  ·refine ZBV ?_
   refine KC (λq6 z6=>?_) (λq6 z6=>?_)
   ·refine aH ?_
    refine W (bJ U U Vt (λw hw=>rowM_bd (bU hm aP w hw))) U (ZBI ?_)
    refine oE ?_
    refine aO K_ (aS (aEy m.bd h.bd _)) ?_
    exact oK
   refine aH ?_
   refine KC (λq7 z7=>?_) (λq7 z7=>?_)
   ·refine ZCy ?_
    exact W (aW U U (λw hw=>Qo)) U oK
   refine aH ?_
   refine KC (λq8 z8=>?_) (λq8 z8=>?_)
   ·refine aH ?_
    exact W (aW U U (dN (hm _ _ (get_mid h.ln (j:=1) U)) aP)) U oK
   refine aH ?_
   refine KC (λq9 z9=>?_) (λq9 z9=>?_)
   ·refine ZBZ ?_
    refine RW (mM U U) U rL (ZAm ?_)
    exact RY (eB (a-65408).toNat U U U I I) U (W (aW U U (dN (by have q8:=hm _ _ (get_high h.ln (j:=(a-65408).toNat) I);rwa[<-ec]at q8) aP)) U oK)
   exact K1
  refine fG ?_
  refine KC (λq6 z6=>?_) (λq6 z6=>?_)
  ·refine ZCy ?_
   exact W (aW U U (λw hw=>Qo)) U oK
  refine aH ?_
  refine KC (λq7 z7=>?_) (λq7 z7=>?_)
  ·refine aH ?_
   exact W (aW U U (dN (hm _ _ (get_mid h.ln (j:=1) U)) aP)) U oK
  refine aH ?_
  exact ZFF
 refine fG ?_
 refine KC (λq3 z3=>?_) (λq3 z3=>?_)
 ·refine aH ?_
  refine W (aW U U (dN (hm _ _ (get_mid h.ln (j:=0) U)) aP)) U (pD ?_)
  exact oK
 refine ZBZ ?_
 refine KL (λq4 z4=>?_) (λq4 z4=>?_)
 ·refine ZBV ?_
  refine KC (λq5 z5=>?_) (λq5 z5=>?_)
  ·refine aH ?_
   refine W (bJ U U Vt (λw hw=>rowM_bd (bU hm aP w hw))) U (ZBI ?_)
   refine oE ?_
   refine aO K_ (aS (aEy m.bd h.bd _)) ?_
   exact oK
  refine aH ?_
  refine KC (λq6 z6=>?_) (λq6 z6=>?_)
  ·refine ZCy ?_
   exact W (aW U U (λw hw=>Qo)) U oK
  refine aH ?_
  refine KC (λq7 z7=>?_) (λq7 z7=>?_)
  ·refine aH ?_
   exact W (aW U U (dN (hm _ _ (get_mid h.ln (j:=1) U)) aP)) U oK
  refine aH ?_
  exact ZFF
 refine fG ?_
 refine KC (λq5 z5=>?_) (λq5 z5=>?_)
 ·refine ZCy ?_
  exact W (aW U U (λw hw=>Qo)) U oK
 refine aH ?_
 refine KC (λq6 z6=>?_) (λq6 z6=>?_)
 ·refine aH ?_
  exact W (aW U U (dN (hm _ _ (get_mid h.ln (j:=1) U)) aP)) U oK
 refine aH ?_
 refine KC (λq7 z7=>?_) (λq7 z7=>?_)
 ·refine ZBZ ?_
  refine RW (mM U U) U rL (ZAm ?_)
  exact RY (eB (a-65408).toNat U U U I I) U (W (aW U U (dN X4 aP)) U oK)
 exact K1
def C0(A:Ad)(acc:AH)(m:Mm)(h:m.Wf)(w:AI)(hm:aK w A.mb 0 (cMm A acc m))(hu:aK w A.ub 0 (cU m.u))(hr:aK w A.rb 0 (m.ram.map (.int .u8)))(ho:aK w A.ob 0 (m.rom.map (.int .u8)))(a:Int)(ha:0<=a/\a<65536):aG prog 65 [P_ A.mb,.int .u16 a] w [] (V_ (.int .u8 (qG a m))):=by
 have hrom:=aMN h ha
 refine aT func65 ?_
 refine bW ?_
 refine iO ?_
 refine bW ?_
 refine KC (λq0 z0=>?_) (λq0 z0=>?_)
 ·refine ZBI ?_
  refine DR [4,5,6,7,8,9,10] (bQ [0,2,4,6,8,10,12,14,16,18,21,22,24,26]) ?_
  refine ZA2 ?_
  refine DL U U U (gS (hm _ _ (get_mid h.ln (j:=4) U)) aP) U (ZBZ ?_)
  refine fZ U U U U (λw hw=>rowM_bk (Wz hm aP w hw)) U U ?_
  refine ZBI ?_
  refine DZ U (cZ K_ U (aS (aIM m.bk h.bk h.banks a ha))) U gV (DY U (eF (Cr a m.bk).toNat U U U I I) U (DL U U U (gS (ho _ _ (gD (j:=(Cr a m.bk).toNat) I)) aP) U (ZA2 ?_)))
  exact E0 U ⟨U,(by unfold qG;rw[ag I])⟩
 refine ZA2 ?_
 refine aO K_ (aS (J4 a ha)) ?_
 refine ZAm ?_
 refine KC (λq1 z1=>?_) (λq1 z1=>?_)
 ·refine ZBV ?_
  refine W (aW U U (dN (hm _ _ (get_mid h.ln (j:=14) U)) aP)) U (ZBI ?_)
  refine aO K_ (λw hw=>peek_fn A.ub m.u h.u.wf w (bU hu aP w hw) a ha) ?_
  refine ZA2 ?_
  exact E0 U ⟨U,(by unfold qG;rw[ae I,ag q1])⟩
 refine aH ?_
 refine KC (λq2 z2=>?_) (λq2 z2=>?_)
 ·refine ZBZ ?_
  refine aO K_ (λw hw=>aRt A acc m h w (bU hm aP w hw) (bU hu aP w hw) (bU hr aP w hw) (bU ho aP w hw) a ha) ?_
  refine ZA2 ?_
  exact E0 U ⟨U,(by unfold qG;rw[ae I,ae vG,ag I])⟩
 refine aH ?_
 refine KC (λq3 z3=>?_) (λq3 z3=>?_)
 ·refine ZBZ ?_
  refine qR ?_
  refine ZAm ?_
  refine RY (eB (a%8192).toNat U U U I I) U (W (aW U U (dN (by have h9:=hm _ _ (aAi h.ln (j:=(a%8192).toNat) I);rwa[<-ec]at h9) aP)) U (ZA2 ?_))
  exact E0 U ⟨U,(by unfold qG;rw[ae I,ae vG,ae I,ag I])⟩
 refine aH ?_
 refine KC (λq4 z4=>?_) (λq4 z4=>?_)
 ·refine ZBV ?_
  exact E0 U ⟨U,(by unfold qG;rw[ae I,ae vG,ae I,ae I,ag I])⟩
 refine ZBV ?_
 refine aO K_ (λw hw=>aMw A acc m h w (bU hm aP w hw) (bU hu aP w hw) (bU hr aP w hw) (bU ho aP w hw) a I) ?_
 refine ZA2 ?_
 exact E0 U ⟨U,(by unfold qG;rw[ae I,ae vG,ae I,ae I,ae I])⟩
def Tp(A:Ad)(acc:AH)(m:Mm)(h:dV m)(w:AI)(hm:aK w A.mb 0 (cMm A acc m)):aG prog 63 [P_ A.mb] w [] (V_ (.agg (cS m.cpu).toArray)):=by
 refine aT func63 ?_
 refine ZAm ?_
 refine lB λb0=>?_
 refine ZBV ?_
 refine iO ?_
 refine bW ?_
 refine W (bJ U U U (λw hw=>T3 (bU hm aP w hw))) U (qO ?_)
 exact aU (λw hw=>eL U U U (aI (b:=b0) aE w hw)) ⟨U,U⟩
def K0(A:Ad)(acc:AH)(m:Mm)(h:m.Wf)(w:AI)(hm:aK w A.mb 0 (cMm A acc m))(a:Int)(ha:0<=a/\a<65536):aG prog 71 [P_ A.mb,.int .u16 a] w [] (V_ (.int .i64 (if 32768<=a then 0 else bankB a m.bk))):=by
 refine aT func71 ?_
 refine uS ?_
 refine ZBV ?_
 refine KC (λq0 z0=>?_) (λq0 z0=>?_)
 ·refine ZBV ?_
  exact E0 U ⟨U,(M (Value.int .i64) Vl)⟩
 refine ZCy ?_
 refine Lw ?_
 refine ZBI ?_
 refine aO K_ (aS (aBM m.bk h.bk h.banks a ha)) ?_
 refine ZA2 ?_
 exact E0 U ⟨U,(M (Value.int .i64) Qn)⟩
def ask_fnM(A:Ad)(acc:AH)(m:Mm)(h:dV m)(k:Int)(is:Bool)(w:AI)(hst:St w [A.mb] [(A.mb,J (cMm A acc m) 156)] w):aG prog 122 [P_ A.mb,.int .u8 k,.bool is] w [A.mb] (λv H=>v= .tuple #[]/\H=[(A.mb,J (cMm A acc (askM k is m)) 156)]):=by
 refine cG func122 hst ?_
 refine ZBZ ?_
 refine KC (λq0 z0=>?_) (λq0 z0=>?_)
 ·refine ZBV ?_
  refine W (aW U U (bT aE (get_mid h (j:=0) U))) U (ZBI ?_)
  refine RY (dE U U) U (ZA2 ?_)
  refine W (bD (l':=cMm A acc {m with flags:=bI .u8 m.flags k}) 0 U U U U U U (by rw[cMm_len h];exact ah rfl) (Jc h _)) U (cX ?_)
  refine ZBI ?_
  exact EN aJ ⟨U,by rw[show askM k is m={m with flags:=bI .u8 m.flags k} from ag q0]⟩
 refine ZBI ?_
 exact EN aJ ⟨U,by rw[show askM k is m=m from ae (by rw[q0];decide)]⟩
set_option maxHeartbeats 4000000 in
def cycle_fn(A:Ad)(acc:AH)(m:Mm)(h:m.Wf)(w:AI)(hst:St w [A.mb,A.ub] [(A.mb,J (cMm A acc m) 156),(A.ub,J (cU m.u) 247)] w)(hr:aK w A.rb 0 (m.ram.map (.int .u8)))(ho:aK w A.ob 0 (m.rom.map (.int .u8)))(hd:A.rb∉[A.mb,A.ub]/\A.ob∉[A.mb,A.ub]):aG prog 279 [P_ A.mb] w [A.mb,A.ub] (λv H=>v= .tuple #[]/\H=[(A.mb,J (cMm A acc (cycleM m)) 156),(A.ub,J (cU (cycleM m).u) 247)]):=by
 have q0:=h.cyc1W
 have q1:=q0.cyc2W
 have q2:=q1.cyc3W
 have q3:=q2.cyc4W
 have q4:=q3.cyc5W
 have hA3:({ (cyc2 (cyc1 m))with cp:=tickCp (cyc2 (cyc1 m)).cp}:Mm).Wf:=q1.cp_ q1.cp.tick
 have hA0:dV ({m with cycles:=(m.cycles+1)%18446744073709551616}:Mm):=⟨h.ln.bd,h.ln.work,h.ln.high⟩
 have hA1:dV ({m with cycles:=(m.cycles+1)%18446744073709551616,tm:=vE m.tm}:Mm):=⟨h.ln.bd,h.ln.work,h.ln.high⟩
 have hr2:aK w A.rb 0 ((cyc2 (cyc1 m)).ram.map (.int .u8)):=by rw[aAT];exact hr
 have ho2:aK w A.ob 0 ((cyc2 (cyc1 m)).rom.map (.int .u8)):=by rw[aDY];exact ho
 have hA2:dV ({ (cyc1 m)with pt:=tickPt (cyc1 m).pt}:Mm):=⟨q0.ln.bd,q0.ln.work,q0.ln.high⟩
 have hA5:dV ({ (cyc4 (cyc3 (cyc2 (cyc1 m))))with u:=tickU (cyc4 (cyc3 (cyc2 (cyc1 m)))).u}:Mm):=⟨q3.ln.bd,q3.ln.work,q3.ln.high⟩
 have hA5b:dV (askM 1 (aQ .u8 (tickV (cyc4 (cyc3 (cyc2 (cyc1 m)))).u) 1 != 0) { (cyc4 (cyc3 (cyc2 (cyc1 m))))with u:=tickU (cyc4 (cyc3 (cyc2 (cyc1 m)))).u}):=((q3.u_ q3.u.tick).ask _ _).ln
 refine cG func279 hst ?_
 refine aH ?_
 refine W (aW U U (bT (v:= .int .u64 m.cycles) aE (get_mid h.ln (j:=3) U))) U (RW (nD U U) U aAy (ZA2 ?_))
 refine W (bD (l':=cMm A acc {m with cycles:=(m.cycles+1)%18446744073709551616}) 0 U U U U U U mU (Y3 h.ln _)) U (cX ?_)
 refine fG ?_
 refine W (bJ U U U (λw hw=>Xi (m:=({m with cycles:=(m.cycles+1)%18446744073709551616}:Mm)) (acc:=acc) (aI (b:=A.mb) aE w hw))) U (aO K_ (aS (aOY m.tm h.tm)) ?_)
 refine aH ?_
 refine W (bD (l':=cMm A acc {m with cycles:=(m.cycles+1)%18446744073709551616,tm:=vE m.tm}) 0 U U U U U U (by rw[cMm_len hA0];exact ah rfl) (aFe _)) U (sS ?_)
 refine RX (gZ (F:=[]) (A:=[(A.mb,J (cMm A acc {m with cycles:=(m.cycles+1)%18446744073709551616,tm:=vE m.tm}) 156)]) (G:=[(A.ub,J (cU m.u) 247)]) (R:=λv H=>v= .tuple #[]/\H=[(A.mb,J (cMm A acc (askM 4 m.tm.over {m with cycles:=(m.cycles+1)%18446744073709551616,tm:=vE m.tm})) 156)]) K_ U (λw hw _=>ask_fnM A acc {m with cycles:=(m.cycles+1)%18446744073709551616,tm:=vE m.tm} hA1 4 m.tm.over w hw)) U (jW ?_)
 refine ZAm ?_
 refine kO (L':=[(A.mb,J (cMm A acc (cyc1 m)) 156),(A.ub,J (cU (cyc1 m).u) 247)]) (λ_ h=>h.as (by rw[aGm];rfl)) ?_
 refine aH ?_
 refine W (bJ U U U (λw hw=>Zh (m:=(cyc1 m)) (acc:=acc) (aI (b:=A.mb) aE w hw))) U (aO K_ (aS (aNc (cyc1 m).pt q0.pt)) ?_)
 refine aH ?_
 refine W (bD (l':=cMm A acc { (cyc1 m)with pt:=tickPt (cyc1 m).pt}) 0 U U U U U U (by rw[cMm_len q0.ln];exact ah rfl) (aDS _)) U (sS ?_)
 refine RX (gZ (F:=[]) (A:=[(A.mb,J (cMm A acc { (cyc1 m)with pt:=tickPt (cyc1 m).pt}) 156)]) (G:=[(A.ub,J (cU (cyc1 m).u) 247)]) (R:=λv H=>v= .tuple #[]/\H=[(A.mb,J (cMm A acc (askM 8 (uO (cyc1 m).pt) { (cyc1 m)with pt:=tickPt (cyc1 m).pt})) 156)]) K_ U (λw hw _=>ask_fnM A acc { (cyc1 m)with pt:=tickPt (cyc1 m).pt} hA2 8 (uO (cyc1 m).pt) w hw)) U (jW ?_)
 refine ZAm ?_
 refine kO (L':=[(A.mb,J (cMm A acc (cyc2 (cyc1 m))) 156),(A.ub,J (cU (cyc2 (cyc1 m)).u) 247)]) (λ_ h=>h.as (by rw[aLe];rfl)) ?_
 refine ZBV ?_
 refine W (bJ U U U (λw hw=>rowM_cp (m:=(cyc2 (cyc1 m))) (acc:=acc) (aI (b:=A.mb) aE w hw))) U (aO K_ (aS (aLO (cyc2 (cyc1 m)).cp q1.cp)) ?_)
 refine ZBV ?_
 refine lB λb0=>?_
 refine W (bC (l':=cCp (tickCp (cyc2 (cyc1 m)).cp)) 0) U (cX ?_)
 refine ZCy ?_
 refine yK ?_
 refine ZA2 ?_
 refine W (bD (l':=cMm A acc { (cyc2 (cyc1 m))with cp:=tickCp (cyc2 (cyc1 m)).cp}) 1 U U U U U U (by rw[cMm_len q1.ln];exact ah rfl) (Kc _)) U (sS ?_)
 refine KC (λq0 z0=>?_) (λq0 z0=>?_)
 ·refine DR [4,5,6,7] (bQ [0,2,4,6,8,10,12,15,17]) ?_
  refine ZA2 ?_
  refine DL U U U (dQ (v:=P_ A.ub) aE (get_mid (m:=({ (cyc2 (cyc1 m))with cp:=tickCp (cyc2 (cyc1 m)).cp}:Mm)) hA3.ln (j:=14) U)) U (ZA2 ?_)
  refine DZ U (cZ K_ U (λw hw=>C0 A acc { (cyc2 (cyc1 m))with cp:=tickCp (cyc2 (cyc1 m)).cp} hA3 w (aI (b:=A.mb) aE w hw) (aI (b:=A.ub) aE w hw) (bU hr2 hd.1 w hw) (bU ho2 hd.2 w hw) _ (aLt _))) U gV (DX U (gZ (F:=[(b0,J (cCp (tickCp (cyc2 (cyc1 m)).cp)) 141),(A.mb,J (cMm A acc { (cyc2 (cyc1 m))with cp:=tickCp (cyc2 (cyc1 m)).cp}) 156)]) (A:=[(A.ub,J (cU (cyc2 (cyc1 m)).u) 247)]) (G:=[]) (R:=λv H=>v= .tuple #[]/\H=[(A.ub,J (cU (wC (cyc2 (cyc1 m)).u (Ci (cyc2 (cyc1 m)).cp) (qG (wI (cyc2 (cyc1 m)).cp) { (cyc2 (cyc1 m))with cp:=tickCp (cyc2 (cyc1 m)).cp}))) 247)]) K_ U (λw hw _=>aJN A.ub (cyc2 (cyc1 m)).u q1.u.wf w hw (Ci (cyc2 (cyc1 m)).cp) (qG (wI (cyc2 (cyc1 m)).cp) { (cyc2 (cyc1 m))with cp:=tickCp (cyc2 (cyc1 m)).cp}) (Ja hA3 _))) U aY (jW ?_))
  refine ZAm ?_
  refine kO (L':=[(b0,J (cCp (tickCp (cyc2 (cyc1 m)).cp)) 141),(A.mb,J (cMm A acc (cyc3 (cyc2 (cyc1 m)))) 156),(A.ub,J (cU (cyc3 (cyc2 (cyc1 m))).u) 247)]) (λ_ h=>h.as (by rw[aPD q0];rfl)) ?_
  refine aH ?_
  refine U9 ?_
  refine U8 ?_
  refine sS ?_
  refine ZAu ?_
  refine jW ?_
  refine aH ?_
  refine RW (v:=(.int .u8 (aQ .u8 (tickV (cyc4 (cyc3 (cyc2 (cyc1 m)))).u) 1))) (cM U U) U U (ZAi ?_)
  refine jW ?_
  refine ZBV ?_
  refine RW (v:=(.int .u8 (aQ .u8 (tickV (cyc4 (cyc3 (cyc2 (cyc1 m)))).u) 2))) (cM U U) U U (ZAY ?_)
  refine jW ?_
  refine ZCg ?_
  refine ZDe ?_
  refine ZBI ?_
  refine KC (λq1 z1=>?_) (λq1 z1=>?_)
  ·refine aH ?_
   refine Q5 ?_
   refine ZDN ?_
   refine cX ?_
   refine ZBI ?_
   exact EN (.cons _ aJ) ⟨U,by unfold cycleM;rw[show qU (cyc5 (cyc4 (cyc3 (cyc2 (cyc1 m)))))={ (cyc5 (cyc4 (cyc3 (cyc2 (cyc1 m)))))with ck:=tickCk (cyc5 (cyc4 (cyc3 (cyc2 (cyc1 m))))).ck} from ag q1]⟩
  refine ZBI ?_
  exact EN (.cons _ aJ) ⟨U,by unfold cycleM;rw[show qU (cyc5 (cyc4 (cyc3 (cyc2 (cyc1 m)))))=(cyc5 (cyc4 (cyc3 (cyc2 (cyc1 m)))))from ae vG]⟩
 refine ZAm ?_
 obtain⟨e8,e9⟩:=aOx q0
 refine kO (L':=[(b0,J (cCp (tickCp (cyc2 (cyc1 m)).cp)) 141),(A.mb,J (cMm A acc (cyc3 (cyc2 (cyc1 m)))) 156),(A.ub,J (cU (cyc3 (cyc2 (cyc1 m))).u) 247)]) (λ_ h=>h.as (by rw[e8];exact M (λz=>[(b0,J (cCp (tickCp (cyc2 (cyc1 m)).cp)) 141),(A.mb,J (cMm A acc z) 156),(A.ub,J (cU (cyc2 (cyc1 m)).u) 247)]) e9)) ?_
 refine aH ?_
 refine U9 ?_
 refine U8 ?_
 refine sS ?_
 refine ZAu ?_
 refine jW ?_
 refine aH ?_
 refine RW (v:=(.int .u8 (aQ .u8 (tickV (cyc4 (cyc3 (cyc2 (cyc1 m)))).u) 1))) (cM U U) U U (ZAi ?_)
 refine jW ?_
 refine ZBV ?_
 refine RW (v:=(.int .u8 (aQ .u8 (tickV (cyc4 (cyc3 (cyc2 (cyc1 m)))).u) 2))) (cM U U) U U (ZAY ?_)
 refine jW ?_
 refine ZCg ?_
 refine ZDe ?_
 refine ZBI ?_
 refine KC (λq2 z2=>?_) (λq2 z2=>?_)
 ·refine aH ?_
  refine Q5 ?_
  refine ZDN ?_
  refine cX ?_
  refine ZBI ?_
  exact EN (.cons _ aJ) ⟨U,by unfold cycleM;rw[show qU (cyc5 (cyc4 (cyc3 (cyc2 (cyc1 m)))))={ (cyc5 (cyc4 (cyc3 (cyc2 (cyc1 m)))))with ck:=tickCk (cyc5 (cyc4 (cyc3 (cyc2 (cyc1 m))))).ck} from ag q2]⟩
 refine ZBI ?_
 exact EN (.cons _ aJ) ⟨U,by unfold cycleM;rw[show qU (cyc5 (cyc4 (cyc3 (cyc2 (cyc1 m)))))=(cyc5 (cyc4 (cyc3 (cyc2 (cyc1 m)))))from ae (by rw[q2];decide)]⟩
def aMA(A:Ad)(acc:AH)(m:Mm)(h:m.Wf)(a x:Int)(ha:0<=a/\a<65536)(hx:0<=x/\x<256)(w:AI)(hst:St w [A.mb,A.ub,A.rb] [(A.mb,J (cMm A acc m) 156),(A.ub,J (cU m.u) 247),(A.rb,J (List.map Z m.ram++A.rs) 5)] w):aG prog 340 [P_ A.mb,.int .u16 a,.int .u8 x] w [A.mb,A.ub,A.rb] (λv H=>v= .tuple #[]/\H=[(A.mb,J (cMm A acc (nY a x m)) 156),(A.ub,J (cU (nY a x m).u) 247),(A.rb,J (List.map Z (nY a x m).ram++A.rs) 5)]):=by
 have hl9:=h.lRam
 refine cG func340 hst ?_
 refine ZAm ?_
 rcases hc9:clockB m.bk with _|p
 ·refine ZBV ?_
  refine Le ?_
  refine Uh ?_
  refine uS ?_
  refine ZBZ ?_
  rcases hat9:atB_ a m.bk with _|n
  ·refine ZBV ?_
   refine Le ?_
   refine Nk ?_
   rw[hat9]
   refine uS ?_
   refine ZA2 ?_
   exact EN aJ ⟨U,by unfold nY;rw[hc9];dsimp only;rw[hat9]⟩
  refine ZBV ?_
  refine Le ?_
  refine Nk ?_
  rw[hat9]
  refine ZE1 ?_
  refine jN ?_
  refine aH ?_
  have hn9:=O0 a hat9
  refine W (aW U U (bT (v:= .slice (Q_ A.rb) m.ram.length A.rc) aE (get_mid (m:=m) h.ln (j:=15) U))) U (ZAm ?_)
  refine RY (eF n.toNat U U U I I) U (W (bD (l':=List.map Z (m.ram.set n.toNat x)++A.rs) 2 U U U U U U (by rw[bX,eJ,au];omega) (by rw[bj,mQ (by rw[eJ,au];omega)];exact M (· ++A.rs) (vP .u8 I _))) U ?_)
  refine cX ?_
  refine ZBI ?_
  exact EN aJ ⟨U,by unfold nY;rw[hc9];dsimp only;rw[hat9];dsimp only;rw[aKy]⟩
 refine ZBV ?_
 refine Le ?_
 refine Uh ?_
 refine ZE1 ?_
 refine jN ?_
 refine bW ?_
 refine W (bJ U U U (λw hw=>rowM_ck (m:=m) (acc:=acc) (aI (b:=A.mb) aE w hw))) U (ZAm ?_)
 refine aO K_ (aS (aPc m.ck h.ck p x hx)) ?_
 refine ZA2 ?_
 refine W (bD (l':=cMm A acc {m with ck:=writeCk p x m.ck}) 0 U U U U U U mU (putM_ck _)) U (iI ?_)
 exact EN aJ ⟨U,by unfold nY;rw[hc9]⟩
def aGa(A:Ad)(acc:AH)(m:Mm)(h:m.Wf)(a x:Int)(ha:65280<=a/\a<65536)(hx:0<=x/\x<256)(w:AI)(hst:St w [A.mb] [(A.mb,J (cMm A acc m) 156)] w):aG prog 341 [P_ A.mb,.int .u16 a,.int .u8 x] w [A.mb] (λv H=>v= .tuple #[]/\H=[(A.mb,J (cMm A acc (setDeviceM a x m)) 156)]):=by
 have hP:dV ({m with pd:=rD x m.pd}:Mm):=⟨h.ln.bd,h.ln.work,h.ln.high⟩
 refine cG func341 hst ?_
 refine ZA2 ?_
 refine eR ?_
 refine bW ?_
 refine KC (λq0 z0=>?_) (λq0 z0=>?_)
 ·refine iT ?_
  refine W (bJ U U U (λw hw=>N3 (m:=m) (acc:=acc) (aI (b:=A.mb) aE w hw))) U (ZBI ?_)
  refine aO K_ (aS (aIB m.pd x)) ?_
  refine aH ?_
  refine W (bD (l':=cMm A acc {m with pd:=rD x m.pd}) 0 U U U U U U mU (T9 _)) U (cX ?_)
  refine ZBV ?_
  refine RX (gZ (F:=[]) (A:=[(A.mb,J (cMm A acc {m with pd:=rD x m.pd}) 156)]) (G:=[]) (R:=λv H=>v= .tuple #[]/\H=[(A.mb,J (cMm A acc (askM 16 (zD m.pd (rD x m.pd)) {m with pd:=rD x m.pd})) 156)]) K_ U (λw hw _=>ask_fnM A acc {m with pd:=rD x m.pd} hP 16 (zD m.pd (rD x m.pd)) w hw)) U (jW ?_)
  exact mT
 refine aH ?_
 refine KC (λq1 z1=>?_) (λq1 z1=>?_)
 ·refine aH ?_
  refine W (bJ U U U (λw hw=>Zh (m:=m) (acc:=acc) (aI (b:=A.mb) aE w hw))) U (ZBI ?_)
  refine oE ?_
  refine ZBI ?_
  refine aO K_ (aS (aJX m.pt h.pt _ x hx)) ?_
  refine ZA2 ?_
  refine W (bD (l':=cMm A acc {m with pt:=writePt (a-65281) x m.pt}) 0 U U U U U U mU (aDS _)) U (cX ?_)
  exact mT
 refine ZBZ ?_
 refine KL (λq2 z2=>?_) (λq2 z2=>?_)
 ·refine ZBV ?_
  refine KC (λq3 z3=>?_) (λq3 z3=>?_)
  ·refine aH ?_
   refine W (bJ U U U (λw hw=>Xi (m:=m) (acc:=acc) (aI (b:=A.mb) aE w hw))) U (ZBI ?_)
   refine oE ?_
   refine ZBI ?_
   refine aO K_ (aS (aIE m.tm h.tm _ x hx)) ?_
   refine ZA2 ?_
   refine W (bD (l':=cMm A acc {m with tm:=writeTm (a-65284) x m.tm}) 0 U U U U U U mU (aFe _)) U (cX ?_)
   exact mT
  refine aH ?_
  refine KC (λq4 z4=>?_) (λq4 z4=>?_)
  ·refine ZA2 ?_
   refine RW (v:=(.int .u8 (aQ .u8 x 31))) (cM U U) U U (ZA2 ?_)
   refine W (bD (l':=cMm A acc {m with flags:=aQ .u8 x 31}) 0 U U U U U U mU (Jc h.ln _)) U (cX ?_)
   exact mT
  refine ZBZ ?_
  refine KL (λq5 z5=>?_) (λq5 z5=>?_)
  ·refine ZBV ?_
   refine KC (λq6 z6=>?_) (λq6 z6=>?_)
   ·refine aH ?_
    refine W (bJ U U Vt (λw hw=>rowM_bd (m:=m) (acc:=acc) (aI (b:=A.mb) aE w hw))) U (ZBI ?_)
    refine oE ?_
    refine ZBI ?_
    refine aO K_ (aS (aDX m.bd h.bd _ x hx)) ?_
    refine ZA2 ?_
    refine W (bD (l':=cMm A acc {m with bd:=writeBd (a-65296) x m.bd}) 0 U U U aAO (ones_cBd _) U aC1 (putM_bd h.ln (h.bd.write (a-65296) hx).ln)) U (cX ?_)
    exact mT
   refine aH ?_
   refine KC (λq7 z7=>?_) (λq7 z7=>?_)
   ·refine aH ?_
    refine W (bJ U U U (λw hw=>rowM_cp (m:=m) (acc:=acc) (aI (b:=A.mb) aE w hw))) U (ZBI ?_)
    refine aO K_ (aS (Vx m.cp x)) ?_
    refine ZA2 ?_
    refine W (bD (l':=cMm A acc {m with cp:=Ep x}) 0 U U U U U U mU (Kc _)) U (cX ?_)
    exact mT
   refine aH ?_
   refine KC (λq8 z8=>?_) (λq8 z8=>?_)
   ·refine aH ?_
    refine W (bD (l':=cMm A acc {m with lets:=x}) 0 U U U U U U mU (Lz h.ln _)) U (cX ?_)
    exact mT
   refine aH ?_
   refine KC (λq9 z9=>?_) (λq9 z9=>?_)
   ·refine ZA2 ?_
    refine RW (mM U U) U rL (ZA2 ?_)
    refine RY (eB (a-65408).toNat U U U I I) U (W (bD (l':=cMm A acc {m with high:=m.high.set (a-65408).toNat x}) 0 U U U U U U Vj (putM_high h.ln I _)) U (cX ?_))
    exact mT
   exact mT
  refine fG ?_
  refine KC (λq6 z6=>?_) (λq6 z6=>?_)
  ·refine aH ?_
   refine W (bJ U U U (λw hw=>rowM_cp (m:=m) (acc:=acc) (aI (b:=A.mb) aE w hw))) U (ZBI ?_)
   refine aO K_ (aS (Vx m.cp x)) ?_
   refine ZA2 ?_
   refine W (bD (l':=cMm A acc {m with cp:=Ep x}) 0 U U U U U U mU (Kc _)) U (cX ?_)
   exact mT
  refine aH ?_
  refine KC (λq7 z7=>?_) (λq7 z7=>?_)
  ·refine aH ?_
   refine W (bD (l':=cMm A acc {m with lets:=x}) 0 U U U U U U mU (Lz h.ln _)) U (cX ?_)
   exact mT
  refine aH ?_
  exact ZBc
 refine fG ?_
 refine KC (λq3 z3=>?_) (λq3 z3=>?_)
 ·refine ZA2 ?_
  refine RW (v:=(.int .u8 (aQ .u8 x 31))) (cM U U) U U (ZA2 ?_)
  refine W (bD (l':=cMm A acc {m with flags:=aQ .u8 x 31}) 0 U U U U U U mU (Jc h.ln _)) U (cX ?_)
  exact mT
 refine ZBZ ?_
 refine KL (λq4 z4=>?_) (λq4 z4=>?_)
 ·refine ZBV ?_
  refine KC (λq5 z5=>?_) (λq5 z5=>?_)
  ·refine aH ?_
   refine W (bJ U U Vt (λw hw=>rowM_bd (m:=m) (acc:=acc) (aI (b:=A.mb) aE w hw))) U (ZBI ?_)
   refine oE ?_
   refine ZBI ?_
   refine aO K_ (aS (aDX m.bd h.bd _ x hx)) ?_
   refine ZA2 ?_
   refine W (bD (l':=cMm A acc {m with bd:=writeBd (a-65296) x m.bd}) 0 U U U aAO (ones_cBd _) U aC1 (putM_bd h.ln (h.bd.write (a-65296) hx).ln)) U (cX ?_)
   exact mT
  refine aH ?_
  refine KC (λq6 z6=>?_) (λq6 z6=>?_)
  ·refine aH ?_
   refine W (bJ U U U (λw hw=>rowM_cp (m:=m) (acc:=acc) (aI (b:=A.mb) aE w hw))) U (ZBI ?_)
   refine aO K_ (aS (Vx m.cp x)) ?_
   refine ZA2 ?_
   refine W (bD (l':=cMm A acc {m with cp:=Ep x}) 0 U U U U U U mU (Kc _)) U (cX ?_)
   exact mT
  refine aH ?_
  refine KC (λq7 z7=>?_) (λq7 z7=>?_)
  ·refine aH ?_
   refine W (bD (l':=cMm A acc {m with lets:=x}) 0 U U U U U U mU (Lz h.ln _)) U (cX ?_)
   exact mT
  refine aH ?_
  exact ZBc
 refine fG ?_
 refine KC (λq5 z5=>?_) (λq5 z5=>?_)
 ·refine aH ?_
  refine W (bJ U U U (λw hw=>rowM_cp (m:=m) (acc:=acc) (aI (b:=A.mb) aE w hw))) U (ZBI ?_)
  refine aO K_ (aS (Vx m.cp x)) ?_
  refine ZA2 ?_
  refine W (bD (l':=cMm A acc {m with cp:=Ep x}) 0 U U U U U U mU (Kc _)) U (cX ?_)
  exact mT
 refine aH ?_
 refine KC (λq6 z6=>?_) (λq6 z6=>?_)
 ·refine aH ?_
  refine W (bD (l':=cMm A acc {m with lets:=x}) 0 U U U U U U mU (Lz h.ln _)) U (cX ?_)
  exact mT
 refine aH ?_
 refine KC (λq7 z7=>?_) (λq7 z7=>?_)
 ·refine ZA2 ?_
  refine RW (mM U U) U rL (ZA2 ?_)
  refine RY (eB (a-65408).toNat U U U I I) U (W (bD (l':=cMm A acc {m with high:=m.high.set (a-65408).toNat x}) 0 U U U U U U Vj (putM_high h.ln I _)) U (cX ?_))
  exact mT
 exact mT
def aOf(A:Ad)(acc:AH)(m:Mm)(h:m.Wf)(a x:Int)(ha:0<=a/\a<65536)(hx:0<=x/\x<256)(w:AI)(hst:St w [A.mb,A.ub,A.rb] [(A.mb,J (cMm A acc m) 156),(A.ub,J (cU m.u) 247),(A.rb,J (List.map Z m.ram++A.rs) 5)] w):aG prog 329 [P_ A.mb,.int .u16 a,.int .u8 x] w [A.mb,A.ub,A.rb] (λv H=>v= .tuple #[]/\H=[(A.mb,J (cMm A acc (pokeM a x m)) 156),(A.ub,J (cU (pokeM a x m).u) 247),(A.rb,J (List.map Z (pokeM a x m).ram++A.rs) 5)]):=by
 have hB1:dV ({m with bk:=writeB a x m.bk}:Mm):=⟨h.ln.bd,h.ln.work,h.ln.high⟩
 have hU1:dV ({m with u:=lF m.u a x}:Mm):=⟨h.ln.bd,h.ln.work,h.ln.high⟩
 refine cG func329 hst ?_
 refine ZCy ?_
 refine KC (λq0 z0=>?_) (λq0 z0=>?_)
 ·refine iT ?_
  refine Le ?_
  refine ZAm ?_
  refine aO K_ (aS (aFR m.bk h.bk a x ha hx)) ?_
  refine aH ?_
  refine W (bD (l':=cMm A acc {m with bk:=writeB a x m.bk}) 0 U U U U U U mU (Q3 _)) U (sS ?_)
  refine KC (λq1 z1=>?_) (λq1 z1=>?_)
  ·refine aH ?_
   refine W (bJ U U U (λw hw=>rowM_ck (m:=({m with bk:=writeB a x m.bk}:Mm)) (acc:=acc) (aI (b:=A.mb) aE w hw))) U (aO K_ (aS (aMg m.ck h.ck)) ?_)
   refine ZA2 ?_
   refine W (bD (l':=cMm A acc {m with bk:=writeB a x m.bk,ck:=Bx m.ck}) 0 U U U U U U (by rw[cMm_len hB1];exact ah rfl) (putM_ck _)) U (cX ?_)
   refine ZBI ?_
   exact EN aJ ⟨U,by rw[show pokeM a x m={m with bk:=writeB a x m.bk,ck:=Bx m.ck} from by unfold pokeM;rw[ag I];unfold wQ;rw[ag q1]]⟩
  refine ZBI ?_
  exact EN aJ ⟨U,by rw[show pokeM a x m={m with bk:=writeB a x m.bk} from by unfold pokeM;rw[ag I];unfold wQ;rw[ae vG]]⟩
 refine ZA2 ?_
 refine aO K_ (aS (J4 a ha)) ?_
 refine ZAm ?_
 refine KC (λq1 z1=>?_) (λq1 z1=>?_)
 ·refine ZBV ?_
  refine W (aW U U (bT (v:=P_ A.ub) aE (get_mid (m:=m) h.ln (j:=14) U))) U (ZAm ?_)
  refine RX (gZ (F:=[(A.mb,J (cMm A acc m) 156)]) (A:=[(A.ub,J (cU m.u) 247)]) (G:=[(A.rb,J (List.map Z m.ram++A.rs) 5)]) (R:=λv H=>v= .int .u8 (rJ m.u a x)/\H=[(A.ub,J (cU (lF m.u a x)) 247)]) K_ U (λw hw _=>aI6 A.ub m.u h.u.wf w hw a x ha hx)) U (Pp ?_)
  refine RW (v:=(.int .u8 (aQ .u8 (rJ m.u a x) 2))) (cM U U) U U (ZBI ?_)
  refine RX (gZ (F:=[]) (A:=[(A.mb,J (cMm A acc {m with u:=lF m.u a x}) 156)]) (G:=[(A.ub,J (cU (lF m.u a x)) 247),(A.rb,J (List.map Z m.ram++A.rs) 5)]) (R:=λv H=>v= .tuple #[]/\H=[(A.mb,J (cMm A acc (askM 2 (aQ .u8 (rJ m.u a x) 2 != 0) {m with u:=lF m.u a x})) 156)]) K_ U (λw hw _=>ask_fnM A acc {m with u:=lF m.u a x} hU1 2 (aQ .u8 (rJ m.u a x) 2 != 0) w hw)) U (Pp ?_)
  refine ZBI ?_
  exact EN aJ ⟨U,by rw[show pokeM a x m=askM 2 (aQ .u8 (rJ m.u a x) 2 != 0) {m with u:=lF m.u a x} from by unfold pokeM;rw[ae I,ag q1]];rw[Di,Eh]⟩
 refine aH ?_
 refine KC (λq2 z2=>?_) (λq2 z2=>?_)
 ·refine ZBZ ?_
  refine RX (gZ (F:=[]) (A:=[(A.mb,J (cMm A acc m) 156),(A.ub,J (cU m.u) 247),(A.rb,J (List.map Z m.ram++A.rs) 5)]) (G:=[]) (R:=λv H=>v= .tuple #[]/\H=[(A.mb,J (cMm A acc (nY a x m)) 156),(A.ub,J (cU (nY a x m).u) 247),(A.rb,J (List.map Z (nY a x m).ram++A.rs) 5)]) K_ U (Fe (aMA A acc m h a x ha hx))) U (Pp ?_)
  refine ZBI ?_
  exact EN aJ ⟨U,by rw[show pokeM a x m=nY a x m from by unfold pokeM;rw[ae I,ae vG,ag I]]⟩
 refine aH ?_
 refine KC (λq3 z3=>?_) (λq3 z3=>?_)
 ·refine ZA2 ?_
  refine qR ?_
  refine ZA2 ?_
  refine RY (eB (a%8192).toNat U U U I I) U (W (bD (l':=cMm A acc {m with work:=m.work.set (a%8192).toNat x}) 0 U U U U U U Vj (aLr h.ln I _)) U (cX ?_))
  refine ZBI ?_
  exact EN aJ ⟨U,by rw[show pokeM a x m={m with work:=m.work.set (a%8192).toNat x} from by unfold pokeM;rw[ae I,ae vG,ae I,ag I]]⟩
 refine aH ?_
 refine KC (λq4 z4=>?_) (λq4 z4=>?_)
 ·refine ZBZ ?_
  refine RX (gZ (F:=[]) (A:=[(A.mb,J (cMm A acc m) 156)]) (G:=[(A.ub,J (cU m.u) 247),(A.rb,J (List.map Z m.ram++A.rs) 5)]) (R:=λv H=>v= .tuple #[]/\H=[(A.mb,J (cMm A acc (setDeviceM a x m)) 156)]) K_ U (Fe (aGa A acc m h a x I hx))) U (Pp ?_)
  refine ZBI ?_
  exact EN aJ ⟨U,by rw[show pokeM a x m=setDeviceM a x m from by unfold pokeM;rw[ae I,ae vG,ae I,ae I,ae I]];rw[aPi,aGO]⟩
 refine ZBI ?_
 exact EN aJ ⟨U,by rw[show pokeM a x m=m from by unfold pokeM;rw[ae I,ae vG,ae I,ae I,ag I]]⟩
def note_fn(A:Ad)(m:Mm)(hl:dV m)(hm9:m.acc.length+1<=1000000)(va:AH)(Ga R:aF)(hV:bS 298 3 va m.acc.length (aM cAc m.acc) Ga)(k a x:Int)(w:AI)(hst:St w ((Ga++(A.mb,J (cMm A va m) 156)::R).map (·.1)) (Ga++(A.mb,J (cMm A va m) 156)::R) w):aG prog 319 [.agg #[P_ A.mb],.int .i64 k,.int .u16 a,.int .u8 x] w ((Ga++(A.mb,J (cMm A va m) 156)::R).map (·.1)) (λv H=>v= .int .u8 x/\∃va' Ga',bS 298 3 va' (m.acc.length+1) (aM cAc (m.acc++[⟨k,a,x⟩])) Ga'/\H=Ga'++(A.mb,J (cMm A va' m) 156)::R):=by
 obtain⟨a9,c0,rfl⟩:=hV.slice
 refine cG func319 hst ?_
 refine ZAm ?_
 refine zU λb0=>?_
 refine ZA2 ?_
 refine nH [(b0,J [P_ A.mb] 268),(A.mb,J (cMm A (.slice a9 m.acc.length c0) m) 156)] [2,3,4,5,6,7,8,9,10,11,12] (.step true 0 (.step true 1 (.step true 2 (.step true 3 (.step true 4 (.step true 5 (.step true 6 (.step true 7 (.step true 8 (.step true 9 (.step true 10 (.step false 11 (.step false 12 (.step true 13 (.step true 14 (.step false 15 .done)))))))))))))))) U aN aN (λx hx=>uY) ?_
 refine aH ?_
 refine DL U U U (dQ (v:= .slice a9 m.acc.length c0) aE (Z6 hl)) U (ZA2 ?_)
 refine ZEA ?_
 refine DX U (fY (z:=[.int .i64 0,.int .u16 0,.int .u8 0]) (l:=cAc ⟨k,a,x⟩) (ps:=[(0,.agg (cAc ⟨k,a,x⟩).toArray)]) U U U U U U) U aBG ?_
 rintro _ _ ⟨b1,rfl,rfl⟩
 refine DX U (lZ (A:=[(b1,_),(b0,_)]) (G:=Ga) (R:=(A.mb,_)::R) (v:= .slice a9 m.acc.length c0) (n:=m.acc.length) (xs:=aM cAc m.acc) (m:=1) (T:=298) (s:=3) (by_:=16) (ys:=cAc ⟨k,a,x⟩) U U U U hV (λw hw=> .row _ _ _ _ _ U (aI (b:=b1) (.head _) w hw)) U I I) U (by intro _ _ _ hK;obtain⟨G9,hV9,_,rfl⟩:=hK;exact(λx hx=>uY)) ?_
 rintro v0 _ ⟨G0,hV0,_,rfl⟩
 obtain⟨b2,cp9,sp0,rfl,rfl,hc0,hle9,hm9⟩:=hV0.full I
 refine sH ?_
 refine DZ U (bD (l':=cMm A (.slice (Q_ b2) (m.acc.length+1) cp9) m) 3 U U U U U U (by rw[cMm_len hl];exact ah rfl) (J1 hl _)) U aY (jL ?_)
 refine ZCy ?_
 exact EV U (.cons_cons _ (.cons _ (.cons _ aJ))) ⟨U,_,_,hV0.as U (xH _ _).symm,U⟩
def seen_fn(A:Ad)(acc:AH)(m:Mm)(h:m.Wf)(a:Int)(ha:0<=a/\a<65536)(w:AI)(hst:St w [A.mb,A.ub] [(A.mb,J (cMm A acc m) 156),(A.ub,J (cU m.u) 247)] w)(hr:aK w A.rb 0 (m.ram.map (.int .u8)))(ho:aK w A.ob 0 (m.rom.map (.int .u8)))(hd:A.rb∉[A.mb,A.ub]/\A.ob∉[A.mb,A.ub]):aG prog 320 [.agg #[P_ A.mb],.int .u16 a] w [A.mb,A.ub] (λv H=>v= .int .u8 (seenM a (cycleM m))/\H=[(A.mb,J (cMm A acc (cycleM m)) 156),(A.ub,J (cU (cycleM m).u) 247)]):=by
 have hc:=h.cycle
 have hr2:aK w A.rb 0 ((cycleM m).ram.map (.int .u8)):=by rw[cycleM_ram];exact hr
 have ho2:aK w A.ob 0 ((cycleM m).rom.map (.int .u8)):=by rw[cycleM_rom];exact ho
 refine cG func320 hst ?_
 refine ZAm ?_
 refine zU λb0=>?_
 refine aH ?_
 refine RX (gZ (F:=[(b0,J [P_ A.mb] 268)]) (A:=[(A.mb,J (cMm A acc m) 156),(A.ub,J (cU m.u) 247)]) (G:=[]) (R:=λv H=>v= .tuple #[]/\H=[(A.mb,J (cMm A acc (cycleM m)) 156),(A.ub,J (cU (cycleM m).u) 247)]) K_ U (λw hw hw2=>cycle_fn A acc m h w hw (bU hr hd.1 w hw2) (bU ho hd.2 w hw2) hd)) U (jW ?_)
 refine cL ?_
 refine W (bJ U U U (λw hw=>rowM_cp (m:=(cycleM m)) (acc:=acc) (aI (b:=A.mb) aE w hw))) U (ZBI ?_)
 refine aO K_ (aS (aBa (cycleM m).cp hc.cp a)) ?_
 refine ZA2 ?_
 refine KC (λq0 z0=>?_) (λq0 z0=>?_)
 ·refine ZBV ?_
  exact EV U (.cons _ aJ) ⟨M Z (by unfold seenM;rw[ag (by simpa using q0)]),U⟩
 refine ZA2 ?_
 refine aO K_ (aS (J4 a ha)) ?_
 refine ZAm ?_
 refine KC (λq1 z1=>?_) (λq1 z1=>?_)
 ·refine aH ?_
  refine W (aW U U (bT (v:=P_ A.ub) aE (get_mid (m:=(cycleM m)) hc.ln (j:=14) U))) U (ZBI ?_)
  refine aO K_ (λw hw=>aGJ A.ub (cycleM m).u hc.u.wf w (aI (b:=A.ub) aE w hw) a ha) ?_
  refine ZA2 ?_
  exact EV U (.cons _ aJ) ⟨M Z (by unfold seenM;rw[ae aAA,ag q1]),U⟩
 refine aH ?_
 refine aO K_ (λw hw=>C0 A acc (cycleM m) hc w (aI (b:=A.mb) aE w hw) (aI (b:=A.ub) aE w hw) (bU hr2 hd.1 w hw) (bU ho2 hd.2 w hw) a ha) ?_
 refine ZA2 ?_
 exact EV U (.cons _ aJ) ⟨M Z (by unfold seenM;rw[ae aAA,ae vG]),U⟩
def aRg{n:Nat}(A:Ad)(hd:A.rb∉[A.mb,A.ub]/\A.ob∉[A.mb,A.ub])(m:Mm)(hm:iS (n+1) m)(H:aF)(hr:tL A m H)(a:Int)(ha:0<=a/\a<65536)(w:AI)(hst:St w (H.map (·.1)) H w):aG prog 314 [.agg #[P_ A.mb],.int .u16 a] w (H.map (·.1)) (λv H'=>v= .int .u8 (fE.fetch a m).1/\tL A (fE.fetch a m).2 H'):=by
 obtain⟨va,Ga,hV,rfl⟩:=hr
 have h:=hm.wf
 have hroom:=hm.room
 have hc:=h.cycle
 refine Pk λhVc hrc=>?_
 refine cG func314 hst ?_
 refine ZAm ?_
 refine zU λb0=>?_
 refine ZA2 ?_
 refine ZCo ?_
 refine ZBI ?_
 refine fZ U U U U O6 U U ?_
 refine ZA5 ?_
 refine jW ?_
 refine DX U (cB (F:=[(b0,_)]) (A:=Ga++(A.mb,J (cMm A va (cycleM m)) 156)::[(A.ub,J (cU (cycleM m).u) 247),(A.rb,J (List.map Z m.ram++A.rs) 5),(A.ob,J (List.map Z m.rom++A.sp) 5)]) (R:=λv H=>v= .int .u8 (seenM a (cycleM m))/\∃va' Ga',bS 298 3 va' ((cycleM m).acc.length+1) (aM cAc ((cycleM m).acc++[⟨3,a,(seenM a (cycleM m))⟩])) Ga'/\H=Ga'++(A.mb,J (cMm A va' (cycleM m)) 156)::[(A.ub,J (cU (cycleM m).u) 247),(A.rb,J (List.map Z m.ram++A.rs) 5),(A.ob,J (List.map Z m.rom++A.sp) 5)]) K_ U (dG (note_fn A (cycleM m) hc.ln hrc va Ga _ hVc 3 a (seenM a (cycleM m))))) U aFv ?_
 rintro _ _ ⟨_,⟨rfl,va',Ga',hV',rfl⟩,rfl⟩
 refine ZA2 ?_
 exact EV U (.cons _ aJ) ⟨U,va',Ga',hV'.as Ys U,B9⟩
def aQg{n:Nat}(A:Ad)(hd:A.rb∉[A.mb,A.ub]/\A.ob∉[A.mb,A.ub])(m:Mm)(hm:iS (n+1) m)(H:aF)(hr:tL A m H)(a:Int)(ha:0<=a/\a<65536)(w:AI)(hst:St w (H.map (·.1)) H w):aG prog 317 [.agg #[P_ A.mb],.int .u16 a] w (H.map (·.1)) (λv H'=>v= .int .u8 (fE.read a m).1/\tL A (fE.read a m).2 H'):=by
 obtain⟨va,Ga,hV,rfl⟩:=hr
 have h:=hm.wf
 have hroom:=hm.room
 have hc:=h.cycle
 refine Pk λhVc hrc=>?_
 refine cG func317 hst ?_
 refine ZAm ?_
 refine zU λb0=>?_
 refine ZA2 ?_
 refine ZCo ?_
 refine ZBI ?_
 refine fZ U U U U O6 U U ?_
 refine ZA5 ?_
 refine jW ?_
 refine DX U (cB (F:=[(b0,_)]) (A:=Ga++(A.mb,J (cMm A va (cycleM m)) 156)::[(A.ub,J (cU (cycleM m).u) 247),(A.rb,J (List.map Z m.ram++A.rs) 5),(A.ob,J (List.map Z m.rom++A.sp) 5)]) (R:=λv H=>v= .int .u8 (seenM a (cycleM m))/\∃va' Ga',bS 298 3 va' ((cycleM m).acc.length+1) (aM cAc ((cycleM m).acc++[⟨1,a,(seenM a (cycleM m))⟩])) Ga'/\H=Ga'++(A.mb,J (cMm A va' (cycleM m)) 156)::[(A.ub,J (cU (cycleM m).u) 247),(A.rb,J (List.map Z m.ram++A.rs) 5),(A.ob,J (List.map Z m.rom++A.sp) 5)]) K_ U (dG (note_fn A (cycleM m) hc.ln hrc va Ga _ hVc 1 a (seenM a (cycleM m))))) U aFv ?_
 rintro _ _ ⟨_,⟨rfl,va',Ga',hV',rfl⟩,rfl⟩
 refine ZA2 ?_
 exact EV U (.cons _ aJ) ⟨U,va',Ga',hV'.as Ys U,B9⟩
def aM9{n:Nat}(A:Ad)(hd:A.rb∉[A.mb,A.ub]/\A.ob∉[A.mb,A.ub])(m:Mm)(hm:iS (n+1) m)(H:aF)(hr:tL A m H)(w:AI)(hst:St w (H.map (·.1)) H w):aG prog 315 [.agg #[P_ A.mb]] w (H.map (·.1)) (λv H'=>v= .tuple #[]/\tL A (fE.idle m) H'):=by
 obtain⟨va,Ga,hV,rfl⟩:=hr
 have h:=hm.wf
 have hroom:=hm.room
 have hc:=h.cycle
 refine Pk λhVc hrc=>?_
 refine cG func315 hst ?_
 refine ZAm ?_
 refine zU λb0=>?_
 refine ZA9 ?_
 refine jW ?_
 refine ZAm ?_
 refine W (bJ U U U C2) U (RX (cB (F:=[(b0,_)]) (A:=Ga++(A.mb,J (cMm A va (cycleM m)) 156)::[(A.ub,J (cU (cycleM m).u) 247),(A.rb,J (List.map Z m.ram++A.rs) 5),(A.ob,J (List.map Z m.rom++A.sp) 5)]) (R:=λv H=>v= .int .u8 0/\∃va' Ga',bS 298 3 va' ((cycleM m).acc.length+1) (aM cAc ((cycleM m).acc++[⟨0,0,0⟩])) Ga'/\H=Ga'++(A.mb,J (cMm A va' (cycleM m)) 156)::[(A.ub,J (cU (cycleM m).u) 247),(A.rb,J (List.map Z m.ram++A.rs) 5),(A.ob,J (List.map Z m.rom++A.sp) 5)]) K_ U (dG (note_fn A (cycleM m) hc.ln hrc va Ga _ hVc 0 0 0))) U ?_)
 rintro _ _ ⟨_,⟨rfl,va',Ga',hV',rfl⟩,rfl⟩
 refine ZBI ?_
 exact EN (.cons _ aJ) ⟨U,va',Ga',hV'.as Ys U,B9⟩
def aRH{n:Nat}(A:Ad)(hd:A.rb∉[A.mb,A.ub]/\A.ob∉[A.mb,A.ub])(m:Mm)(hm:iS n m)(H:aF)(hr:tL A m H)(w:AI)(hst:St w (H.map (·.1)) H w):aG prog 316 [.agg #[P_ A.mb]] w (H.map (·.1)) (λv H'=>v= .int .u8 (fE.pend m)/\H'=H):=by
 obtain⟨va,Ga,hV,rfl⟩:=hr
 have h:=hm.wf
 refine cG func316 hst ?_
 refine ZAm ?_
 refine zU λb0=>?_
 refine ZA2 ?_
 refine DR [6,7,8,9,10,11] (bQ [0,2,4,6,8,10,12,14,16,18,20,22,24,26,28]) ?_
 refine ZBV ?_
 refine DL U U U (dQ (v:= .int .u8 m.flags) aE (get_mid h.ln (j:=0) U)) U (ZBV ?_)
 refine DL U U U (dQ (v:= .int .u8 m.lets) aE (get_mid h.ln (j:=1) U)) U (DW (v:=(.int .u8 (aQ .u8 m.flags m.lets))) U (cM U U) U U (DW (v:=(.int .u8 (fE.pend m))) U (cM U U) U U (ZA2 ?_)))
 exact EV U (.cons _ aJ) ⟨U,U⟩
def aHX{n:Nat}(A:Ad)(hd:A.rb∉[A.mb,A.ub]/\A.ob∉[A.mb,A.ub])(m:Mm)(hm:iS n m)(H:aF)(hr:tL A m H)(k:Int)(hk:0<=k/\k<5)(w:AI)(hst:St w (H.map (·.1)) H w):aG prog 313 [.agg #[P_ A.mb],.int .i64 k] w (H.map (·.1)) (λv H'=>v= .tuple #[]/\tL A (fE.ack k m) H'):=by
 obtain⟨va,Ga,hV,rfl⟩:=hr
 have h:=hm.wf
 refine cG func313 hst ?_
 refine ZBI ?_
 refine kO (λw hw=>hw.perm bf) ?_
 refine ZAa ?_
 refine ZBI ?_
 refine zU λb0=>?_
 refine ZBI ?_
 refine DR [6,7] (bQ [0,2,4,6,8,10,12,14,16,18,20,22,25]) ?_
 refine ZBV ?_
 refine DL U U U (dQ (v:= .int .u8 m.flags) aE (get_mid h.ln (j:=0) U)) U (ZBI ?_)
 refine DW (v:=(.int .u8 (shl .u8 1 k))) U (iK U U hk.1) U U (DW (v:=(.int .u8 (tU m.flags k))) U (zS U U) U (M _ (aBR h.flags I)) (ZA2 ?_))
 refine DZ U (bD (l':=cMm A va {m with flags:=tU m.flags k}) 1 U U U U U U mU (Jc h.ln _)) U aY (xA ?_)
 exact lN (λ_ _=>pJ) (λw hw=>(hw.sub (.cons _ aJ)).perm (bf (l₁:=[(A.mb,_),(A.ub,_),(A.rb,_),(A.ob,_)]))) ⟨U,va,Ga,hV,U⟩
def aP1{n:Nat}(A:Ad)(hd:A.rb∉[A.mb,A.ub]/\A.ob∉[A.mb,A.ub])(m:Mm)(hm:iS (n+1) m)(H:aF)(hr:tL A m H)(a x:Int)(ha:0<=a/\a<65536)(hx:0<=x/\x<256)(w:AI)(hst:St w (H.map (·.1)) H w):aG prog 318 [.agg #[P_ A.mb],.int .u16 a,.int .u8 x] w (H.map (·.1)) (λv H'=>v= .tuple #[]/\tL A (fE.write a x m) H'):=by
 obtain⟨va,Ga,hV,rfl⟩:=hr
 have h:=hm.wf
 have hroom:=hm.room
 have hc:=h.cycle
 refine Pk λhVc hrc=>?_
 refine cG func318 hst ?_
 refine ZAm ?_
 refine zU λb0=>?_
 refine ZA9 ?_
 refine jW ?_
 refine ZA2 ?_
 refine kO (L':=(b0,J [P_ A.mb] 268)::(Ga++[(A.mb,J (cMm A va (cycleM m)) 156),(A.ub,J (cU (cycleM m).u) 247),(A.rb,J (List.map Z (cycleM m).ram++A.rs) 5),(A.ob,J (List.map Z (cycleM m).rom++A.sp) 5)])) (λ_ h=>h.as (by rw[cycleM_ram,cycleM_rom])) ?_
 refine aH ?_
 refine W (bJ U U U (λw hw=>rowM_cp (m:=(cycleM m)) (acc:=va) (aI (b:=A.mb) aE w hw))) U (ZBI ?_)
 refine aO K_ (aS (aBa (cycleM m).cp hc.cp a)) ?_
 refine ZBI ?_
 refine KC (λq0 z0=>?_) (λq0 z0=>?_)
 ·refine ZBV ?_
  refine RX (gZ (F:=(b0,_)::Ga) (A:=[(A.mb,J (cMm A va (cycleM m)) 156),(A.ub,J (cU (cycleM m).u) 247),(A.rb,J (List.map Z (cycleM m).ram++A.rs) 5)]) (G:=[(A.ob,J (List.map Z (cycleM m).rom++A.sp) 5)]) (R:=λv H=>v= .tuple #[]/\H=[(A.mb,J (cMm A va (pokeM a x (cycleM m))) 156),(A.ub,J (cU (pokeM a x (cycleM m)).u) 247),(A.rb,J (List.map Z (pokeM a x (cycleM m)).ram++A.rs) 5)]) K_ U (Fe (aOf A va (cycleM m) hc a x ha hx))) U (jW ?_)
  refine ZAm ?_
  refine W (bJ U U U C2) U (ZAm ?_)
  have hVs:bS 298 3 va (pokeM a x (cycleM m)).acc.length (aM cAc (pokeM a x (cycleM m)).acc) Ga:=by rw[Rm,cycleM_acc];exact hV
  have hrs:(pokeM a x (cycleM m)).acc.length+1<=1000000:=by rw[Rm,cycleM_acc];omega
  refine RX (cB (F:=[(b0,_)]) (A:=Ga++(A.mb,J (cMm A va (pokeM a x (cycleM m))) 156)::[(A.ub,J (cU (pokeM a x (cycleM m)).u) 247),(A.rb,J (List.map Z (pokeM a x (cycleM m)).ram++A.rs) 5),(A.ob,J (List.map Z (cycleM m).rom++A.sp) 5)]) (R:=λv H=>v= .int .u8 x/\∃va' Ga',bS 298 3 va' ((pokeM a x (cycleM m)).acc.length+1) (aM cAc ((pokeM a x (cycleM m)).acc++[⟨2,a,x⟩])) Ga'/\H=Ga'++(A.mb,J (cMm A va' (pokeM a x (cycleM m))) 156)::[(A.ub,J (cU (pokeM a x (cycleM m)).u) 247),(A.rb,J (List.map Z (pokeM a x (cycleM m)).ram++A.rs) 5),(A.ob,J (List.map Z (cycleM m).rom++A.sp) 5)]) K_ U (dG (note_fn A (pokeM a x (cycleM m)) (hc.poke a hx).ln hrs va Ga _ hVs 2 a x))) U ?_
  rintro _ _ ⟨_,⟨rfl,va',Ga',hV',rfl⟩,rfl⟩
  refine ZBI ?_
  have e9:(if letsCp (cycleM m).cp a=true then pokeM a x (cycleM m)else(cycleM m))=(pokeM a x (cycleM m)):=ag q0
  exact EN (.cons _ aJ) ⟨U,va',Ga',aAF,by unfold fE;dsimp only;rw[e9];show _=_++[_,_,_,(A.ob,J (List.map Z (pokeM a x (cycleM m)).rom++A.sp) 5)];rw[aRo];rfl⟩
 refine ZAm ?_
 refine W (bJ U U U C2) U (ZAm ?_)
 have hVs:bS 298 3 va (cycleM m).acc.length (aM cAc (cycleM m).acc) Ga:=by rw[cycleM_acc];exact hV
 have hrs:(cycleM m).acc.length+1<=1000000:=by rw[cycleM_acc];omega
 refine RX (cB (F:=[(b0,_)]) (A:=Ga++(A.mb,J (cMm A va (cycleM m)) 156)::[(A.ub,J (cU (cycleM m).u) 247),(A.rb,J (List.map Z (cycleM m).ram++A.rs) 5),(A.ob,J (List.map Z (cycleM m).rom++A.sp) 5)]) (R:=λv H=>v= .int .u8 x/\∃va' Ga',bS 298 3 va' ((cycleM m).acc.length+1) (aM cAc ((cycleM m).acc++[⟨2,a,x⟩])) Ga'/\H=Ga'++(A.mb,J (cMm A va' (cycleM m)) 156)::[(A.ub,J (cU (cycleM m).u) 247),(A.rb,J (List.map Z (cycleM m).ram++A.rs) 5),(A.ob,J (List.map Z (cycleM m).rom++A.sp) 5)]) K_ U (dG (note_fn A (cycleM m) hc.ln hrs va Ga _ hVs 2 a x))) U ?_
 rintro _ _ ⟨_,⟨rfl,va',Ga',hV',rfl⟩,rfl⟩
 refine ZBI ?_
 have e9:(if letsCp (cycleM m).cp a=true then pokeM a x (cycleM m)else(cycleM m))=(cycleM m):=ae (by rw[q0];decide)
 exact EN (.cons _ aJ) ⟨U,va',Ga',aAF,by unfold fE;dsimp only;rw[e9];rfl⟩
def flagA_fn(x:Int)(b:Bool)(w:AI):aG prog 246 [.int .u8 x,.bool b] w [] (V_ (.int .u8 (fg x b))):=by
 refine aT func246 ?_
 refine bW ?_
 refine KC (λq0 z0=>?_) (λq0 z0=>?_)
 ·refine aH ?_
  exact E0 U ⟨U,(by rw[show b=true from q0];rfl)⟩
 refine aH ?_
 exact E0 U ⟨U,(by rw[show b=false from q0];rfl)⟩
def zero_fn(x:Int)(w:AI):aG prog 245 [.int .u8 x] w [] (V_ (.int .u8 (fg 128 (x==0)))):=by
 refine aT func245 ?_
 refine ZE1 ?_
 refine aO K_ (aS (flagA_fn 128 _)) ?_
 exact fD
def aBi(b:Bool)(w:AI):aG prog 262 [.bool b] w [] (V_ (.int .u8 (iV b))):=by
 refine aT func262 ?_
 refine ZCy ?_
 refine aO K_ (aS (flagA_fn 1 _)) ?_
 exact fD
def Ru(a b:Int)(c:Bool)(ha:0<=a/\a<256)(hb:0<=b/\b<256)(w:AI):aG prog 240 [.int .u8 a,.int .u8 b,.bool c] w [] (V_ (.tuple #[.int .u8 (rQ a b c),.int .u8 (Au a b c)])):=by
 have hc:=Mo c
 refine aT func240 ?_
 refine ZE1 ?_
 refine aO K_ (aS (aBi c)) ?_
 refine aH ?_
 refine sL ?_
 refine ZBI ?_
 refine sL ?_
 refine aH ?_
 refine Rd ?_
 refine sK ?_
 refine ZBI ?_
 refine sK ?_
 refine sL ?_
 refine ZBI ?_
 refine sL ?_
 refine Gt ?_
 refine pD ?_
 refine rH ?_
 refine rH ?_
 refine gY ?_
 refine rH ?_
 refine gY ?_
 refine ZBI ?_
 refine aO K_ (aS (flagA_fn 16 _)) ?_
 refine pN ?_
 have e1:((a+b)%256+iV c)%256=rQ a b c:=by unfold rQ;omega
 rw[e1,Wv]
 exact aU (λ_ _=>nJ U U) ⟨U,U⟩
def aFh(a b:Int)(c:Bool)(ha:0<=a/\a<256)(hb:0<=b/\b<256)(w:AI):aG prog 241 [.int .u8 a,.int .u8 b,.bool c] w [] (V_ (.tuple #[.int .u8 (rT a b c),.int .u8 (tP a b c)])):=by
 have hc:=Mo c
 refine aT func241 ?_
 refine ZE1 ?_
 refine aO K_ (aS (aBi c)) ?_
 refine aH ?_
 refine RW (mM U U) U vO (ZBI ?_)
 refine RW (mM U U) U vO (aH ?_)
 refine ZEs ?_
 refine pD ?_
 refine ZBI ?_
 refine sK ?_
 refine ZBI ?_
 refine sK ?_
 refine ZBI ?_
 refine sL ?_
 refine Gt ?_
 refine pD ?_
 refine rH ?_
 refine rH ?_
 refine rH ?_
 refine gY ?_
 refine ZBI ?_
 refine aO K_ (aS (flagA_fn 16 _)) ?_
 refine pN ?_
 have e1:((a-b)%256-iV c)%256=rT a b c:=by unfold rT;omega
 rw[e1,aBr]
 exact aU (λ_ _=>nJ U U) ⟨U,U⟩
def aNa(a b:Int)(ha:0<=a/\a<256)(hb:0<=b/\b<256)(w:AI):aG prog 242 [.int .u8 a,.int .u8 b] w [] (V_ (.tuple #[.int .u8 (aQ .u8 a b),.int .u8 (tA 0 (aQ .u8 a b))])):=by
 refine aT func242 ?_
 refine bW ?_
 refine RW (cM U U) U U (ZAm ?_)
 refine RW (cM U U) U U (ZEs ?_)
 refine pN ?_
 rw[aI1]
 exact aU (λ_ _=>nJ U U) ⟨U,U⟩
def aMy(a b:Int)(ha:0<=a/\a<256)(hb:0<=b/\b<256)(w:AI):aG prog 244 [.int .u8 a,.int .u8 b] w [] (V_ (.tuple #[.int .u8 (bI .u8 a b),.int .u8 (tA 1 (bI .u8 a b))])):=by
 refine aT func244 ?_
 refine bW ?_
 refine pD ?_
 refine ZAm ?_
 refine pD ?_
 refine ZEs ?_
 refine ZBZ ?_
 rw[V3]
 exact aU (λ_ _=>nJ U U) ⟨U,U⟩
def aH9(a b:Int)(ha:0<=a/\a<256)(hb:0<=b/\b<256)(w:AI):aG prog 243 [.int .u8 a,.int .u8 b] w [] (V_ (.tuple #[.int .u8 (lK .u8 a b),.int .u8 (tA 2 (lK .u8 a b))])):=by
 refine aT func243 ?_
 refine bW ?_
 refine RW (Rs U U) U U (ZAm ?_)
 refine RW (Rs U U) U U (ZEs ?_)
 refine ZBZ ?_
 rw[V3]
 exact aU (λ_ _=>nJ U U) ⟨U,U⟩
def aIO(a f:Int)(ha:0<=a/\a<256)(hf:0<=f/\f<256)(w:AI):aG prog 212 [.int .u8 a,.int .u8 f] w [] (V_ (.tuple #[.int .u8 (zN a),.int .u8 (Pb a f)])):=by
 refine aT func212 ?_
 refine ZE1 ?_
 refine sL ?_
 refine aH ?_
 refine Rd ?_
 refine sK ?_
 refine Gt ?_
 refine pD ?_
 refine ZBI ?_
 refine RW (cM U U) U L0 (pN ?_)
 rw[K4,Wv]
 exact aU (λ_ _=>nJ U U) ⟨U,U⟩
def aHa(a f:Int)(ha:0<=a/\a<256)(hf:0<=f/\f<256)(w:AI):aG prog 213 [.int .u8 a,.int .u8 f] w [] (V_ (.tuple #[.int .u8 (Av a),.int .u8 (Oi a f)])):=by
 refine aT func213 ?_
 refine ZE1 ?_
 refine RW (mM U U) U vO (aH ?_)
 refine ZEs ?_
 refine pD ?_
 refine ZBI ?_
 refine sK ?_
 refine Gt ?_
 refine pD ?_
 refine ZBI ?_
 refine RW (cM U U) U L0 (pN ?_)
 rw[K4,aBr]
 exact aU (λ_ _=>nJ U U) ⟨U,U⟩
def aRK(a b f:Int)(ha:0<=a/\a<65536)(hb:0<=b/\b<65536)(hf:0<=f/\f<256)(w:AI):aG prog 220 [.int .u16 a,.int .u16 b,.int .u8 f] w [] (V_ (.tuple #[.int .u16 (zP a b),.int .u8 (Hf a b f)])):=by
 refine aT func220 ?_
 refine bW ?_
 refine RW (nD U U) U rL (ZBI ?_)
 refine Ej ?_
 refine ZBI ?_
 refine RW (cM U U) U aBv (ZBI ?_)
 refine RW (cM U U) U aBv (RW (nD U U) U rL (Gt ?_))
 refine pD ?_
 refine rH ?_
 refine rH ?_
 refine gY ?_
 refine ZBI ?_
 refine aO K_ (aS (flagA_fn 16 _)) ?_
 refine pN ?_
 rw[aQe hf,aQk]
 exact aU (λ_ _=>nJ U U) ⟨U,U⟩
def aBk(a e:Int)(ha:0<=a/\a<65536)(he:0<=e/\e<256)(w:AI):aG prog 221 [.int .u16 a,.int .u8 e] w [] (V_ (.tuple #[.int .u16 (rK a e),.int .u8 (wM a e)])):=by
 refine aT func221 ?_
 refine ZE1 ?_
 refine RW (v:=(.int .u8 (a%256))) U U (M _ (nW _)) (aH ?_)
 refine RW (v:=(.int .i8 (s8 e))) (gF U U U) U (M _ (aGy he)) (RW (v:=(.int .u16 (s8 e%65536))) (gF U U U) U (M _ (qC _)) (RW (nD U U) U rL (ZBI ?_)))
 refine sK ?_
 refine ZBI ?_
 refine sK ?_
 refine sL ?_
 refine Gt ?_
 refine rH ?_
 refine rH ?_
 refine gY ?_
 refine ZBI ?_
 refine aO K_ (aS (flagA_fn 16 _)) ?_
 refine pN ?_
 have e1:(a+s8 e%65536)%65536=rK a e:=by unfold rK;omega
 rw[e1,aOZ,show a%256%16=a%16 by omega]
 exact aU (λ_ _=>nJ U U) ⟨U,U⟩
def aGb(n a f:Int)(ha:0<=a/\a<256)(hf:0<=f/\f<256)(w:AI):aG prog 216 [.int .i64 n,.int .u8 a,.int .u8 f] w [] (V_ (.int .u8 (Se n a f))):=by
 refine aT func216 ?_
 refine ZBV ?_
 have hs:=aOt n ha
 refine ZA2 ?_
 refine RW (v:=(.int .i64 (n%8))) (cM U U) U (M _ (Y6 n)) (RW (v:=(.int .u8 (a/2^(n%8).toNat))) (jB U U I) U (M _ (aPp I)) (RW (cM U U) U Eo (ZEs ?_)))
 refine pD ?_
 refine ZBI ?_
 refine RW (cM U U) U L0 (pD ?_)
 refine ZA2 ?_
 rw[K4,aGe]
 exact E0 U ⟨U,U⟩
def aIk(a:Int)(ha:0<=a/\a<256)(w:AI):aG prog 247 [.int .u8 a,.int .i64 1] w [] (V_ (.int .u8 (a*2%256+a/128))):=by
 refine aT func247 ?_
 refine ZCy ?_
 refine RW (v:=(.int .u64 1)) U U U (RW (v:=(.int .u64 1)) (cM U U) U (M _ aD) (aH ?_))
 refine RW (v:=(.int .u8 (shl .u8 a 1))) (iK U U aD) U U (ZAm ?_)
 refine RW (v:=(.int .u64 7)) (mM U U) U (M _ aD) (RW (v:=(.int .u8 (shr .u8 a 7))) (jB U U aD) U U (pD ?_))
 refine ZA2 ?_
 rw[aNX ha]
 exact E0 U ⟨U,U⟩
def aI7(a:Int)(ha:0<=a/\a<256)(w:AI):aG prog 247 [.int .u8 a,.int .i64 4] w [] (V_ (.int .u8 (a%16*16+a/16))):=by
 refine aT func247 ?_
 refine ZCy ?_
 refine RW (v:=(.int .u64 4)) U U U (RW (v:=(.int .u64 4)) (cM U U) U (M _ aD) (aH ?_))
 refine RW (v:=(.int .u8 (shl .u8 a 4))) (iK U U aD) U U (ZAm ?_)
 refine RW (v:=(.int .u64 4)) (mM U U) U (M _ aD) (RW (v:=(.int .u8 (shr .u8 a 4))) (jB U U aD) U U (pD ?_))
 refine ZA2 ?_
 rw[aKM ha]
 exact E0 U ⟨U,U⟩
def aJj(a f:Int)(ha:0<=a/\a<256)(hf:0<=f/\f<256)(w:AI):aG prog 217 [.int .u8 a,.int .u8 f] w [] (V_ (.tuple #[.int .u8 (tY a f),.int .u8 (Sz a f)])):=by
 refine aT func217 ?_
 refine fG ?_
 refine RW (v:=(.int .u8 (aQ .u8 f 64))) U U U (RW (v:=(.bool (nF f))) U U (M _ (aOL hf)) (ZBV ?_))
 refine RW (v:=(.int .u8 (fg 16 (cF f)))) U U (M _ (aEV hf)) (ZAm ?_)
 refine mJ (σ:=Unit) [6,14,15,16,17,18,19,20,21,22,23,24,25,26,27] (λ_=>[(6,.int .u8 (fg 6 (daaL a f)))]) (λ_=>[]) (λ_=>True) ?_ ?_
 ·refine ZA2 ?_
  refine RW (v:=(.int .u8 (aQ .u8 f 32))) U U U (RW (v:=(.bool (hF f))) U U (M _ (aMk hf)) (KL (λq0 z0=>?_) (λq0 z0=>?_)))
  ·refine fG ?_
   refine RW (v:=(.int .u8 6)) (dE U U) U (M _ aD) (ZAm ?_)
   exact⟨(),trivial,.cons (M Z Ot) (.nil),bB,λ_ h=>h⟩
  refine ZAm ?_
  refine KL (λq1 z1=>?_) (λq1 z1=>?_)
  ·refine ZBI ?_
   refine sK ?_
   refine ZBZ ?_
   refine KC (λq2 z2=>?_) (λq2 z2=>?_)
   ·refine ZAm ?_
    refine RW (v:=(.int .u8 6)) (dE U U) U (M _ aD) (ZAm ?_)
    exact⟨(),trivial,.cons (M Z Ot) (.nil),bB,λ_ h=>h⟩
   refine ZBI ?_
   exact⟨(),trivial,.cons (M Z Ot) (.nil),bB,λ_ h=>h⟩
  refine ZE1 ?_
  exact⟨(),trivial,.cons (M Z Ot) (.nil),bB,λ_ h=>h⟩
 rintro _ y4 _
 refine mJ (σ:=Unit) [6,28,29,30,31,32,33,34,35,36,37,38,39,8] (λ_=>[(6,.int .u8 (daaB a f)),(8,.int .u8 (fg 16 (daaC a f)))]) (λ_=>[]) (λ_=>True) ?_ ?_
 ·refine ZA2 ?_
  refine RW (v:=(.bool (cF f))) U U (M _ (aGY _)) (KL (λq0 z0=>?_) (λq0 z0=>?_))
  ·refine fG ?_
   exact T4
  refine ZAm ?_
  refine KL (λq1 z1=>?_) (λq1 z1=>?_)
  ·refine ZBV ?_
   refine KC (λq2 z2=>?_) (λq2 z2=>?_)
   ·refine ZA2 ?_
    exact T4
   refine ZBI ?_
   exact⟨(),trivial,.cons (M Z L7) (.cons (M Z I1) (.nil)),bB,λ_ h=>h⟩
  refine ZCy ?_
  exact⟨(),trivial,.cons (M Z L7) (.cons (M Z I1) (.nil)),bB,λ_ h=>h⟩
 rintro _ y6 _
 refine mJ (σ:=Unit) [4,40,41,42,43,44,45,46] (λ_=>[(4,.int .u8 (tY a f))]) (λ_=>[]) (λ_=>True) ?_ ?_
 ·refine ZBZ ?_
  refine sL ?_
  refine aH ?_
  refine KC (λq0 z0=>?_) (λq0 z0=>?_)
  ·refine ZA2 ?_
   refine RW (mM U U) U vO (ZAm ?_)
   exact⟨(),trivial,.cons (M Z (by unfold tY;simp_all)) (.nil),bB,λ_ h=>h⟩
  refine ZBI ?_
  exact⟨(),trivial,.cons (M Z (by unfold tY;simp_all)) (.nil),bB,λ_ h=>h⟩
 rintro _ y10 _
 refine ZBZ ?_
 refine Rd ?_
 refine RW (cM U U) U J5 (pD ?_)
 refine ZBI ?_
 refine pN ?_
 rw[aNm,aGN]
 exact aU (λ_ _=>nJ U U) ⟨U,U⟩
def aCs(k a f:Int)(ha:0<=a/\a<256)(hf:0<=f/\f<256)(w:AI):aG prog 215 [.int .i64 k,.int .u8 a,.int .u8 f] w [] (V_ (.tuple #[.int .u8 (gQ k a f),.int .u8 (mN k a f)])):=by
 have hb:=Mo (cF f)
 refine aT func215 ?_
 refine ZE1 ?_
 refine RW (v:=(.int .u8 (fg 16 (cF f)))) U U (M _ (aEV hf)) (RW (v:=(.int .u8 (iV (cF f)))) (jB U U aD) U (M _ (aJA _)) (ZBV ?_))
 refine RW (jB U U aD) U (qM 128 aD aD) (ZBI ?_)
 refine RW (cM U U) U Eo (fG ?_)
 refine RW (v:=(.int .i64 (k%8))) (cM U U) U (M _ (Y6 k)) (V4 ?_)
 refine KC (λq0 z0=>?_) (λq0 z0=>?_)
 ·refine ZBZ ?_
  refine aO K_ (aS (aIk a ha)) ?_
  refine ZCy ?_
  refine zB ?_
  refine pN ?_
  have hk:k%8=0:=by omega
  have hr:gQ k a f=a*2%256+a/128:=by unfold gQ;rw[hk];rfl
  refine F9 λho=>?_
  have e9:Value.tuple #[.int .u8 (a*2%256+a/128),.int .u8 (fl ((a*2%256+a/128)==0) false false (a/128==1))]= .tuple #[.int .u8 (gQ k a f),.int .u8 (mN k a f)]:=by unfold mN;rw[hr,ho]
  exact aU (λ_ _=>nJ U U) ⟨U,e9⟩
 refine ZCy ?_
 refine KC (λq1 z1=>?_) (λq1 z1=>?_)
 ·refine ZBZ ?_
  refine RW (iK U U aD) U J8 (ZBI ?_)
  refine RW (v:=(.int .u8 (a*2%256+iV (cF f)))) (dE U U) U (M _ (aF3 ha _)) (ZCy ?_)
  refine zB ?_
  refine pN ?_
  have hk:k%8=2:=by omega
  have hr:gQ k a f=a*2%256+iV (cF f):=by unfold gQ;rw[hk];rfl
  refine F9 λho=>?_
  have e9:Value.tuple #[.int .u8 (a*2%256+iV (cF f)),.int .u8 (fl ((a*2%256+iV (cF f))==0) false false (a/128==1))]= .tuple #[.int .u8 (gQ k a f),.int .u8 (mN k a f)]:=by unfold mN;rw[hr,ho]
  exact aU (λ_ _=>nJ U U) ⟨U,e9⟩
 refine ZCy ?_
 refine KC (λq2 z2=>?_) (λq2 z2=>?_)
 ·refine ZBZ ?_
  refine RW (iK U U aD) U J8 (ZCy ?_)
  refine zB ?_
  refine pN ?_
  have hk:k%8=4:=by omega
  have hr:gQ k a f=a*2%256:=by unfold gQ;rw[hk];rfl
  refine F9 λho=>?_
  have e9:Value.tuple #[.int .u8 (a*2%256),.int .u8 (fl ((a*2%256)==0) false false (a/128==1))]= .tuple #[.int .u8 (gQ k a f),.int .u8 (mN k a f)]:=by unfold mN;rw[hr,ho]
  exact aU (λ_ _=>nJ U U) ⟨U,e9⟩
 refine ZCy ?_
 refine KC (λq3 z3=>?_) (λq3 z3=>?_)
 ·refine ZBZ ?_
  refine aO K_ (aS (aI7 a ha)) ?_
  refine ZE1 ?_
  refine zB ?_
  refine pN ?_
  have hk:k%8=6:=by omega
  have hr:gQ k a f=a%16*16+a/16:=by unfold gQ;rw[hk];rfl
  have ho:turnO k a=((0:Int)==1):=by unfold turnO;rw[hk];rfl
  rw[x16 (x:=0) I,or_zc]
  have e9:Value.tuple #[.int .u8 (a%16*16+a/16),.int .u8 (fl ((a%16*16+a/16)==0) false false ((0:Int)==1))]= .tuple #[.int .u8 (gQ k a f),.int .u8 (mN k a f)]:=by unfold mN;rw[hr,ho]
  exact aU (λ_ _=>nJ U U) ⟨U,e9⟩
 refine ZCy ?_
 refine KC (λq4 z4=>?_) (λq4 z4=>?_)
 ·refine ZE1 ?_
  refine Kp ?_
  refine ZBI ?_
  refine RW (iK U U aD) U aEA (RW (v:=(.int .u8 (a/2+a%2*128))) (dE U U) U (M _ (aK7 ha)) (bW ?_))
  refine zB ?_
  refine pN ?_
  have hk:k%8=1:=by omega
  have hr:gQ k a f=a/2+a%2*128:=by unfold gQ;rw[hk];rfl
  refine Vr λho=>?_
  have e9:Value.tuple #[.int .u8 (a/2+a%2*128),.int .u8 (fl ((a/2+a%2*128)==0) false false (a%2==1))]= .tuple #[.int .u8 (gQ k a f),.int .u8 (mN k a f)]:=by unfold mN;rw[hr,ho]
  exact aU (λ_ _=>nJ U U) ⟨U,e9⟩
 refine ZCy ?_
 refine KC (λq5 z5=>?_) (λq5 z5=>?_)
 ·refine ZBZ ?_
  refine Kp ?_
  refine ZBI ?_
  refine RW (iK U U aD) U aEA (RW (v:=(.int .u8 (a/2+iV (cF f)*128))) (dE U U) U (M _ (aMq ha _)) (bW ?_))
  refine zB ?_
  refine pN ?_
  have hk:k%8=3:=by omega
  have hr:gQ k a f=a/2+iV (cF f)*128:=by unfold gQ;rw[hk];rfl
  refine Vr λho=>?_
  have e9:Value.tuple #[.int .u8 (a/2+iV (cF f)*128),.int .u8 (fl ((a/2+iV (cF f)*128)==0) false false (a%2==1))]= .tuple #[.int .u8 (gQ k a f),.int .u8 (mN k a f)]:=by unfold mN;rw[hr,ho]
  exact aU (λ_ _=>nJ U U) ⟨U,e9⟩
 refine ZCy ?_
 refine KC (λq6 z6=>?_) (λq6 z6=>?_)
 ·refine ZBZ ?_
  refine Kp ?_
  refine ZBI ?_
  refine Ej ?_
  refine RW (v:=(.int .u8 (a/2+a/128*128))) (dE U U) U (M _ (aN2 ha)) (bW ?_)
  refine zB ?_
  refine pN ?_
  have hk:k%8=5:=by omega
  have hr:gQ k a f=a/2+a/128*128:=by unfold gQ;rw[hk];rfl
  refine Vr λho=>?_
  have e9:Value.tuple #[.int .u8 (a/2+a/128*128),.int .u8 (fl ((a/2+a/128*128)==0) false false (a%2==1))]= .tuple #[.int .u8 (gQ k a f),.int .u8 (mN k a f)]:=by unfold mN;rw[hr,ho]
  exact aU (λ_ _=>nJ U U) ⟨U,e9⟩
 refine aH ?_
 refine KC (λq7 z7=>?_) (λq7 z7=>?_)
 ·refine ZBZ ?_
  refine Kp ?_
  refine bW ?_
  refine zB ?_
  refine pN ?_
  have hk:k%8=7:=by omega
  have hr:gQ k a f=a/2:=by unfold gQ;rw[hk];rfl
  refine Vr λho=>?_
  have e9:Value.tuple #[.int .u8 (a/2),.int .u8 (fl ((a/2)==0) false false (a%2==1))]= .tuple #[.int .u8 (gQ k a f),.int .u8 (mN k a f)]:=by unfold mN;rw[hr,ho]
  exact aU (λ_ _=>nJ U U) ⟨U,e9⟩
 refine aH ?_
 refine zB ?_
 refine pN ?_
 exfalso;omega
def rpair_fn{β:Type}(K:mH prog β)(rb:Nat)(s:CS)(hr:s.r.Ok)(w:AI)(hrow:aK w rb 0 (cN K s))(n:Int):aG prog 219 [P_ rb,.int .i64 n] w [] (V_ (.int .u16 (pairR s.r n))):=by
 refine aT func219 ?_
 refine cL ?_
 refine W (bJ U U U (bU (aK.left (aK.left hrow)) aP)) U (ZBI ?_)
 refine RX (eN K_ U (aS (aCd s.r hr n))) U ?_
 rintro _ _ ⟨G0,⟨rfl,k14,rfl⟩,rfl⟩
 refine fG ?_
 exact E0 U ⟨U,U⟩
def Al{β:Type}(K:mH prog β)(rb:Nat){bn:Nat}(x:Rn β)(h:RunOk K.toaRT bn x)(G:aF)(hG:K.rep x.m G)(n p:Int)(hp:0<=p/\p<65536)(w:AI)(hst:St w (rb::G.map (·.1)) ((rb,J (cN K x.s) 321)::G) w):aG prog 218 [P_ rb,.int .i64 n,.int .u16 p] w (rb::G.map (·.1)) (λv H=>v= .tuple #[]/\sU K rb (x.reg (iX x.s.r n p)) H):=by
 refine cG func218 hst ?_
 refine aH ?_
 refine J0 ?_
 refine ZAm ?_
 refine RX (eN K_ U (aS (aMb x.s.r n p hp))) U ?_
 rintro _ _ ⟨G0,⟨rfl,k15,rfl⟩,rfl⟩
 refine aH ?_
 refine W (bC (l':=cN K {x.s with r:=iX x.s.r n p}) 0) U (xA ?_)
 exact EN aJ ⟨U,G,U,hG⟩
def rget_fn{β:Type}(K:mH prog β)(rb:Nat){bn:Nat}(x:Rn β)(h:RunOk K.toaRT (bn+1) x)(G:aF)(hG:K.rep x.m G)(n:Int)(w:AI)(hst:St w (rb::G.map (·.1)) ((rb,J (cN K x.s) 321)::G) w):aG prog 209 [P_ rb,.int .i64 n] w (rb::G.map (·.1)) (λv H=>v= .int .u8 (gett K.toaRU n x).1/\∃G',H=(rb,J (cN K x.s) 321)::G'/\K.rep (gett K.toaRU n x).2.m G'):=by
 refine cG func209 hst ?_
 refine cL ?_
 refine KC (λq0 z0=>?_) (λq0 z0=>?_)
 ·refine ZBI ?_
  obtain rfl:n=6:=by omega
  refine DR [4,5] (bQ [0,2,4,6,8,12,14,11,17,18]) ?_
  refine ZCy ?_
  refine DZ U (cZ K_ U (λw hw=>rpair_fn K rb x.s h.r w (aI aE w hw) 2)) U gV (DX U (rG (F:=[(rb,_)]) (A:=G) U K.mR K.cR U (λw hw=>K.dR h.m hG (St.lentV hw) (tF h.r 2))) U aY ?_)
  rintro _ _ ⟨G0,⟨rfl,hG0⟩,rfl⟩
  refine ZA2 ?_
  exact EV U aJ ⟨U,G0,U,hG0⟩
 refine ZCy ?_
 refine J0 ?_
 refine ZBI ?_
 refine RX (eN K_ U (aS (aO4 x.s.r n))) U ?_
 rintro _ _ ⟨G0,⟨rfl,k25,rfl⟩,rfl⟩
 refine fG ?_
 have hn:gett K.toaRU n x=(Bj x.s.r n,x):=ae I
 exact EV U aJ ⟨by rw[hn],G,U,by rw[hn];exact hG⟩
def Kq{β:Type}(K:mH prog β)(rb:Nat){bn:Nat}(x:Rn β)(h:RunOk K.toaRT (bn+1) x)(G:aF)(hG:K.rep x.m G)(n u:Int)(hu:0<=u/\u<256)(w:AI)(hst:St w (rb::G.map (·.1)) ((rb,J (cN K x.s) 321)::G) w):aG prog 208 [P_ rb,.int .i64 n,.int .u8 u] w (rb::G.map (·.1)) (λv H=>v= .tuple #[]/\sU K rb (sett K.toaRU n u x) H):=by
 refine cG func208 hst ?_
 refine aH ?_
 refine KC (λq0 z0=>?_) (λq0 z0=>?_)
 ·refine ZBI ?_
  obtain rfl:n=6:=by omega
  refine DR [4,5,6] (bQ [0,2,4,6,8,12,14,16,11,19]) ?_
  refine ZE1 ?_
  refine DZ U (cZ K_ U (λw hw=>rpair_fn K rb x.s h.r w (aI aE w hw) 2)) U gV (DX U (rG (F:=[(rb,_)]) (A:=G) U K.mW K.cW U (λw hw=>K.dW h.m hG (St.lentV hw) (tF h.r 2) hu)) U aY ?_)
  rintro _ _ ⟨G0,⟨rfl,hG0⟩,rfl⟩
  refine ZAm ?_
  exact EN aJ ⟨U,G0,U,hG0⟩
 refine ZCy ?_
 refine J0 ?_
 refine ZAm ?_
 refine RX (eN K_ U (aS (aOW x.s.r n u))) U ?_
 rintro _ _ ⟨G0,⟨rfl,k27,rfl⟩,rfl⟩
 refine aH ?_
 refine W (bC (l':=cN K {x.s with r:=qZ x.s.r n u}) 0) U (xA ?_)
 have hn:sett K.toaRU n u x=x.reg (qZ x.s.r n u):=ae I
 exact EN aJ ⟨U,by rw[hn];exact⟨G,rfl,hG⟩⟩
def ridle_fn{β:Type}(K:mH prog β)(rb:Nat){bn:Nat}(n:Nat)(hn:n<=1000)(x:Rn β)(h:RunOk K.toaRT (bn+n) x)(G:aF)(hG:K.rep x.m G)(w:AI)(hst:St w (rb::G.map (·.1)) ((rb,J (cN K x.s) 321)::G) w):aG prog 168 [P_ rb,.int .i64 n] w (rb::G.map (·.1)) (λv H=>v= .tuple #[]/\sU K rb (idles K.toaRU n x) H):=by
 have hs9:∀i,(idles K.toaRU i x).s=x.s:=λi=>by induction i with|zero=>rfl|succ i ih=>exact ih
 refine cG func168 hst ?_
 refine aH ?_
 refine dK (σ:=Nat×aF) [5,6,7,8,9,10,11,12] (λs=>[(5,.int .i64 s.1)]) (λs=>(rb,J (cN K x.s) 321)::s.2) (λs=>s.1<=n/\K.rep (idles K.toaRU s.1 x).m s.2) (λs=>n-s.1) (0,G) ?_ ?_ ?_ ?_
 ·exact⟨aq _,hG⟩
 ·exact .cons U .nil
 ·exact λ_ h=>h
 rintro⟨i,Gi⟩ y1 ⟨hi,hGi⟩
 dsimp only at hi hGi⊢
 refine ZBV ?_
 refine KC (λq0 z0=>?_) (λq0 z0=>?_)
 ·refine ZE1 ?_
  refine RX (rG (F:=[(rb,_)]) (A:=Gi) U K.mI K.cI U (λw hw=>K.dI (K.oL (k:=0+1) (h.idles i hi).m I) hGi (St.lentV hw))) U ?_
  rintro _ _ ⟨G0,⟨rfl,hG0⟩,rfl⟩
  refine pT ?_
  exact⟨(i+1,G0),⟨aR,hG0⟩,Pz,.cons U .nil,bB,λ_ h=>h⟩
 refine ZBI ?_
 obtain rfl:i=n:=by omega
 exact EN aJ ⟨U,Gi,by rw[hs9],hGi⟩
def rpush_fn{β:Type}(K:mH prog β)(rb:Nat){bn:Nat}(x:Rn β)(h:RunOk K.toaRT (bn+2) x)(G:aF)(hG:K.rep x.m G)(p:Int)(hp:0<=p/\p<65536)(w:AI)(hst:St w (rb::G.map (·.1)) ((rb,J (cN K x.s) 321)::G) w):aG prog 193 [P_ rb,.int .u16 p] w (rb::G.map (·.1)) (λv H=>v= .tuple #[]/\sU K rb (push K.toaRU p x) H):=by
 refine cG func193 hst ?_
 refine ZA2 ?_
 refine RW (jB U U aD) U (qM 256 aD aD) (RW (gF U U U) U vO (ZBI ?_))
 refine RW (gF U U U) U vO (RX (fY U U U U U U) U (ZBF λb0=>?_))
 refine mV ?_
 refine dK (σ:=Nat×aF) [5,13,14,15,16,17,18,19,20,21,22,23,24,25,26,27,28,29,30,31,32,33,34,35,36,37,38,39,40,41,42] (λs=>[(13,.int .i64 s.1)]) (λs=>(b0,J [.int .u8 (p/256),.int .u8 (p%256)] 5)::(rb,J (cN K (pushN K.toaRU p x s.1).s) 321)::s.2) (λs=>s.1<=2/\K.rep (pushN K.toaRU p x s.1).m s.2) (λs=>2-s.1) (0,G) ?_ ?_ ?_ ?_
 ·exact⟨aq _,hG⟩
 ·exact .cons U .nil
 ·exact λ_ h=>h
 rintro⟨i,Gi⟩ y1 ⟨hi,hGi⟩
 dsimp only at hi hGi⊢
 refine ZBV ?_
 refine KC (λq0 z0=>?_) (λq0 z0=>?_)
 ·refine ZBZ ?_
  have hx9:=(h.pushN hp i I).le (k:=0+1) I
  have hk9:=hx9.r.sp
  refine ZBI ?_
  refine Dn ?_
  refine W (aW U U (bT (b:=b0) aE (aH5 p I))) U (cL ?_)
  refine RW (mM U U) U rL (ZBZ ?_)
  refine W (bC (l':=cN K { (pushN K.toaRU p x i).s with r:={ (pushN K.toaRU p x i).s.r with sp:=rN (pushN K.toaRU p x i).s.r.sp} }) 1) U (xA ?_)
  refine M8 ?_
  refine DX U (rG (F:=[(b0,_),(rb,_)]) (A:=Gi) U K.mW K.cW U (λw hw=>K.dW hx9.m hGi (St.lentV hw) Aw (aBU hp i))) U aY ?_
  rintro _ _ ⟨G0,⟨rfl,hG0⟩,rfl⟩
  refine pT ?_
  exact⟨(i+1,G0),⟨aR,hG0⟩,Pz,.cons U .nil,bB,λ_ h=>h⟩
 refine ZBI ?_
 obtain rfl:i=2:=by omega
 exact EN (.cons _ aJ) ⟨U,Gi,U,hGi⟩
def Mz{β:Type}(K:mH prog β)(rb:Nat){bn:Nat}(x:Rn β)(h:RunOk K.toaRT (bn+2) x)(G:aF)(hG:K.rep x.m G)(w:AI)(hst:St w (rb::G.map (·.1)) ((rb,J (cN K x.s) 321)::G) w):aG prog 222 [P_ rb] w (rb::G.map (·.1)) (λv H=>v= .int .u16 (pop K.toaRU x).1/\sU K rb ((pop K.toaRU x).2) H):=by
 refine cG func222 hst ?_
 refine jJ ?_
 refine dK (σ:=Nat×aF) [3,4,5,6,7,8,9,10,11,12,13,14,15,16,17,18,19,20,21,22,23,24,25,26,27,28,29,30,31,32,33,34,35,36,37,38] (λs=>[(3,.int .u16 (popN K.toaRU x s.1).1),(5,.int .i64 s.1)]) (λs=>(rb,J (cN K (popN K.toaRU x s.1).2.s) 321)::s.2) (λs=>s.1<=2/\K.rep (popN K.toaRU x s.1).2.m s.2) (λs=>2-s.1) (0,G) ?_ ?_ ?_ ?_
 ·exact⟨aq _,hG⟩
 ·exact .cons U (.cons U .nil)
 ·exact λ_ h=>h
 rintro⟨i,Gi⟩ y3 ⟨hi,hGi⟩
 dsimp only at hi hGi⊢
 refine ZBV ?_
 refine KC (λq0 z0=>?_) (λq0 z0=>?_)
 ·refine ZBZ ?_
  have hx9:=(h.popN i I).le (k:=0+1) I
  have hk9:=hx9.r.sp
  have hv9:0<=(K.read (popN K.toaRU x i).2.s.r.sp (popN K.toaRU x i).2.m).1/\(K.read (popN K.toaRU x i).2.s.r.sp (popN K.toaRU x i).2.m).1<256:=hx9.pop1.2
  have ha9:=aK5 (h.le (k:=0+1) I) (i:=i) I
  refine ZBV ?_
  refine DR [5,6,7,8,9,10,11,12,15,16] (bQ [0,2,4,6,8,10,12,14,16,18,20,22,24,30,32,27,28,34,36,38]) ?_
  refine jJ ?_
  refine DW U (zH U U) U mC (DX U (rG (F:=[(rb,_)]) (A:=Gi) U K.mR K.cR U (λw hw=>K.dR hx9.m hGi (St.lentV hw) hk9)) U aY ?_)
  rintro _ _ ⟨G0,⟨rfl,hG0⟩,rfl⟩
  refine DW U (gF U U U) U rL (DW (v:=(.int .u16 (shl .u16 (K.read (popN K.toaRU x i).2.s.r.sp (popN K.toaRU x i).2.m).1 (8*(i:Int))))) U (iK U U I) U U (DW (v:=(.int .u16 (popN K.toaRU x (i+1)).1)) U (dE U U) U (M _ (Yf I ha9 (λh=>by subst h;rfl) hv9)) (bW ?_)))
  refine RW (nD U U) U rL (ZBZ ?_)
  refine W (bC (l':=cN K { (popN K.toaRU x i).2.s with r:={ (popN K.toaRU x i).2.s.r with sp:=nE (popN K.toaRU x i).2.s.r.sp} }) 0) U (sH ?_)
  refine pU ?_
  exact⟨(i+1,G0),⟨aR,hG0⟩,Pz,.cons U (.cons U .nil),bB,λ_ h=>h⟩
 refine ZCy ?_
 obtain rfl:i=2:=by omega
 exact EV U aJ ⟨by rw[<-Yj],Gi,by rw[<-Yj],by rw[<-Yj];exact hGi⟩
def aD2{β:Type}(K:mH prog β)(rb:Nat){bn:Nat}(x:Rn β)(h:RunOk K.toaRT bn x)(G:aF)(hG:K.rep x.m G)(k u:Int)(hu:0<=u/\u<256)(w:AI)(hst:St w (rb::G.map (·.1)) ((rb,J (cN K x.s) 321)::G) w):aG prog 210 [P_ rb,.int .i64 k,.int .u8 u] w (rb::G.map (·.1)) (λv H=>v= .tuple #[]/\sU K rb (x.reg (kU x.s.r k u)) H):=by
 refine cG func210 hst ?_
 refine ZBI ?_
 refine DR [6,7,8,9,10,11,12,13,14] (bQ [0,2,4,6,8,10,12,14,16,18,20,22,24,26,28,30]) ?_
 refine fG ?_
 refine DW (v:=(.int .u8 (aQ .u8 x.s.r.f 16))) U U U U (DW (v:=(.bool (cF x.s.r.f))) U U U (M _ (Zv h.r.f)) (bW ?_))
 refine mJ (σ:=Unit) [23,24,25] (λ_=>[(23,.bool (decide (k=0\/k=1)))]) (λ_=>(rb,J (cN K x.s) 321)::G) (λ_=>True) ?_ ?_
 ·refine ZBV ?_
  refine KC (λq0 z0=>?_) (λq0 z0=>?_)
  ·refine ZBI ?_
   exact⟨(),trivial,.cons (M Value.bool Jh) .nil,bB,λ_ h=>h⟩
  refine ZBZ ?_
  exact⟨(),trivial,.cons (M Value.bool Jh) .nil,bB,λ_ h=>h⟩
 rintro _ yc23 _
 refine KC (λq0 z0=>?_) (λq0 z0=>?_)
 ·refine aH ?_
  refine KL (λq1 z1=>?_) (λq1 z1=>?_)
  ·refine ZA2 ?_
   refine aO K_ (aS (Ru x.s.r.a u (k==1) h.r.a hu)) ?_
   refine ZCy ?_
   refine W (bC (l':=cN K {x.s with r:={x.s.r with a:=rQ x.s.r.a u (k==1)} }) 0) U (pI ?_)
   refine W (bC (l':=cN K {x.s with r:={x.s.r with a:=rQ x.s.r.a u (k==1),f:=Au x.s.r.a u (k==1)} }) 0) U (pI ?_)
   refine jP ?_
   refine ZA2 ?_
   have e9:kU x.s.r k u={x.s.r with a:=rQ x.s.r.a u (k==1),f:=Au x.s.r.a u (k==1)}:=by
    rcases(show k=0\/k=1 by omega)with rfl|rfl<;>simp_all[kU]
   exact EN aJ ⟨U,G,xQ,hG⟩
  refine ZA2 ?_
  refine aO K_ (aS (Ru x.s.r.a u false h.r.a hu)) ?_
  refine ZCy ?_
  refine W (bC (l':=cN K {x.s with r:={x.s.r with a:=rQ x.s.r.a u false} }) 0) U (pI ?_)
  refine W (bC (l':=cN K {x.s with r:={x.s.r with a:=rQ x.s.r.a u false,f:=Au x.s.r.a u false} }) 0) U (pI ?_)
  refine jP ?_
  refine ZA2 ?_
  have e9:kU x.s.r k u={x.s.r with a:=rQ x.s.r.a u false,f:=Au x.s.r.a u false}:=by
   rcases(show k=0\/k=1 by omega)with rfl|rfl<;>simp_all[kU]
  exact EN aJ ⟨U,G,xQ,hG⟩
 refine mJ (σ:=Unit) [47,48,49,50] (λ_=>[(47,.bool (decide (k=2\/k=3\/k=7)))]) (λ_=>(rb,J (cN K x.s) 321)::G) (λ_=>True) ?_ ?_
 ·refine ZBV ?_
  refine KC (λq1 z1=>?_) (λq1 z1=>?_)
  ·refine ZBI ?_
   exact⟨(),trivial,.cons (M Value.bool Jh) .nil,bB,λ_ h=>h⟩
  refine ZBV ?_
  refine KC (λq2 z2=>?_) (λq2 z2=>?_)
  ·refine ZBI ?_
   exact⟨(),trivial,.cons (M Value.bool Jh) .nil,bB,λ_ h=>h⟩
  refine ZBZ ?_
  exact⟨(),trivial,.cons (M Value.bool Jh) .nil,bB,λ_ h=>h⟩
 rintro _ yc47 _
 refine KC (λq1 z1=>?_) (λq1 z1=>?_)
 ·refine aH ?_
  refine KL (λq2 z2=>?_) (λq2 z2=>?_)
  ·refine ZA2 ?_
   refine aO K_ (aS (aFh x.s.r.a u (k==3) h.r.a hu)) ?_
   refine ZCy ?_
   refine W (bC (l':=cN K {x.s with r:={x.s.r with a:=rT x.s.r.a u (k==3)} }) 0) U (pI ?_)
   refine W (bC (l':=cN K {x.s with r:={x.s.r with a:=rT x.s.r.a u (k==3),f:=tP x.s.r.a u (k==3)} }) 0) U (oX ?_)
   refine KC (λq3 z3=>?_) (λq3 z3=>?_)
   ·refine ZCy ?_
    refine W (bC (l':=cN K {x.s with r:={x.s.r with a:=x.s.r.a,f:=tP x.s.r.a u (k==3)} }) 0) U (xA ?_)
    have e9:kU x.s.r k u={x.s.r with a:=x.s.r.a,f:=tP x.s.r.a u (k==3)}:=by
     obtain rfl:k=7:=by omega
     simp_all[kU]
    exact EN aJ ⟨U,G,xQ,hG⟩
   refine ZBI ?_
   have e9:kU x.s.r k u={x.s.r with a:=rT x.s.r.a u (k==3),f:=tP x.s.r.a u (k==3)}:=by
    rcases(show k=2\/k=3 by omega)with rfl|rfl<;>simp_all[kU]
   exact EN aJ ⟨U,G,xQ,hG⟩
  refine ZA2 ?_
  refine aO K_ (aS (aFh x.s.r.a u false h.r.a hu)) ?_
  refine ZCy ?_
  refine W (bC (l':=cN K {x.s with r:={x.s.r with a:=rT x.s.r.a u false} }) 0) U (pI ?_)
  refine W (bC (l':=cN K {x.s with r:={x.s.r with a:=rT x.s.r.a u false,f:=tP x.s.r.a u false} }) 0) U (oX ?_)
  refine KC (λq3 z3=>?_) (λq3 z3=>?_)
  ·refine ZCy ?_
   refine W (bC (l':=cN K {x.s with r:={x.s.r with a:=x.s.r.a,f:=tP x.s.r.a u false} }) 0) U (xA ?_)
   have e9:kU x.s.r k u={x.s.r with a:=x.s.r.a,f:=tP x.s.r.a u false}:=by
    obtain rfl:k=7:=by omega
    simp_all[kU]
   exact EN aJ ⟨U,G,xQ,hG⟩
  refine ZBI ?_
  have e9:kU x.s.r k u={x.s.r with a:=rT x.s.r.a u false,f:=tP x.s.r.a u false}:=by
   rcases(show k=2\/k=3 by omega)with rfl|rfl<;>simp_all[kU]
  exact EN aJ ⟨U,G,xQ,hG⟩
 refine ZBV ?_
 refine KC (λq2 z2=>?_) (λq2 z2=>?_)
 ·refine ZBV ?_
  refine aO K_ (aS (aNa x.s.r.a u h.r.a hu)) ?_
  refine ZCy ?_
  refine W (bC (l':=cN K {x.s with r:={x.s.r with a:=aQ .u8 x.s.r.a u} }) 0) U (pI ?_)
  refine W (bC (l':=cN K {x.s with r:={x.s.r with a:=aQ .u8 x.s.r.a u,f:=tA 0 (aQ .u8 x.s.r.a u)} }) 0) U (pI ?_)
  refine jP ?_
  refine ZA2 ?_
  have e9:kU x.s.r k u={x.s.r with a:=aQ .u8 x.s.r.a u,f:=tA 0 (aQ .u8 x.s.r.a u)}:=by
   obtain rfl:k=4:=by omega
   rfl
  exact EN aJ ⟨U,G,xQ,hG⟩
 refine ZBV ?_
 refine KC (λq3 z3=>?_) (λq3 z3=>?_)
 ·refine ZBV ?_
  refine aO K_ (aS (aH9 x.s.r.a u h.r.a hu)) ?_
  refine ZCy ?_
  refine W (bC (l':=cN K {x.s with r:={x.s.r with a:=lK .u8 x.s.r.a u} }) 0) U (pI ?_)
  refine W (bC (l':=cN K {x.s with r:={x.s.r with a:=lK .u8 x.s.r.a u,f:=tA 2 (lK .u8 x.s.r.a u)} }) 0) U (pI ?_)
  refine jP ?_
  refine ZA2 ?_
  have e9:kU x.s.r k u={x.s.r with a:=lK .u8 x.s.r.a u,f:=tA 2 (lK .u8 x.s.r.a u)}:=by
   obtain rfl:k=5:=by omega
   rfl
  exact EN aJ ⟨U,G,xQ,hG⟩
 refine ZBV ?_
 refine KC (λq4 z4=>?_) (λq4 z4=>?_)
 ·refine ZBV ?_
  refine aO K_ (aS (aMy x.s.r.a u h.r.a hu)) ?_
  refine ZCy ?_
  refine W (bC (l':=cN K {x.s with r:={x.s.r with a:=bI .u8 x.s.r.a u} }) 0) U (pI ?_)
  refine W (bC (l':=cN K {x.s with r:={x.s.r with a:=bI .u8 x.s.r.a u,f:=tA 1 (bI .u8 x.s.r.a u)} }) 0) U (pI ?_)
  refine jP ?_
  refine ZA2 ?_
  have e9:kU x.s.r k u={x.s.r with a:=bI .u8 x.s.r.a u,f:=tA 1 (bI .u8 x.s.r.a u)}:=by
   obtain rfl:k=6:=by omega
   rfl
  exact EN aJ ⟨U,G,xQ,hG⟩
 refine ZBZ ?_
 refine jP ?_
 refine ZA2 ?_
 exact EN aJ ⟨U,G,by rw[show kU x.s.r k u=x.s.r by unfold kU;repeat rw[ae I]];rfl,hG⟩
def Wm{β:Type}(K:mH prog β)(rb:Nat){bn:Nat}(x:Rn β)(h:RunOk K.toaRT (bn+2) x)(G:aF)(hG:K.rep x.m G)(n:Int)(ff:Nat)(V1 V2:AA)(hcf:iW prog ff=true)(gg:Int->Int->Int×Int)(hgb:∀a f,0<=a/\a<256->0<=f/\f<256->(0<=(gg a f).1/\(gg a f).1<256)/\(0<=(gg a f).2/\(gg a f).2<256))(w:AI)(hst:St w (rb::G.map (·.1)) ((rb,J (cN K x.s) 321)::G) w)(hfun:∀(w':AI) (H':aF) (a f:Int),St w (rb::G.map (·.1)) H' w'->0<=a/\a<256->0<=f/\f<256->aG prog ff (V1++[.int .u8 a,.int .u8 f]++V2) w' [] (λv H=>H=[]/\v= .tuple #[.int .u8 (gg a f).1,.int .u8 (gg a f).2])):aG prog 211 [P_ rb,.int .i64 n,.func (.func ff) V1.toArray V2.toArray] w (rb::G.map (·.1)) (λv H=>v= .tuple #[]/\sU K rb (change K.toaRU n gg x) H):=by
 have hq9:=h.gett n
 have hb9:=hgb _ _ hq9.2 h.r.f
 refine cG func211 hst ?_
 refine ZBI ?_
 refine nH [(rb,J (cN K x.s) 321)] [3] (.step true 0 (.step true 1 (.step true 2 (.step true 4 (.step true 5 (.step true 6 (.step true 7 (.step true 8 (.step true 9 (.step false 3 (.step false 10 (.step true 11 (.step true 12 (.step true 13 (.step true 14 (.step true 15 .done)))))))))))))))) U aN aN (λx hx=>Is) ?_
 refine bW ?_
 refine DX U (iB K_ U (kK (rget_fn K rb x h G hG n))) U (by rintro _ _ _ ⟨rfl,_,rfl,_⟩ x hx;obtain rfl:=List.mem_singleton.1 hx;exact .head _) ?_
 rintro _ _ ⟨rfl,G0,rfl,hG0⟩
 refine DZ U (uT (A:=V1) (B:=V2) U hcf U (λw hw=>hfun w _ _ _ hw hq9.2 h.r.f)) U aY (tC ?_)
 refine cL ?_
 refine RX (iB K_ U (kK (Kq K rb (x.mem (gett K.toaRU n x).2.m) (h.gmem n) G0 hG0 n (gg (gett K.toaRU n x).1 x.s.r.f).1 hb9.1))) U ?_
 rintro _ _ ⟨rfl,G1,rfl,hG1⟩
 refine ZE1 ?_
 refine W (bC (l':=cN K { (sett K.toaRU n (gg (gett K.toaRU n x).1 x.s.r.f).1 (x.mem (gett K.toaRU n x).2.m)).s with r:={ (sett K.toaRU n (gg (gett K.toaRU n x).1 x.s.r.f).1 (x.mem (gett K.toaRU n x).2.m)).s.r with f:=(gg (gett K.toaRU n x).1 x.s.r.f).2} }) 0) U (xA ?_)
 have e9:change K.toaRU n gg x=(sett K.toaRU n (gg (gett K.toaRU n x).1 x.s.r.f).1 (x.mem (gett K.toaRU n x).2.m)).reg { (sett K.toaRU n (gg (gett K.toaRU n x).1 x.s.r.f).1 (x.mem (gett K.toaRU n x).2.m)).s.r with f:=(gg (gett K.toaRU n x).1 x.s.r.f).2}:=by unfold change;dsimp only;rw[Cq];rfl
 exact EN aJ ⟨U,G1,xQ,mZ⟩
def aFr{β:Type}(K:mH prog β)(rb:Nat){bn:Nat}(x:Rn β)(h:RunOk K.toaRT bn x)(G:aF)(hG:K.rep x.m G)(n:Int)(w:AI)(hst:St w (rb::G.map (·.1)) ((rb,J (cN K x.s) 321)::G) w):aG prog 223 [P_ rb,.int .i64 n] w (rb::G.map (·.1)) (λv H=>v= .int .u16 (far n x).1/\sU K rb ((far n x).2) H):=by
 refine cG func223 hst ?_
 refine cL ?_
 refine KC (λq0 z0=>?_) (λq0 z0=>?_)
 ·refine ZBZ ?_
  refine aO K_ (λw hw=>rpair_fn K rb x.s h.r w (aI aE w hw) n) ?_
  refine ZA2 ?_
  have e9:far n x=(pairR x.s.r n,x):=ag I
  exact EV U aJ ⟨jK,G,jK,rY⟩
 refine ZBZ ?_
 refine aO K_ (λw hw=>rpair_fn K rb x.s h.r w (aI aE w hw) 2) ?_
 refine ZE1 ?_
 refine KC (λq1 z1=>?_) (λq1 z1=>?_)
 ·refine ZA2 ?_
  refine RW (v:=(.int .u16 (nE (pairR x.s.r 2)))) (nD U U) U (M _ (qC _)) (RX (iB K_ U (kK (Al K rb x h G hG 2 (nE (pairR x.s.r 2)) zA))) U ?_)
  rintro _ _ ⟨rfl,G0,rfl,hG0⟩
  refine ZCy ?_
  have e9:far n x=(pairR x.s.r 2,x.reg (iX x.s.r 2 (nE (pairR x.s.r 2)))):=by unfold far;rw[ae I,ag I]
  exact EV U aJ ⟨jK,G0,jK,kY⟩
 refine ZA2 ?_
 refine RW (v:=(.int .u16 (rN (pairR x.s.r 2)))) (mM U U) U (M _ (qC _)) (RX (iB K_ U (kK (Al K rb x h G hG 2 (rN (pairR x.s.r 2)) Aw))) U ?_)
 rintro _ _ ⟨rfl,G0,rfl,hG0⟩
 refine ZCy ?_
 have e9:far n x=(pairR x.s.r 2,x.reg (iX x.s.r 2 (rN (pairR x.s.r 2)))):=by unfold far;rw[ae I,ae I]
 exact EV U aJ ⟨jK,G0,jK,kY⟩
end Go.Proofs.YtacejanlmhbddaaGreat

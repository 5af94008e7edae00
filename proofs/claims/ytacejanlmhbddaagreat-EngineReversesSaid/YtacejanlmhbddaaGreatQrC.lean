/- Parts. -/
import Derived.Test.YtacejanlmhbddaaGreatQrB
set_option maxRecDepth 100000
set_option maxHeartbeats 1000000
set_option linter.all false
namespace Go.VV
open Go Go.RowKit
abbrev T_(q p:Prop):=Wr q->p
variable {p q:Prop}(k_:q)
def aJ{α:Type}{l:List α}:l.Sublist l:=List.Sublist.refl _
def bL{α:Type}{a:α}(l:List α){m:List α}(h:a∈m):a∈l++m:=d8 l h
def lJ{α:Type}{a:α}{l:List α}(m:List α)(h:a∈l):a∈l++m:=gc m h
def bC{Γ:dJ}{e:bE}{H:aF}{d:AD}{ty:AJ}{pos:String}{af:AG}{g:Option (Nat×Bool)}{t:AJ}{x y:AK}{b off:Nat}{v:AH}{vs l l':AA}{T:AJ}(i:Nat)
  (hx:bA (ev e x)=some (.pointer (some ⟨b,off,none⟩)):=by exact rfl) (hy:bA (ev e y)=some v:=by exact rfl) (hv:Ak v=some vs:=by exact rfl) (hn:jZ Γ.P t=some vs.length:=by exact rfl) (h1:fJ vs=true:=by exact rfl)
  (hi:H[i]? =some (b,J l T):=by exact rfl) (hl:off+vs.length<=l.length:=by exact ah rfl) (hp:aV l off vs=l':=by exact rfl):dU Γ ⟨d,.store t x y,ty,pos,af,g⟩ e H (λu H'=>u=undef/\H'=H.set i (b,J l' T)):=bD i hx hy hv hn h1 hi hl hp
def cG{P:AL}{f:Nat}{fn:Func}{c:Code}{args:AA}{w:AI}{ms:AE}{R:AH->aF->Prop}{n:Nat}{H:aF}(hf:P.funcs[f]? =some fn)(hH:St w ms H w)(h:C ⟨P,n,w,ms,none,[]⟩ c (Pj ⟨P,n,w,ms,none,[]⟩ fn.results.toList R) (Et args) H)
  (hb:fn.body=some c:=by exact rfl) (hn:fn.ntmps=n:=by exact rfl) (hl:Nat.ble args.length n=true:=by exact rfl):aG P f args w ms R:=yM hf hb hn hl hH h
def aT{P:AL}{f:Nat}{fn:Func}{c:Code}{args:AA}{w:AI}{R:AH->aF->Prop}{n:Nat}(hf:P.funcs[f]? =some fn)(h:C ⟨P,n,w,[],none,[]⟩ c (Pj ⟨P,n,w,[],none,[]⟩ fn.results.toList R) (Et args) [])
  (hb:fn.body=some c:=by exact rfl) (hn:fn.ntmps=n:=by exact rfl) (hl:Nat.ble args.length n=true:=by exact rfl):aG P f args w [] R:=yM hf hb hn hl (St.refl w) h
abbrev P_(b:Nat):AH:= .pointer (some ⟨b,0,none⟩)
abbrev Q_(b:Nat):AC:=some ⟨b,0,none⟩
abbrev V_(u:AH):AH->aF->Prop:=λv H=>H=[]/\v=u
abbrev Z :Int->AH:=Value.int .u8
def K_(h:p:=by kernel_rfl):p:=h
def bX{α:Type}{as bs:List α}:(as++bs).length=as.length+bs.length:=ef
def eJ{α β:Type}{a:List α}(f:α->β):(a.map f).length=a.length:=jb f
def dM{α:Type}{i:Nat}{a:List α}:(a.drop i).length=a.length-i:=ic
def fT{α:Type}{i:Nat}{a:List α}:(a.take i).length=min i a.length:=f2
def eZ{α:Type}{a:α}{l:List α}:(a::l).length=l.length+1:=iy
def eG{α:Type}(a b c:List α):a++b++c=a++(b++c):=cx a b c
def gU{α:Type}{l:List α}{i:Nat}{a:α}:l.getD i a=l[i]?.getD a:=da
def M{α β:Type}{a b:α}(f:α->β)(h:a=b):f a=f b:=congrArg f h
def aS{A B:AI->Prop}(h:∀w,B w):∀w,A w->B w:=λw _=>h w
def Fe{A B C:AI->Prop}(h:∀w,A w->C w):∀w,A w->B w->C w:=λw a _=>h w a
def dG{w0:AI}{ms:AE}{A F:aF}{B:AI->Prop}(h:∀w,St w (A.map (·.1)) A w->B w):∀w,St w0 ms (A++F) w->B w:=λw hw=>h w hw.lentV
def kK{w0:AI}{ms:AE}{A:aF}{B:AI->Prop}(h:∀w,St w (A.map (·.1)) A w->B w):∀w,St w0 ms A w->B w:=λw hw=>h w hw.lentA
def aL(h:p:=by(try simp only[ak,ai,cj,av,co,aw,ne_eq]at *);omega):p:=h
def gV(h:p:=by intro _ _ _ hK x hx;obtain⟨rfl,rfl⟩:=hK;repeat(first|exact hx|exact lJ _ hx|refine bL _ ?_|refine .tail _ ?_)):p:=h
def aD(h:p:=by decide):p:=h
def mC(h:p:=by first|exact uW I I|rfl):p:=h
def xT(h:p:=by first|(exfalso;omega)|(unfold atT atB_;dsimp only;(try simp only[eh,eq,true_or,or_true,false_or,or_false,if_true,if_false]);(repeat(first|rw[ag I]|rw[ae I]));first|done|rfl)):p:=h
def sW(h:p:=by first|exact aI aE|exact sP aE _ 5 rfl):p:=h
def y_g(h:p:=by first|(exfalso;omega)|(unfold bankB numB;dsimp only;(repeat(first|rw[ag (by first|omega|assumption)]|rw[ae (by first|omega|simp_all)]));exact cy I)):p:=h
def aN(h:p:=by kernel_rfl):p:=h
def R5(h:p:=by first|(exfalso;omega)|(unfold deviceM;(repeat(first|rw[ag I]|rw[ae I]));first|done|rfl)):p:=h
def sC(h:p:=by intro _ _ _ hK x hx;obtain⟨_,rfl,rfl⟩:=hK;repeat(first|exact hx|exact lJ _ hx|refine bL _ ?_|refine .tail _ ?_)):p:=h
def Gs(h:p:=by unfold pictured;rw[ep];simp only[ak,co,ne_eq,eq,eq_self_iff_true,true_iff,false_iff,iff_true,iff_false];omega):p:=h
def y_l(h:p:=by first|(exfalso;omega)|(unfold setDeviceM;(repeat(first|rw[ag I]|rw[ae I])))):p:=h
def uI(h:p:=by rw[cU_len hu];simp only[eZ,az];(try simp only[ak,ai,cj,av,co,aw,ne_eq]at *);omega):p:=h
def uY(h:p:=by rcases List.mem_cons.1 hx with rfl|hx;exact aE;obtain rfl:=List.mem_singleton.1 hx;exact aE):p:=h
def Kt(h:p:=by first|(exfalso;omega)|(unfold twoV;(repeat(first|rw[ag I]|rw[ae I])))):p:=h
def vO(h:p:=by first|exact Ug I I|exact Ra _):p:=h
def pK(h:p:=by first|(exfalso;omega)|(unfold takV;(repeat(first|rw[ag I]|rw[ae I])))):p:=h
def y_r(h:p:=by first|exact aI aE|exact sP aE _ 8 rfl):p:=h
def rL(h:p:=by first|exact Md I I|exact Ia _):p:=h
def fC(h:p:=by rw[e9];first|done|rfl):p:=h
def aP(h:p:=by simp):p:=h
def Fc(h:p:=by first|(exfalso;omega)|(unfold atT clockB;dsimp only;(try simp only[eh,eq,true_or,or_true,false_or,or_false,if_true,if_false]);(repeat(first|rw[ag I]|rw[ae I]));first|done|rfl)):p:=h
def Fh(h:p:=by first|(rw[cBd_len hWL];rfl)|(rw[cBd_len hWO];rfl)|(rw[cBd_len hPK];rfl)|(rw[cBd_len (hPK.beginW (k/5)).ln];rfl)):p:=h
def Sd(h:p:=by first|exact am I|exact cu I|exact beq_iff_eq.2 I|exact beq_eq_false_iff_ne.2 I):p:=h
def mU(h:p:=by rw[cMm_len h.ln];exact ah rfl):p:=h
def aR(h:p:=by omega):p:=h
def eM(h:p:=by simp at *; omega):p:=h
def Th(h:p:=by repeat(first|exact hx|refine bL _ ?_|refine .tail _ ?_)):p:=h
def zX(h:p:=by first|omega|(unfold madeAt;split<;>omega)):p:=h
def eW(h:p:=by decide +kernel):p:=h
def fU(h:p:=by dsimp only;omega):p:=h
def y_F(h:p:=by first|exact aI aE|exact sP aE _ 10 rfl):p:=h
def Jk(h:p:=by first|exact List.Sublist.refl _|exact aJ.append (ej _ _)|exact ej _ _|exact ce _ _):p:=h
def y_H(h:p:=by unfold tickB;rw[ae (by rw[show B.on=true by simpa using q0];decide),ae I]):p:=h
def y_I(h:p:=by intro _ _ _ hK x hx;obtain⟨_,⟨rfl,G1,rfl,hG1⟩,rfl⟩:=hK;repeat(first|exact hx|exact lJ _ hx|refine bL _ ?_|refine .tail _ ?_)):p:=h
def Kn(h:p:=by first|(rintro⟨h8,h9⟩;omega)|(rintro⟨h8,h9⟩;rw[hon9]at h8;cases h8)):p:=h
def y_K(h:p:=by unfold fiveB;dsimp only;(repeat(first|rw[ag I]|rw[ae I]));first|done|rfl):p:=h
def Kf(h:p:=by unfold askV;have h9:(askU u).sig=sigU u:=rfl;simp_all):p:=h
def Bi(h:p:=by simp only[c7,madeP_n]):p:=h
def D3(h:p:=by rw[cBd_len hFN];rfl):p:=h
def y_O(h:p:=by unfold writeCk;dsimp only;(repeat(first|rw[ag I]|rw[ae I]));first|done|rfl):p:=h
def Hq(h:p:=by first|(exfalso;omega)|(unfold cmpV;(repeat(first|rw[ag I]|rw[ae I])))):p:=h
def y_Q(h:p:=by first|exact aGu I|rfl):p:=h
def Vh(h:p:=by first|exact aI aE|exact sP aE _ 12 rfl):p:=h
def Ar(h:p:=by rw[cBd_len hB];simp only[eZ,az];omega):p:=h
def y_T(h:p:=by first|exact aI aE|exact sP aE _ 6 rfl):p:=h
def y_U(h:p:=by first|exact aI aE|exact sP aE _ 2 rfl):p:=h
def Z4(h:p:=by rw[e1];unfold writeB;dsimp only;(repeat(first|rw[ag I]|rw[ae I]));first|done|rfl):p:=h
def y_W(h:p:=by rw[e1];unfold threeB;dsimp only;(repeat(first|rw[ag I]|rw[ae I]));first|done|rfl):p:=h
def lX(h:p:=by rw[hE];kernel_rfl):p:=h
def Nj(h:p:=by first|(rw[hx];exact cu I)|(exfalso;unfold badW at hx;simp_all;done)|(exfalso;unfold badW at hx;simp_all;omega)):p:=h
def y_Z(h:p:=by unfold writeTm;dsimp only;(repeat(first|rw[ag I]|rw[ae I]));first|done|rfl):p:=h
def Ie(h:p:=by unfold readTm;dsimp only;(repeat(first|rw[ag I]|rw[ae I]));first|done|rfl):p:=h
def y_1(h:p:=by rw[cBd_len hE];simp only[eZ,az];omega):p:=h
def kY(h:p:=by rw[e9];exact hG0):p:=h
def Is(h:p:=by obtain rfl:=List.mem_singleton.1 hx;exact .head _):p:=h
def yQ(h:p:=by show l.length-(i+1)<l.length-i;omega):p:=h
def Qd(h:p:=by rw[e1];unfold tickPt shiftPt;dsimp only;(repeat(first|rw[ag I]|rw[ae I]));first|done|rfl):p:=h
def Cb(h:p:=by first|exact aI aE|exact sP aE _ 4 rfl):p:=h
def mZ(h:p:=by rw[e9];exact hG1):p:=h
def J7(h:p:=by unfold tickV;rw[ag hlit,<-bor_ask (stepV_one u) (askV_two _),<-hnv];rfl):p:=h
def Ri(h:p:=by first|(exfalso;omega)|(unfold oneV;(repeat(first|rw[ag I]|rw[ae I]));all_goals rfl)):p:=h
def Zb(h:p:=by first|exact(bC (l':=cSrt ((sortH (l.getD 327 0)).getD (0,false,false))) 0)|exact(bC (l':=cSrt ((sortH (l.getD 327 0)).getD (0,false,false))) 1)):p:=h
def mY(h:p:=by simpa using q1):p:=h
def Gg(h:p:=by simp only[dg,cq,dh];rfl):p:=h
def B9(h:p:=by show _=_++[_,_,(A.rb,J (List.map Z (cycleM m).ram++A.rs) 5),(A.ob,J (List.map Z (cycleM m).rom++A.sp) 5)];rw[cycleM_ram,cycleM_rom];rfl):p:=h
def aFS(h:p:=by unfold writePt;dsimp only;(repeat(first|rw[ag I]|rw[ae I]));first|done|rfl):p:=h
def L4(h:p:=by have e9:matV (lkOf d.m) x a=(false,false):=ae (λh=>by have h1:=h.1;have h2:=h.2.1;have h3:=h.2.2;simp_all<;>omega);rw[e9]):p:=h
def aPz(h:p:=by first|exact jR aE|exact Ch aE _ 9 rfl):p:=h
def aMS(h:p:=by unfold oneB;dsimp only;(repeat(first|rw[ag I]|rw[ae I]));first|done|rfl):p:=h
def D4(h:p:=by rw[cBd_len hPK];simp only[eZ,az];omega):p:=h
def aGP(h:p:=by rw[cBd_len hFN,cBd_len bdZ_wf];decide):p:=h
def Mu(h:p:=by first|rfl|(unfold badW at hx;simp_all;done)|(unfold badW at hx;simp_all;omega)):p:=h
def aAF(h:p:=by show bS _ 3 va' (((if letsCp (cycleM m).cp a=true then pokeM a x (cycleM m)else(cycleM m))).acc++[_]).length (aM cAc ((if letsCp (cycleM m).cp a=true then pokeM a x (cycleM m)else(cycleM m)).acc++[_])) Ga';rw[e9];exact hV'.as (by rw[bX];rfl) rfl):p:=h
def lH(h:p:=by simp;omega):p:=h
def aBm(h:p:=by rw[cU_len (hu.P_ (u.line.toNat*160) (rowU_byts u) (by rw[rowU_len];omega))];simp only[eZ,az];(try simp only[ak,ai,cj,av,co,aw,ne_eq]at *);omega):p:=h
def Gu(h:p:=by cases hp;exact St.apartT (G:=[(rb,J RL 5)]) hw2):p:=h
def Gh(h:p:=by rw[cBd_len hB];rfl):p:=h
def Vj(h:p:=by rw[cMm_len h.ln];simp only[eZ,az];omega):p:=h
def Ke(h:p:=by first|exact jR aE|exact Ch aE _ 5 rfl):p:=h
def Kx(h:p:=by first|exact jR aE|exact Ch aE _ 4 rfl):p:=h
def K8(h:p:=by obtain rfl:=List.mem_singleton.1 hx;exact aE):p:=h
def L7(h:p:=by unfold daaB daaC;simp_all[fg];all_goals (repeat' split);all_goals omega):p:=h
def aAP(h:p:=by show _=[(b,J (cBd ((turnV levV B n).setV n (levV (turnV levV B n) n ((turnV levV B n).v n)))) 147)];rw[show levV (turnV levV B n) n ((turnV levV B n).v n)=(turnV levV B n).v n from ag I,setV_same hX9 I]):p:=h
def aDx(h:p:=by show _=[(b,J (cBd ((turnV lenV B n).setV n (lenV (turnV lenV B n) n ((turnV lenV B n).v n)))) 147)];rw[show lenV (turnV lenV B n) n ((turnV lenV B n).v n)=(turnV lenV B n).v n from ag I,setV_same hX9 I]):p:=h
def aIV(h:p:=by unfold writeBd;rw[ae I,ae I,ae (by first|(rintro⟨h8,q7⟩;omega)|(rintro⟨h8,q7⟩;rw[hon9]at h8;cases h8)),ae I,c8];unfold voiceB;rw[ae I,ae I]):p:=h
def xM(h:p:=by rw[v_set hX9 I];rfl):p:=h
def Ot(h:p:=by unfold daaL;simp_all[fg];all_goals (repeat' split);all_goals omega):p:=h
def I1(h:p:=by unfold daaC;simp_all[fg];all_goals (repeat' split);all_goals omega):p:=h
def aHs(h:p:=by have h9:=(aK.nth' (cPtr_len pb) hrow hoi) 0 _ rfl;simpa using h9):p:=h
def Yc(h:p:=by unfold readPt;dsimp only;(repeat(first|rw[ag I]|rw[ae I]));first|done|rfl):p:=h
def Ce(h:p:=by rw[cBd_len hPK];rfl):p:=h
def wJ(h:p:=by rw[eJ,h.lV];omega):p:=h
def aPL(h:p:=by unfold twoB;dsimp only;(repeat(first|rw[ag I]|rw[ae I]));first|done|rfl):p:=h
def X4(h:p:=by have h9:=hm _ _ (get_high h.ln (j:=(a-65408).toNat) I);rwa[<-ec]at h9):p:=h
def Qv(h:p:=by first|exact jR aE|exact Ch aE _ 2 rfl):p:=h
def O6(h:p:=by first|exact jR aE|exact Ch aE _ 1 rfl):p:=h
def aBF(h:p:=by simp only[c7];(try simp only[ak,ai,cj,av,co,aw,ne_eq]at *);omega):p:=h
def Fb(h:p:=by rw[Td (be _)];rfl):p:=h
def Ge(h:p:=by rw[tabL_len hP hB,cO_len];omega):p:=h
def aCx(h:p:=by rw[bZ I I];(try simp only[ak,ai,cj,av,co,aw,ne_eq]at *);omega):p:=h
def aOk(h:p:=by rw[passes_snoc hoi,<-hZ,pass1_goes hfz];exact hV1):p:=h
def uE(h:p:=by rw[<-e1];rfl):p:=h
def aPY(h:p:=by rw[take_snoc I,bz,<-txV_app];exact M (λz:Int=>txV ((l.take i).map chrH)++[Value.int .u8 z]) ((by unfold chrH;rw[ag I];rfl))):p:=h
def aEh(h:p:=by have:=hK.small;(try simp only[ak,ai,cj,av,co,aw,ne_eq]at *);omega):p:=h
def aOo(h:p:=by unfold readB;rw[ae I,ae I,ae I]):p:=h
def aDD(h:p:=by have h9:=dat_fn e7.b (N:Nat) w (bT (b:=e7.b) (l:=Db.cs e7 gx N) (.tail _ (.tail _ (.tail _ (.tail _ (.head _))))) rfl w hw);rw[hb8]at h9;exact h9):p:=h
def aBj(h:p:=by rw[hq4 _ hx];(try simp only[ak,ai,cj,av,co,aw,ne_eq]at *);omega):p:=h
def Gr(h:p:=by unfold shiftPt;dsimp only;omega):p:=h
def vG(h:p:=by rw[q1];decide):p:=h
def A0(h:p:=by rw[ep];simp only[co,ak,ne_eq];omega):p:=h
def Zs(h:p:=by rw[cBd_len hWO];rfl):p:=h
def Xx(h:p:=by show e2.done=d.done+((i+1:Nat):Int);omega):p:=h
def A7(h:p:=by first|exact h.sub (.cons_cons _ (.cons _ aJ))|exact h.sub (.cons _ aJ)):p:=h
def Kr(h:p:=by cases hp;exact St.apartT (G:=[]) hw):p:=h
def aDJ(h:p:=by have h9:=qcheck_fn (Q_ b11) (romS b) (madeZ kind b ram prog) I hbZ w (Ns.of (aI (b:=b11) aE w hw));rw[hlZ,ae I]at h9;exact h9):p:=h
def Qc(h:p:=by rw[tailM_len h,au];omega):p:=h
def Qq(h:p:=by rw[bj];exact cBd_r hB (j:=k) I):p:=h
def aEw(h:p:=by intro _ _ _ hK x hx;obtain⟨G42,hV42,rfl⟩:=hK;repeat(first|exact hx|exact lJ _ hx|refine bL _ ?_|refine .tail _ ?_)):p:=h
def aBO(h:p:=by rw[passes_snoc hoi,<-hZ];rfl):p:=h
def Jh(h:p:=by rw[ep];simp;omega):p:=h
def wH(h:p:=by simp[Ck.held]):p:=h
def Wq(h:p:=by rw[ep];simp):p:=h
def Jp(h:p:=by unfold modeU;simp_all<;>omega):p:=h
def Cg(h:p:=by rw[eJ,h.lR];omega):p:=h
def Pr(h:p:=by rw[bX,fT,au];omega):p:=h
def B0(h:p:=by rw[cBd_len (hPK.beginW (k/5)).ln];rfl):p:=h
def O3(h:p:=by rw[go (by show k+0+1<=n;omega)];exact hd):p:=h
def aIN(h:p:=by rw[cBd_len hWO,cBd_len bdZ_wf];decide):p:=h
def aHc(h:p:=by rw[cBd_len hPK,cBd_len bdZ_wf];decide):p:=h
def No(h:p:=by rw[bz,fq];rfl):p:=h
def uX(h:p:=by simp[hab]):p:=h
def aBh(h:p:=by rw[cBd_len (show(if decide (x/128=1)=true then onB B else offB B).Wf by split;exact hB.onW;exact hB.off)];rfl):p:=h
def aNB(h:p:=by rw[cBd_len hB,cBd_len bdZ_wf];decide):p:=h
def uN(h:p:=by simp_all):p:=h
def aBq(h:p:=by rw[hs9]):p:=h
def C4(h:p:=by unfold tickU;rw[ag hlit]):p:=h
def S8(h:p:=by show 0<=(if everyB b=0 then 8 else everyB b)/\(if everyB b=0 then 8 else everyB b)<65536;split<;>omega):p:=h
def Yx(h:p:=by rw[cBd_len hX1];simp only[eZ,az];omega):p:=h
def Za(h:p:=by first|exact aI aE|exact sP aE _ 15 rfl):p:=h
def aAG(h:p:=by unfold secCk dayCk;simp only[e1,e2,e3,e4,ne_eq,not_true_eq_false,not_false_eq_true,if_true,if_false];rfl):p:=h
def aKr(h:p:=by rw[dj]at hV0;exact hV0):p:=h
def aAB(h:p:=by rw[bj];exact kM (gD (l:=st) I)):p:=h
def C2(h:p:=by first|exact aI aE|exact sP aE _ 1 rfl):p:=h
def Xn(h:p:=by simp at *; unfold cmpI;split<;>(try split)<;>omega):p:=h
def Ys(h:p:=by show _=((cycleM m).acc++[_]).length;rw[bX];rfl):p:=h
def Ht(h:p:=by rw[eJ,h.lO];omega):p:=h
def Vu(h:p:=by rw[Td (be _)];simp):p:=h
def aA8(h:p:=by have h9:=likeN_drop (a.drop j) (b.drop j);rw[bi,bi,<-hn9]at h9;exact h9):p:=h
def Ao(h:p:=by rw[setV_setV]):p:=h
def aLR(h:p:=by rw[beat_step]):p:=h
def aCI(h:p:=by unfold fromCp;dsimp only;(repeat(first|rw[ag I]|rw[ae I]));first|done|rfl):p:=h
def pE(h:p:=by rfl):p:=h
def xQ(h:p:=by rw[e9];rfl):p:=h
def Su(h:p:=by unfold beginPt;dsimp only;omega):p:=h
def aAW(h:p:=by rw[<-kb];omega):p:=h
def Hb(h:p:=by simp[h.lR];omega):p:=h
def aOQ(h:p:=by rw[<-hh8]):p:=h
def aC1(h:p:=by rw[cMm_len h.ln,cBd_len (h.bd.write (a-65296) hx).ln];exact ah rfl):p:=h
def Pz(h:p:=by show _-(i+1)<_-i;omega):p:=h
def Bt(h:p:=by rw[eJ,h.lR]):p:=h
def Y5(h:p:=by first|(rintro⟨q7,h9⟩;omega)|(rintro⟨q7,h9⟩;rw[hon9]at q7;cases q7)):p:=h
def Pg(h:p:=by show i+1<=l.length;omega):p:=h
def E1(h:p:=by simp only[newM0,jo];rfl):p:=h
def aEB(h:p:=by unfold kdB;simp_all):p:=h
def A9(h:p:=by rw[show readB n B=255 from ag I]):p:=h
def E2(h:p:=by simp only[au];omega):p:=h
def Rw(h:p:=by unfold onV;rw[hon9];rfl):p:=h
def zC(h:p:=by simp[hl]):p:=h
def Kk(h:p:=by rw[h.lR];exact hj):p:=h
def Fz(h:p:=by rw[bX];omega):p:=h
def Sr(h:p:=by simp[flat4,h.lV];omega):p:=h
def Na(h:p:=by simp[h.lO,h.lR];omega):p:=h
def Ft(h:p:=by rw[h];decide):p:=h
def aK0(h:p:=by rw[cMm_len q2.ln,cBd_len q2.bd.tick.ln];exact ah rfl):p:=h
def Fm(h:p:=by rw[eJ,h.lV]):p:=h
def Em(h:p:=by rw[eJ,h.lO]):p:=h
def B3(h:p:=by rw[cMmR_eq (ct)]):p:=h
def aFH(h:p:=by unfold readB;rw[ae I,ae I,ag I,c8]):p:=h
def Ui(h:p:=by have:=hK.small;omega):p:=h
def T8(h:p:=by rw[show 144*160=u.P.length by rw[hu.lP],dj];rfl):p:=h
def Gz(h:p:=by rw[midM_len]):p:=h
def aHB(h:p:=by rw[flat4,hB.lV];rfl):p:=h
def Vt(h:p:=by rw[cBd_len h.bd];rfl):p:=h
def Pf(h:p:=by rw[v_set hB hn];rfl):p:=h
def aAA(h:p:=by rw[show letsCp (cycleM m).cp a=true by simpa using q0];decide):p:=h
def Qg(h:p:=by rw[cBd_len hWL];rfl):p:=h
def S6(h:p:=by intro _ _ _ hK;obtain⟨rfl,rfl⟩:=hK;exact λx hx=>hx):p:=h
def aB5(h:p:=by rw[foldQ_take hq,putQ];exact h.sub (.cons_cons _ (.cons _ aJ))):p:=h
def Jr(h:p:=by rw[h1];decide):p:=h
def aEU(h:p:=by rw[(show isP o.kind=false from cu I)];decide):p:=h
def D2(h:p:=by cases ht:s.taken<;>simp_all):p:=h
def yR(h:p:=by cases h):p:=h
def aDh(h:p:=by show(b.vs.set n x).length=4;rw[c7];exact h.lV):p:=h
def Uu(h:p:=by rw[hC_len hr];simp):p:=h
def Si(h:p:=by rw[eJ,fT];omega):p:=h
def aEr(h:p:=by unfold askV;have q4:(askU u).sig=sigU u:=rfl;simp_all):p:=h
def aCF(h:p:=by unfold readB;rw[ae I,ag I,c8]):p:=h
def aEn(h:p:=by simp only[bX,eJ,fT,dM,au];omega):p:=h
def aGp(h:p:=by rw[cBd_len (hPK.beginW (k/5)).ln,cBd_len bdZ_wf];decide):p:=h
def aCg(h:p:=by first|exact jR aE|exact Ch aE _ 160 rfl):p:=h
def M3(h:p:=by show d.done=d.done+0;omega):p:=h
def aDF(h:p:=by show _=(chkH l i-(l.getD (308+i) 0+1))%256;omega):p:=h
def aAc(h:p:=by rw[<-z8_all hl,nU_len (z8_ln hl (be _))];rfl):p:=h
def Zq(h:p:=by rw[bZ I I];omega):p:=h
def aDB(h:p:=by rw[cBd_len hX9];simp only[eZ,az];omega):p:=h
def aAb(h:p:=by rw[cBd_len hX2];simp only[eZ,az];omega):p:=h
def aFw(h:p:=by rw[cBd_len hW9];simp only[eZ,az];omega):p:=h
def aEq(h:p:=by rw[cBd_len hC9];simp only[eZ,az];omega):p:=h
def W2(h:p:=by first|(rw[cBd_len hN2];rfl)|(rw[cBd_len hN3];rfl)):p:=h
def Nl(h:p:=by simp[h.lP];omega):p:=h
def Us(h:p:=by simp[h.lO];omega):p:=h
def N6(h:p:=by rw[cBd_len hB.off.ln];rfl):p:=h
def aNK(h:p:=by rw[hll,putP_tot i n hi2 hy,gl]):p:=h
def Ti(h:p:=by rw[hB.lV];omega):p:=h
def aE3(h:p:=by have h9:=hrx.at cChg_len hcx0 1 rfl;simpa using h9):p:=h
def aBp(h:p:=by have h9:=hrx.at cChg_len hcx0 0 rfl;simpa using h9):p:=h
def aNS(h:p:=by rw[cMm_len q4.ln];exact ah rfl):p:=h
def aNl(h:p:=by rw[bj];exact putBd_r hB (j:=k) I _):p:=h
def Oc(h:p:=by rw[eJ,h.work]):p:=h
def X5(h:p:=by rw[bX];simp only[au];omega):p:=h
def aEZ(h:p:=by intro x hx;rw[List.mem_singleton.1 hx];exact ho):p:=h
def aDf(h:p:=by show b.length-(j+n9+k9)<b.length-j;omega):p:=h
def aDt(h:p:=by rw[best_step hcx0,hb];exact better_no (.inl I)):p:=h
def aDa(h:p:=by rw[hon9]):p:=h
def aAO(h:p:=by rw[cBd_len (h.bd.write (a-65296) hx).ln];rfl):p:=h
def R8(h:p:=by rw[ig];exact aDs bv 0 5 _ c):p:=h
def aEs(h:p:=by show min N 5000-(i+1)<min N 5000-i;omega):p:=h
def Up(h:p:=by simp[r4_len h]):p:=h
def Vl(h:p:=by rw[ag I]):p:=h
def Qn(h:p:=by rw[ae I]):p:=h
def aRN(h:p:=by rw[hu.lV];rfl):p:=h
def Qw(h:p:=by rw[h4];decide):p:=h
def aAy(h:p:=by first|exact Hz I I|exact A3 _):p:=h
def gO(h:p:=by(try simp only[ak,ai,cj,av,co,aw,ne_eq]at *);omega):p:=h
def zO(h:p:=by first|exact eB 0 rfl rfl rfl rfl aD|exact eF 0 rfl rfl rfl rfl aD|exact iU 0 rfl rfl rfl rfl aD|exact fV 0 rfl rfl rfl rfl aD):p:=h
def aQv(h:p:=by first|exact rE 4 16 aD rfl I (show _<(256:Int)by omega) (show _<(256:Int)by decide)|rfl):p:=h
def Da(h:p:=by first|exact eB 4 rfl rfl rfl rfl aD|exact eF 4 rfl rfl rfl rfl aD|exact iU 4 rfl rfl rfl rfl aD|exact fV 4 rfl rfl rfl rfl aD):p:=h
def yD(h:p:=by first|(intro h;cases h;done)|(intro _ _ _ hK;obtain⟨rfl,rfl⟩:=hK;exact(λx hx=>uY))):p:=h
def yL(h:p:=by first|exact rE 3 8 aD rfl I (show _<(256:Int)by omega) (show _<(256:Int)by decide)|rfl):p:=h
def Gk(h:p:=by first|exact eB 3 rfl rfl rfl rfl aD|exact eF 3 rfl rfl rfl rfl aD|exact iU 3 rfl rfl rfl rfl aD|exact fV 3 rfl rfl rfl rfl aD):p:=h
def aJt(h:p:=by first|exact Cu 16 aD I (show _<(256:Int)by omega)|exact L5 16 aD|rfl):p:=h
def Ky(h:p:=by first|exact eB 1 rfl rfl rfl rfl aD|exact eF 1 rfl rfl rfl rfl aD|exact iU 1 rfl rfl rfl rfl aD|exact fV 1 rfl rfl rfl rfl aD):p:=h
def aLB(h:p:=by first|exact Ct 7 aD I (show _<(256:Int)by omega) (show _<(256:Int)by decide)|rfl):p:=h
def Eo(h:p:=by first|exact rE 1 2 aD rfl I (show _<(256:Int)by omega) (show _<(256:Int)by decide)|rfl):p:=h
def Nf(h:p:=by first|exact eB 2 rfl rfl rfl rfl aD|exact eF 2 rfl rfl rfl rfl aD|exact iU 2 rfl rfl rfl rfl aD|exact fV 2 rfl rfl rfl rfl aD):p:=h
def Xm(h:p:=by first|exact Cu 256 aD I (show _<(65536:Int)by omega)|exact aMV 256 aD|rfl):p:=h
def Dw(h:p:=by intro _ _ _ hK;obtain⟨G,_,rfl⟩:=hK;exact λx hx=>Th):p:=h
def N0(h:p:=by rw[Td aL];simp only[eZ,az];(try simp only[ak,ai,cj,av,co,aw,ne_eq]at *);omega):p:=h
def Ma(h:p:=by first|exact Cu 256 aD I (show _<(9223372036854775808:Int)by omega)|rfl):p:=h
def aIm(h:p:=by first|exact rE 1 2 aD rfl I (show _<(65536:Int)by omega) (show _<(65536:Int)by decide)|rfl):p:=h
def M2(h:p:=by rw[bZ aL aL];(try simp only[ak,ai,cj,av,co,aw,ne_eq]at *);omega):p:=h
def aRD(h:p:=by first|exact Ct 2 aD I (show _<(256:Int)by omega) (show _<(256:Int)by decide)|rfl):p:=h
def rY(h:p:=by rw[e9];exact hG):p:=h
def N8(h:p:=by have h9:=forward_fn e g hg (k+i) (max n (k+i+1)) he I I ⟨aR,aR⟩ w (St.lentV hw);rw[hT.b]at h9;exact h9):p:=h
def aCr(h:p:=by rw[cU_len ((hu.dot_ (x:=0) aD).line_ (x:=u.line+1) I)];simp only[eZ,az];(try simp only[ak,ai,cj,av,co,aw,ne_eq]at *);omega):p:=h
def tB(h:p:=by dsimp only;omega):p:=h
def D6(h:p:=by rcases(show j<i\/j=i by omega)with h9|rfl;exact hj j h9;exact z2):p:=h
def J5(h:p:=by first|exact Ct 6 aD I (show _<(256:Int)by omega) (show _<(256:Int)by decide)|rfl):p:=h
def L0(h:p:=by first|exact Ct 4 aD I (show _<(256:Int)by omega) (show _<(256:Int)by decide)|rfl):p:=h
def J8(h:p:=by first|exact Cu 2 aD I (show _<(256:Int)by omega)|exact L5 2 aD|rfl):p:=h
def Qo(h:p:=by have h9:=(rowM_cp (bU hm aP w hw)) 0 _ rfl;exact h9):p:=h
def aGC(h:p:=by rw[write_R _ hno aL]):p:=h
def A1(h:p:=by have h9:=(Wz hrx aP w hw).at cChg_len hcx0 0 rfl;simpa using h9):p:=h
def aF4(h:p:=by intro _ _ _ hK;obtain⟨_,rfl,rfl⟩:=hK;exact λx hx=>Th):p:=h
def N9(h:p:=by have h9:=(bU hr aP w hw).at cSg_len hsi 0 rfl;simpa using h9):p:=h
def aKa(h:p:=by unfold writeBd;rw[ae I,ae I,ae Kn,ae I,c8];unfold voiceB;rw[ae I,ae I]):p:=h
def Qf(h:p:=by unfold placeV;rw[ae aL,ae aL]):p:=h
def aDK(h:p:=by unfold writeBd;rw[ae I,ae I,ae Kn,ae I,c8];unfold voiceB;rw[ag I]):p:=h
def aBv(h:p:=by first|exact rE 12 4096 aD rfl I (show _<(65536:Int)by omega) (show _<(65536:Int)by decide)|rfl):p:=h
def T1(h:p:=by first|exact rE 6 64 aD rfl I (show _<(256:Int)by omega) (show _<(256:Int)by decide)|rfl):p:=h
def aE4(h:p:=by first|exact rE 5 32 aD rfl I (show _<(256:Int)by omega) (show _<(256:Int)by decide)|rfl):p:=h
def Il(h:p:=by rw[rowU_len];omega):p:=h
def aD8(h:p:=by first|exact Ct 3 aD I (show _<(256:Int)by omega) (show _<(256:Int)by decide)|rfl):p:=h
def aFv(h:p:=by intro _ _ _ hK;obtain⟨_,⟨rfl,va',Ga',hV',rfl⟩,rfl⟩:=hK;exact(λx hx=>K8)):p:=h
def aEA(h:p:=by first|exact Cu 128 aD I (show _<(256:Int)by omega)|exact L5 128 aD|rfl):p:=h
def aDw(h:p:=by rcases(show i=0\/i=1\/i=2\/i=3 by omega)with rfl|rfl|rfl|rfl<;>rfl):p:=h
def Dx(h:p:=by simp at *; omega):p:=h
def Je(h:p:=by rw[e9,ae aD]):p:=h
def aOR(h:p:=by rw[jf,gh];exact(Nat.div_lt_iff_lt_mul (iq aD)).1 hy):p:=h
def aEK(h:p:=by first|exact Cu 32 aD I (show _<(9223372036854775808:Int)by omega)|rfl):p:=h
def aEY(h:p:=by unfold writeBd;rw[ae I,ae I,ae Kn,ag I,c8]):p:=h
def S4(h:p:=by intro _ _ _ hK;obtain⟨_,⟨_,_,rfl,_⟩,rfl⟩:=hK;exact λx hx=>Th):p:=h
def aOa(h:p:=by intro _ _ _ hK;obtain⟨_,⟨rfl,rfl⟩,rfl⟩:=hK;exact(λx hx=>K8)):p:=h
def aBn(h:p:=by intro _ _ _ hK;obtain⟨_,⟨_,rfl,_⟩,rfl⟩:=hK;exact λx hx=>Th):p:=h
def aEo(h:p:=by unfold beginB;dsimp only;rw[ae aD,ae (show ¬byB B=0 from z1)]):p:=h
def aEN(h:p:=by unfold beginB;dsimp only;rw[ae aD,ag (show byB B=0 from z1)]):p:=h
def aBG(h:p:=by intro _ _ _ hK;obtain⟨_,rfl,rfl⟩:=hK;exact(λx hx=>uY)):p:=h
def aAq(h:p:=by rw[tabL_len hP (by simp[tabB]),cO_len];have:=hq1 i aL;omega):p:=h
def aEu(h:p:=by dsimp only;have:=hq1 i aL;rw[bZ aAW aAW];simp):p:=h
def aNL(h:p:=by rw[dj]):p:=h
def aCe(h:p:=by dsimp only;have:=hq1 i aL;rw[bZ I I];omega):p:=h
def O5(h:p:=by unfold numU;rw[ag aL]):p:=h
def iH(h:p:=by decide):p:=h
def jK(h:p:=by rw[e9]):p:=h
def kQ(h:p:=by simp):p:=h
def iL{Γ:dJ}{k:fK}{e:bE}{H:aF}{ops l:List Oper}(h:L1 Γ ops l k e H):L1 Γ ops l k e H:=h
def iD{Γ:dJ}{k:fK}{e:bE}{H:aF}{ops:List Oper}{S:AI->Prop}{need:AE}{pl:kB}(h:L2 Γ ops S need pl k e H):L2 Γ ops S need pl k e H:=h
def iC{Γ:dJ}{k:fK}{e:bE}{H:aF}{c:Code}(h:C Γ c k e H):C Γ c k e H:=h
def jA (h:T_ q p:=by
 intro k_
 first
 |((with_reducible refine iC ?_);first|refine F4 ?_|refine aJK ?_|refine aKc ?_|refine aBw ?_|refine aKS ?_|refine aNF rfl ?_|refine aKb rfl ?_|refine aP0 rfl ?_)
 |((with_reducible refine iL ?_);first|refine aMz ?_|refine RLa ?_|refine RLo ?_|refine RLp ?_|refine Rl ?_)
 |((with_reducible refine iD ?_);first|refine aQT ?_|refine RDa ?_|refine RDo ?_|refine aFn rfl rfl rfl ?_|refine RD ?_)
 exact k_.u):=h ⟨k_⟩
def bG(h:T_ q p:=by intro k_;(iterate 1 refine jA ?_);exact k_.u):=h ⟨k_⟩
def aX(h:T_ q p:=by intro k_;(iterate 2 refine jA ?_);exact k_.u):=h ⟨k_⟩
def bY(h:T_ q p:=by intro k_;(iterate 3 refine jA ?_);exact k_.u):=h ⟨k_⟩
def eV(h:T_ q p:=by intro k_;(iterate 4 refine jA ?_);exact k_.u):=h ⟨k_⟩
def cT(h:T_ q p:=by intro k_;(iterate 5 refine jA ?_);exact k_.u):=h ⟨k_⟩
def eD(h:T_ q p:=by intro k_;(iterate 6 refine jA ?_);exact k_.u):=h ⟨k_⟩
def gL(h:T_ q p:=by intro k_;(iterate 7 refine jA ?_);exact k_.u):=h ⟨k_⟩
def mG(h:T_ q p:=by intro k_;(iterate 8 refine jA ?_);exact k_.u):=h ⟨k_⟩
def bW(h:T_ q p:=by intro k_;(iterate 9 refine jA ?_);exact k_.u):=h ⟨k_⟩
def cL(h:T_ q p:=by intro k_;(iterate 10 refine jA ?_);exact k_.u):=h ⟨k_⟩
def iT(h:T_ q p:=by intro k_;(iterate 11 refine jA ?_);exact k_.u):=h ⟨k_⟩
def fG(h:T_ q p:=by intro k_;(iterate 12 refine jA ?_);exact k_.u):=h ⟨k_⟩
def kD(h:T_ q p:=by intro k_;(iterate 13 refine jA ?_);exact k_.u):=h ⟨k_⟩
def jJ(h:T_ q p:=by intro k_;(iterate 14 refine jA ?_);exact k_.u):=h ⟨k_⟩
def kV(h:T_ q p:=by intro k_;(iterate 15 refine jA ?_);exact k_.u):=h ⟨k_⟩
def Aa(h:T_ q p:=by intro k_;(iterate 16 refine jA ?_);exact k_.u):=h ⟨k_⟩
def uV(h:T_ q p:=by intro k_;(iterate 17 refine jA ?_);exact k_.u):=h ⟨k_⟩
def sB(h:T_ q p:=by intro k_;(iterate 18 refine jA ?_);exact k_.u):=h ⟨k_⟩
def Cv(h:T_ q p:=by intro k_;(iterate 19 refine jA ?_);exact k_.u):=h ⟨k_⟩
def aKG(h:T_ q p:=by intro k_;(iterate 20 refine jA ?_);exact k_.u):=h ⟨k_⟩
def Uo(h:T_ q p:=by intro k_;(iterate 21 refine jA ?_);exact k_.u):=h ⟨k_⟩
def By(h:T_ q p:=by intro k_;(iterate 22 refine jA ?_);exact k_.u):=h ⟨k_⟩
def Zg(h:T_ q p:=by intro k_;(iterate 23 refine jA ?_);exact k_.u):=h ⟨k_⟩
def Kg(h:T_ q p:=by intro k_;(iterate 24 refine jA ?_);exact k_.u):=h ⟨k_⟩
def V4(h:T_ q p:=by intro k_;(iterate 25 refine jA ?_);exact k_.u):=h ⟨k_⟩
def Qa(h:T_ q p:=by intro k_;(iterate 27 refine jA ?_);exact k_.u):=h ⟨k_⟩
def aMa(h:T_ q p:=by intro k_;(iterate 28 refine jA ?_);exact k_.u):=h ⟨k_⟩
def aGF(h:T_ q p:=by intro k_;(iterate 30 refine jA ?_);exact k_.u):=h ⟨k_⟩
def aHi(h:T_ q p:=by intro k_;(iterate 40 refine jA ?_);exact k_.u):=h ⟨k_⟩
def aGw(h:T_ q p:=by intro k_;(iterate 53 refine jA ?_);exact k_.u):=h ⟨k_⟩
def eC (h:T_ q p:=by
 intro k_
 simp only[cw,cg,cn,al,bg]
 exact k_.u):=h ⟨k_⟩
def jP (h:T_ q p:=by
 intro k_
 refine fX false U U U (beq_eq_false_iff_ne.2 I) ?_
 exact k_.u):=h ⟨k_⟩
def cX (h:T_ q p:=by
 intro k_
 simp only[al,bg]
 exact k_.u):=h ⟨k_⟩
def Iz (h:T_ q p:=by
 intro k_
 exact DZ U (uT (A:=[]) (B:=[P_ b1]) U K_ U (λw hw=>evname1_fn b1 e.r hr 2 w (aI (b:=b1) aE w hw))) U gV (DY U (De (l:=(namL e).map (Value.int .i64)) (z:=[.int .i64 0,.int .i64 0,.int .i64 0,.int .i64 0,.int .i64 0,.int .i64 0,.int .i64 0,.int .i64 0,.int .i64 0,.int .i64 0,.int .i64 0,.int .i64 0,.int .i64 0,.int .i64 0,.int .i64 0,.int .i64 0,.int .i64 0,.int .i64 0]) (ps:=[(0,.int .i64 (e.r.a)),(1,.int .i64 (aQ .u8 e.r.f 240)),(2,.int .i64 (e.r.b)),(3,.int .i64 (e.r.c)),(4,.int .i64 (e.r.d)),(5,.int .i64 (e.r.e)),(6,.int .i64 (e.r.h)),(7,.int .i64 (e.r.l)),(8,.int .i64 (pairR e.r 4)),(9,.int .i64 (pairR e.r 0)),(10,.int .i64 (pairR e.r 1)),(11,.int .i64 (pairR e.r 2)),(12,.int .i64 (e.r.sp)),(13,.int .i64 (e.r.pc)),(14,.int .i64 (e.addr)),(15,.int .i64 (e.val)),(16,.int .i64 (e.kind)),(17,.int .i64 (e.bank))]) U U U aN) U (k_.u))):=h ⟨k_⟩
def pU (h:T_ q p:=by
 intro k_
 refine RW (v:=(.int .i64 ((i+1:Nat):Int))) U U (M _ (eU I)) (ZAm ?_)
 exact k_.u):=h ⟨k_⟩
def hU (h:T_ q p:=by
 intro k_
 refine ZEm ?_
 refine ZA2 ?_
 exact k_.u):=h ⟨k_⟩
def jW (h:T_ q p:=by
 intro k_
 refine ZBB ?_
 refine ZAa ?_
 exact k_.u):=h ⟨k_⟩
def qW (h:T_ q p:=by
 intro k_
 refine fX false U U U (cu I) ?_
 exact k_.u):=h ⟨k_⟩
def jT (h:T_ q p:=by
 intro k_
 refine ZB9 ?_
 rintro _ _ ⟨b1,rfl,rfl⟩
 revert b1
 exact k_.u):=h ⟨k_⟩
def qO (h:T_ q p:=by
 intro k_
 refine ZEm ?_
 refine ZAm ?_
 exact k_.u):=h ⟨k_⟩
def Mv (h:T_ q p:=by
 intro k_
 exact W (bJ U U Fh (aI (b:=b0) (l:=cBd ((putB k x B).setV (k/5) { ((putB k x B).v (k/5))with on:=((putB k x B).v (k/5)).on&&readyB (k/5) (putB k x B)})) aE)) U (W (bD (l':=cBd ((putB k x B).setV (k/5) { ((putB k x B).v (k/5))with on:=((putB k x B).v (k/5)).on&&readyB (k/5) (putB k x B)})) 0 U U U Zs (ones_cBd _) U aIN (putZ hWO)) U (k_.u))):=h ⟨k_⟩
def Af (h:T_ q p:=by
 intro k_
 exact W (bJ U U D3 (aI (b:=b0) (l:=cBd ({ (beatB ({B with div:=0}:Bd))with step:=(B.step+1)%8}:Bd)) aE)) U (W (bD (l':=cBd ({ (beatB ({B with div:=0}:Bd))with step:=(B.step+1)%8}:Bd)) 0 U U U D3 (ones_cBd _) U aGP (putZ hFN)) U (k_.u))):=h ⟨k_⟩
def Zk (h:T_ q p:=by
 intro k_
 refine RX (kP (A:=(b0,J [.int .u64 (FK.at Z.1 oi)] 36)::(lb,J [v0,.bool r] 123)::G0) (G:=[(pb,J Z.1 T)]) (R:=λv H=>v= .tuple #[]/\∃va' Gl',LineB 5 r va' (goes r 1 (FK.at Z.1 oi) Z.2).2 Gl'/\H=(b0,J [.int .u64 (goes r 1 (FK.at Z.1 oi) Z.2).1] 36)::(lb,J [va',.bool r] 123)::Gl') (((b0,J [.int .u64 (FK.at Z.1 oi)] 36)::(lb,J [v0,.bool r] 123)::G0).map (·.1)) K_ U (λ_ hb=>kA hb) (dG (number1L_fn r lb b0 1 aD v0 (FK.at Z.1 oi) hx8 Z.2 G0 hV0 (λL=>⟨hSz.byts,hSz.en,hSz.sz⟩) _))) U ?_
 rintro _ _ ⟨_,⟨rfl,va0,G1,hV1,rfl⟩,rfl⟩
 revert va0 G1 hV1
 exact k_.u):=h ⟨k_⟩
def oG (h:T_ q p:=by
 intro k_
 exact W (bJ U U U sW) U (k_.u)):=h ⟨k_⟩
def zV (h:T_ q p:=by
 intro k_
 refine RX (eE (l:=[.int .i64 kind,.int .i64 banks,.int .i64 ram,.bool on,.bool mode,.int .i64 low,.int .i64 high,.int .u8 last]) U U) U (ZBF λb0=>?_)
 revert b0
 exact k_.u):=h ⟨k_⟩
def iO (h:T_ q p:=by
 intro k_
 refine fX false U U U U ?_
 exact k_.u):=h ⟨k_⟩
def ZAS (h:T_ q p:=by
 intro k_
 refine aII _ [5,13,14,15,16,26,32] [0,1,3,7,15,31,15,79,255,511,1023,2047,4095,2047,2047,18431,59391,131071,262143,524287,1048575,2097151,4194303,8388607,16777215,33554431,16777215,134217727,268435455,536870911,1073741823,2147483647,1073741823,8589934591,17179869183,34359738367,68719476735,137438953471,274877906943,549755813887,1099511627775] (.step true 0 (.step true 1 (.step true 2 (.step true 3 (.step true 4 (.step true 6 (.step true 7 (.step false 5 (.step true 8 (.step true 9 (.step true 10 (.step true 11 (.step true 12 (.step true 13 (.step true 14 (.step true 15 (.step true 16 (.step true 17 (.step true 18 (.step true 19 (.step true 20 (.step true 21 (.step true 22 (.step true 23 (.step true 24 (.step true 25 (.step true 26 (.step true 27 (.step true 28 (.step true 29 (.step true 30 (.step true 31 (.step true 32 (.step true 33 (.step true 34 (.step true 35 (.step true 36 (.step true 37 (.step true 38 (.step true 39 (.step true 40 .done))))))))))))))))))))))))))))))))))))))))) U aN aN aN (λ_ h=>h) ?_
 refine ZAm ?_
 exact k_.u):=h ⟨k_⟩
def Tg (h:T_ q p:=by
 intro k_
 refine ZBI ?_
 exact W (bD (l':=cBd (((putB k x B).setV (k/5) { ((putB k x B).v (k/5))with on:=((putB k x B).v (k/5)).on&&readyB (k/5) (putB k x B)}))) 1 U U U U U U D4 (putBd_v hPK (k:=0) (y:={ ((putB k x B).v (k/5))with on:=((putB k x B).v (k/5)).on&&readyB (k/5) (putB k x B)}) I aD pE)) U (k_.u)):=h ⟨k_⟩
def eR (h:T_ q p:=by
 intro k_
 exact RW (gF U U U) U mC (k_.u)):=h ⟨k_⟩
def kE (h:T_ q p:=by
 intro k_
 refine fX true U U U (beq_iff_eq.2 hk) ?_
 exact k_.u):=h ⟨k_⟩
def fD (h:p:=by
 refine ZA2 ?_
 exact E0 U ⟨U,U⟩):p:=h
def Mi (h:p:=by
 have e1:heldB a x ⟨kind,banks,ram,on,mode,low,high,last⟩=false:=by unfold heldB;dsimp only;rw[ep];simp only[ak,cj,eq,iff_false];omega
 exact aU (λw hw=>fN U U U (aI (b:=b1) aE w hw) U) ⟨U,y_W⟩):p:=h
def ZAY (h:T_ q p:=by
 intro k_
 refine ZBI ?_
 exact RX (gZ (F:=[(b0,J (cCp (tickCp (cyc2 (cyc1 m)).cp)) 141)]) (A:=[(A.mb,J (cMm A acc (askM 1 (aQ .u8 (tickV (cyc4 (cyc3 (cyc2 (cyc1 m)))).u) 1 != 0) { (cyc4 (cyc3 (cyc2 (cyc1 m))))with u:=tickU (cyc4 (cyc3 (cyc2 (cyc1 m)))).u})) 156)]) (G:=[(A.ub,J (cU (tickU (cyc4 (cyc3 (cyc2 (cyc1 m)))).u)) 247)]) (R:=λv H=>v= .tuple #[]/\H=[(A.mb,J (cMm A acc (askM 2 (aQ .u8 (tickV (cyc4 (cyc3 (cyc2 (cyc1 m)))).u) 2 != 0) (askM 1 (aQ .u8 (tickV (cyc4 (cyc3 (cyc2 (cyc1 m)))).u) 1 != 0) { (cyc4 (cyc3 (cyc2 (cyc1 m))))with u:=tickU (cyc4 (cyc3 (cyc2 (cyc1 m)))).u}))) 156)]) K_ U (λw hw _=>ask_fnM A acc (askM 1 (aQ .u8 (tickV (cyc4 (cyc3 (cyc2 (cyc1 m)))).u) 1 != 0) { (cyc4 (cyc3 (cyc2 (cyc1 m))))with u:=tickU (cyc4 (cyc3 (cyc2 (cyc1 m)))).u}) hA5b 2 (aQ .u8 (tickV (cyc4 (cyc3 (cyc2 (cyc1 m)))).u) 2 != 0) w hw)) U (k_.u)):=h ⟨k_⟩
def lB (h:T_ q p:=by
 intro k_
 refine ZB9 ?_
 refine ZBF λb0=>?_
 revert b0
 exact k_.u):=h ⟨k_⟩
def ZAa (h:T_ q p:=by
 intro k_
 simp only[cw,cg]
 exact k_.u):=h ⟨k_⟩
def sA (h:p:=by
 refine ZBZ ?_
 exact aU (λ_ _=>dX U U) ⟨U,Kt⟩):p:=h
def zW (h:p:=by
 refine ZAm ?_
 exact aU (λw hw=>eL U U D3 (aI (b:=b1) (l:=cBd ({ (beatB ({B with div:=0}:Bd))with step:=(B.step+1)%8}:Bd)) aE w hw)) ⟨U,y_H⟩):p:=h
def pD (h:T_ q p:=by
 intro k_
 exact RW (dE U U) U U (k_.u)):=h ⟨k_⟩
def gY (h:T_ q p:=by
 intro k_
 exact RW (nD U U) U mC (k_.u)):=h ⟨k_⟩
def uF (h:T_ q p:=by
 intro k_
 exact W (bJ U U U y_r) U (k_.u)):=h ⟨k_⟩
def yA (h:T_ q p:=by
 intro k_
 refine RW (v:=(.int .i64 ((n+1:Nat):Int))) U U (M _ (eU I)) (ZAm ?_)
 exact k_.u):=h ⟨k_⟩
def Cw (h:T_ q p:=by
 intro k_
 refine RX (eE (l:=[.int .u16 cnt,.int .u8 tima,.int .u8 tma,.int .u8 tac,.bool over]) U U) U (ZBF λb0=>?_)
 revert b0
 exact k_.u):=h ⟨k_⟩
def ZAi (h:T_ q p:=by
 intro k_
 refine ZBI ?_
 exact RX (gZ (F:=[(b0,J (cCp (tickCp (cyc2 (cyc1 m)).cp)) 141)]) (A:=[(A.mb,J (cMm A acc { (cyc4 (cyc3 (cyc2 (cyc1 m))))with u:=tickU (cyc4 (cyc3 (cyc2 (cyc1 m)))).u}) 156)]) (G:=[(A.ub,J (cU (tickU (cyc4 (cyc3 (cyc2 (cyc1 m)))).u)) 247)]) (R:=λv H=>v= .tuple #[]/\H=[(A.mb,J (cMm A acc (askM 1 (aQ .u8 (tickV (cyc4 (cyc3 (cyc2 (cyc1 m)))).u) 1 != 0) { (cyc4 (cyc3 (cyc2 (cyc1 m))))with u:=tickU (cyc4 (cyc3 (cyc2 (cyc1 m)))).u})) 156)]) K_ U (λw hw _=>ask_fnM A acc { (cyc4 (cyc3 (cyc2 (cyc1 m))))with u:=tickU (cyc4 (cyc3 (cyc2 (cyc1 m)))).u} hA5 1 (aQ .u8 (tickV (cyc4 (cyc3 (cyc2 (cyc1 m)))).u) 1 != 0) w hw)) U (k_.u)):=h ⟨k_⟩
def kF (h:T_ q p:=by
 intro k_
 rintro _ _ ⟨_,⟨rfl,G0,rfl,hG0⟩,rfl⟩
 revert G0 hG0
 exact k_.u):=h ⟨k_⟩
def Ay (h:T_ q p:=by
 intro k_
 refine ZBI ?_
 exact W (bD (l':=cBd (({ (beatB ({B with div:=0}:Bd))with step:=(B.step+1)%8}:Bd))) 1 U U U U U U y_1 (putBd_step hE _)) U (k_.u)):=h ⟨k_⟩
def jN (h:T_ q p:=by
 intro k_
 refine fX true U U U U ?_
 exact k_.u):=h ⟨k_⟩
def ZAm (h:T_ q p:=by
 intro k_
 refine aX ?_
 exact k_.u):=h ⟨k_⟩
def Mp (h:p:=by
 refine pU ?_
 exact⟨(i+1,va0,G1),⟨aR,aOk⟩,aR,.cons U .nil,bB,λ_ h=>(((h.sub (.cons_cons _ (.cons _ aJ))).perm (bf (l₁:=[(pb,_)]) (l₂:=(lb,_)::G1)))).as aBO⟩):p:=h
def Nw (h:p:=by
 have e1:latchB a x ⟨kind,banks,ram,on,mode,low,high,last⟩=false:=by unfold latchB;simp_all
 exact aU (λw hw=>fN U U U (aI (b:=b1) aE w hw) U) ⟨U,Z4⟩):p:=h
def Du (h:p:=by
 refine qO ?_
 exact aU (λw hw=>eL U U U (aI (b:=b1) aE w hw)) ⟨U,y_K⟩):p:=h
def Wb (h:T_ q p:=by
 intro k_
 refine RX (eE (l:=[.int .u8 s,.int .u8 m,.int .u8 h,.int .i64 day,.int .i64 sub,.bool halt,.bool carry,.int .u8 d0,.int .u8 d1,.int .u8 d2,.int .u8 d3,.int .u8 d4]) U U) U (ZBF λb0=>?_)
 revert b0
 exact k_.u):=h ⟨k_⟩
def pF (h:p:=by
 refine ZBZ ?_
 exact E0 U ⟨U,U⟩):p:=h
def Bz (h:T_ q p:=by
 intro k_
 have e7:(if o.kind=26/\o.x≠4 then idles K.toaRU 1 x else x)=x:=ae I
 revert e7
 exact k_.u):=h ⟨k_⟩
def oZ (h:T_ q p:=by
 intro k_
 simp only[al]
 refine RS ?_
 exact k_.u):=h ⟨k_⟩
def ZAu (h:T_ q p:=by
 intro k_
 exact W (aW U U (bT (v:=P_ A.ub) aE (get_mid (m:=(cyc4 (cyc3 (cyc2 (cyc1 m))))) q3.ln (j:=14) U))) U (RX (gZ (F:=[(b0,J (cCp (tickCp (cyc2 (cyc1 m)).cp)) 141),(A.mb,J (cMm A acc (cyc4 (cyc3 (cyc2 (cyc1 m))))) 156)]) (A:=[(A.ub,J (cU (cyc4 (cyc3 (cyc2 (cyc1 m)))).u) 247)]) (G:=[]) (R:=λv H=>v= .int .u8 (tickV (cyc4 (cyc3 (cyc2 (cyc1 m)))).u)/\H=[(A.ub,J (cU (tickU (cyc4 (cyc3 (cyc2 (cyc1 m)))).u)) 247)]) K_ U (Fe (tick_fn A.ub (cyc4 (cyc3 (cyc2 (cyc1 m)))).u q3.u))) U (k_.u))):=h ⟨k_⟩
def Io (h:T_ q p:=by
 intro k_
 refine eA (H':=[(b,J (cU (stepU u)) 247)]) (λ_ h=>h.as aBq) ?_
 exact W (iB K_ U (kK (ask_fn b (stepU u) hws))) U (k_.u)):=h ⟨k_⟩
def xJ (h:T_ q p:=by
 intro k_
 refine jP ?_
 refine ZBZ ?_
 exact k_.u):=h ⟨k_⟩
def Ha (h:T_ q p:=by
 intro k_
 refine RX (cB (F:=[(b0,_)]) (A:=(rb,_)::_) K_ U (dG (ridle_fn K rb 1 aD x h G hG))) U (kF λG0 hG0=>?_)
 revert G0 hG0
 exact k_.u):=h ⟨k_⟩
def ZA2 (h:T_ q p:=by
 intro k_
 refine bY ?_
 exact k_.u):=h ⟨k_⟩
def kR (h:T_ q p:=by
 intro k_
 refine ZBI ?_
 refine ZEm ?_
 exact k_.u):=h ⟨k_⟩
def kN (h:T_ q p:=by
 intro k_
 refine ZBI ?_
 refine hU ?_
 exact k_.u):=h ⟨k_⟩
def ZA5 (h:T_ q p:=by
 intro k_
 refine ZBI ?_
 exact DX U (gZ (F:=(b0,_)::Ga) (A:=[(A.mb,J (cMm A va m) 156),(A.ub,J (cU m.u) 247)]) (G:=[(A.rb,J (List.map Z m.ram++A.rs) 5),(A.ob,J (List.map Z m.rom++A.sp) 5)]) (R:=λv H=>v= .int .u8 (seenM a (cycleM m))/\H=[(A.mb,J (cMm A va (cycleM m)) 156),(A.ub,J (cU (cycleM m).u) 247)]) K_ U (λw hw hw2=>seen_fn A va m h a ha w hw (aK.left (aI (b:=A.rb) aE w hw2)) (aK.left (aI (b:=A.ob) aE w hw2)) hd)) U aOa (k_.u)):=h ⟨k_⟩
def Po (h:T_ q p:=by
 intro k_
 exact W (bJ U U Gh (aI (b:=b0) (l:=cBd B) aE)) U (W (bD (l':=cBd B) 0 U U U Gh (ones_cBd _) U aNB (putZ hB)) U (k_.u))):=h ⟨k_⟩
def uB (h:T_ q p:=by
 intro k_
 refine W (bJ U U U y_F) U (hU ?_)
 exact k_.u):=h ⟨k_⟩
def Kl (h:T_ q p:=by
 intro k_
 refine eA (λw hw=>hw.perm (bf (l₁:=(b0,_)::(lb,_)::G1) (l₂:=[(pb,_)]))) ?_
 refine eC ?_
 exact k_.u):=h ⟨k_⟩
def ZA9 (h:T_ q p:=by
 intro k_
 refine ZBV ?_
 exact RX (gZ (F:=(b0,_)::Ga) (A:=[(A.mb,J (cMm A va m) 156),(A.ub,J (cU m.u) 247)]) (G:=[(A.rb,J (List.map Z m.ram++A.rs) 5),(A.ob,J (List.map Z m.rom++A.sp) 5)]) (R:=λv H=>v= .tuple #[]/\H=[(A.mb,J (cMm A va (cycleM m)) 156),(A.ub,J (cU (cycleM m).u) 247)]) K_ U (λw hw hw2=>cycle_fn A va m h w hw (aK.left (aI (b:=A.rb) aE w hw2)) (aK.left (aI (b:=A.ob) aE w hw2)) hd)) U (k_.u)):=h ⟨k_⟩
def I6 (h:T_ q p:=by
 intro k_
 have hst:St w _ ((b,J (cDb cap (pM q) (P_ hb) k (.slice (Q_ fa) (g.enc 0).length fc) lb mp pv wv asked done tab) 108)::(mp,cY .u64 (l) (c))::(hM q m++(GH++(GL++D)))) w:=hst
 have hml:ms.length<=256:=by have:=hL.len;have:=(capT_ok cap).2;omega
 revert hst hml
 exact k_.u):=h ⟨k_⟩
def ZBB (h:T_ q p:=by
 intro k_
 rintro _ _ ⟨_,⟨rfl,rfl⟩,rfl⟩
 exact k_.u):=h ⟨k_⟩
def gK (h:T_ q p:=by
 intro k_
 exact RY gT U (k_.u)):=h ⟨k_⟩
def Kz (h:p:=by
 refine ZBI ?_
 exact⟨b2,trivial,.cons U .nil,bB,λ_ h=>h.sub (.cons_cons _ (ed _))⟩):p:=h
def Jy (h:T_ q p:=by
 intro k_
 refine aO K_ (λw hw=>ready_fn d.b d.q.A.mb w (bT (b:=d.b) (l:=Db.cs d g (k)) (.tail _ (.head _)) U w hw)) ?_
 exact k_.u):=h ⟨k_⟩
def ZBF (h:T_ q p:=by
 intro k_
 rintro _ _ ⟨b0,rfl,rfl⟩
 revert b0
 exact k_.u):=h ⟨k_⟩
def Sm (h:T_ q p:=by
 intro k_
 exact RW (jB U U aD) U (qM 256 aD aD) (RW (v:=(.int .u8 (x/256))) (gF U U U) U (M _ ((nW _).trans I)) (k_.u))):=h ⟨k_⟩
def Pk (h:T_ q p:=by
 intro k_
 have hVc:bS 298 3 va (cycleM m).acc.length (aM cAc (cycleM m).acc) Ga:=by rw[cycleM_acc];exact hV
 have hrc:(cycleM m).acc.length+1<=1000000:=by rw[cycleM_acc];omega
 revert hVc hrc
 exact k_.u):=h ⟨k_⟩
def ZBI (h:T_ q p:=by
 intro k_
 refine bG ?_
 exact k_.u):=h ⟨k_⟩
def Ei (h:p:=by
 refine uV ?_
 exact aU (λ_ _=>dX U U) ⟨U,_,U⟩):p:=h
def Rc (h:T_ q p:=by
 intro k_
 refine oG ?_
 exact RX (cB (F:=[(b0,_)]) (A:=(rb,_)::_) K_ U (dG (rbytes_fn K rb x (h.le I:RunOk K.toaRT (bn+2) x) G hG o ho))) U (k_.u)):=h ⟨k_⟩
def ZBL (h:T_ q p:=by
 intro k_
 exact RY (eF (n:=romS b) (329) U U U U I) U (W (bD (l':=(((((madeP (List.replicate (romS b) 0) prog (min prog.length 15000)).set 327 kind).set 328 (b%9))).set (329) (ram)).map Z) 0 U U U U U U (len_byte (n:=romS b) Bi I) (put_byte (l:=(((madeP (List.replicate (romS b) 0) prog (min prog.length 15000)).set 327 kind).set 328 (b%9))) (n:=romS b) ram Bi zX zX)) U (k_.u))):=h ⟨k_⟩
def M8 (h:T_ q p:=by
 intro k_
 refine DR [4,5,6,7,8,9,10,11,12] (bQ [0,2,4,6,8,10,12,14,16,18,20,22,24,27]) ?_
 refine kD ?_
 exact k_.u):=h ⟨k_⟩
def Iu (h:T_ q p:=by
 intro k_
 refine DX U (cB (F:=[(b0,_)]) (A:=(rb,_)::_) K_ U (dG (rget_fn K rb x h G hG o.y))) U y_I (kF λG0 hG0=>?_)
 revert G0 hG0
 exact k_.u):=h ⟨k_⟩
def Jd (h:p:=by
 refine qO ?_
 exact aU (λw hw=>eL U U U (aI (b:=b2) aE w hw)) ⟨U,y_Z⟩):p:=h
def wK (h:T_ q p:=by
 intro k_
 refine ZAm ?_
 exact DW U (gF U U U) U mC (k_.u)):=h ⟨k_⟩
def Tc (h:T_ q p:=by
 intro k_
 refine ZAm ?_
 exact RX (eE (l:=[.int .u8 data,.int .u8 control,.int .u8 last,.int .i64 bits,.int .i64 count,.int .i64 sent]) U U) U (k_.u)):=h ⟨k_⟩
def Le (h:T_ q p:=by
 intro k_
 exact W (bJ U U U (λw hw=>rowM_bk (m:=m) (acc:=acc) (aI (b:=A.mb) aE w hw))) U (k_.u)):=h ⟨k_⟩
def ZBS (h:T_ q p:=by
 intro k_
 exact RY (eF (n:=romS b) (328) U U U U I) U (W (bD (l':=((((madeP (List.replicate (romS b) 0) prog (min prog.length 15000)).set 327 kind)).set (328) ((b%9))).map Z) 0 U U U U U U (len_byte (n:=romS b) Bi I) (put_byte (l:=((madeP (List.replicate (romS b) 0) prog (min prog.length 15000)).set 327 kind)) (n:=romS b) (b%9) Bi zX zX)) U (k_.u))):=h ⟨k_⟩
def iI (h:T_ q p:=by
 intro k_
 refine cX ?_
 refine ZAm ?_
 exact k_.u):=h ⟨k_⟩
def wG (h:T_ q p:=by
 intro k_
 exact DW U (gF U U U) U vO (k_.u)):=h ⟨k_⟩
def ZBV (h:T_ q p:=by
 intro k_
 refine cT ?_
 exact k_.u):=h ⟨k_⟩
def zZ (h:T_ q p:=by
 intro k_
 refine kO (L':=[(b1,J (cBd bdZ) 147),(b0,J (cBd (beatB ({B with div:=0}:Bd))) 147)]) (λw h=>h.as aOQ) ?_
 refine ZAm ?_
 exact W (aW U U (bT (v:= .int .i64 B.step) aE ((cBd_step hE).trans aLR))) U (k_.u)):=h ⟨k_⟩
def Rd (h:T_ q p:=by
 intro k_
 refine ZEs ?_
 refine ZBI ?_
 exact k_.u):=h ⟨k_⟩
def wP (h:T_ q p:=by
 intro k_
 refine fX true U U U (am I) ?_
 exact k_.u):=h ⟨k_⟩
def ZBZ (h:T_ q p:=by
 intro k_
 refine eV ?_
 exact k_.u):=h ⟨k_⟩
def Sf (h:T_ q p:=by
 intro k_
 exact DZ U (uT (A:=[]) (B:=[P_ b1]) U K_ U (λw hw=>evname1_fn b1 e.r hr 1 w (aI (b:=b1) aE w hw))) U gV (k_.u)):=h ⟨k_⟩
def mT (h:p:=by
 refine ZBI ?_
 exact EN aJ ⟨U,y_l⟩):p:=h
def ZBc (h:p:=by
 refine KC (λq8 z8=>?_) (λq8 z8=>?_)
 ·refine ZA2 ?_
  refine RW (mM U U) U rL (ZA2 ?_)
  refine RY (eB (a-65408).toNat U U U I I) U (W (bD (l':=cMm A acc {m with high:=m.high.set (a-65408).toNat x}) 0 U U U U U U Vj (putM_high h.ln I _)) U (cX ?_))
  exact mT
 exact mT):p:=h
def jE (h:T_ q p:=by
 intro k_
 refine eC ?_
 refine ZAm ?_
 exact k_.u):=h ⟨k_⟩
def ZBe (h:T_ q p:=by
 intro k_
 exact RY (eF (n:=romS b) (327) U U U U I) U (W (bD (l':=(((madeP (List.replicate (romS b) 0) prog (min prog.length 15000))).set (327) (kind)).map Z) 0 U U U U U U (len_byte (n:=romS b) Bi I) (put_byte (l:=(madeP (List.replicate (romS b) 0) prog (min prog.length 15000))) (n:=romS b) kind Bi zX zX)) U (k_.u))):=h ⟨k_⟩
def oE (h:T_ q p:=by
 intro k_
 exact RW (mM U U) U mC (k_.u)):=h ⟨k_⟩
def qR (h:T_ q p:=by
 intro k_
 exact RW (tK U U aD) U y_Q (k_.u)):=h ⟨k_⟩
def aH (h:T_ q p:=by
 intro k_
 refine eD ?_
 exact k_.u):=h ⟨k_⟩
def zB (h:T_ q p:=by
 intro k_
 refine Rd ?_
 exact RW (iK U U aD) U aJt (k_.u)):=h ⟨k_⟩
def tC (h:T_ q p:=by
 intro k_
 refine aOH U (bM U) U U ?_
 exact k_.u):=h ⟨k_⟩
def On (h:T_ q p:=by
 intro k_
 refine ZA2 ?_
 exact DW (v:=(.slice (Q_ b) u.V.length 8192)) U (pR 0 8192 U U U U U U aD aD) U aRN (k_.u)):=h ⟨k_⟩
def Dn (h:T_ q p:=by
 intro k_
 exact RY (eF i U U U U I) U (k_.u)):=h ⟨k_⟩
def nQ (h:T_ q p:=by
 intro k_
 rintro _ _ ⟨_,⟨rfl,G1,rfl,hG1⟩,rfl⟩
 revert G1 hG1
 exact k_.u):=h ⟨k_⟩
def Mh (h:T_ q p:=by
 intro k_
 refine Bz λe7=>?_
 have e8:metJ o x=true:=by unfold metJ;rw[(cu I:decide (23<=o.kind/\o.kind<=26)=false)];rfl
 revert e7 e8
 exact k_.u):=h ⟨k_⟩
def Og (h:p:=by
 refine jJ ?_
 exact E0 U ⟨U,(M Value.bool (sig_off (t:=⟨cnt,tima,tma,tac,over⟩) I))⟩):p:=h
def Hr (h:p:=by
 refine RW (v:=_) (tK U U I) U (M (Value.int .i64) (cy I)) (ZBZ ?_)
 exact aU (λ_ _=>dX U U) ⟨U,xT⟩):p:=h
def ZBr (h:T_ q p:=by
 intro k_
 refine DZ U (cZ K_ U (λw hw=>line_fn (u.r 0) (u.r 7) (u.r 8) (u.r 9) (hu.look 0) (hu.look 7) (hu.look 8) (hu.look 9) _ _ _ _ u.V u.O hu.bV hu.bO (by rw[hu.lO];decide) u.line (belowU u) (tLine_len _ _ _ _) (tLine_byts _ _ _ _) w (Ns.of (rowV (aI aE w hw))) (Ns.of (rowO hu (aI aE w hw))))) U gV ?_
 rw[rowU_vals]
 exact k_.u):=h ⟨k_⟩
def yF (h:T_ q p:=by
 intro k_
 refine ZA2 ?_
 refine aO K_ (aS (place_fn b _ ha)) ?_
 exact k_.u):=h ⟨k_⟩
def zU (h:T_ q p:=by
 intro k_
 refine RX (eE (l:=[P_ A.mb]) U U) U (ZBF λb0=>?_)
 revert b0
 exact k_.u):=h ⟨k_⟩
def sK (h:T_ q p:=by
 intro k_
 exact RW (cM U U) U aQv (k_.u)):=h ⟨k_⟩
def R1 (h:T_ q p:=by
 intro k_
 refine jL ?_
 exact DZ U (bC (l':=cDd ⟨1,0,r.pc,(nextT K.toaRU (⟨(⟨r,ime,false,false,false⟩:CS),m⟩:Rn _)).1,(ordT K.toaRU (nextT K.toaRU (⟨(⟨r,ime,false,false,false⟩:CS),m⟩:Rn _)).1 r.pc (nextT K.toaRU (⟨(⟨r,ime,false,false,false⟩:CS),m⟩:Rn _)).2).1⟩) 1) U yD (k_.u)):=h ⟨k_⟩
def Oz (h:p:=by
 refine qO ?_
 exact aU (λw hw=>eL U U U (aI (b:=b1) aE w hw)) ⟨U,aFS⟩):p:=h
def Mg (h:p:=by
 refine qO ?_
 exact aU (λw hw=>eL U U U (aI (b:=b1) aE w hw)) ⟨U,aMS⟩):p:=h
def Ip (h:T_ q p:=by
 intro k_
 refine ZA2 ?_
 exact DW U (gF U U U) U rL (k_.u)):=h ⟨k_⟩
def Sl (h:p:=by
 refine qO ?_
 exact aU (λw hw=>eL U U U (aI (b:=b1) aE w hw)) ⟨U,U⟩):p:=h
def ZB0 (h:T_ q p:=by
 intro k_
 exact DL U U U (gS (hra _ _ (gD (j:=334) I)) aP) U (DW (v:=(.int .u16 (l.getD 334 0))) U (gF U U U) U (Md hb4.1 I) (k_.u))):=h ⟨k_⟩
def Xl (h:T_ q p:=by
 intro k_
 exact DL U U U (gS (hra _ _ (gD (j:=335) I)) aP) U (DW (v:=(.int .u16 (l.getD 335 0))) U (gF U U U) U (Md hb5.1 I) (k_.u))):=h ⟨k_⟩
def Ba (h:T_ q p:=by
 intro k_
 exact RY (iU (s:=4) (k/5) U U U I I) U (k_.u)):=h ⟨k_⟩
def Pa (h:T_ q p:=by
 intro k_
 refine W (bJ U U aHB (λw hw=>row_vs hB (aI (b:=b0) (l:=cBd B) aE w hw))) U (ZA2 ?_)
 exact k_.u):=h ⟨k_⟩
def ZB4 (h:T_ q p:=by
 intro k_
 refine DZ U (bC (l':=cHd ⟨(nameH ((l.drop 308).take 15)),((sortH (l.getD 327 0)).getD (0,false,false)).1,((sortH (l.getD 327 0)).getD (0,false,false)).2.1,((sortH (l.getD 327 0)).getD (0,false,false)).2.2,2*2^(l.getD 328 0).toNat,(sizesH.getD (l.getD 329 0).toNat 0),false⟩) 0) U aY (eC ?_)
 exact k_.u):=h ⟨k_⟩
def sN (h:T_ q p:=by
 intro k_
 exact RW (zH U U) U mC (k_.u)):=h ⟨k_⟩
def sL (h:T_ q p:=by
 intro k_
 exact RW (nD U U) U vO (k_.u)):=h ⟨k_⟩
def ZB7 (h:T_ q p:=by
 intro k_
 exact RX (cB (F:=[]) (A:=(b0,J [ad6,v0] 333)::G0) (R:=λv H=>v= .nilIface/\∃va' G',bS 5 1 va' (i+1) (txV ((l.take i).map chrH)++[.int .u8 63]) G'/\H=(b0,J [(P_ b0),va'] 333)::G') K_ U (λw hw=>bwrite_fn b0 ad6 v0 hA6 i I _ G0 hV0 63 _ w (St.lentV (G:=[]) hw))) U (k_.u)):=h ⟨k_⟩
def oO (h:T_ q p:=by
 intro k_
 refine xJ ?_
 refine jP ?_
 exact k_.u):=h ⟨k_⟩
def ZB9 (h:T_ q p:=by
 intro k_
 exact RX (gJ U) U (k_.u)):=h ⟨k_⟩
def O8 (h:T_ q p:=by
 intro k_
 refine ZA2 ?_
 exact DW (v:=(.slice (some ⟨b,8192,none⟩) u.O.length 160)) U (pR 0 160 U U U U U U aD aD) U (by rw[hu.lO];rfl) (k_.u)):=h ⟨k_⟩
def Uw (h:T_ q p:=by
 intro k_
 refine ZBI ?_
 exact RX (cB (F:=[(b1,J (cBd bdZ) 147)]) (A:=[(b0,J (cBd (halfB ({B with div:=0}:Bd))) 147)]) (R:=λv H=>v= .tuple #[]/\H=[(b0,J (cBd (slideB (halfB ({B with div:=0}:Bd)))) 147)]) K_ U (dG (slideB_fn b0 (halfB ({B with div:=0}:Bd)) hH))) U (k_.u)):=h ⟨k_⟩
def Va (h:T_ q p:=by
 intro k_
 refine jP ?_
 refine ZBV ?_
 exact k_.u):=h ⟨k_⟩
def ZCE (h:p:=by
 have e9:errH l=0:=by unfold errH;rw[ae I,ae mY];rw[hs0];dsimp only;rw[ae I,ae (by simpa using q5)]
 exact aU (λw hw=>fN U U U (aI (b:=b0) (l:=cHd (hdH l)) aE w hw) U) ⟨U,by rw[e9,ag rfl]⟩):p:=h
def C5 (h:T_ q p:=by
 intro k_
 refine oG ?_
 exact RX (cB (F:=[(b0,_)]) (A:=(rb,_)::_) K_ U (dG (rwords_fn K rb x (h.le I:RunOk K.toaRT (bn+3) x) G0 hG0 o ho))) U (k_.u)):=h ⟨k_⟩
def ZCG (h:T_ q p:=by
 intro k_
 have hWL:((putB k x B).setV (k/5) { ((putB k x B).v (k/5))with len:=longest (k/5)-x%longest (k/5)}).Wf:=hPK.setV _ ⟨tB,hv9.lev,hv9.wait⟩
 have hWO:((putB k x B).setV (k/5) { ((putB k x B).v (k/5))with on:=((putB k x B).v (k/5)).on&&readyB (k/5) (putB k x B)}).Wf:=hPK.setV _ ⟨hv9.len,hv9.lev,hv9.wait⟩
 revert hWL hWO
 exact k_.u):=h ⟨k_⟩
def ZCH (h:T_ q p:=by
 intro k_
 refine nH [(b0,J (cO o) 159)] [3,4,5,6,7,8,9,10] (.step true 0 (.step true 1 (.step true 2 (.step true 3 (.step true 4 (.step true 5 (.step true 7 (.step true 8 (.step true 9 (.step false 6 (.step true 10 (.step false 11 .done)))))))))))) U aN aN (λx hx=>Is) ?_
 refine ZE1 ?_
 exact k_.u):=h ⟨k_⟩
def ZCI (h:T_ q p:=by
 intro k_
 refine W (bD (l':=(((madeP (List.replicate (romS b) 0) prog i)).set (madeAt i) ((prog.getD i 0))).map Z) 0 U U U U U U (len_byte (n:=romS b) Bi I) (put_byte (l:=(madeP (List.replicate (romS b) 0) prog i)) (n:=romS b) (prog.getD i 0) Bi zX zX)) U (eC ?_)
 exact k_.u):=h ⟨k_⟩
def Ks (h:T_ q p:=by
 intro k_
 refine DZ U (bC (l':=(namL e).map (Value.int .i64)) 0) U aY (eC ?_)
 exact k_.u):=h ⟨k_⟩
def ZCK (h:T_ q p:=by
 intro k_
 refine ZBI ?_
 exact RX (cB (F:=[]) (A:=(b0,J [ad6,v0] 333)::G0) (R:=λv H=>H=[]/\v= .string (bs ((l.take i).map chrH))) K_ U (λw hw=>bstring_fn b0 ad6 v0 ((l.take i).map chrH) I G0 (hV0.as hTi.symm U) (λh=>q0 I) _ w (St.lentV (G:=[]) hw))) U (k_.u)):=h ⟨k_⟩
def oK (h:p:=by
 refine ZA2 ?_
 exact E0 U ⟨U,R5⟩):p:=h
def Lw (h:T_ q p:=by
 intro k_
 exact W (bJ U U U (λw hw=>rowM_bk (bU hm aP w hw))) U (k_.u)):=h ⟨k_⟩
def Yt (h:T_ q p:=by
 intro k_
 refine M8 ?_
 exact DX U (rG (F:=[(b0,_),(rb,_)]) (A:=G) U K.mW K.cW U (λw hw=>K.dW h.m hG (St.lentV hw) I h.r.a)) U aY (k_.u)):=h ⟨k_⟩
def ZCO (h:T_ q p:=by
 intro k_
 refine DZ U (cZ K_ U (λw hw=>name_fn ba (oa+308) (c-308) ((l.drop 308).take 15) I (λx hx=>hb x (dm (dd hx))) w (aK.takeK (aK.dropK (bU hra aP w hw) 308) 15))) U gV (ZEA ?_)
 exact k_.u):=h ⟨k_⟩
def ZCP (h:p:=by
 have e9:effJ K.toaRU o x=goto o.n (push K.toaRU x.s.r.pc (idles K.toaRU 1 x)):=by unfold effJ;rw[e7,e8];simp only[eh,if_false];simp only[hk];rfl
 exact EV U (.cons _ aJ) ⟨M Value.bool e8.symm,G1,fC,mZ⟩):p:=h
def pY (h:T_ q p:=by
 intro k_
 refine ZA2 ?_
 exact RY (iK U U aD) U (k_.u)):=h ⟨k_⟩
def Q8 (h:p:=by
 refine iI ?_
 exact aU (λw hw=>eL U U Zs (aI (b:=b1) (l:=cBd ((putB k x B).setV (k/5) { ((putB k x B).v (k/5))with on:=((putB k x B).v (k/5)).on&&readyB (k/5) (putB k x B)})) aE w hw)) ⟨U,aIV⟩):p:=h
def ZCS (h:p:=by
 refine iI ?_
 exact aU (λw hw=>eL U U Zs (aI (b:=b1) (l:=cBd ((putB k x B).setV (k/5) { ((putB k x B).v (k/5))with on:=((putB k x B).v (k/5)).on&&readyB (k/5) (putB k x B)})) aE w hw)) ⟨U,aKa⟩):p:=h
def ZCT (h:T_ q p:=by
 intro k_
 refine ZAm ?_
 exact W (iB K_ U (λw hw=>next_fn b (oneU u) (hu.one hd) w (St.lentA hw) (show u.line<154 by(try simp only[ak,ai,cj,av,co,aw,ne_eq]at *);omega))) U (k_.u)):=h ⟨k_⟩
def Ex (h:p:=by
 refine W (bJ U U U Vh) U (qO ?_)
 exact aU (λw hw=>eL U U U (aI (b:=b1) aE w hw)) ⟨U,y_O⟩):p:=h
def Df (h:T_ q p:=by
 intro k_
 refine DX U (gJ U) U sC ?_
 rintro _ _ ⟨b2,rfl,rfl⟩
 revert b2
 exact k_.u):=h ⟨k_⟩
def ZCW (h:T_ q p:=by
 intro k_
 exact DW (v:=(.int .i64 ((i+1:Nat):Int))) U U U (M _ (eU I)) (DW (v:=(.slice (some ⟨b,cut1 o (i+1) c,none⟩) l.length (c-(i+1)))) U (nM (i+1) (putP n++l).length U U U U U U I I) U aNK (k_.u))):=h ⟨k_⟩
def Nn (h:T_ q p:=by
 intro k_
 exact W (aW U U (bT (b:=d.b) (l:=Db.cs d g k) (.tail _ (.head _)) pE)) U (k_.u)):=h ⟨k_⟩
def ZCY (h:T_ q p:=by
 intro k_
 exact DY U (iU (s:=160) u.line.toNat U U U I I) U (DZ U (bD (l':=cU {u with P:=iR u.P (u.line.toNat*160) (rowU u)}) 3 U U U U U U (by rw[cU_len hu,eJ,rowU_len];omega) (putU_P hu Il)) U aY (k_.u))):=h ⟨k_⟩
def W7 (h:T_ q p:=by
 intro k_
 refine ZAm ?_
 exact RX (cB (F:=[(b1,J (cBd bdZ) 147)]) (A:=[(b0,J (cBd (putB k x B)) 147)]) (R:=λv H=>v= .tuple #[]/\H=[(b0,J (cBd (beginB (k/5) (putB k x B))) 147)]) K_ U (dG (beginB_fn b0 (putB k x B) hPK (k/5) I))) U (k_.u)):=h ⟨k_⟩
def Ub (h:p:=by
 obtain rfl:i=os.length:=by omega
 exact EN aJ ⟨U,_,G0,aKr,aNL⟩):p:=h
def O1 (h:T_ q p:=by
 intro k_
 exact DZ U (uT (A:=[]) (B:=[P_ b1]) U K_ U (λw hw=>evname1_fn b1 e.r hr 0 w (aI (b:=b1) aE w hw))) U gV (k_.u)):=h ⟨k_⟩
def N4 (h:T_ q p:=by
 intro k_
 refine RX (rG (F:=[(b0,_),(rb,_)]) (A:=G) U K.mR K.cR U (λw hw=>K.dR h.m hG (St.lentV hw) I)) U ?_
 rintro _ _ ⟨G0,⟨rfl,hG0⟩,rfl⟩
 revert G0 hG0
 exact k_.u):=h ⟨k_⟩
def Y8 (h:p:=by
 have e9:errH l=7:=by unfold errH;rw[ae I,ae mY];rw[hs0];dsimp only;rw[ag I]
 exact aU (λw hw=>fN U U U (aI (b:=b0) (l:=cHd zHd) aE w hw) U) ⟨U,Je⟩):p:=h
def Ya (h:T_ q p:=by
 intro k_
 exact DX U (U3 (n:=(hdH rom).ram.toNat) (z:= .int .u8 0) (vnf_int hram.1) (vnf_int hram.1) I U U U U) U aF4 (k_.u)):=h ⟨k_⟩
def Nv (h:p:=by
 refine iT ?_
 exact EV U (ce _ _) ⟨M _ Kf,U⟩):p:=h
def ZCg (h:T_ q p:=by
 intro k_
 refine ZAm ?_
 refine kO (L':=[(b0,J (cCp (tickCp (cyc2 (cyc1 m)).cp)) 141),(A.mb,J (cMm A acc (cyc5 (cyc4 (cyc3 (cyc2 (cyc1 m)))))) 156),(A.ub,J (cU (cyc5 (cyc4 (cyc3 (cyc2 (cyc1 m))))).u) 247)]) (λ_ h=>h.as (by rw[cyc5_u];rfl)) ?_
 exact k_.u):=h ⟨k_⟩
def ZCh (h:T_ q p:=by
 intro k_
 exact RW (v:=(.int .i64 (((n/128^i)%128*128^i:Nat):Int))) (iK U U I) U (M _ (seven_shl hi (jd _ aD))) (RW (v:=(.int .i64 ((n%128^(i+1):Nat):Int))) (dE U U) U (M _ (seven_or hi)) (k_.u))):=h ⟨k_⟩
def Cm (h:p:=by
 have hw9:(putU u (numU a) x).Wf:=(hu.set hx aL).off _
 refine eA (H':=[(b,J (cU (putU u (numU a) x)) 247)]) (λ_ h=>h.as aBq) ?_
 refine W (iB K_ U (kK (ask_fn b (putU u (numU a) x) hw9))) U (ZA2 ?_)
 exact EV U aJ ⟨M _ (wv_R _ hno aL).symm,aGC⟩):p:=h
def yK (h:T_ q p:=by
 intro k_
 exact W (bJ U U U y_U) U (k_.u)):=h ⟨k_⟩
def B4 (h:T_ q p:=by
 intro k_
 refine Bz λe7=>?_
 have e8:metJ o x=true:=by unfold metJ;rw[(am I:decide (23<=o.kind/\o.kind<=26)=true)];simpa using q0
 revert e7 e8
 exact k_.u):=h ⟨k_⟩
def oX (h:T_ q p:=by
 intro k_
 refine jL ?_
 refine aH ?_
 exact k_.u):=h ⟨k_⟩
def Tq (h:T_ q p:=by
 intro k_
 refine ZCy ?_
 refine DR [5,6,7,8] (bQ [0,2,4,6,8,10,12,14,16,18,20,22]) ?_
 exact k_.u):=h ⟨k_⟩
def Z7 (h:T_ q p:=by
 intro k_
 exact W (bJ U U Fh (aI (b:=b0) (l:=cBd (beginB (k/5) (putB k x B))) aE)) U (W (bD (l':=cBd (beginB (k/5) (putB k x B))) 0 U U U B0 (ones_cBd _) U aGp (putZ (hPK.beginW (k/5)).ln)) U (k_.u))):=h ⟨k_⟩
def ZCo (h:T_ q p:=by
 intro k_
 refine nH [(b0,J [P_ A.mb] 268)] [1,2,3,4] (.step true 0 (.step true 1 (.step true 2 (.step true 3 (.step false 4 (.step false 5 (.step true 6 .done))))))) U aN aN (λx hx=>K8) ?_
 refine fZ U U U U O6 U U ?_
 exact k_.u):=h ⟨k_⟩
def A2 (h:T_ q p:=by
 intro k_
 exact W (aW U U (bT aE (show(cU (oneU u))[8365]? =some (.int .i64 (u.dot+1))from cU_dot (hu.one hd)))) U (k_.u)):=h ⟨k_⟩
def ZCq (h:T_ q p:=by
 intro k_
 refine ZBI ?_
 refine nH [(b0,J (cO o) 159)] [3,4,5,6,7] (.step true 0 (.step true 1 (.step true 2 (.step true 3 (.step true 4 (.step true 5 (.step false 6 (.step true 7 (.step false 8 .done))))))))) U aN aN (λx hx=>Is) ?_
 exact k_.u):=h ⟨k_⟩
def Z1 (h:T_ q p:=by
 intro k_
 exact RW (v:=(.int .u8 (((n/128^i)%128:Nat):Int))) (tK U U aD) U (M _ ((cy I).trans I)) (RW (v:=(.int .i64 (((n/128^i)%128:Nat):Int))) U U (uW I I) (k_.u))):=h ⟨k_⟩
def H5 (h:p:=by
 refine qO ?_
 exact aU (λw hw=>eL U U U (aI (b:=b1) aE w hw)) ⟨U,aPL⟩):p:=h
def ZCt (h:T_ q p:=by
 intro k_
 exact RY (eF (n:=romS b) (333) U U U U I) U (W (bD (l':=(madeI kind b ram prog).map Z) 0 U U U U U U (len_byte hlZ I) (put_byte (l:=madeZ kind b ram prog) _ hlZ I I)) U (k_.u))):=h ⟨k_⟩
def pI (h:T_ q p:=by
 intro k_
 refine jL ?_
 refine ZBZ ?_
 exact k_.u):=h ⟨k_⟩
def Qm (h:p:=by
 refine ZBZ ?_
 exact aU (λ_ _=>dX U U) ⟨U,_,U⟩):p:=h
def nI (h:T_ q p:=by
 intro k_
 rw[al]
 exact k_.u):=h ⟨k_⟩
def Q5 (h:T_ q p:=by
 intro k_
 refine W (bJ U U U (λw hw=>rowM_ck (m:=(cyc5 (cyc4 (cyc3 (cyc2 (cyc1 m)))))) (acc:=acc) (aI (b:=A.mb) aE w hw))) U (aO K_ (aS (tickCk_fn (cyc5 (cyc4 (cyc3 (cyc2 (cyc1 m))))).ck q4.ck)) ?_)
 exact k_.u):=h ⟨k_⟩
def ZCy (h:T_ q p:=by
 intro k_
 refine gL ?_
 exact k_.u):=h ⟨k_⟩
def Vi (h:T_ q p:=by
 intro k_
 refine ZAm ?_
 exact RX (eE (l:=[.int .u8 page,.int .i64 left]) U U) U (k_.u)):=h ⟨k_⟩
def U9 (h:T_ q p:=by
 intro k_
 refine W (bJ U U (by rw[cBd_len q2.bd];rfl) (λw hw=>rowM_bd (m:=(cyc3 (cyc2 (cyc1 m)))) (acc:=acc) (aI (b:=A.mb) aE w hw))) U (aO K_ (aS (tickB_fn (cyc3 (cyc2 (cyc1 m))).bd q2.bd)) ?_)
 exact k_.u):=h ⟨k_⟩
def Vr (h:T_ q p:=by
 intro k_
 have ho:turnO k a=(a%2==1):=by unfold turnO;rw[hk];rfl
 rw[x16 (x:=a%2) I,or_zc]
 revert ho
 exact k_.u):=h ⟨k_⟩
def Yq (h:p:=by
 have hnv:0=stepV u:=by unfold stepV;rw[ae aL]
 exact EV U aJ ⟨M _ J7,C4⟩):p:=h
def Wx (h:p:=by
 refine aH ?_
 exact EV U aJ ⟨M Value.bool (am z0).symm,by rw[ag z0];rfl⟩):p:=h
def ZC4 (h:p:=by
 refine pU ?_
 exact⟨(i+1,va0,G1,(P_ b0)),⟨aR,λj hj'=>D6,.inr U,hV1.as pE aPY,λh=>absurd h (Nat.succ_ne_zero _)⟩,aR,.cons U .nil,bB,λ_ h=>h⟩):p:=h
def Wd (h:T_ q p:=by
 intro k_
 refine W (bD (l':=cBd (putB k x B)) 0 U U U Ce (ones_cBd _) U aHc (putZ hPK)) U (iI ?_)
 exact k_.u):=h ⟨k_⟩
def ZC6 (h:T_ q p:=by
 intro k_
 refine nH [(b0,J (cO o) 159)] [3,4,5,6] (.step true 0 (.step true 1 (.step true 2 (.step true 3 (.step true 4 (.step true 5 (.step false 6 (.step false 7 .done)))))))) U aN aN (λx hx=>Is) ?_
 refine aH ?_
 exact k_.u):=h ⟨k_⟩
def Sh (h:T_ q p:=by
 intro k_
 refine ZAm ?_
 exact RX (eE (l:=[.int .u8 sel,.int .u8 down]) U U) U (k_.u)):=h ⟨k_⟩
def mV (h:T_ q p:=by
 intro k_
 refine gK ?_
 refine ZA2 ?_
 exact k_.u):=h ⟨k_⟩
def P4 (h:T_ q p:=by
 intro k_
 exact DZ U (cZ K_ U (λw hw=>rpair_fn K rb x.s h.r w (aI (l:=cN K x.s) aE w hw) o.x)) U gV (k_.u)):=h ⟨k_⟩
def ZDA (h:T_ q p:=by
 intro k_
 refine⟨(e2,i+1),⟨(show max (max n (k+i+1)) (k+i+2)=max n (k+(i+1)+1)by omega)▸he2,hT3,Xx,by show i+1<=at_-k;omega⟩,by show at_-k-(i+1)<at_-k-i;omega,.nil,bB,λ_ h=>?_⟩
 dsimp only
 revert h
 exact k_.u):=h ⟨k_⟩
def Ua (h:T_ q p:=by
 intro k_
 refine fZ U U U U (jR (b:=b0) (l:=cGq g) aE) U U ?_
 exact k_.u):=h ⟨k_⟩
def H6 (h:T_ q p:=by
 intro k_
 refine ZBI ?_
 exact RW (v:=(.int .u8 (x%256))) (gF U U U) U (M _ ((nW _).trans I)) (k_.u)):=h ⟨k_⟩
def Gt (h:T_ q p:=by
 intro k_
 refine ZBI ?_
 refine aO K_ (aS (flagA_fn 32 _)) ?_
 exact k_.u):=h ⟨k_⟩
def Qh (h:p:=by
 refine aH ?_
 exact⟨(),trivial,.cons (M Value.bool aEB) .nil,bB,λ_ h=>h⟩):p:=h
def O2 (h:T_ q p:=by
 intro k_
 refine ZBI ?_
 exact RW (v:=(.int .i64 ((st.length:Int)-takV x))) U U (M _ (bZ I I)) (k_.u)):=h ⟨k_⟩
def Sj (h:T_ q p:=by
 intro k_
 refine DW U (jB U U aD) U (qM 256 aD aD) (wG ?_)
 exact k_.u):=h ⟨k_⟩
def J0 (h:T_ q p:=by
 intro k_
 exact W (bJ U U U (λw hw=>aK.left (aK.left (aI (l:=cN K x.s) aE w hw)))) U (k_.u)):=h ⟨k_⟩
def Qx (h:T_ q p:=by
 intro k_
 refine ZCy ?_
 exact W (aW U U (bT aE (cU_sig hu.ask))) U (k_.u)):=h ⟨k_⟩
def D7 (h:p:=by
 refine pU ?_
 exact⟨i+1,aR,aR,.cons U (.cons U .nil),bB,λ_ h=>h⟩):p:=h
def Sk (h:p:=by
 obtain rfl:i=4:=by omega
 exact E0 U ⟨U,aOo⟩):p:=h
def Zt (h:p:=by
 refine iT ?_
 exact E0 U ⟨U,(M Value.bool Gs)⟩):p:=h
def ZDM (h:p:=by
 refine KL (λq3 z3=>?_) (λq3 z3=>?_)
 ·refine ZA2 ?_
  refine KL (λq4 z4=>?_) (λq4 z4=>?_)
  ·exact ZE6
  refine ZCy ?_
  exact E0 U ⟨U,(M Value.bool Gs)⟩
 exact Zt):p:=h
def ZDN (h:T_ q p:=by
 intro k_
 refine ZA2 ?_
 exact W (bD (l':=cMm A acc { (cyc5 (cyc4 (cyc3 (cyc2 (cyc1 m)))))with ck:=tickCk (cyc5 (cyc4 (cyc3 (cyc2 (cyc1 m))))).ck}) 1 U U U U U U aNS (putM_ck _)) U (k_.u)):=h ⟨k_⟩
def Pp (h:T_ q p:=by
 intro k_
 refine ZBB ?_
 simp only[cw,cg,cn]
 exact k_.u):=h ⟨k_⟩
def ZDP (h:p:=by
 refine iI ?_
 exact aU (λw hw=>eL U U Gh (aI (b:=b1) (l:=cBd B) aE w hw)) ⟨U,by rw[show writeBd n x B=B from ag I]⟩):p:=h
def Fs (h:T_ q p:=by
 intro k_
 refine DR [] (bQ [0,2,4,6,8,10,12,14]) ?_
 exact k_.u):=h ⟨k_⟩
def ZDR (h:T_ q p:=by
 intro k_
 refine W (bC (l':=cSt ((k+i+1:Nat):Int) (g.hit ps ws (k+i+1)).1 (g.hit ps ws (k+i+1)).2.1 (g.hit ps ws (k+i+1)).2.2) 1) U ?_
 rw[bg,al]
 exact k_.u):=h ⟨k_⟩
def Zz (h:T_ q p:=by
 intro k_
 exact RY zO U (W (aW U U (dN (hr _ _ (cBd_r hB (j:=0) aD)) aP)) U (k_.u))):=h ⟨k_⟩
def P7 (h:T_ q p:=by
 intro k_
 refine ZAm ?_
 exact W (aW U U (bT (v:= .bool false) aE ((cBd_on hB).trans aDa))) U (k_.u)):=h ⟨k_⟩
def sH (h:T_ q p:=by
 intro k_
 refine jL ?_
 refine ZAm ?_
 exact k_.u):=h ⟨k_⟩
def Iw (h:T_ q p:=by
 intro k_
 refine ZAm ?_
 exact RX (eE (l:=cR r) U U) U (k_.u)):=h ⟨k_⟩
def tZ (h:T_ q p:=by
 intro k_
 refine ZBF λb0=>?_
 refine jT λb1=>?_
 revert b0 b1
 exact k_.u):=h ⟨k_⟩
def P9 (h:T_ q p:=by
 intro k_
 refine W (cZ K_ U (λw hw=>peek_fn b u hu w (bU hr aP w hw) _ ha)) U (ZA2 ?_)
 exact k_.u):=h ⟨k_⟩
def yU (h:T_ q p:=by
 intro k_
 exact W (bJ U U U y_T) U (k_.u)):=h ⟨k_⟩
def H7 (h:T_ q p:=by
 intro k_
 refine ZAm ?_
 exact W (aW U U (bT (v:= .bool true) aE ((cBd_on hB).trans aDa))) U (k_.u)):=h ⟨k_⟩
def U8 (h:T_ q p:=by
 intro k_
 refine ZA2 ?_
 exact W (bD (l':=cMm A acc (cyc4 (cyc3 (cyc2 (cyc1 m))))) 1 U U U (by rw[cBd_len q2.bd.tick.ln];rfl) (ones_cBd _) U aK0 (putM_bd q2.ln q2.bd.tick.ln)) U (k_.u)):=h ⟨k_⟩
def Kp (h:T_ q p:=by
 intro k_
 exact RW (jB U U aD) U (qM 2 aD aD) (k_.u)):=h ⟨k_⟩
def Im (h:T_ q p:=by
 intro k_
 refine ZAm ?_
 exact RX (eE (l:=cO o) U U) U (k_.u)):=h ⟨k_⟩
def Uc (h:T_ q p:=by
 intro k_
 refine Dn ?_
 exact W (aW U U (dN aHs (hpn _ U))) U (k_.u)):=h ⟨k_⟩
def ZDe (h:T_ q p:=by
 intro k_
 refine ZBV ?_
 exact W (aW U U (bT (v:= .bool (cyc5 (cyc4 (cyc3 (cyc2 (cyc1 m))))).hd.clock) aE (get_mid (m:=(cyc5 (cyc4 (cyc3 (cyc2 (cyc1 m)))))) q4.ln (j:=8) U))) U (k_.u)):=h ⟨k_⟩
def pN (h:T_ q p:=by
 intro k_
 refine pD ?_
 refine ZBZ ?_
 exact k_.u):=h ⟨k_⟩
def ZDg (h:T_ q p:=by
 intro k_
 refine ZA2 ?_
 refine DR [5,6,7,8,9,10,11,12,13,14,15,16,17,18,19,20,21] (bQ [0,2,4,6,8,10,12,14,16,18,20,22,24,26,28,30,32,34,36,40,42,39,44,47]) ?_
 exact k_.u):=h ⟨k_⟩
def Nq (h:p:=by
 refine iT ?_
 exact⟨.cons (M Value.bool Wq) .nil,bB,λ_ h=>h⟩):p:=h
def Ea (h:T_ q p:=by
 intro k_
 exact RW (gF U U U) U rL (k_.u)):=h ⟨k_⟩
def Ds (h:p:=by
 refine qW ?_
 refine ZAm ?_
 refine qW ?_
 refine bW ?_
 exact RW (v:=(.int .i64 (bankB a ⟨kind,banks,ram,on,mode,low,high,last⟩))) (tK U U I) U (M (Value.int .i64) y_g) (fD)):p:=h
def ZDn (h:T_ q p:=by
 intro k_
 refine bW ?_
 exact W (bC (l':=cN K { (push K.toaRU x.s.r.pc (idles K.toaRU 1 x)).s with r:={ (push K.toaRU x.s.r.pc (idles K.toaRU 1 x)).s.r with pc:=o.n} }) 1) U (k_.u)):=h ⟨k_⟩
def Kh (h:T_ q p:=by
 intro k_
 refine RS ?_
 exact W (bC (l':=cHd zHd) 2) U (k_.u)):=h ⟨k_⟩
def O9 (h:T_ q p:=by
 intro k_
 refine oG ?_
 refine aO K_ (aS (sig_fn ⟨cnt,tima,tma,tac,over⟩ ⟨k1,k2,k3,k4⟩)) ?_
 exact k_.u):=h ⟨k_⟩
def Hl (h:T_ q p:=by
 intro k_
 refine fZ U U U U aPz U U ?_
 exact k_.u):=h ⟨k_⟩
def ZDr (h:T_ q p:=by
 intro k_
 refine jE ?_
 exact W (bC (l':=[.int .i64 cap,.pointer none,.pointer none,.int .u64 0,c4,.pointer none,.map none,pv,wv,.int .u32 asked,.int .u64 done,tab]) 0) U (k_.u)):=h ⟨k_⟩
def ZDs (h:p:=by
 have hs9:putU u (numU a) x={u with R:=u.R.set (numU a).toNat x}:=by
  unfold putU;rw[set_n aL aL];exact off_no uN
 exact Cm):p:=h
def Xg (h:p:=by
 refine aH ?_
 exact EV U (ce _ _) ⟨M _ Kf,U⟩):p:=h
def Xu (h:p:=by
 refine pU ?_
 exact⟨i+1,aR,aR,.cons U .nil,bB,λ_ h=>h⟩):p:=h
def nO (h:T_ q p:=by
 intro k_
 refine cX ?_
 refine ZA2 ?_
 exact k_.u):=h ⟨k_⟩
def Lx (h:T_ q p:=by
 intro k_
 exact DL U U U (dQ aE (cU_line hu)) U (k_.u)):=h ⟨k_⟩
def Z2 (h:p:=by
 have hs9:putU u (numU a) x={u with R:=u.R.set 1 (aQ .u8 x 120)}:=by
  unfold putU;rw[set_1 aL];exact off_no uN
 exact Cm):p:=h
def ZDy (h:T_ q p:=by
 intro k_
 refine ZAm ?_
 have hh8:(halfB ({B with div:=0}:Bd))=(beatB ({B with div:=0}:Bd)):=by unfold beatB;rw[ae (show ¬(B.step=2\/B.step=6)by omega),ae (show ¬B.step=7 by omega)]
 revert hh8
 exact k_.u):=h ⟨k_⟩
def Qu (h:p:=by
 have e9:effJ K.toaRU o x=x:=by unfold effJ;rw[e7,e8];rfl
 exact EV U (.cons _ aJ) ⟨M Value.bool e8.symm,G,fC,rY⟩):p:=h
def ZD0 (h:T_ q p:=by
 intro k_
 refine jE ?_
 exact W (bC (l':=[.int .i64 cap,.pointer none,.pointer none,.int .u64 0,c4,.pointer none,c6,pv,wv,.int .u32 asked,.int .u64 done,tab]) 0) U (k_.u)):=h ⟨k_⟩
def ZD1 (h:T_ q p:=by
 intro k_
 exact DY U (eF (st.length-1) U U U U I) U (DL U U U (dQ (b:=b2) (v:= .int .i64 (st.getD (st.length-1) 0)) aE aAB) U (k_.u))):=h ⟨k_⟩
def Y9 (h:p:=by
 refine hU ?_
 exact aU (λw hw=>fN U U U (aI (b:=b1) aE w hw) U) ⟨U,_,by rw[setPR_no I];rfl⟩):p:=h
def D9 (h:T_ q p:=by
 intro k_
 rintro _ _ ⟨_,⟨rfl,va0,G1,hV1,rfl⟩,rfl⟩
 refine eA (λ_ h=>h) (H':=(b0,J [(P_ b0),va0] 333)::G1) ?_
 revert va0 G1 hV1
 exact k_.u):=h ⟨k_⟩
def ZD4 (h:T_ q p:=by
 intro k_
 refine ZCy ?_
 exact W (cZ K_ U (λw hw=>Tm.last_fn lb (capT cap) ms I w (hL.line.lineW hw (λx hx=> .tail _ (.tail _ (bL _ (bL _ (lJ _ hx)))))))) U (k_.u)):=h ⟨k_⟩
def In (h:p:=by
 refine ZBI ?_
 exact EN aJ ⟨U,U⟩):p:=h
def ZD6 (h:p:=by
 have hz:oth (a.drop k) (b.drop k)=0:=oth_stop I
 exact E0 U ⟨U,(M (λn:Nat=>Value.int .i64 (n:Int)) I)⟩):p:=h
def Qy (h:T_ q p:=by
 intro k_
 refine ZAm ?_
 exact RX (eE (l:=cE e (PV u)) U U) U (k_.u)):=h ⟨k_⟩
def ZD8 (h:T_ q p:=by
 intro k_
 exact RW (v:=(.int .i64 ((st.length:Nat):Int))) U U (M _ I) (RY (Eg st.length U U U U (vecCut hV0 (k:=st.length) I).2) U (k_.u))):=h ⟨k_⟩
def Cl (h:T_ q p:=by
 intro k_
 refine fX false U U U Sd ?_
 exact k_.u):=h ⟨k_⟩
def ZEA (h:T_ q p:=by
 intro k_
 exact DY U (qJ U U U U) U (k_.u)):=h ⟨k_⟩
def Kv (h:T_ q p:=by
 intro k_
 refine ZAm ?_
 refine aO K_ (aS (opens_fn x hx)) ?_
 exact k_.u):=h ⟨k_⟩
def ZEC (h:T_ q p:=by
 intro k_
 refine kO (L':=(b0,J [.int .u64 (FK.at Z.1 oi)] 36)::(lb,J [v0,.bool r] 123)::(G0++[(pb,J Z.1 T)])) (λ_ h=>h.as (by rw[e8])) ?_
 refine ZAm ?_
 exact k_.u):=h ⟨k_⟩
def X0 (h:p:=by
 have hnm:n%128^(i+1)=n:=Nat.mod_eq_of_lt aOR
 exact aU (λ_ _=>aDe U U U) ⟨U,by rw[hnm,ht]⟩):p:=h
def ZEE (h:p:=by
 refine ZBZ ?_
 exact⟨(),trivial,.cons (M Value.bool (by unfold ptB;simp_all[cBp,lkOf]<;>omega)) .nil,bB,λ_ h=>h⟩):p:=h
def pT (h:T_ q p:=by
 intro k_
 refine ZAm ?_
 refine pU ?_
 exact k_.u):=h ⟨k_⟩
def uS (h:T_ q p:=by
 intro k_
 refine ZE1 ?_
 refine iO ?_
 exact k_.u):=h ⟨k_⟩
def uC (h:T_ q p:=by
 intro k_
 refine ZE1 ?_
 refine oO ?_
 exact k_.u):=h ⟨k_⟩
def Xe (h:p:=by
 refine ZBZ ?_
 exact aU (λ_ _=>dX U U) ⟨U,U⟩):p:=h
def ZEJ (h:T_ q p:=by
 intro k_
 refine cL ?_
 exact RX (cB (F:=[(b0,_)]) (A:=(rb,_)::_) K_ U (dG (rpush_fn K rb (idles K.toaRU 1 x) (h.idleK 1) G0 hG0 x.s.r.pc h.r.pc))) U (k_.u)):=h ⟨k_⟩
def ZEK (h:T_ q p:=by
 intro k_
 refine W (bC (l':=cSt ((k+i+1:Nat):Int) (g.hit ps ws (k+i+1)).1 (g.hit ps ws (k+i+1)).2.1 (g.hit ps ws (k+i+1)).2.2) 0) U (nI ?_)
 exact k_.u):=h ⟨k_⟩
def V5 (h:T_ q p:=by
 intro k_
 refine DZ U (cZ K_ U (λw hw=>tline_fn _ _ u.V hu.bV (viewU u) (viewU_ok hu) u.line u.own w (Ns.of (rowV (aI aE w hw))))) U aY (tC ?_)
 exact k_.u):=h ⟨k_⟩
def Ej (h:T_ q p:=by
 intro k_
 exact RW (cM U U) U aLB (k_.u)):=h ⟨k_⟩
def Yl (h:T_ q p:=by
 intro k_
 exact W (aW U U (bT (b:=d.b) (l:=Db.cs d g k) (.head _) pE)) U (k_.u)):=h ⟨k_⟩
def ZEO (h:T_ q p:=by
 intro k_
 refine jE ?_
 exact W (bC (l':=[.int .i64 cap,.pointer none,.pointer none,.int .u64 0,c4,c5,c6,pv,wv,.int .u32 asked,.int .u64 done,tab]) 0) U (k_.u)):=h ⟨k_⟩
def ZEP (h:T_ q p:=by
 intro k_
 refine DZ U (cZ K_ U (λw hw=>sum_fn (some ⟨ba,oa,none⟩) c l hl hb w (hB.later0 hw))) U gV ?_
 rw[ae (show ¬l.length<336 by omega)]
 exact k_.u):=h ⟨k_⟩
def ZEQ (h:T_ q p:=by
 intro k_
 refine oG ?_
 exact RX (cB (F:=[(b0,_)]) (A:=(rb,_)::_) K_ U (dG (rplaces_fn K rb x (h.le I:RunOk K.toaRT (bn+1) x) G1 hG1 o ho))) U (k_.u)):=h ⟨k_⟩
def V7 (h:T_ q p:=by
 intro k_
 refine DZ U (aER (k:= .u8) (l:=sortE) (c:=19) (b:=b2) (z:= .agg (cSrt (0,false,false)).toArray) U U U U aE) U aY ?_
 rw[sort_ask]
 exact k_.u):=h ⟨k_⟩
def Sa (h:T_ q p:=by
 intro k_
 refine ZBI ?_
 exact RX (fY U U U U U U) U (k_.u)):=h ⟨k_⟩
def ZET (h:T_ q p:=by
 intro k_
 refine ZBZ ?_
 exact RW (v:=(.int .i64 ((k/5:Nat):Int))) U U ((aID I (show _<(9223372036854775808:Int)by omega) aD).trans (M _ I)) (k_.u)):=h ⟨k_⟩
def Rf (h:T_ q p:=by
 intro k_
 refine Ip ?_
 exact DW U (iK U U aD) U Xm (k_.u)):=h ⟨k_⟩
def Yw (h:T_ q p:=by
 intro k_
 exact W (aW U U (dN (hm _ _ (get_mid h.ln (j:=15) U)) aP)) U (k_.u)):=h ⟨k_⟩
def sS (h:T_ q p:=by
 intro k_
 refine cX ?_
 refine aH ?_
 exact k_.u):=h ⟨k_⟩
def sJ (h:T_ q p:=by
 intro k_
 refine kN ?_
 refine uF ?_
 exact k_.u):=h ⟨k_⟩
def rH (h:T_ q p:=by
 intro k_
 refine ZBI ?_
 refine eR ?_
 exact k_.u):=h ⟨k_⟩
def ZEZ (h:T_ q p:=by
 intro k_
 refine kO (L':=[(b1,J (cBd bdZ) 147),(b0,J (cBd (halfB ({B with div:=0}:Bd))) 147)]) (λw h=>h.as (by rw[<-hh9])) ?_
 refine ZAm ?_
 exact k_.u):=h ⟨k_⟩
def F9 (h:T_ q p:=by
 intro k_
 have ho:turnO k a=(a/128==1):=by unfold turnO;rw[hk];rfl
 rw[x16 (x:=a/128) I,or_zc]
 revert ho
 exact k_.u):=h ⟨k_⟩
def ZEb (h:T_ q p:=by
 intro k_
 refine DR [] (bQ [0,2,4,6,8,10,12,14,16,18,20,22,24,26,28,30,32,34,36,38,40,42,44,46,48,50,52,54,57,59]) ?_
 refine aMa ?_
 exact k_.u):=h ⟨k_⟩
def Py (h:T_ q p:=by
 intro k_
 exact RY (fV (s:=2) i U U U U I) U (k_.u)):=h ⟨k_⟩
def ZEd (h:T_ q p:=by
 intro k_
 exact RY (eF (n:=prog.length) (i) U U U U I) U (W (aW U U (dN (hra _ _ (gD (j:=i) I)) aP)) U (k_.u))):=h ⟨k_⟩
def Nk (h:T_ q p:=by
 intro k_
 refine ZBI ?_
 refine aO K_ (aS (atB_fn m.bk h.bk a ha)) ?_
 exact k_.u):=h ⟨k_⟩
def ZEf (h:T_ q p:=by
 intro k_
 refine jE ?_
 exact W (bC (l':=[.int .i64 cap,.pointer none,.pointer none,c3,c4,c5,c6,pv,wv,.int .u32 asked,.int .u64 done,tab]) 0) U (k_.u)):=h ⟨k_⟩
def Sw (h:T_ q p:=by
 intro k_
 refine RW (v:=_) (cM U U) U U (ZA2 ?_)
 exact k_.u):=h ⟨k_⟩
def Nh (h:T_ q p:=by
 intro k_
 refine ZAm ?_
 exact RX (eE (l:=cBd B) U U) U (k_.u)):=h ⟨k_⟩
def V8 (h:p:=by
 refine ZBI ?_
 exact⟨b3,trivial,.cons U .nil,bB,λ_ h=>h.sub (.cons_cons _ (.cons _ (.cons _ aJ)))⟩):p:=h
def ZEj (h:T_ q p:=by
 intro k_
 refine ZB0 ?_
 exact DW (v:=(.int .u16 (l.getD 334 0*256))) U (iK U U aD) U (Cu 256 U I (show _<(65536:Int)by omega)) (k_.u)):=h ⟨k_⟩
def Tx (h:T_ q p:=by
 intro k_
 refine ZAm ?_
 exact RX (eE (l:=cWt x) U U) U (k_.u)):=h ⟨k_⟩
def Vq (h:T_ q p:=by
 intro k_
 refine ZAm ?_
 exact RX (eE (l:=cGq g) U U) U (k_.u)):=h ⟨k_⟩
def ZEm (h:T_ q p:=by
 intro k_
 exact W iF U (k_.u)):=h ⟨k_⟩
def ZEn (h:p:=by
 refine hU ?_
 exact aU (λw hw=>fN U U U (aI (b:=b1) aE w hw) U) ⟨U,U⟩):p:=h
def ZEo (h:T_ q p:=by
 intro k_
 exact RY (eB k U U U I I) U (W (bD (l':=cBd ((putB k x B))) 1 U U U U U U Ar (aNl)) U (k_.u))):=h ⟨k_⟩
def ZEp (h:T_ q p:=by
 intro k_
 refine kV ?_
 exact W (bC (l':=[.int .i64 cap,.pointer none,c2,c3,c4,c5,c6,pv,wv,.int .u32 asked,.int .u64 done,tab]) 0) U (k_.u)):=h ⟨k_⟩
def ZEq (h:p:=by
 subst hov
 exact aU (λw hw=>fN U U U (aI (b:=b1) aE w hw) U) ⟨U,U⟩):p:=h
def tQ (h:T_ q p:=by
 intro k_
 refine oG ?_
 refine qO ?_
 exact k_.u):=h ⟨k_⟩
def ZEs (h:T_ q p:=by
 intro k_
 refine aO K_ (aS (zero_fn _)) ?_
 exact k_.u):=h ⟨k_⟩
def sZ (h:T_ q p:=by
 intro k_
 refine Va ?_
 refine Va ?_
 exact k_.u):=h ⟨k_⟩
def tO (h:T_ q p:=by
 intro k_
 refine jP ?_
 refine ZCy ?_
 exact k_.u):=h ⟨k_⟩
def ZEv (h:T_ q p:=by
 intro k_
 refine aH ?_
 exact W (bD (l':=(pass1 r .bool Z oi).1) 0 U U U U U U hfz.lt (M Prod.fst (pass1_goes hfz r)).symm) U (k_.u)):=h ⟨k_⟩
def Tw (h:T_ q p:=by
 intro k_
 refine ZBV ?_
 exact DL U U U (gS q1 aP) U (k_.u)):=h ⟨k_⟩
def Um (h:T_ q p:=by
 intro k_
 refine vB true U U U U (beq_iff_eq.2 U) ?_
 exact k_.u):=h ⟨k_⟩
def Dk (h:p:=by
 refine aH ?_
 exact Ds):p:=h
def ZEz (h:p:=by
 refine KC (λq4 z4=>?_) (λq4 z4=>?_)
 ·refine ZBZ ?_
  refine gY ?_
  refine ZCy ?_
  exact Ds
 exact Dk):p:=h
def ZE0 (h:T_ q p:=by
 intro k_
 exact RY (eF n.toNat U U U I I) U (W (aW U U (dN (hr _ _ (gD (j:=n.toNat) I)) aP)) U (k_.u))):=h ⟨k_⟩
def ZE1 (h:T_ q p:=by
 intro k_
 refine mG ?_
 exact k_.u):=h ⟨k_⟩
def Ts (h:p:=by
 refine ZAm ?_
 exact⟨0+1,aR,aR,.cons U (.cons U .nil),bB,λ_ h=>h.sub (.cons _ aJ)⟩):p:=h
def Pu (h:p:=by
 refine ZAm ?_
 exact⟨1+1,aR,aR,.cons U (.cons U .nil),bB,λ_ h=>h.sub (.cons _ aJ)⟩):p:=h
def Nu (h:p:=by
 refine ZAm ?_
 exact⟨2+1,aR,aR,.cons U (.cons U .nil),bB,λ_ h=>h.sub (.cons _ aJ)⟩):p:=h
def Qt (h:p:=by
 refine ZAm ?_
 exact⟨3+1,aR,aR,.cons U (.cons U .nil),bB,λ_ h=>h.sub (.cons _ aJ)⟩):p:=h
def ZE6 (h:p:=by
 refine ZCy ?_
 exact E0 U ⟨U,(M Value.bool Gs)⟩):p:=h
def Uh (h:T_ q p:=by
 intro k_
 refine aO K_ (aS (clockB_fn m.bk h.bk)) ?_
 rw[hc9]
 exact k_.u):=h ⟨k_⟩
def ZE9 (h:T_ q p:=by
 intro k_
 refine ZBI ?_
 refine aO K_ (λw hw=>readyB_fn b0 (putB k x B) hPK w (aI (b:=b0) (l:=cBd (putB k x B)) aE w hw) (k/5) I) ?_
 exact k_.u):=h ⟨k_⟩
def Vd (h:T_ q p:=by
 intro k_
 refine ZAm ?_
 have hh8:slideB (halfB ({B with div:=0}:Bd))=(beatB ({B with div:=0}:Bd)):=by unfold beatB;rw[ag (show B.step=2\/B.step=6 by omega)]
 revert hh8
 exact k_.u):=h ⟨k_⟩
def T4 (h:p:=by
 refine RW (v:=(.int .u8 (fg 6 (daaL a f)+96))) (dE U U) U (M _ (or_96 _)) (ZBV ?_)
 exact⟨(),trivial,.cons (M Z L7) (.cons (M Z I1) (.nil)),bB,λ_ h=>h⟩):p:=h
def Ow (h:T_ q p:=by
 intro k_
 refine DW U (cM U U) U aIm (ZBV ?_)
 exact k_.u):=h ⟨k_⟩
def Mx (h:T_ q p:=by
 intro k_
 refine DR [7,8,9,10,11] (bQ [0,2,4,6,8,10,12,14,16,18,20,22,24,26,28,30,32]) ?_
 refine ZAm ?_
 exact DW U (cM U U) U aRD (k_.u)):=h ⟨k_⟩
def K1 (h:p:=by
 refine aH ?_
 exact E0 U ⟨U,R5⟩):p:=h
def ZFF (h:p:=by
 refine KC (λq8 z8=>?_) (λq8 z8=>?_)
 ·refine ZBZ ?_
  refine RW (mM U U) U rL (ZAm ?_)
  exact RY (eB (a-65408).toNat U U U I I) U (W (aW U U (dN X4 aP)) U oK)
 exact K1):p:=h
def xA (h:T_ q p:=by
 intro k_
 refine jL ?_
 refine ZBI ?_
 exact k_.u):=h ⟨k_⟩
def xP (h:T_ q p:=by
 intro k_
 refine jL ?_
 refine ZA2 ?_
 exact k_.u):=h ⟨k_⟩
end Go.VV

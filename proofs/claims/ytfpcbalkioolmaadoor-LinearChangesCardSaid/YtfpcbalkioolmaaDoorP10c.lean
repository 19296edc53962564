/- Own work. -/
import Derived.Test.YtfpcbalkioolmaaDoorP10q
set_option linter.unusedSimpArgs false
set_option linter.unusedVariables false
namespace Go.Proofs.YtfpcbalkioolmaaDoor
open Go.Abs
theorem change_step{T:Tr}(hg:T.good 5){t:List Int}{b:Int}(hn:Nn (T.cells []))(hn':Nn t)(hl:t.length≤100000)(ag:Ag t (T.cells []) (b-1))(K:Option Bool):
    ((Y3g t).bind fun x17=>cond (cond (cond (cond (x17.2.2==(100:Int)) (decide (b≤x17.2.1)) false) (decide (x17.2.1≤(t.length:Int))) false) true (cond (x17.2.2==(2:Int)) (x17.2.1==(0:Int)) false)) K
      ((Y1r x17.1).bind fun x20=>(cond (!(cond (x17.2.2 !=(0:Int)) true (x20.2 !=(0:Int)))) (Y5s x20.1 t) (some false)).bind fun x21=>
        cond (cond (cond (x17.2.2 !=(0:Int)) true (x20.2 !=(0:Int))) true (!x21)) (some false) K))=K:=by
  have⟨g1,g2⟩:=good_read hg;rw[Y3g,Y42 (by omega),X8];rcases read_cases t with⟨hw,e,h0,h1⟩|⟨hw,x,hx,ec,eK,e⟩
  · have hat:b≤(mRun t).c.at_:=by
      by_cases hlt:(mRun t).c.at_<b
      · have:=m_loc hn' hn (m:=(mRun t).c.at_) (by omega) (ag.le (by omega));rw[this,hw] at g1;cases g1
      · omega
    rw[e];simp only[beq_self_eq_true,cond_true,decide_eq_true hat,decide_eq_true h1]
  · by_cases l1:60<x.flat.length
    · rw[if_pos l1] at e;rw[e];simp only[show((2:Int)==100)=false from rfl,beq_self_eq_true,cond_true,cond_false]
    · by_cases l2:8<x.dep
      · rw[if_neg l1,if_pos l2] at e;rw[e];simp only[show((2:Int)==100)=false from rfl,beq_self_eq_true,cond_true,cond_false]
      · rw[if_neg l1,if_neg l2] at e;have ew:=write_read hx l1 l2;rw[ec] at ew;rw[e];simp only[show((0:Int)==100)=false from rfl,show((0:Int)==2)=false from rfl,cond_false];rw[ew,X8];simp only[f_same _ _ (show t.length<900000 by omega)];simp only[bne_self_eq_false,cond_false,X12,cond_true,decide_true,X8,Bool.not_true]
theorem plain_LinearChanges{t0 t1 t2:List Int}(h0:okList (okInt .u8) t0)(h1:okArr 2 (okInt .u8) t1)(h2:okList (okInt .u8) t2):Y4v t0 t1 t2=some true:=by
  have⟨T,hM,hg,hl,hd,hW,h6⟩:=Made_cells h0;obtain⟨a,b,rfl⟩:∃a b,t1=[a,b]:=by
    match t1,h1.2 with
    |[a,b],_=>exact⟨a,b,rfl⟩
  have ha:0≤a∧a≤255:=h1.1 a (by simp);have hb:0≤b∧b≤255:=h1.1 b (by simp);have⟨nn,pos⟩:=cells_nn 5 T [] hg (by simp);have N2:Nn (T.cells []):=Nn.of nn;generalize hc:T.cells []=c at*;have ew:IntKind.wrap .i64 a=a:=IntWalk.i64_in a ⟨by omega,by omega⟩;unfold Y4v;rw[sanity_true,X8,hM,X8,hW,X8];have gd0:([a,b]:List Int).getD 0 0=a:=rfl;have gd1:([a,b]:List Int).getD 1 0=b:=rfl;have ecl:f_R01_Cells t2 (5:Int)=some ((t2.take 5).map (Int.tmod · 64)):=f_cells t2 5 (by omega);have m0:0≤Int.tmod a (c.length:Int)∧Int.tmod a (c.length:Int)<(c.length:Int):=⟨Int.tmod_nonneg _ ha.1,Int.tmod_lt_of_pos _ (by omega)⟩;have m1:0≤Int.tmod b 64∧Int.tmod b 64<64:=⟨Int.tmod_nonneg _ hb.1,Int.tmod_lt_of_pos _ (by omega)⟩;have hc8:((t2.take 5).map (Int.tmod · 64)).length≤5:=by rw[X09,X0b];omega
  simp only[bne_self_eq_false,cond_false,X04,gd0,gd1,ew];rw[cond_neg (show((c.length:Int)==(0:Int))=false by rw[beq_eq_false_iff_ne];omega),Y42 (by omega),G_room (by simp;omega),Y42 (by omega),ecl,X8,G_room (by simp;omega),Y42 (by simp),Y42 (by simp)];have⟨r,e1,e2⟩:=loop_all (b:=fun loop s=>Y1f [a,b] true (c,0) ((t2.take 5).map (Int.tmod · 64)) loop s) 2 (fun _=>true) (by omega) (fun loop k hk=>by
    rw[if_pos rfl];show Y1f [a,b] true (c,0) ((t2.take 5).map (Int.tmod · 64)) loop (k:Int)=_;have key:Y2f loop (k:Int)=loop ((k+1:Nat):Int):=by
      unfold Y2f;rw[Y53 (by omega)];rw[show((k:Int)+1)=((k+1:Nat):Int) by omega]
    unfold Y1f;simp only[X04,gd0,gd1,ew];rw[cond_pos (by simp;omega),Y42 (by simp;omega)];have g2:∀x:List Y4×Int×Int,((x.2.2==(100:Int))=true→(0≤(k:Int)∧(k:Int)<(2:Int))):=fun x _=>by omega
    simp only[Y42 (g2 _),key];have hk':k=0∨k=1:=by omega
    rcases hk' with rfl|rfl
    · refine change_step (T:=T) hg (t:=c.set (Int.tmod a (c.length:Int)).toNat (Int.tmod b 64)) (b:=Int.tmod a (c.length:Int)) (by rw[hc];exact N2) (Nn.of fun x hx=> ?_) (by rw[List.length_set];omega) (Ag.of fun j hj=> ?_) _
      · rcases List.mem_or_eq_of_mem_set hx with hx|rfl
        · exact nn x hx
        · exact m1.1
      · rw[hc,List.getElem?_set_ne (by omega)]
    · refine change_step (T:=T) hg (t:=c++(t2.take 5).map (Int.tmod · 64)) (b:=(c.length:Int)) (by rw[hc];exact N2) (Nn.of fun x hx=> ?_) (by rw[X5];omega) (Ag.of fun j hj=> ?_) _
      · rcases Xs.1 hx with hx|hx
        · exact nn x hx
        · obtain⟨y,hy,rfl⟩:=X00.1 hx;have:0≤y∧y≤255:=h2.1 y (X0x hy);exact Int.tmod_nonneg _ this.1
      · rw[hc,X0k (by omega)]) (fun loop=>by
    show Y1f [a,b] true (c,0) ((t2.take 5).map (Int.tmod · 64)) loop (2:Int)=_;unfold Y1f;rw[cond_neg (by simp)])
  rw[e1,e2.2 fun _ _=>rfl]
end Go.Proofs.YtfpcbalkioolmaaDoor
